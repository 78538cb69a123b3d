import Derived.Test.YtkmddjbialpppaaGreatDoorMgFin
import Derived.Test.YtkmddjbialpppaaGreatDoorMgOrdL
import Derived.Test.YtkmddjbialpppaaGreatDoorMgSnB
namespace Go.Proofs.YtkmddjbialpppaaGreatDoor
open Go.ChangeShapes Go.WideShapes Go.ChangeAt Go.RowKit
open SG
def aX (l : List Nat) : List (List Value) := l.map fun (p : Nat) => [Value.int .i64 (p : Int)]
def NR (w : World) (B : Nat) (A : Option Addr) (l : List Nat) : Prop := Rd w B A 1 (aX l)
theorem bY (l : List Nat) : (aX l).length = l.length := by simp [aX]
theorem cR (l : List Nat) : ∀ r ∈ aX l, r.length = 1 := by
  intro r hr
  obtain ⟨p, _, rfl⟩ := List.mem_map.1 hr
  rfl
theorem rowN_at {l : List Nat} {k : Nat} (hk : k < l.length) : (aX l)[k]? = some [.int .i64 (l[k] : Int)] := by simp [aX, hk]
theorem rowN_set (l : List Nat) (k x : Nat) : (aX l).set k [.int .i64 (x : Int)] = aX (l.set k x) := by simp [aX, List.map_set]
theorem rowN_snoc (l : List Nat) (x : Nat) : aX (l ++ [x]) = aX l ++ [[.int .i64 (x : Int)]] := by simp [aX]
theorem NR.at_ {w : World} {B : Nat} {A : Option Addr} {l : List Nat} (h : NR w B A l) {k : Nat} (hk : k < l.length) : ∃ b off, A = some ⟨b, off, none⟩ ∧ b < B ∧ w.cell? ⟨b, off + k, none⟩ = some (.int .i64 (l[k] : Int)) := by
  obtain ⟨b, off, e, hb, hc⟩ := h (by rw [bY]; omega)
  refine ⟨b, off, e, hb, ?_⟩
  have := hc k _ 0 _ (rowN_at hk) rfl
  simpa using this
theorem nOwn_cell {W : World} {base g c : Nat} {l : List Nat} (h : Own W base 3 1 (some ⟨g, 0, none⟩) c (aX l)) {k : Nat} (hk : k < l.length) : W.cell? ⟨g, k, none⟩ = some (.int .i64 (l[k] : Int)) ∧ W.frozen? ⟨g, k, none⟩ = false := by
  have h1 := own_at h (cR l) (rowN_at hk) (j := 0) rfl
  have h2 := World.ownsRow.frozenAt h k
  exact ⟨by simpa using h1, h2⟩
theorem nOwn_set {W : World} {base g c : Nat} {l : List Nat} (h : Own W base 3 1 (some ⟨g, 0, none⟩) c (aX l)) {k : Nat} (hk : k < l.length) (x : Nat) :
    Own (W.setCell ⟨g, k, none⟩ (.int .i64 (x : Int))) base 3 1 (some ⟨g, 0, none⟩) c (aX (l.set k x)) ∧ W.grownBy (W.setCell ⟨g, k, none⟩ (.int .i64 (x : Int))) (some g) := by
  obtain ⟨h1, h2⟩ := Own.setRow (row := [.int .i64 (x : Int)]) h (cR l) (k := k) (by rw [bY]; exact hk) rfl
  rw [rowN_set] at h1
  have e : W.setCells g (k * 1) [.int .i64 (x : Int)] = W.setCell ⟨g, k, none⟩ (.int .i64 (x : Int)) := by simp [World.setCells]
  rw [e] at h1 h2
  exact ⟨h1, h2⟩
def mxN (l : List Nat) : Nat := l.foldl max 0
theorem mxN_snoc (l : List Nat) (x : Nat) : mxN (l ++ [x]) = max (mxN l) x := by simp [mxN]
theorem mxN_take {l : List Nat} {k : Nat} (hk : k < l.length) : mxN (l.take (k + 1)) = max (mxN (l.take k)) l[k] := by rw [List.take_succ_eq_append_getElem hk, mxN_snoc]
theorem mxN_le (l : List Nat) (b : Nat) : mxN l ≤ b ↔ ∀ x ∈ l, x ≤ b := by
  unfold mxN
  have : ∀ (l : List Nat) (a : Nat), l.foldl max a ≤ b ↔ a ≤ b ∧ ∀ x ∈ l, x ≤ b := by
    intro l
    induction l with
    | nil => intro a; simp
    | cons y l ih => intro a; rw [List.foldl_cons, ih]; simp only [List.mem_cons, forall_eq_or_imp, Nat.max_le, and_assoc]
  rw [this]; simp
set_option maxRecDepth 100000 in
theorem fS (l : List Nat) (A : Option Addr) (c : Nat) (w : World) (hr : NR w w.heap.size A l) (h0 : 0 < l.length) (hl : l.length ≤ 1000) :
    Calls Tryz.prog 184 #[.slice A l.length c] w fun e w' => e = .returned (.int .i64 (mxN l : Int)) ∧ w = w' := by
  obtain ⟨b, off, rfl, hb, hc0⟩ := hr.at_ h0
  have hc0' : w.cell? ⟨b, off, none⟩ = some (.int .i64 (l[0] : Int)) := by simpa using hc0
  have E1 := aA (show (l[0] : Int) = (mxN (l.take 1) : Int) by rw [mxN_take h0]; simp [mxN])
  clear hc0
  go_enter Tryz.func184, Tryz.ntmps184
  go_wp2_with fail
  clear hc0'
  go_loopw [3, 4] (fun m i W => ∃ k : Nat, 1 ≤ k ∧ k ≤ l.length ∧ i = .int .i64 k ∧ m = .int .i64 (mxN (l.take k) : Int) ∧ w = W) (fun _ i _ => l.length - (intOf i).toNat)
  case atStart => exact ⟨1, by omega, by omega, rfl, by rw [E1.out], rfl⟩
  case round =>
    obtain ⟨k, hk1, hk, rfl, rfl, rfl⟩ := hrel
    clear E1
    by_cases hlt : k < l.length
    · obtain ⟨b', off', e, hb', hck⟩ := hr.at_ hlt
      cases e
      have NX := aA (show (max (mxN (l.take k) : Int) (l[k] : Int)) = (mxN (l.take (k + 1)) : Int) by rw [mxN_take hlt]; omega)
      obtain ⟨m, em, hm⟩ := run_max (P := Tryz.prog) (mxN (l.take k) : Int) (l[k] : Int)
      rw [NX.out] at em
      have EM := aA em
      clear em NX
      go_wp2_with fail
      go_roundw
      case rel => exact ⟨k + 1, by omega, by omega, by go_num, by rw [EM.out], trivial⟩
      case measure => simp [intOf]; omega
    · have FIN := aA (show mxN (l.take k) = mxN l by rw [List.take_of_length_le (by omega)])
      go_wp2_with fail
      go_ret
      exact ⟨by rw [FIN.out]; rfl, rfl⟩
def RvI (l m : List Nat) (i : Nat) : Prop := m.length = l.length ∧ ∀ j (hj : j < m.length) (hj2 : j < l.length) (hj3 : l.length - 1 - j < l.length), m[j] = if j < i ∨ l.length - 1 - j < i then l[l.length - 1 - j] else l[j]
theorem rv_start (l : List Nat) : RvI l l 0 := ⟨rfl, fun j hj hj2 hj3 => by simp⟩
theorem rv_step {l m : List Nat} {i : Nat} (h : RvI l m i) (hi : i < l.length - 1 - i) (h1 : i < m.length) (h2 : l.length - 1 - i < m.length) : RvI l ((m.set i m[l.length - 1 - i]).set (l.length - 1 - i) m[i]) (i + 1) := by
  obtain ⟨hl, hm⟩ := h
  have e1 := hm i h1 (by omega) (by omega)
  have e2 := hm (l.length - 1 - i) h2 (by omega) (by omega)
  rw [if_neg (by omega)] at e1
  rw [if_neg (by omega)] at e2
  refine ⟨by simp [hl], fun j hj hj2 hj3 => ?_⟩
  rw [List.getElem_set, List.getElem_set]
  by_cases c1 : l.length - 1 - i = j
  · subst c1
    have : l.length - 1 - (l.length - 1 - i) = i := by omega
    simp only [this]
    rw [if_pos trivial, if_pos (by omega), e1]
  · rw [if_neg c1]
    by_cases c2 : i = j
    · subst c2
      rw [if_pos rfl, if_pos (by omega), e2]
    · rw [if_neg c2]
      have e3 := hm j (by omega) hj2 hj3
      rw [e3]
      by_cases c3 : j < i ∨ l.length - 1 - j < i
      · rw [if_pos c3, if_pos (by omega)]
      · rw [if_neg c3, if_neg (by omega)]
theorem rv_end {l m : List Nat} {i : Nat} (h : RvI l m i) (hi : l.length - 1 - i ≤ i) : m = l.reverse := by
  obtain ⟨hl, hm⟩ := h
  apply List.ext_getElem (by simp [hl])
  intro j h1 h2
  rw [List.getElem_reverse, hm j h1 (by omega) (by omega)]
  by_cases c : j < i ∨ l.length - 1 - j < i
  · rw [if_pos c]
  · rw [if_neg c]
    have : l.length - 1 - j = j := by omega
    simp only [this]
set_option maxRecDepth 100000 in
set_option maxHeartbeats 2000000 in
theorem iQ (l : List Nat) (g c base : Nat) (w : World) (ho : Own w base 3 1 (some ⟨g, 0, none⟩) c (aX l)) (h0 : 0 < l.length) (hl : l.length ≤ 1000) :
    Calls Tryz.prog 209 #[.slice (some ⟨g, 0, none⟩) l.length c] w fun e w' => (∃ v, e = .returned v) ∧ Own w' base 3 1 (some ⟨g, 0, none⟩) c (aX l.reverse) ∧ w.grownBy w' (some g) := by
  have hlc : l.length ≤ c := by have := ho.le; rwa [bY] at this
  have O0 := aA ho
  clear ho
  go_enter Tryz.func209, Tryz.ntmps209
  go_wp2_with fail
  go_loopw [2, 3] (fun vi vj W => ∃ (i : Nat) (m : List Nat), vi = .int .i64 i ∧ vj = .int .i64 ((l.length : Int) - 1 - i) ∧ i ≤ l.length ∧ Hid (RvI l m i) ∧ Own W base 3 1 (some ⟨g, 0, none⟩) c (aX m) ∧ w.grownBy W (some g)) (fun vi _ _ => l.length - (intOf vi).toNat)
  case atStart => exact ⟨0, l, rfl, by simp, Nat.zero_le _, aA (rv_start l), O0.out, eV _ _⟩
  case round =>
    obtain ⟨i, m, rfl, rfl, hi, hR, hO, hG⟩ := hrel
    have hml := hR.out.1
    clear O0
    by_cases hlt : i < l.length - 1 - i
    · obtain ⟨j, hj⟩ : ∃ j : Nat, j = l.length - 1 - i := ⟨_, rfl⟩
      have hij : (l.length : Int) - 1 - (i : Int) = (j : Int) := by omega
      have h1 : i < m.length := by omega
      have h2 : j < m.length := by omega
      have NX : Hid (RvI l ((m.set i m[j]).set j m[i]) (i + 1)) := by
        have hR2 := hR.out
        clear hij
        subst hj
        exact aA (rv_step hR2 hlt h1 h2)
      have hlt' : (i : Int) < (j : Int) := by omega
      have hjl : j < l.length := by omega
      have hil : i < l.length := by omega
      have hjn : (j : Int) - 1 = (l.length : Int) - 1 - ((i + 1 : Nat) : Int) := by omega
      have HJN := aA hjn
      rw [hij]
      have hlj : (j : Int) < (l.length : Int) := by omega
      have hli : (i : Int) < (l.length : Int) := by omega
      clear hij hj hR hjn hml
      go_wp2_with fail
      refine bB [0, 1, 2, 3, 4, 5, 6, 7, 8, 9, 10, 11] [(7, fun W => W.cell? ⟨g, j, none⟩ = some (.int .i64 (m[j] : Int))), (11, fun W => W.cell? ⟨g, i, none⟩ = some (.int .i64 (m[i] : Int)))] (by kernel_rfl) ?_
      replace hO : Own wr.drew base 3 1 (some ⟨g, 0, none⟩) c (aX m) := hO.drew
      replace hG : w.grownBy wr.drew (some g) := cZ hG ⟨rfl, rfl, rfl, Nat.le_refl _, fun _ _ _ => rfl⟩
      generalize wr.drew = wd at *
      obtain ⟨ci, fi⟩ := nOwn_cell hO h1
      obtain ⟨cj, fj⟩ := nOwn_cell hO h2
      obtain ⟨o1, g1⟩ := nOwn_set hO h1 m[j]
      have h2' : j < (m.set i m[j]).length := by simpa using h2
      obtain ⟨cj2, fj2⟩ := nOwn_cell o1 h2'
      obtain ⟨o2, g2⟩ := nOwn_set o1 h2' m[i]
      have O2 := aA o2
      have G2 := aA (cZ hG (cZ g1 g2))
      have CI := aA ci
      have CJ := aA cj
      clear ci cj o1 o2 g1 g2 hG hO
      generalize m[i] = x at *
      generalize m[j] = y at *
      generalize (m.set i y)[j] = y2 at *
      refine aD (i := 0) (v := .slice (some ⟨g, 0, none⟩) l.length c) rfl rfl (by kernel_rfl) (by kernel_rfl) (by kernel_rfl) (by kernel_rfl) (by kernel_rfl) (fun _ _ _ h => h) rfl (fun W => by go_simp) ?_
      go_simp
      refine aD (i := 1) (v := .int .i64 i) rfl rfl (by kernel_rfl) (by kernel_rfl) (by kernel_rfl) (by kernel_rfl) (by kernel_rfl) (fun _ _ _ h => h) rfl (fun W => by go_simp) ?_
      go_simp
      refine aD (i := 2) (v := .slice (some ⟨g, 0, none⟩) l.length c) rfl rfl (by kernel_rfl) (by kernel_rfl) (by kernel_rfl) (by kernel_rfl) (by kernel_rfl) (fun _ _ _ h => h) rfl (fun W => by go_simp) ?_
      go_simp
      refine aD (i := 3) (v := .int .i64 j) rfl rfl (by kernel_rfl) (by kernel_rfl) (by kernel_rfl) (by kernel_rfl) (by kernel_rfl) (fun _ _ _ h => h) rfl (fun W => by go_simp) ?_
      go_simp
      refine aD (i := 4) (v := .slice (some ⟨g, 0, none⟩) l.length c) rfl rfl (by kernel_rfl) (by kernel_rfl) (by kernel_rfl) (by kernel_rfl) (by kernel_rfl) (fun _ _ _ h => h) rfl (fun W => by go_simp) ?_
      go_simp
      refine aD (i := 5) (v := .int .i64 j) rfl rfl (by kernel_rfl) (by kernel_rfl) (by kernel_rfl) (by kernel_rfl) (by kernel_rfl) (fun _ _ _ h => h) rfl (fun W => by go_simp) ?_
      go_simp
      refine aD (i := 6) (v := .pointer (some ⟨g, j, none⟩)) rfl rfl (by kernel_rfl) (by kernel_rfl) (by kernel_rfl) (by kernel_rfl) (by kernel_rfl) (fun _ _ _ h => h) rfl (fun W => by go_simp) ?_
      go_simp
      refine aQ (i := 7) (v := .int .i64 y) rfl rfl (by kernel_rfl) (by kernel_rfl) (by kernel_rfl) (by kernel_rfl) (by kernel_rfl) (fun _ _ _ h => h) rfl (fun W h => by (have hc0 := h; clear h; go_simp)) (CJ.out) ?_
      go_simp
      refine aD (i := 8) (v := .slice (some ⟨g, 0, none⟩) l.length c) rfl rfl (by kernel_rfl) (by kernel_rfl) (by kernel_rfl) (by kernel_rfl) (by kernel_rfl) (fun _ _ _ h => h) rfl (fun W => by go_simp) ?_
      go_simp
      refine aD (i := 9) (v := .int .i64 i) rfl rfl (by kernel_rfl) (by kernel_rfl) (by kernel_rfl) (by kernel_rfl) (by kernel_rfl) (fun _ _ _ h => h) rfl (fun W => by go_simp) ?_
      go_simp
      refine aD (i := 10) (v := .pointer (some ⟨g, i, none⟩)) rfl rfl (by kernel_rfl) (by kernel_rfl) (by kernel_rfl) (by kernel_rfl) (by kernel_rfl) (fun _ _ _ h => h) rfl (fun W => by go_simp) ?_
      go_simp
      refine aQ (i := 11) (v := .int .i64 x) rfl rfl (by kernel_rfl) (by kernel_rfl) (by kernel_rfl) (by kernel_rfl) (by kernel_rfl) (fun _ _ _ h => h) rfl (fun W h => by (have hc0 := h; clear h; go_simp)) (CI.out) ?_
      go_simp
      refine aI (i := 12) (by kernel_rfl) ?_
      refine aM rfl rfl ?_
      go_simp
      refine ⟨aN (by kernel_rfl) (by kernel_rfl), ?_⟩
      go_simp
      refine aI (i := 13) (by kernel_rfl) ?_
      refine aM rfl rfl ?_
      have ci := CI.out
      go_simp
      clear ci
      refine ⟨aN (by kernel_rfl) (by kernel_rfl), ?_⟩
      go_simp
      refine aI (i := 14) (by kernel_rfl) ?_
      refine aM rfl rfl ?_
      go_simp
      refine ⟨aN (by kernel_rfl) (by kernel_rfl), ?_⟩
      go_simp
      refine aI (i := 15) (by kernel_rfl) ?_
      refine aM rfl rfl ?_
      go_simp
      refine ⟨aN (by kernel_rfl) (by kernel_rfl), ?_⟩
      go_simp
      refine aS (by kernel_rfl) ?_ _
      go_wp2_with fail
      go_roundw
      case rel => exact ⟨i + 1, _, by go_num, by rw [HJN.out], by omega, NX, O2.out, G2.out⟩
      case measure => simp [intOf]; omega
    · have FIN := aA (rv_end hR.out (by omega))
      have hge : (l.length : Int) - 1 - (i : Int) ≤ i := by omega
      clear hR
      go_wp2_with fail
      go_end0
      exact ⟨⟨_, rfl⟩, by rw [← FIN.out]; exact hO, hG⟩
set_option maxRecDepth 100000 in
set_option maxHeartbeats 2000000 in
theorem upSeq_any (m lr bw bs : Nat) (st : Nat) (n : Nat) (hst : st < 64) (hn : n ≤ 64) (J : Nat → World → Prop)
    (hJ : Hid (∀ k W, J k W → W.cell? ⟨bw, 0, none⟩ = some (.int .i64 n) ∧ W.cell? ⟨bs, 0, none⟩ = some (.int .i64 st)))
    (hY : Hid (∀ k W, k < n → J k W → YieldAt Fence.wide (m - 1) Tryz.prog lr #[.int .i64 ((st + k : Nat) : Int)] W fun e W' => e = .returned (.bool true) ∧ J (k + 1) W'))
    (W : World) (h0 : J 0 W) :
    CallsIn Fence.wide m Tryz.prog 239 #[.func (.yield lr) #[] #[], .pointer (some ⟨bw, 0, none⟩), .pointer (some ⟨bs, 0, none⟩)] W fun e W' => (∃ v, e = .returned v) ∧ J n W' := by
  obtain ⟨c0, _⟩ := hJ.out _ _ h0
  refine callsIn_of_wp Tryz.func239 rfl trivial ?_ rfl
  simp only [Tryz.ntmps239, List.size_toArray, List.length_cons, List.length_nil, Nat.reduceAdd, Nat.reduceSub, Array.replicate_succ, Array.replicate_zero, List.push_toArray, List.append_toArray, List.nil_append, List.cons_append]
  gi_wp2
  clear c0
  gi_loopw [6] (fun i wr => ∃ k : Nat, k ≤ n ∧ i = .int .i64 k ∧ J k wr) (fun i _ => n - (intOf i).toNat)
  case atStart => exact ⟨0, by omega, rfl, h0⟩
  case round =>
    obtain ⟨k, hk, rfl, hj⟩ := hrel
    by_cases hlt : k < n
    · obtain ⟨_, c1⟩ := hJ.out _ _ hj
      obtain ⟨p, hp⟩ : ∃ p : Nat, p = st + k := ⟨_, rfl⟩
      obtain ⟨fn, tmps, assign, body, hy, hR⟩ := hY.out k _ hlt hj
      have hpi : (st : Int) + (k : Int) = (p : Int) := by omega
      rw [← hp] at hy
      have hki : (k : Int) < (n : Int) := by omega
      clear hp
      gi_wp2
      refine ⟨fun h => by simp [Fence.wide] at h, hR.mono ?_⟩
      rintro e W3 ⟨rfl, hJ3⟩
      gi_wp2
      go_roundw
      case rel => exact ⟨k + 1, by omega, by go_num, hJ3⟩
      case measure => simp [intOf]; omega
    · obtain rfl : k = n := by omega
      gi_wp2
      go_end0
      exact ⟨⟨_, rfl⟩, hj⟩
set_option maxRecDepth 100000 in
set_option maxHeartbeats 2000000 in
theorem downSeq_any (m lr bw bs : Nat) (st : Nat) (n : Nat) (hst : st < 64) (hn : n ≤ 64) (J : Nat → World → Prop)
    (hJ : Hid (∀ k W, J k W → W.cell? ⟨bw, 0, none⟩ = some (.int .i64 n) ∧ W.cell? ⟨bs, 0, none⟩ = some (.int .i64 st)))
    (hY : Hid (∀ k W, k < n → J k W → YieldAt Fence.wide (m - 1) Tryz.prog lr #[.int .i64 (dn st k : Int)] W fun e W' => e = .returned (.bool true) ∧ J (k + 1) W'))
    (W : World) (h0 : J 0 W) :
    CallsIn Fence.wide m Tryz.prog 240 #[.func (.yield lr) #[] #[], .pointer (some ⟨bs, 0, none⟩), .pointer (some ⟨bw, 0, none⟩)] W fun e W' => (∃ v, e = .returned v) ∧ J n W' := by
  obtain ⟨c0, c1⟩ := hJ.out _ _ h0
  refine callsIn_of_wp Tryz.func240 rfl trivial ?_ rfl
  simp only [Tryz.ntmps240, List.size_toArray, List.length_cons, List.length_nil, Nat.reduceAdd, Nat.reduceSub, Array.replicate_succ, Array.replicate_zero, List.push_toArray, List.append_toArray, List.nil_append, List.cons_append]
  gi_wp2
  clear c0 c1
  gi_loopw [4, 7] (fun a i wr => ∃ k : Nat, k ≤ n ∧ i = .int .i64 k ∧ a = .int .i64 (dn st k : Int) ∧ J k wr) (fun _ i _ => n - (intOf i).toNat)
  case atStart => exact ⟨0, by omega, rfl, rfl, h0⟩
  case round =>
    obtain ⟨k, hk, rfl, rfl, hj⟩ := hrel
    by_cases hlt : k < n
    · obtain ⟨fn, tmps, assign, body, hy, hR⟩ := hY.out k _ hlt hj
      have hki : (k : Int) < (n : Int) := by omega
      have NX := aA (show dn st (k + 1) = stepD (dn st k) from rfl)
      have hle := dn_le st k
      generalize dn st k = p at *
      have hp : p ≤ 2000 := by omega
      clear hle
      by_cases h8 : p % 8 = 0
      · have hm : ((p : Int) % 8 == 0) = true := by rw [beq_iff_eq]; omega
        have NX2 := aA (show dn st (k + 1) = p + 15 by rw [NX.out]; unfold stepD; rw [if_pos h8])
        clear NX h8
        gi_wp2
        refine ⟨fun h => by simp [Fence.wide] at h, hR.mono ?_⟩
        rintro e W3 ⟨rfl, hJ3⟩
        gi_wp2
        go_roundw
        case rel => exact ⟨k + 1, by omega, by go_num, by rw [NX2.out]; congr 1; omega, hJ3⟩
        case measure => simp [intOf]; omega
      · have hm : ((p : Int) % 8 == 0) = false := by rw [beq_eq_false_iff_ne]; omega
        have NX2 := aA (show dn st (k + 1) = p - 1 by rw [NX.out]; unfold stepD; rw [if_neg h8])
        have hp1 : 1 ≤ p := by omega
        clear NX h8
        gi_wp2
        refine ⟨fun h => by simp [Fence.wide] at h, hR.mono ?_⟩
        rintro e W3 ⟨rfl, hJ3⟩
        gi_wp2
        go_roundw
        case rel => exact ⟨k + 1, by omega, by go_num, by rw [NX2.out]; congr 1; omega, hJ3⟩
        case measure => simp [intOf]; omega
    · obtain rfl : k = n := by omega
      gi_wp2
      go_end0
      exact ⟨⟨_, rfl⟩, hj⟩
end Go.Proofs.YtkmddjbialpppaaGreatDoor
namespace Go.Proofs.YtkmddjbialpppaaGreatDoor
open Go.ChangeShapes Go.WideShapes Go.ChangeAt Go.RowKit
theorem own_put {W : World} {base e sz : Nat} {A : Option Addr} {c : Nat} {r : List (List Value)} (h : Own W base e sz A c r) {l : Nat} {o o' : Obj} (ho : W.heap[l]? = some o) (hc : o.isCells = false) : Own (W.putObj l o') base e sz A c r := by
  refine World.ownsRow.kept h (grownBy_putObj' W l o') ?_
  rcases h.2 with ⟨hv, _⟩ | ⟨g, cap, cur, hv, _, hgh, _⟩
  · rw [hv]; exact .inl rfl
  · rw [hv]
    refine .inr ?_
    simp only [Value.ownBlock, ne_eq, Option.some.injEq]
    rintro rfl
    rw [ho] at hgh
    injection hgh with hgh
    subst hgh
    cases hc
theorem heap_put {W : World} {x l : Nat} {o o' : Obj} {cs : Array Value} {t : TypeId} {fz : Nat × Nat} (h : W.heap[x]? = some (.cells cs t fz)) (ho : W.heap[l]? = some o) (hc : o.isCells = false) : (W.putObj l o').heap[x]? = some (.cells cs t fz) := by
  have : x ≠ l := by
    rintro rfl
    rw [ho] at h
    injection h with h
    subst h
    cases hc
  rw [World.putObj_heap_other this]
  exact h
theorem keeps_grown {W W' : World} {row : Option Nat} (hg : W.grownBy W' row) (hc : ∀ j o, row = some j → W.heap[j]? = some o → o.isCells = true) : KeepsOthers W W' :=
  ⟨hg.size, fun k o h1 h2 => by
    have hlt := (Array.getElem?_eq_some_iff.1 h1).1
    by_cases e : some k = row
    · have := hc k o e.symm h1
      rw [h2] at this
      cases this
    · exact (hg.block k hlt e).trans h1⟩
theorem cW {F : Fence} {m : Nat} {P : Program} {ops : Array Oper} {rest : List Oper} {o : Oper} {a : Act} {Q : Exit → Act → World → Prop} (w : World) (hgd : o.guard = none) (s x : Operand) (t : TypeId)
    (ho : o.op = .call { callee := .builtin .append, args := #[s, x], argTypes := #[t, t] })
    {e : TypeId} {sz bytes : Nat} (T : SlT P t e sz bytes) (base : Nat) (A : Option Addr) (N c : Nat) (cs : List (List Value)) (hs : a.eval s = .slice A N c) (hown : Own w base e sz A c cs)
    (B : Option Addr) (M d : Nat) (ds : List (List Value)) (hx : a.eval x = .slice B M d) (hrd : Rd w w.heap.size B sz ds) (hds : ∀ r ∈ ds, r.length = sz) (h1 : ∀ r ∈ ds, ∀ u ∈ r, u.oneCell' = true)
    (hbytes : (cs.length + ds.length) * bytes ≤ 140737488355328) (h63 : cs.length + ds.length ≤ maxLen) (hbase : base ≤ w.heap.size) (hN : N = cs.length) (hM : M = ds.length)
    (h : ∀ A' c' w', Own w' base e sz A' c' (cs ++ ds) → w.grownBy w' (Value.slice A N c).ownBlock → wpListIn F m P ops Q rest (a.put o.dst (.slice A' (N + M) c')) w') : wpListIn F m P ops Q (o :: rest) a w := by
  refine wpListIn_plain hgd fun K hK' => ?_
  obtain ⟨A', c', w', hrun, h2, h3⟩ := iS (P := P) (ty := o.type) w T base A c cs hown B d ds hrd hds h1 hbytes h63 hbase N M hN hM
  unfold Oper.wpIn
  refine ⟨?_, ?_⟩
  · simp [Oper.about, ho, resolve, Target.leads, Sem.run_pure]
  · rw [Oper.semAt_plain F _ _ (by rw [ho]; intro c hc'; cases hc')]
    simp [execOp, ho, resolve, invoke, builtin, hs, hx, hrun, Result.andThen]
    exact hK' _ _ (h A' c' w' h2 h3)
theorem one_free {W : World} {B : Nat} {v : Value} {t : TypeId} (h : W.heap[B]? = some (.cells #[v] t (0, 0))) : W.cell? ⟨B, 0, none⟩ = some v ∧ W.frozen? ⟨B, 0, none⟩ = false := by
  simp [World.cell?, World.frozen?, h]
theorem gL {W W' : World} {x : Nat} {o : Obj} (h : W.heap[x]? = some o) {base : Nat} {e : TypeId} {sz : Nat} {A : Option Addr} {c n : Nat} {cs : List (List Value)} (hg : W.grownBy W' (Value.slice A n c).ownBlock) (ho : Own W base e sz A c cs) (hx : x < base := by omega) : W'.heap[x]? = some o := by
  refine bX h hg ?_
  intro he
  have := (World.ownsRow.lt ho x (by rw [← he]; cases A <;> rfl)).1
  omega
theorem keeps_own {W W' : World} {base e sz n c : Nat} {A : Option Addr} {cs : List (List Value)} (ho : Own W base e sz A c cs) (hg : W.grownBy W' (Value.slice A n c).ownBlock) : KeepsOthers W W' := keeps_grown hg (fun j o he h => by
  rcases ho.2 with ⟨hv, _⟩ | ⟨g, cap, cur, hv, _, hgh, _⟩
  · simp only [Value.slice.injEq] at hv
    rw [hv.1] at he
    cases he
  · simp only [Value.slice.injEq] at hv
    rw [hv.1] at he
    simp only [Value.ownBlock, Option.some.injEq] at he
    subst he
    rw [h] at hgh
    injection hgh with hgh
    rw [hgh]
    rfl)
end Go.Proofs.YtkmddjbialpppaaGreatDoor
