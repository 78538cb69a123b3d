import Derived.Test.YtkmddjbialpppaaGreatDoorMgSgA
import Derived.RangeFuncBox
namespace Go.Proofs.YtkmddjbialpppaaGreatDoor
open Go.ChangeShapes Go.WideShapes Go.ChangeAt Go.RowKit
open SG
attribute [local go_sem] Oper.semAt_some
theorem kO : SlT Tryz.prog 61 3 1 8 := SlT.mk Tryz.underlying61 (z := .int .i64 0) (by kernel_rfl) rfl (by decide)
structure PlR (w : World) (s : Sg) (k : Nat) (A : Option Addr) (c : Nat) (W : World) : Prop where
  sb : W.heap[w.heap.size]? = some (.cells #[.int .i64 s.start, .int .i64 s.width, .bool s.big, .bool s.sgn] 136 (0, 0))
  lb : W.heap[w.heap.size + 1]? = some (.cells #[.slice A k c] 61 (0, 0))
  b1 : W.heap[w.heap.size + 2]? = some (.cells #[.int .i64 s.start] 3 (0, 0))
  b2 : W.heap[w.heap.size + 3]? = some (.cells #[.int .i64 s.width] 3 (0, 0))
  own : Own W (w.heap.size + 4) 3 1 A c (aX (dO s k))
  q : Below w.heap.size w W
def PlI (w : World) (s : Sg) (k : Nat) (W : World) : Prop := ∃ A c, PlR w s k A c W
section
variable {w : World} {s : Sg} {k : Nat} {A : Option Addr} {c : Nat} {W W' : World}
theorem PlR.z (h : PlR w s k A c W) : w.heap.size + 4 ≤ W.heap.size := aH h.b2
theorem PlR.below (h : PlR w s k A c W) (b : Below W.heap.size W W') : PlR w s k A c W' :=
  ⟨aB h.sb b, aB h.lb b, aB h.b1 b, aB h.b2 b, h.own.grown b, aC h.q h.q.size b⟩
theorem PlI.alloc (h : PlI w s k W) (o : Obj) : PlI w s k (W.alloc o) := by
  obtain ⟨A, c, h⟩ := h
  exact ⟨A, c, h.below ((Below.refl _ _).alloc (Nat.le_refl _) _)⟩
theorem PlR.putObj (h : PlR w s k A c W) {x : Nat} {o o' : Obj} (hx : w.heap.size + 4 ≤ x) (ho : W.heap[x]? = some o) (hc : o.isCells = false) : PlR w s k A c (W.putObj x o') :=
  ⟨heap_put h.sb ho hc, heap_put h.lb ho hc, heap_put h.b1 ho hc, heap_put h.b2 ho hc, own_put h.own ho hc, h.q.grown (grownBy_putObj' W x o') h.q.size (fun k e => by cases e; omega)⟩
theorem PlI.putObj (h : PlI w s k W) {x : Nat} {o o' : Obj} (hx : w.heap.size + 4 ≤ x) (ho : W.heap[x]? = some o) (hc : o.isCells = false) : PlI w s k (W.putObj x o') := by
  obtain ⟨A, c, h⟩ := h
  exact ⟨A, c, h.putObj hx ho hc⟩
end
theorem pl_next {w W W2 w1 : World} {s : Sg} {k c c2 : Nat} {A A2 : Option Addr} {v : Value} (z1 : w1.heap.size = w.heap.size + 4)
    (h2 : PlR w s k A c (W.alloc (.cells #[v] 3))) (o2 : Own W2 (w.heap.size + 4) 3 1 A2 c2 (aX (dO s k) ++ [[.int .i64 (atN s k : Int)]])) (g2 : (W.alloc (.cells #[v] 3)).grownBy W2 (Value.slice A k c).ownBlock) :
    KeepsFrom w1.heap.size W (W2.setCell ⟨w.heap.size + 1, 0, none⟩ (.slice A2 (k + 1) c2)) ∧ PlI w s (k + 1) (W2.setCell ⟨w.heap.size + 1, 0, none⟩ (.slice A2 (k + 1) c2)) := by
  have hb := jK g2 h2.own h2.z
  have k1 : KeepsOthers W (W.alloc (.cells #[v] 3)) := keeps_grown (World.grownBy_alloc W _ none) (fun _ _ h => by cases h)
  have k2 := keeps_own h2.own g2
  have k3 : KeepsFrom w1.heap.size W2 (W2.setCell ⟨w.heap.size + 1, 0, none⟩ (.slice A2 (k + 1) c2)) := KeepsFrom.of_grownBy (grownBy_setCell' W2 (w.heap.size + 1) _) (fun j e => by cases e; omega)
  have qq : Below w.heap.size (W.alloc (.cells #[v] 3)) (W2.setCell ⟨w.heap.size + 1, 0, none⟩ (.slice A2 (k + 1) c2)) := (hb.mono (by omega)).setCell (by simp) _
  have l2 : W2.heap[w.heap.size + 1]? = some (.cells #[.slice A k c] 61 (0, 0)) := heapB h2.lb hb (by omega)
  have e0 : ∀ x, x ≠ w.heap.size + 1 → (W2.setCell ⟨w.heap.size + 1, 0, none⟩ (.slice A2 (k + 1) c2)).heap[x]? = W2.heap[x]? := fun x hx => heap_setCell_other W2 ⟨w.heap.size + 1, 0, none⟩ x _ hx
  refine ⟨((k1.trans k2).from _).trans k3, A2, c2, ?_, ?_, ?_, ?_, ?_, h2.q.trans qq⟩
  · rw [e0 _ (by omega)]; exact heapB h2.sb hb (by omega)
  · have := heap_setCell_same W2 (w.heap.size + 1) 0 _ _ (.slice A2 (k + 1) c2) l2
    simpa using this
  · rw [e0 _ (by omega)]; exact heapB h2.b1 hb (by omega)
  · rw [e0 _ (by omega)]; exact heapB h2.b2 hb (by omega)
  · rw [seqL_succ, rowN_snoc]
    exact own_setj o2 (by omega) 0 _
set_option maxRecDepth 100000 in
theorem up_any (a b : Int) (w : World) : Calls Tryz.prog 207 #[.int .i64 a, .int .i64 b] w fun e w' => e = .returned (.func (.func 239) #[] #[.pointer (some ⟨w.heap.size + 1, 0, none⟩), .pointer (some ⟨w.heap.size, 0, none⟩)]) ∧ w' = (w.alloc (.cells #[.int .i64 a] 3)).alloc (.cells #[.int .i64 b] 3) := by
  go_enter Tryz.func207, Tryz.ntmps207
  go_wp2_with fail
  go_ret
  exact ⟨rfl, rfl⟩
set_option maxRecDepth 100000 in
theorem down_any (a b : Int) (w : World) : Calls Tryz.prog 208 #[.int .i64 a, .int .i64 b] w fun e w' => e = .returned (.func (.func 240) #[] #[.pointer (some ⟨w.heap.size, 0, none⟩), .pointer (some ⟨w.heap.size + 1, 0, none⟩)]) ∧ w' = (w.alloc (.cells #[.int .i64 a] 3)).alloc (.cells #[.int .i64 b] 3) := by
  go_enter Tryz.func208, Tryz.ntmps208
  go_wp2_with fail
  go_ret
  exact ⟨rfl, rfl⟩
set_option maxRecDepth 100000 in
set_option maxHeartbeats 4000000 in
theorem places_bad (s : Sg) (w : World) (h : iW s = false) :
    Calls Tryz.prog 171 #[.agg #[.int .i64 s.start, .int .i64 s.width, .bool s.big, .bool s.sgn]] w fun e w' => e = .returned (.slice none 0 0) ∧ Below w.heap.size w w' := by
  have hm : ¬ (0 ≤ s.start ∧ s.start < 64 ∧ 1 ≤ s.width ∧ s.width ≤ 64 ∧ ¬ (s.width = 64 ∧ s.sgn = false)) := by rw [← jP, h]; simp
  obtain ⟨st, wd, bg, sg⟩ := s
  dsimp only at *
  clear h
  by_cases h1 : st < 0
  · clear hm
    go_enter Tryz.func171, Tryz.ntmps171
    go_wp2_with fail
    go_ret
    exact ⟨rfl, (Below.refl _ _).alloc (Nat.le_refl _) _⟩
  by_cases h2 : 64 ≤ st
  · clear hm
    go_enter Tryz.func171, Tryz.ntmps171
    go_wp2_with fail
    go_ret
    exact ⟨rfl, (Below.refl _ _).alloc (Nat.le_refl _) _⟩
  by_cases h3 : wd < 1
  · clear hm
    go_enter Tryz.func171, Tryz.ntmps171
    go_wp2_with fail
    go_ret
    exact ⟨rfl, (Below.refl _ _).alloc (Nat.le_refl _) _⟩
  by_cases h4 : 64 < wd
  · clear hm
    go_enter Tryz.func171, Tryz.ntmps171
    go_wp2_with fail
    go_ret
    exact ⟨rfl, (Below.refl _ _).alloc (Nat.le_refl _) _⟩
  have h5 : wd = 64 ∧ sg = false := by
    by_cases e : wd = 64 ∧ sg = false
    · exact e
    · exact absurd ⟨by omega, by omega, by omega, by omega, e⟩ hm
  obtain ⟨rfl, rfl⟩ := h5
  clear hm
  go_enter Tryz.func171, Tryz.ntmps171
  go_wp2_with fail
  go_ret
  exact ⟨rfl, (Below.refl _ _).alloc (Nat.le_refl _) _⟩
def PlV (w : World) (s : Sg) (e : Ending) (w' : World) : Prop :=
  (eG s = [] ∧ e = .returned (.slice none 0 0) ∨ eG s ≠ [] ∧ ∃ g c, e = .returned (.slice (some ⟨g, 0, none⟩) (eG s).length c) ∧ Own w' w.heap.size 3 1 (some ⟨g, 0, none⟩) c (aX (eG s))) ∧ Below w.heap.size w w'
theorem plv_bad {w w' : World} {s : Sg} (h : 64 ≤ mxN (eU s)) (q : Below w.heap.size w w') : PlV w s (.returned (.slice none 0 0)) w' := by
  refine ⟨.inl ⟨?_, rfl⟩, q⟩
  unfold eG
  rw [if_neg]
  intro h2
  have := (mxN_le (eU s) 63).2 (fun x hx => by have := h2.2 x hx; omega)
  omega
theorem plv_good {w w' : World} {s : Sg} {g c n : Nat} (hm : iW s = true) (h : mxN (eU s) < 64) (hn : n = (eU s).length) (o : Own w' (w.heap.size + 4) 3 1 (some ⟨g, 0, none⟩) c (aX (eU s))) (q : Below w.heap.size w w') : PlV w s (.returned (.slice (some ⟨g, 0, none⟩) n c)) w' := by
  have hall : ∀ p ∈ eU s, p < 64 := by
    intro p hp
    have := (mxN_le (eU s) 63).1 (by omega) p hp
    omega
  have hp : eG s = eU s := by unfold eG; rw [if_pos ⟨hm, hall⟩]
  refine ⟨.inr ⟨by rw [hp]; exact rawL_ne hm, g, c, by rw [hp, hn], ?_⟩, q⟩
  rw [hp]
  exact o.mono (by omega)
theorem pl_start (w : World) (s : Sg) : PlI w s 0 ((((w.alloc (.cells #[.int .i64 s.start, .int .i64 s.width, .bool s.big, .bool s.sgn] 136)).alloc (.cells #[.slice none 0 0] 61)).alloc (.cells #[.int .i64 s.start] 3)).alloc (.cells #[.int .i64 s.width] 3)) := by
  have step : ∀ (W : World) (o : Obj), Below W.heap.size W (W.alloc o) := fun W o => (Below.refl _ _).alloc (Nat.le_refl _) _
  have z1 : (w.alloc (.cells #[.int .i64 s.start, .int .i64 s.width, .bool s.big, .bool s.sgn] 136)).heap.size = w.heap.size + 1 := by simp
  have a1 := World.alloc_heap_new w (.cells #[.int .i64 s.start, .int .i64 s.width, .bool s.big, .bool s.sgn] 136)
  have q1 := step w (.cells #[.int .i64 s.start, .int .i64 s.width, .bool s.big, .bool s.sgn] 136)
  generalize w.alloc (.cells #[.int .i64 s.start, .int .i64 s.width, .bool s.big, .bool s.sgn] 136) = w1 at *
  have a2 := World.alloc_heap_new w1 (.cells #[.slice none 0 0] 61)
  have z2 : (w1.alloc (.cells #[.slice none 0 0] 61)).heap.size = w.heap.size + 2 := by simp [z1]
  have q2 := step w1 (.cells #[.slice none 0 0] 61)
  generalize w1.alloc (.cells #[.slice none 0 0] 61) = w2 at *
  have a3 := World.alloc_heap_new w2 (.cells #[.int .i64 s.start] 3)
  have z3 : (w2.alloc (.cells #[.int .i64 s.start] 3)).heap.size = w.heap.size + 3 := by simp [z2]
  have q3 := step w2 (.cells #[.int .i64 s.start] 3)
  generalize w2.alloc (.cells #[.int .i64 s.start] 3) = w3 at *
  have a4 := World.alloc_heap_new w3 (.cells #[.int .i64 s.width] 3)
  have q4 := step w3 (.cells #[.int .i64 s.width] 3)
  generalize w3.alloc (.cells #[.int .i64 s.width] 3) = w4 at *
  rw [z1] at a2
  rw [z2] at a3
  rw [z3] at a4
  refine ⟨none, 0, aB (aB (aB a1 q2) q3) q4, aB (aB a2 q3) q4, aB a3 q4, a4, Own.nil, ?_⟩
  exact ((q1.trans (q2.mono (by omega))).trans (q3.mono (by omega))).trans (q4.mono (by omega))
theorem KeepsRet {W W' : World} {g D : Nat} {ds : List Deferred} (h : W.heap[D]? = some (.deferred (some ds))) {cs : Array Value} {t : TypeId} {fz : Nat × Nat} (hg : W.heap[g]? = some (.cells cs t fz)) (gr : W.grownBy W' (some g)) : W'.heap[D]? = some (.deferred (some ds)) :=
  bX h gr (by rintro e; cases e; rw [hg] at h; cases h)
set_option maxRecDepth 100000 in
set_option maxHeartbeats 8000000 in
theorem places_up (st n : Nat) (sg : Bool) (w : World) (h : iW ⟨st, n, false, sg⟩ = true) :
    Calls Tryz.prog 171 #[.agg #[.int .i64 st, .int .i64 n, .bool false, .bool sg]] w fun e w' => PlV w ⟨st, n, false, sg⟩ e w' := by
  have hm := jP.1 h
  dsimp only at hm
  obtain ⟨_, hs2, hn1, hn2, h64⟩ := hm
  have H := aA h
  have RAW := aA (show eU ⟨st, n, false, sg⟩ = dO ⟨st, n, false, sg⟩ n by unfold eU; simp)
  have AT := aA (show ∀ k, atN ⟨st, n, false, sg⟩ k = st + k from fun k => by unfold atN; simp)
  have I0 := aA (pl_start w ⟨st, n, false, sg⟩)
  dsimp only at I0
  clear h
  refine (callsIn_wide (n := 3)).1 (callsIn_of_wp_marks Tryz.func171 rfl trivial ?_ rfl)
  rw [wpIn_wide]
  simp only [Tryz.ntmps171, List.size_toArray, List.length_cons, List.length_nil, Nat.reduceAdd, Nat.reduceSub, Array.replicate_succ, Array.replicate_zero, List.push_toArray, List.append_toArray, List.nil_append, List.cons_append]
  have e64 : (((n : Int) == 64) = false) ∨ (((n : Int) == 64) = true ∧ sg = true) := by
    by_cases e : (n : Int) = 64
    · refine .inr ⟨by rw [beq_iff_eq]; exact e, ?_⟩
      cases sg with
      | true => rfl
      | false => exact absurd ⟨e, rfl⟩ h64
    · exact .inl (by rw [beq_eq_false_iff_ne]; exact e)
  clear h64
  rcases e64 with e64 | ⟨e64, hsg⟩
  · go_wp2_with fail
    refine (up_any _ _ _).mono ?_
    rintro e1 w1 ⟨rfl, rfl⟩
    go_wp2_with fail
    clear e64
    generalize hw1 : (((w.alloc (.cells #[.int .i64 st, .int .i64 n, .bool false, .bool sg] 136)).alloc (.cells #[.slice none 0 0] 61)).alloc (.cells #[.int .i64 st] 3)).alloc (.cells #[.int .i64 n] 3) = w1 at *
    have z1 : w1.heap.size = w.heap.size + 4 := by rw [← hw1]; simp
    clear hw1
    refine gM (n := 3) (gf := 239) (lb := #[.pointer (some ⟨w.heap.size + 3, 0, none⟩), .pointer (some ⟨w.heap.size + 2, 0, none⟩)]) rfl (fun _ _ => rfl)
      (fun k => #[.int .i64 ((st + k : Nat) : Int)]) (fun _ => rfl) n (fun k W => PlI w ⟨st, n, false, sg⟩ k W)
      (fun _ _ o h => h.alloc o) (fun k W x o o' h hx ho hc => h.putObj (by omega) ho hc) ?iter I0.out ?act1 ?assign ?body ?done
    case iter =>
      intro lr J W hJI hY h0
      exact upSeq_any (3 - 1) lr (w.heap.size + 3) (w.heap.size + 2) st n (by omega) (by omega) J (aA (fun k W h => by
        obtain ⟨A, c, h⟩ := hJI k W h
        exact ⟨by simp [World.cell?, h.b2], by simp [World.cell?, h.b1]⟩)) (aA hY) W h0
    case assign =>
      intro lr k W K hK
      gi_wp2
      exact hK
    case body =>
      intro lr k W hI hk
      obtain ⟨A, c, hI⟩ := hI
      have q1 : Below W.heap.size W (W.alloc (.cells #[.int .i64 ((st + k : Nat) : Int)] 3)) := (Below.refl _ _).alloc (Nat.le_refl _) _
      have H2 := aA (hI.below q1)
      have X2 := aA (World.alloc_heap_new W (.cells #[.int .i64 ((st + k : Nat) : Int)] 3))
      have HRD := aA (eY (cs := [.int .i64 ((st + k : Nat) : Int)]) X2.out)
      have hln : (aX (dO ⟨st, n, false, sg⟩ k)).length = k := by rw [bY, bH]
      have E1 := aA (show ((aX (dO ⟨st, n, false, sg⟩ k)).length + ([[.int .i64 ((st + k : Nat) : Int)]] : List (List Value)).length) * 8 ≤ 140737488355328 by rw [hln]; simp; omega)
      have E2 := aA (show (aX (dO ⟨st, n, false, sg⟩ k)).length + ([[.int .i64 ((st + k : Nat) : Int)]] : List (List Value)).length ≤ maxLen by rw [hln]; simp [maxLen]; omega)
      have E3 := aA (show k = (aX (dO ⟨st, n, false, sg⟩ k)).length by rw [hln])
      have x0 : W.cell? ⟨w.heap.size + 1, 0, none⟩ = some (.slice A k c) := by simp [World.cell?, hI.lb]
      have zW : w.heap.size + 1 < W.heap.size := aH hI.lb
      have EA := aA (show (st : Int) + (k : Int) = (atN ⟨st, n, false, sg⟩ k : Int) by rw [AT.out k]; omega)
      clear hI hln
      gi_wp2_with (gi_at_builtin; refine cW _ rfl _ _ 61 rfl kO (w.heap.size + 4) _ _ _ (aX (dO ⟨st, n, false, sg⟩ k)) (by rfl) (by exact H2.out.own) _ _ _ [[.int .i64 ((st + k : Nat) : Int)]] (by rfl) (by exact HRD.out) (by simp) (by simp [Value.oneCell']) (by exact E1.out) (by exact E2.out) (by exact H2.out.z) (by exact E3.out) (by rfl) ?_)
      intro A2 c2 W2 o2 g2
      have B2 := aA (gL H2.out.lb g2 H2.out.own)
      obtain ⟨z0', z1'⟩ := one_free B2.out
      have O2 := aA o2
      have G2 := aA g2
      clear o2 g2
      gi_wp2
      have O3 := O2.out
      rw [EA.out] at O3
      exact pl_next z1 H2.out O3 G2.out
    case done =>
      intro D W hI hD hK
      obtain ⟨A, c, hI⟩ := hI
      obtain ⟨g, rfl, hg1, hg2⟩ := hI.own.ofLen (by rw [bY, bH]; omega)
      have x0 : W.cell? ⟨w.heap.size + 1, 0, none⟩ = some (.slice (some ⟨g, 0, none⟩) n c) := by simp [World.cell?, hI.lb]
      have x1 : W.cell? ⟨w.heap.size, 2, none⟩ = some (.bool false) := by simp [World.cell?, hI.sb]
      have MX := aA (fS (dO ⟨st, n, false, sg⟩ n) (some ⟨g, 0, none⟩) c W (hI.own.rd (cR _)) (by rw [bH]; omega) (by rw [bH]; omega))
      rw [bH, ← RAW.out] at MX
      have HI := aA hI
      have HK := aA hK
      clear hI hK I0 AT
      obtain ⟨mx, hmx⟩ : ∃ mx, mx = mxN (eU ⟨st, n, false, sg⟩) := ⟨_, rfl⟩
      rw [← hmx] at MX
      have HMX := aA hmx
      clear hmx
      have zz : ∀ W', W' = W → True := fun _ _ => trivial
      by_cases h64 : mx < 64
      · have h64' : (mx : Int) < 64 := by omega
        go_wp2_with fail
        refine MX.out.mono ?_
        rintro e2 w2 ⟨rfl, rfl⟩
        go_wp2_with fail
        refine ⟨by simp, .inl ⟨_, _, rfl, run_takeDeferred (ds := []) HK.out, ?_⟩⟩
        refine ⟨.slice (some ⟨g, 0, none⟩) n c, by simp [results, Tryz.results171, go_sem], ?_⟩
        have ho := own_put (o' := .deferred none) HI.out.own HK.out rfl
        rw [← RAW.out] at ho
        exact plv_good H.out (by rw [← HMX.out]; exact h64) (by rw [RAW.out, bH]) ho (HI.out.q.grown (grownBy_putObj' _ D _) HI.out.q.size (fun k e => by cases e; omega))
      · have h64' : ¬ (mx : Int) < 64 := by omega
        go_wp2_with fail
        refine MX.out.mono ?_
        rintro e2 w2 ⟨rfl, rfl⟩
        go_wp2_with fail
        refine ⟨by simp, .inl ⟨_, _, rfl, run_takeDeferred (ds := []) HK.out, ?_⟩⟩
        refine ⟨.slice none 0 0, by simp [results, Tryz.results171, go_sem], ?_⟩
        exact plv_bad (by rw [← HMX.out]; omega) (HI.out.q.grown (grownBy_putObj' _ D _) HI.out.q.size (fun k e => by cases e; omega))
  · have hsg2 : (!sg) = false := by rw [hsg]; rfl
    clear hsg
    go_wp2_with fail
    refine (up_any _ _ _).mono ?_
    rintro e1 w1 ⟨rfl, rfl⟩
    go_wp2_with fail
    clear e64 hsg2
    generalize hw1 : (((w.alloc (.cells #[.int .i64 st, .int .i64 n, .bool false, .bool sg] 136)).alloc (.cells #[.slice none 0 0] 61)).alloc (.cells #[.int .i64 st] 3)).alloc (.cells #[.int .i64 n] 3) = w1 at *
    have z1 : w1.heap.size = w.heap.size + 4 := by rw [← hw1]; simp
    clear hw1
    refine gM (n := 3) (gf := 239) (lb := #[.pointer (some ⟨w.heap.size + 3, 0, none⟩), .pointer (some ⟨w.heap.size + 2, 0, none⟩)]) rfl (fun _ _ => rfl)
      (fun k => #[.int .i64 ((st + k : Nat) : Int)]) (fun _ => rfl) n (fun k W => PlI w ⟨st, n, false, sg⟩ k W)
      (fun _ _ o h => h.alloc o) (fun k W x o o' h hx ho hc => h.putObj (by omega) ho hc) ?iter2 I0.out ?act12 ?assign2 ?body2 ?done2
    case iter2 =>
      intro lr J W hJI hY h0
      exact upSeq_any (3 - 1) lr (w.heap.size + 3) (w.heap.size + 2) st n (by omega) (by omega) J (aA (fun k W h => by
        obtain ⟨A, c, h⟩ := hJI k W h
        exact ⟨by simp [World.cell?, h.b2], by simp [World.cell?, h.b1]⟩)) (aA hY) W h0
    case assign2 =>
      intro lr k W K hK
      gi_wp2
      exact hK
    case body2 =>
      intro lr k W hI hk
      obtain ⟨A, c, hI⟩ := hI
      have q1 : Below W.heap.size W (W.alloc (.cells #[.int .i64 ((st + k : Nat) : Int)] 3)) := (Below.refl _ _).alloc (Nat.le_refl _) _
      have H2 := aA (hI.below q1)
      have X2 := aA (World.alloc_heap_new W (.cells #[.int .i64 ((st + k : Nat) : Int)] 3))
      have HRD := aA (eY (cs := [.int .i64 ((st + k : Nat) : Int)]) X2.out)
      have hln : (aX (dO ⟨st, n, false, sg⟩ k)).length = k := by rw [bY, bH]
      have E1 := aA (show ((aX (dO ⟨st, n, false, sg⟩ k)).length + ([[.int .i64 ((st + k : Nat) : Int)]] : List (List Value)).length) * 8 ≤ 140737488355328 by rw [hln]; simp; omega)
      have E2 := aA (show (aX (dO ⟨st, n, false, sg⟩ k)).length + ([[.int .i64 ((st + k : Nat) : Int)]] : List (List Value)).length ≤ maxLen by rw [hln]; simp [maxLen]; omega)
      have E3 := aA (show k = (aX (dO ⟨st, n, false, sg⟩ k)).length by rw [hln])
      have x0 : W.cell? ⟨w.heap.size + 1, 0, none⟩ = some (.slice A k c) := by simp [World.cell?, hI.lb]
      have zW : w.heap.size + 1 < W.heap.size := aH hI.lb
      have EA := aA (show (st : Int) + (k : Int) = (atN ⟨st, n, false, sg⟩ k : Int) by rw [AT.out k]; omega)
      clear hI hln
      gi_wp2_with (gi_at_builtin; refine cW _ rfl _ _ 61 rfl kO (w.heap.size + 4) _ _ _ (aX (dO ⟨st, n, false, sg⟩ k)) (by rfl) (by exact H2.out.own) _ _ _ [[.int .i64 ((st + k : Nat) : Int)]] (by rfl) (by exact HRD.out) (by simp) (by simp [Value.oneCell']) (by exact E1.out) (by exact E2.out) (by exact H2.out.z) (by exact E3.out) (by rfl) ?_)
      intro A2 c2 W2 o2 g2
      have B2 := aA (gL H2.out.lb g2 H2.out.own)
      obtain ⟨z0', z1'⟩ := one_free B2.out
      have O2 := aA o2
      have G2 := aA g2
      clear o2 g2
      gi_wp2
      have O3 := O2.out
      rw [EA.out] at O3
      exact pl_next z1 H2.out O3 G2.out
    case done2 =>
      intro D W hI hD hK
      obtain ⟨A, c, hI⟩ := hI
      obtain ⟨g, rfl, hg1, hg2⟩ := hI.own.ofLen (by rw [bY, bH]; omega)
      have x0 : W.cell? ⟨w.heap.size + 1, 0, none⟩ = some (.slice (some ⟨g, 0, none⟩) n c) := by simp [World.cell?, hI.lb]
      have x1 : W.cell? ⟨w.heap.size, 2, none⟩ = some (.bool false) := by simp [World.cell?, hI.sb]
      have MX := aA (fS (dO ⟨st, n, false, sg⟩ n) (some ⟨g, 0, none⟩) c W (hI.own.rd (cR _)) (by rw [bH]; omega) (by rw [bH]; omega))
      rw [bH, ← RAW.out] at MX
      have HI := aA hI
      have HK := aA hK
      clear hI hK I0 AT
      obtain ⟨mx, hmx⟩ : ∃ mx, mx = mxN (eU ⟨st, n, false, sg⟩) := ⟨_, rfl⟩
      rw [← hmx] at MX
      have HMX := aA hmx
      clear hmx
      have zz : ∀ W', W' = W → True := fun _ _ => trivial
      by_cases h64 : mx < 64
      · have h64' : (mx : Int) < 64 := by omega
        go_wp2_with fail
        refine MX.out.mono ?_
        rintro e2 w2 ⟨rfl, rfl⟩
        go_wp2_with fail
        refine ⟨by simp, .inl ⟨_, _, rfl, run_takeDeferred (ds := []) HK.out, ?_⟩⟩
        refine ⟨.slice (some ⟨g, 0, none⟩) n c, by simp [results, Tryz.results171, go_sem], ?_⟩
        have ho := own_put (o' := .deferred none) HI.out.own HK.out rfl
        rw [← RAW.out] at ho
        exact plv_good H.out (by rw [← HMX.out]; exact h64) (by rw [RAW.out, bH]) ho (HI.out.q.grown (grownBy_putObj' _ D _) HI.out.q.size (fun k e => by cases e; omega))
      · have h64' : ¬ (mx : Int) < 64 := by omega
        go_wp2_with fail
        refine MX.out.mono ?_
        rintro e2 w2 ⟨rfl, rfl⟩
        go_wp2_with fail
        refine ⟨by simp, .inl ⟨_, _, rfl, run_takeDeferred (ds := []) HK.out, ?_⟩⟩
        refine ⟨.slice none 0 0, by simp [results, Tryz.results171, go_sem], ?_⟩
        exact plv_bad (by rw [← HMX.out]; omega) (HI.out.q.grown (grownBy_putObj' _ D _) HI.out.q.size (fun k e => by cases e; omega))
end Go.Proofs.YtkmddjbialpppaaGreatDoor
