import Derived.Test.YtkmddjbialpppaaGreatDoorNdL
namespace Go.Proofs.YtkmddjbialpppaaGreatDoor
open Go.ChangeShapes Go.WideShapes Go.ChangeAt Go.RowKit
open CM PD SG ND
namespace ND
def Nd.rise0 (n : Nd) : Nd := { n with tv := n.tv.go 1, sm := n.sm.want true, fi := n.fi.go1, ctl := zCl, is := [], iA := none, ic := 0 }
def dC (was n : Nd) : List Td := (if n.nm.st = was.nm.st then [] else [⟨4, 0, n.nm.st⟩]) ++ (if n.sm.st = was.sm.st then [] else [⟨4, 1, n.sm.st⟩])
end ND
theorem own_kp {W W' : World} {b N : Nat} {e : TypeId} {sz : Nat} {A : Option Addr} {c : Nat} {R : List (List Value)} (h : Own W N e sz A c R) (k : Kp (fun j => j = b) W W') (hb : b < N) : Own W' N e sz A c R := by
  refine World.ownsRow.kept h (row := some b) ⟨k.os, k.tape, k.output, k.size, fun i hi hr => k.block i hi (fun e => hr (by rw [e]))⟩ ?_
  rcases h.2 with ⟨hv, _⟩ | ⟨g1, cap, cur, hv, _, _⟩
  · simp only [Value.slice.injEq] at hv
    rw [hv.1]
    simp [Value.ownBlock]
  · simp only [Value.slice.injEq] at hv
    have := gQ h g1 0 hv.1
    rw [hv.1]
    simp [Value.ownBlock]
    omega
set_option maxRecDepth 100000 in
set_option maxHeartbeats 64000000 in
theorem ndSettle_q (n was n1 : Nd) (l : List Td) (A : Option Addr) (c N b : Nat) (w : World) (hbN : b < N) (hN : N ≤ w.heap.size) (hl : l.length ≤ 900) (hB : w.heap[b]? = some (.cells (⟨n, l, A, c, false⟩ : Wo).cs.toArray 145 (0, 0))) (hO : Own w N 94 3 A c (l.map tdL))
    (hcase : (n.up = true ∧ n.sm.wants = false ∧ n1 = n.rise0 ∧ tvB n.tv = true ∧ smB n.sm = true ∧ n.fi.Ok w ∧ OffS (fun k => k = b) n.fi.A n.fi.m.length ∧ n.is = []) ∨ (n.up = n.sm.wants ∧ n1 = n))
    (hq : (n1.up && n1.sm.st == 1) = false ∨ n1.ctl.has = true ∨ 0 ≤ n1.fi.has ∨ n1.fi.m = []) :
    Calls Tryz.prog 106 #[.pointer (some ⟨b, 0, none⟩), .agg was.cs.toArray] w fun e w' => ∃ A2 c2, e = .returned (.tuple #[]) ∧ w'.heap[b]? = some (.cells (⟨n1, l ++ dC was n1, A2, c2, false⟩ : Wo).cs.toArray 145 (0, 0)) ∧ Own w' N 94 3 A2 c2 ((l ++ dC was n1).map tdL) ∧ Kp (fun j => j = b ∨ N ≤ j) w w' := by
  obtain ⟨w0, hw0⟩ : ∃ w0, w0 = w.alloc (.cells was.cs.toArray 53) := ⟨_, rfl⟩
  have P := aA (World.alloc_heap_new w (.cells was.cs.toArray 53))
  have Q : Hid (Below w.heap.size w w0) := by rw [hw0]; exact aA ((Below.refl w.heap.size w).alloc (Nat.le_refl _) (.cells was.cs.toArray 53))
  rw [← hw0] at P
  have B := aA (aB hB Q.out)
  have OW := aA (hO.grown Q.out)
  have QW := Q
  have K := aA (show Kp (fun j => j = b ∨ N ≤ j) w w0 from Kp.of Q.out)
  have HC := aA hcase
  have HQ := aA hq
  clear hB hO hcase hq Q
  go_enter Tryz.func106, Tryz.ntmps106
  go_upto_block 0 with fail
  change Code.wp _ _ _ _ (w.alloc (.cells was.cs.toArray 53))
  rw [← hw0]
  clear hw0
  go_cut [7] (fun v7 W => Hid (W.heap[b]? = some (.cells (⟨n1, l, A, c, false⟩ : Wo).cs.toArray 145 (0, 0))) ∧ Hid (Own W N 94 3 A c ((l).map tdL)) ∧ Hid (W.heap[w.heap.size]? = some (.cells was.cs.toArray 53 (0, 0))) ∧ Hid (Kp (fun j => j = b ∨ N ≤ j) w W))
  case first =>
    rcases HC.out with ⟨hu, hw, rfl, htv, hsm, hF, hoff, his⟩ | ⟨hu, hnn⟩
    ·
      have HU := aA hu
      have HR := aA (fun W (k : Kp (fun j => j = b ∨ N ≤ j) w W) (hB : W.heap[b]? = some (.cells (⟨n, l, A, c, false⟩ : Wo).cs.toArray 145 (0, 0))) (hF2 : n.fi.Ok W) => ndRise0 (⟨n, l, A, c, false⟩ : Wo) rfl b W htv hsm hF2 hoff his hB)
      have HW := aA hw
      clear hu hw htv hsm his HC HQ
      go_wp2_with (refine wpList_load_mid rfl 53 (.tmp 10) (by rfl) b 0 (by rfl) n.cs _ (by exact fF B.out) Tryz.underlying53 (by rfl) (by kernel_rfl) ?_)
      have UP := aA (show Calls Tryz.prog 43 #[.agg n.cs.toArray] w0 fun e w' => e = .returned (.bool true) ∧ Below w0.heap.size w0 w' from by
        have k := eR n w0
        rwa [HU.out] at k)
      (with_reducible refine (UP.out).mono ?_)
      rintro ew1' w1' ⟨rfl, qw1'⟩
      have HF := aA ((hF.next QW.out).next qw1')
      replace B := aA (aB B.out qw1')
      replace P := aA (aB P.out qw1')
      replace OW := aA (OW.out.grown qw1')
      replace K := aA (K.out.trans (Kp.of qw1'))
      clear qw1'
      clear UP hF QW
      have c84 := bM B.out 84 (v := .bool n.sm.wants) rfl
      rw [HW.out] at c84
      go_wp2_with fail
      clear c84
      (with_reducible refine (HR.out w1' K.out B.out HF.out).mono ?_)
      rintro e5 w5 ⟨rfl, b5, k5⟩
      replace P := aA (k5.heap P.out (by omega))
      replace OW := aA (own_kp OW.out k5 hbN)
      replace K := aA (K.out.trans (k5.mono fun j _ h => .inl h))
      replace B := aA b5
      clear b5 k5 HR HF hoff
      go_wp2_with fail
      go_meet
      exact ⟨B, OW, P, K⟩
    ·
      have hn2 := hnn.symm
      clear hnn
      subst hn2
      have HU := aA hu
      clear hu HC HQ QW
      obtain ⟨u, huu⟩ : ∃ u, u = n.up := ⟨_, rfl⟩
      have HU2 := aA (show n.sm.wants = u from by rw [huu]; exact HU.out.symm)
      replace HU := aA (show n.up = u from huu.symm)
      clear huu
      cases u
      ·
        go_wp2_with (refine wpList_load_mid rfl 53 (.tmp 10) (by rfl) b 0 (by rfl) n.cs _ (by exact fF B.out) Tryz.underlying53 (by rfl) (by kernel_rfl) ?_)
        have UP := aA (show Calls Tryz.prog 43 #[.agg n.cs.toArray] w0 fun e w' => e = .returned (.bool false) ∧ Below w0.heap.size w0 w' from by
          have k := eR n w0
          rwa [HU.out] at k)
        (with_reducible refine (UP.out).mono ?_)
        rintro ew51' w51' ⟨rfl, qw51'⟩
        replace B := aA (aB B.out qw51')
        replace P := aA (aB P.out qw51')
        replace OW := aA (OW.out.grown qw51')
        replace K := aA (K.out.trans (Kp.of qw51'))
        clear qw51'
        clear UP
        have c84 := bM B.out 84 (v := .bool n.sm.wants) rfl
        rw [HU2.out] at c84
        go_wp2_with (refine wpList_load_mid rfl 53 (.tmp 27) (by rfl) b 0 (by rfl) n.cs _ (by exact fF B.out) Tryz.underlying53 (by rfl) (by kernel_rfl) ?_)
        have UP := aA (show Calls Tryz.prog 43 #[.agg n.cs.toArray] w51' fun e w' => e = .returned (.bool false) ∧ Below w51'.heap.size w51' w' from by
          have k := eR n w51'
          rwa [HU.out] at k)
        clear c84
        (with_reducible refine (UP.out).mono ?_)
        rintro ew52' w52' ⟨rfl, qw52'⟩
        replace B := aA (aB B.out qw52')
        replace P := aA (aB P.out qw52')
        replace OW := aA (OW.out.grown qw52')
        replace K := aA (K.out.trans (Kp.of qw52'))
        clear qw52'
        clear UP
        have c84 := bM B.out 84 (v := .bool n.sm.wants) rfl
        rw [HU2.out] at c84
        go_wp2_with fail
        clear c84
        go_meet
        exact ⟨B, OW, P, K⟩
      ·
        go_wp2_with (refine wpList_load_mid rfl 53 (.tmp 10) (by rfl) b 0 (by rfl) n.cs _ (by exact fF B.out) Tryz.underlying53 (by rfl) (by kernel_rfl) ?_)
        have UP := aA (show Calls Tryz.prog 43 #[.agg n.cs.toArray] w0 fun e w' => e = .returned (.bool true) ∧ Below w0.heap.size w0 w' from by
          have k := eR n w0
          rwa [HU.out] at k)
        (with_reducible refine (UP.out).mono ?_)
        rintro ew61' w61' ⟨rfl, qw61'⟩
        replace B := aA (aB B.out qw61')
        replace P := aA (aB P.out qw61')
        replace OW := aA (OW.out.grown qw61')
        replace K := aA (K.out.trans (Kp.of qw61'))
        clear qw61'
        clear UP
        have c84 := bM B.out 84 (v := .bool n.sm.wants) rfl
        rw [HU2.out] at c84
        go_wp2_with (refine wpList_load_mid rfl 53 (.tmp 27) (by rfl) b 0 (by rfl) n.cs _ (by exact fF B.out) Tryz.underlying53 (by rfl) (by kernel_rfl) ?_)
        have UP := aA (show Calls Tryz.prog 43 #[.agg n.cs.toArray] w61' fun e w' => e = .returned (.bool true) ∧ Below w61'.heap.size w61' w' from by
          have k := eR n w61'
          rwa [HU.out] at k)
        clear c84
        (with_reducible refine (UP.out).mono ?_)
        rintro ew62' w62' ⟨rfl, qw62'⟩
        replace B := aA (aB B.out qw62')
        replace P := aA (aB P.out qw62')
        replace OW := aA (OW.out.grown qw62')
        replace K := aA (K.out.trans (Kp.of qw62'))
        clear qw62'
        clear UP
        have c84 := bM B.out 84 (v := .bool n.sm.wants) rfl
        rw [HU2.out] at c84
        go_wp2_with fail
        clear c84
        go_meet
        exact ⟨B, OW, P, K⟩
  case rest =>
  clear B OW P K HC QW
  obtain ⟨B, OW, P, K⟩ := hcut
  go_upto_region 5 with fail
  refine bB [0, 1, 2, 3, 4, 5, 6, 7, 8, 9] [(5, fun W => W.cell? ⟨b, 73, none⟩ = some (.int .i64 n1.nm.st)), (8, fun W => W.cell? ⟨w.heap.size, 73, none⟩ = some (.int .i64 was.nm.st))] (by kernel_rfl) ?_
  replace B := aA (show wc.drew.heap[b]? = _ from B.out)
  replace P := aA (show wc.drew.heap[w.heap.size]? = _ from P.out)
  replace OW := aA (OW.out.grown (Below.refl wc.heap.size wc).drew)
  replace K := aA (K.out.trans (Kp.of (Below.refl wc.heap.size wc).drew))
  generalize wc.drew = w63' at *
  by_cases h1 : n1.nm.st = was.nm.st
  ·
    have e1 : (n1.nm.st != was.nm.st) = false := by simp [h1]
    have H1 := aA h1
    clear h1
    refine aD (i := 0) (v := .pointer (some ⟨b, 0, none⟩)) rfl rfl (by kernel_rfl) (by kernel_rfl) (by kernel_rfl) (by kernel_rfl) (by kernel_rfl) (fun _ _ _ h => h) rfl (fun W => by go_simp) ?_
    go_simp
    refine aD (i := 1) (v := .pointer (some ⟨b, 0, none⟩)) rfl rfl (by kernel_rfl) (by kernel_rfl) (by kernel_rfl) (by kernel_rfl) (by kernel_rfl) (fun _ _ _ h => h) rfl (fun W => by go_simp) ?_
    go_simp
    refine aD (i := 2) (v := .pointer (some ⟨b, 0, none⟩)) rfl rfl (by kernel_rfl) (by kernel_rfl) (by kernel_rfl) (by kernel_rfl) (by kernel_rfl) (fun _ _ _ h => h) rfl (fun W => by go_simp) ?_
    go_simp
    refine aD (i := 3) (v := .pointer (some ⟨b, 73, none⟩)) rfl rfl (by kernel_rfl) (by kernel_rfl) (by kernel_rfl) (by kernel_rfl) (by kernel_rfl) (fun _ _ _ h => h) rfl (fun W => by go_simp) ?_
    go_simp
    refine aD (i := 4) (v := .pointer (some ⟨b, 73, none⟩)) rfl rfl (by kernel_rfl) (by kernel_rfl) (by kernel_rfl) (by kernel_rfl) (by kernel_rfl) (fun _ _ _ h => h) rfl (fun W => by go_simp) ?_
    go_simp
    refine aQ (i := 5) (v := .int .i64 n1.nm.st) rfl rfl (by kernel_rfl) (by kernel_rfl) (by kernel_rfl) (by kernel_rfl) (by kernel_rfl) (fun _ _ _ h => h) rfl (fun W h => by go_simp) (bM B.out 73 (v := .int .i64 n1.nm.st) rfl) ?_
    go_simp
    refine aD (i := 6) (v := .pointer (some ⟨w.heap.size, 73, none⟩)) rfl rfl (by kernel_rfl) (by kernel_rfl) (by kernel_rfl) (by kernel_rfl) (by kernel_rfl) (fun _ _ _ h => h) rfl (fun W => by go_simp) ?_
    go_simp
    refine aD (i := 7) (v := .pointer (some ⟨w.heap.size, 73, none⟩)) rfl rfl (by kernel_rfl) (by kernel_rfl) (by kernel_rfl) (by kernel_rfl) (by kernel_rfl) (fun _ _ _ h => h) rfl (fun W => by go_simp) ?_
    go_simp
    refine aQ (i := 8) (v := .int .i64 was.nm.st) rfl rfl (by kernel_rfl) (by kernel_rfl) (by kernel_rfl) (by kernel_rfl) (by kernel_rfl) (fun _ _ _ h => h) rfl (fun W h => by go_simp) (aZ P.out 73 (v := .int .i64 was.nm.st) rfl) ?_
    go_simp
    refine aD (i := 9) (v := .bool false) rfl rfl (by kernel_rfl) (by kernel_rfl) (by kernel_rfl) (by kernel_rfl) (by kernel_rfl) (fun _ _ _ h => h) rfl (fun W => by go_simp) ?_
    go_simp
    refine aS (by kernel_rfl) ?_ _
    clear e1
    go_upto_region 7 with fail
    refine bB [0, 1, 2, 3, 4, 5, 6, 7, 8, 9] [(5, fun W => W.cell? ⟨b, 83, none⟩ = some (.int .i64 n1.sm.st)), (8, fun W => W.cell? ⟨w.heap.size, 83, none⟩ = some (.int .i64 was.sm.st))] (by kernel_rfl) ?_
    replace B := aA (show w63'.drew.heap[b]? = _ from B.out)
    replace P := aA (show w63'.drew.heap[w.heap.size]? = _ from P.out)
    replace OW := aA (OW.out.grown (Below.refl w63'.heap.size w63').drew)
    replace K := aA (K.out.trans (Kp.of (Below.refl w63'.heap.size w63').drew))
    generalize w63'.drew = w64' at *
    by_cases h2 : n1.sm.st = was.sm.st
    ·
      have e2 : (n1.sm.st != was.sm.st) = false := by simp [h2]
      have H2 := aA h2
      clear h2
      refine aD (i := 0) (v := .pointer (some ⟨b, 0, none⟩)) rfl rfl (by kernel_rfl) (by kernel_rfl) (by kernel_rfl) (by kernel_rfl) (by kernel_rfl) (fun _ _ _ h => h) rfl (fun W => by go_simp) ?_
      go_simp
      refine aD (i := 1) (v := .pointer (some ⟨b, 0, none⟩)) rfl rfl (by kernel_rfl) (by kernel_rfl) (by kernel_rfl) (by kernel_rfl) (by kernel_rfl) (fun _ _ _ h => h) rfl (fun W => by go_simp) ?_
      go_simp
      refine aD (i := 2) (v := .pointer (some ⟨b, 0, none⟩)) rfl rfl (by kernel_rfl) (by kernel_rfl) (by kernel_rfl) (by kernel_rfl) (by kernel_rfl) (fun _ _ _ h => h) rfl (fun W => by go_simp) ?_
      go_simp
      refine aD (i := 3) (v := .pointer (some ⟨b, 83, none⟩)) rfl rfl (by kernel_rfl) (by kernel_rfl) (by kernel_rfl) (by kernel_rfl) (by kernel_rfl) (fun _ _ _ h => h) rfl (fun W => by go_simp) ?_
      go_simp
      refine aD (i := 4) (v := .pointer (some ⟨b, 83, none⟩)) rfl rfl (by kernel_rfl) (by kernel_rfl) (by kernel_rfl) (by kernel_rfl) (by kernel_rfl) (fun _ _ _ h => h) rfl (fun W => by go_simp) ?_
      go_simp
      refine aQ (i := 5) (v := .int .i64 n1.sm.st) rfl rfl (by kernel_rfl) (by kernel_rfl) (by kernel_rfl) (by kernel_rfl) (by kernel_rfl) (fun _ _ _ h => h) rfl (fun W h => by go_simp) (bM B.out 83 (v := .int .i64 n1.sm.st) rfl) ?_
      go_simp
      refine aD (i := 6) (v := .pointer (some ⟨w.heap.size, 83, none⟩)) rfl rfl (by kernel_rfl) (by kernel_rfl) (by kernel_rfl) (by kernel_rfl) (by kernel_rfl) (fun _ _ _ h => h) rfl (fun W => by go_simp) ?_
      go_simp
      refine aD (i := 7) (v := .pointer (some ⟨w.heap.size, 83, none⟩)) rfl rfl (by kernel_rfl) (by kernel_rfl) (by kernel_rfl) (by kernel_rfl) (by kernel_rfl) (fun _ _ _ h => h) rfl (fun W => by go_simp) ?_
      go_simp
      refine aQ (i := 8) (v := .int .i64 was.sm.st) rfl rfl (by kernel_rfl) (by kernel_rfl) (by kernel_rfl) (by kernel_rfl) (by kernel_rfl) (fun _ _ _ h => h) rfl (fun W h => by go_simp) (aZ P.out 83 (v := .int .i64 was.sm.st) rfl) ?_
      go_simp
      refine aD (i := 9) (v := .bool false) rfl rfl (by kernel_rfl) (by kernel_rfl) (by kernel_rfl) (by kernel_rfl) (by kernel_rfl) (fun _ _ _ h => h) rfl (fun W => by go_simp) ?_
      go_simp
      refine aS (by kernel_rfl) ?_ _
      clear e2
      have hT : l ++ dC was n1 = l := by unfold dC; rw [if_pos H1.out, if_pos H2.out]; simp
      replace B := aA (show w64'.heap[b]? = some (.cells (⟨n1, l ++ dC was n1, A, c, false⟩ : Wo).cs.toArray 145 (0, 0)) by rw [hT]; exact B.out)
      replace OW := aA (show Own w64' N 94 3 A c ((l ++ dC was n1).map tdL) by rw [hT]; exact OW.out)
      clear hT
      go_wp2_with fail
      have FU := ndFull (⟨n1, l ++ dC was n1, A, c, false⟩ : Wo) b w64' B.out
      dsimp only at FU
      obtain ⟨f, hf⟩ : ∃ f, f = (n1.up && n1.sm.st == 1) := ⟨_, rfl⟩
      rw [← hf] at FU
      have HF := aA hf
      replace FU := aA FU
      clear hf
      (with_reducible refine (FU.out).mono ?_)
      rintro ew65' w65' ⟨rfl, qw65'⟩
      replace B := aA (aB B.out qw65')
      replace P := aA (aB P.out qw65')
      replace OW := aA (OW.out.grown qw65')
      replace K := aA (K.out.trans (Kp.of qw65'))
      clear qw65'
      clear FU
      have c19 := bM B.out 19 (v := .bool n1.ctl.has) rfl
      have c37 := bM B.out 37 (v := .int .i64 n1.fi.has) rfl
      have c34 := bM B.out 34 (v := .slice n1.fi.A n1.fi.m.length n1.fi.c) rfl
      cases f
      ·
        go_wp2_with fail
        refine bodyPost_ret (results_none (by rfl) _ _ _) rfl ⟨A, c, rfl, B.out, OW.out, K.out⟩
      cases hh : n1.ctl.has
      ·
        rw [hh] at c19
        by_cases h0 : 0 ≤ n1.fi.has
        ·
          go_wp2_with fail
          refine bodyPost_ret (results_none (by rfl) _ _ _) rfl ⟨A, c, rfl, B.out, OW.out, K.out⟩
        have hm : n1.fi.m.length = 0 := by
          rcases HQ.out with h | h | h | h
          · rw [← HF.out] at h; cases h
          · rw [hh] at h; cases h
          · exact absurd h h0
          · rw [h]; rfl
        rw [hm] at c34
        clear hm hh
        go_wp2_with fail
        refine bodyPost_ret (results_none (by rfl) _ _ _) rfl ⟨A, c, rfl, B.out, OW.out, K.out⟩
      rw [hh] at c19
      clear hh
      go_wp2_with fail
      refine bodyPost_ret (results_none (by rfl) _ _ _) rfl ⟨A, c, rfl, B.out, OW.out, K.out⟩
    ·
      have e2 : (n1.sm.st != was.sm.st) = true := by simp [h2]
      have H2 := aA h2
      clear h2
      refine aD (i := 0) (v := .pointer (some ⟨b, 0, none⟩)) rfl rfl (by kernel_rfl) (by kernel_rfl) (by kernel_rfl) (by kernel_rfl) (by kernel_rfl) (fun _ _ _ h => h) rfl (fun W => by go_simp) ?_
      go_simp
      refine aD (i := 1) (v := .pointer (some ⟨b, 0, none⟩)) rfl rfl (by kernel_rfl) (by kernel_rfl) (by kernel_rfl) (by kernel_rfl) (by kernel_rfl) (fun _ _ _ h => h) rfl (fun W => by go_simp) ?_
      go_simp
      refine aD (i := 2) (v := .pointer (some ⟨b, 0, none⟩)) rfl rfl (by kernel_rfl) (by kernel_rfl) (by kernel_rfl) (by kernel_rfl) (by kernel_rfl) (fun _ _ _ h => h) rfl (fun W => by go_simp) ?_
      go_simp
      refine aD (i := 3) (v := .pointer (some ⟨b, 83, none⟩)) rfl rfl (by kernel_rfl) (by kernel_rfl) (by kernel_rfl) (by kernel_rfl) (by kernel_rfl) (fun _ _ _ h => h) rfl (fun W => by go_simp) ?_
      go_simp
      refine aD (i := 4) (v := .pointer (some ⟨b, 83, none⟩)) rfl rfl (by kernel_rfl) (by kernel_rfl) (by kernel_rfl) (by kernel_rfl) (by kernel_rfl) (fun _ _ _ h => h) rfl (fun W => by go_simp) ?_
      go_simp
      refine aQ (i := 5) (v := .int .i64 n1.sm.st) rfl rfl (by kernel_rfl) (by kernel_rfl) (by kernel_rfl) (by kernel_rfl) (by kernel_rfl) (fun _ _ _ h => h) rfl (fun W h => by go_simp) (bM B.out 83 (v := .int .i64 n1.sm.st) rfl) ?_
      go_simp
      refine aD (i := 6) (v := .pointer (some ⟨w.heap.size, 83, none⟩)) rfl rfl (by kernel_rfl) (by kernel_rfl) (by kernel_rfl) (by kernel_rfl) (by kernel_rfl) (fun _ _ _ h => h) rfl (fun W => by go_simp) ?_
      go_simp
      refine aD (i := 7) (v := .pointer (some ⟨w.heap.size, 83, none⟩)) rfl rfl (by kernel_rfl) (by kernel_rfl) (by kernel_rfl) (by kernel_rfl) (by kernel_rfl) (fun _ _ _ h => h) rfl (fun W => by go_simp) ?_
      go_simp
      refine aQ (i := 8) (v := .int .i64 was.sm.st) rfl rfl (by kernel_rfl) (by kernel_rfl) (by kernel_rfl) (by kernel_rfl) (by kernel_rfl) (fun _ _ _ h => h) rfl (fun W h => by go_simp) (aZ P.out 83 (v := .int .i64 was.sm.st) rfl) ?_
      go_simp
      refine aD (i := 9) (v := .bool true) rfl rfl (by kernel_rfl) (by kernel_rfl) (by kernel_rfl) (by kernel_rfl) (by kernel_rfl) (fun _ _ _ h => h) rfl (fun W => by go_simp) ?_
      go_simp
      refine aS (by kernel_rfl) ?_ _
      clear e2
      have cst := bM B.out 83 (v := .int .i64 n1.sm.st) rfl
      go_wp2_with fail
      clear cst
      (with_reducible refine (ndTell (⟨n1, l, A, c, false⟩ : Wo) 4 1 n1.sm.st N b w64' hbN (Nat.le_trans hN K.out.size) (by simp; omega) B.out OW.out).mono ?_)
      rintro ew66' w66' ⟨Aw66', cw66', rfl, bw66', ow66', kw66', hw66'⟩
      replace P := aA (hw66' _ _ _ _ (by omega) (by decide) P.out)
      replace B := aA bw66'
      replace OW := aA ow66'
      replace K := aA (K.out.trans kw66')
      clear bw66' ow66' kw66' hw66'
      have hT : l ++ dC was n1 = (l) ++ [(⟨4, 1, n1.sm.st⟩ : Td)] := by unfold dC; rw [if_pos H1.out, if_neg H2.out]; simp
      replace B := aA (show w66'.heap[b]? = some (.cells (⟨n1, l ++ dC was n1, Aw66', cw66', false⟩ : Wo).cs.toArray 145 (0, 0)) by rw [hT]; exact B.out)
      replace OW := aA (show Own w66' N 94 3 Aw66' cw66' ((l ++ dC was n1).map tdL) by rw [hT]; exact OW.out)
      clear hT
      go_wp2_with fail
      have FU := ndFull (⟨n1, l ++ dC was n1, Aw66', cw66', false⟩ : Wo) b w66' B.out
      dsimp only at FU
      obtain ⟨f, hf⟩ : ∃ f, f = (n1.up && n1.sm.st == 1) := ⟨_, rfl⟩
      rw [← hf] at FU
      have HF := aA hf
      replace FU := aA FU
      clear hf
      (with_reducible refine (FU.out).mono ?_)
      rintro ew67' w67' ⟨rfl, qw67'⟩
      replace B := aA (aB B.out qw67')
      replace P := aA (aB P.out qw67')
      replace OW := aA (OW.out.grown qw67')
      replace K := aA (K.out.trans (Kp.of qw67'))
      clear qw67'
      clear FU
      have c19 := bM B.out 19 (v := .bool n1.ctl.has) rfl
      have c37 := bM B.out 37 (v := .int .i64 n1.fi.has) rfl
      have c34 := bM B.out 34 (v := .slice n1.fi.A n1.fi.m.length n1.fi.c) rfl
      cases f
      ·
        go_wp2_with fail
        refine bodyPost_ret (results_none (by rfl) _ _ _) rfl ⟨Aw66', cw66', rfl, B.out, OW.out, K.out⟩
      cases hh : n1.ctl.has
      ·
        rw [hh] at c19
        by_cases h0 : 0 ≤ n1.fi.has
        ·
          go_wp2_with fail
          refine bodyPost_ret (results_none (by rfl) _ _ _) rfl ⟨Aw66', cw66', rfl, B.out, OW.out, K.out⟩
        have hm : n1.fi.m.length = 0 := by
          rcases HQ.out with h | h | h | h
          · rw [← HF.out] at h; cases h
          · rw [hh] at h; cases h
          · exact absurd h h0
          · rw [h]; rfl
        rw [hm] at c34
        clear hm hh
        go_wp2_with fail
        refine bodyPost_ret (results_none (by rfl) _ _ _) rfl ⟨Aw66', cw66', rfl, B.out, OW.out, K.out⟩
      rw [hh] at c19
      clear hh
      go_wp2_with fail
      refine bodyPost_ret (results_none (by rfl) _ _ _) rfl ⟨Aw66', cw66', rfl, B.out, OW.out, K.out⟩
  ·
    have e1 : (n1.nm.st != was.nm.st) = true := by simp [h1]
    have H1 := aA h1
    clear h1
    refine aD (i := 0) (v := .pointer (some ⟨b, 0, none⟩)) rfl rfl (by kernel_rfl) (by kernel_rfl) (by kernel_rfl) (by kernel_rfl) (by kernel_rfl) (fun _ _ _ h => h) rfl (fun W => by go_simp) ?_
    go_simp
    refine aD (i := 1) (v := .pointer (some ⟨b, 0, none⟩)) rfl rfl (by kernel_rfl) (by kernel_rfl) (by kernel_rfl) (by kernel_rfl) (by kernel_rfl) (fun _ _ _ h => h) rfl (fun W => by go_simp) ?_
    go_simp
    refine aD (i := 2) (v := .pointer (some ⟨b, 0, none⟩)) rfl rfl (by kernel_rfl) (by kernel_rfl) (by kernel_rfl) (by kernel_rfl) (by kernel_rfl) (fun _ _ _ h => h) rfl (fun W => by go_simp) ?_
    go_simp
    refine aD (i := 3) (v := .pointer (some ⟨b, 73, none⟩)) rfl rfl (by kernel_rfl) (by kernel_rfl) (by kernel_rfl) (by kernel_rfl) (by kernel_rfl) (fun _ _ _ h => h) rfl (fun W => by go_simp) ?_
    go_simp
    refine aD (i := 4) (v := .pointer (some ⟨b, 73, none⟩)) rfl rfl (by kernel_rfl) (by kernel_rfl) (by kernel_rfl) (by kernel_rfl) (by kernel_rfl) (fun _ _ _ h => h) rfl (fun W => by go_simp) ?_
    go_simp
    refine aQ (i := 5) (v := .int .i64 n1.nm.st) rfl rfl (by kernel_rfl) (by kernel_rfl) (by kernel_rfl) (by kernel_rfl) (by kernel_rfl) (fun _ _ _ h => h) rfl (fun W h => by go_simp) (bM B.out 73 (v := .int .i64 n1.nm.st) rfl) ?_
    go_simp
    refine aD (i := 6) (v := .pointer (some ⟨w.heap.size, 73, none⟩)) rfl rfl (by kernel_rfl) (by kernel_rfl) (by kernel_rfl) (by kernel_rfl) (by kernel_rfl) (fun _ _ _ h => h) rfl (fun W => by go_simp) ?_
    go_simp
    refine aD (i := 7) (v := .pointer (some ⟨w.heap.size, 73, none⟩)) rfl rfl (by kernel_rfl) (by kernel_rfl) (by kernel_rfl) (by kernel_rfl) (by kernel_rfl) (fun _ _ _ h => h) rfl (fun W => by go_simp) ?_
    go_simp
    refine aQ (i := 8) (v := .int .i64 was.nm.st) rfl rfl (by kernel_rfl) (by kernel_rfl) (by kernel_rfl) (by kernel_rfl) (by kernel_rfl) (fun _ _ _ h => h) rfl (fun W h => by go_simp) (aZ P.out 73 (v := .int .i64 was.nm.st) rfl) ?_
    go_simp
    refine aD (i := 9) (v := .bool true) rfl rfl (by kernel_rfl) (by kernel_rfl) (by kernel_rfl) (by kernel_rfl) (by kernel_rfl) (fun _ _ _ h => h) rfl (fun W => by go_simp) ?_
    go_simp
    refine aS (by kernel_rfl) ?_ _
    clear e1
    have cst := bM B.out 73 (v := .int .i64 n1.nm.st) rfl
    go_wp2_with fail
    clear cst
    (with_reducible refine (ndTell (⟨n1, l, A, c, false⟩ : Wo) 4 0 n1.nm.st N b w63' hbN (Nat.le_trans hN K.out.size) (by simp; omega) B.out OW.out).mono ?_)
    rintro ew68' w68' ⟨Aw68', cw68', rfl, bw68', ow68', kw68', hw68'⟩
    replace P := aA (hw68' _ _ _ _ (by omega) (by decide) P.out)
    replace B := aA bw68'
    replace OW := aA ow68'
    replace K := aA (K.out.trans kw68')
    clear bw68' ow68' kw68' hw68'
    go_upto_region 7 with fail
    refine bB [0, 1, 2, 3, 4, 5, 6, 7, 8, 9] [(5, fun W => W.cell? ⟨b, 83, none⟩ = some (.int .i64 n1.sm.st)), (8, fun W => W.cell? ⟨w.heap.size, 83, none⟩ = some (.int .i64 was.sm.st))] (by kernel_rfl) ?_
    replace B := aA (show w68'.drew.heap[b]? = _ from B.out)
    replace P := aA (show w68'.drew.heap[w.heap.size]? = _ from P.out)
    replace OW := aA (OW.out.grown (Below.refl w68'.heap.size w68').drew)
    replace K := aA (K.out.trans (Kp.of (Below.refl w68'.heap.size w68').drew))
    generalize w68'.drew = w69' at *
    by_cases h2 : n1.sm.st = was.sm.st
    ·
      have e2 : (n1.sm.st != was.sm.st) = false := by simp [h2]
      have H2 := aA h2
      clear h2
      refine aD (i := 0) (v := .pointer (some ⟨b, 0, none⟩)) rfl rfl (by kernel_rfl) (by kernel_rfl) (by kernel_rfl) (by kernel_rfl) (by kernel_rfl) (fun _ _ _ h => h) rfl (fun W => by go_simp) ?_
      go_simp
      refine aD (i := 1) (v := .pointer (some ⟨b, 0, none⟩)) rfl rfl (by kernel_rfl) (by kernel_rfl) (by kernel_rfl) (by kernel_rfl) (by kernel_rfl) (fun _ _ _ h => h) rfl (fun W => by go_simp) ?_
      go_simp
      refine aD (i := 2) (v := .pointer (some ⟨b, 0, none⟩)) rfl rfl (by kernel_rfl) (by kernel_rfl) (by kernel_rfl) (by kernel_rfl) (by kernel_rfl) (fun _ _ _ h => h) rfl (fun W => by go_simp) ?_
      go_simp
      refine aD (i := 3) (v := .pointer (some ⟨b, 83, none⟩)) rfl rfl (by kernel_rfl) (by kernel_rfl) (by kernel_rfl) (by kernel_rfl) (by kernel_rfl) (fun _ _ _ h => h) rfl (fun W => by go_simp) ?_
      go_simp
      refine aD (i := 4) (v := .pointer (some ⟨b, 83, none⟩)) rfl rfl (by kernel_rfl) (by kernel_rfl) (by kernel_rfl) (by kernel_rfl) (by kernel_rfl) (fun _ _ _ h => h) rfl (fun W => by go_simp) ?_
      go_simp
      refine aQ (i := 5) (v := .int .i64 n1.sm.st) rfl rfl (by kernel_rfl) (by kernel_rfl) (by kernel_rfl) (by kernel_rfl) (by kernel_rfl) (fun _ _ _ h => h) rfl (fun W h => by go_simp) (bM B.out 83 (v := .int .i64 n1.sm.st) rfl) ?_
      go_simp
      refine aD (i := 6) (v := .pointer (some ⟨w.heap.size, 83, none⟩)) rfl rfl (by kernel_rfl) (by kernel_rfl) (by kernel_rfl) (by kernel_rfl) (by kernel_rfl) (fun _ _ _ h => h) rfl (fun W => by go_simp) ?_
      go_simp
      refine aD (i := 7) (v := .pointer (some ⟨w.heap.size, 83, none⟩)) rfl rfl (by kernel_rfl) (by kernel_rfl) (by kernel_rfl) (by kernel_rfl) (by kernel_rfl) (fun _ _ _ h => h) rfl (fun W => by go_simp) ?_
      go_simp
      refine aQ (i := 8) (v := .int .i64 was.sm.st) rfl rfl (by kernel_rfl) (by kernel_rfl) (by kernel_rfl) (by kernel_rfl) (by kernel_rfl) (fun _ _ _ h => h) rfl (fun W h => by go_simp) (aZ P.out 83 (v := .int .i64 was.sm.st) rfl) ?_
      go_simp
      refine aD (i := 9) (v := .bool false) rfl rfl (by kernel_rfl) (by kernel_rfl) (by kernel_rfl) (by kernel_rfl) (by kernel_rfl) (fun _ _ _ h => h) rfl (fun W => by go_simp) ?_
      go_simp
      refine aS (by kernel_rfl) ?_ _
      clear e2
      have hT : l ++ dC was n1 = l ++ [(⟨4, 0, n1.nm.st⟩ : Td)] := by unfold dC; rw [if_neg H1.out, if_pos H2.out]; simp
      replace B := aA (show w69'.heap[b]? = some (.cells (⟨n1, l ++ dC was n1, Aw68', cw68', false⟩ : Wo).cs.toArray 145 (0, 0)) by rw [hT]; exact B.out)
      replace OW := aA (show Own w69' N 94 3 Aw68' cw68' ((l ++ dC was n1).map tdL) by rw [hT]; exact OW.out)
      clear hT
      go_wp2_with fail
      have FU := ndFull (⟨n1, l ++ dC was n1, Aw68', cw68', false⟩ : Wo) b w69' B.out
      dsimp only at FU
      obtain ⟨f, hf⟩ : ∃ f, f = (n1.up && n1.sm.st == 1) := ⟨_, rfl⟩
      rw [← hf] at FU
      have HF := aA hf
      replace FU := aA FU
      clear hf
      (with_reducible refine (FU.out).mono ?_)
      rintro ew70' w70' ⟨rfl, qw70'⟩
      replace B := aA (aB B.out qw70')
      replace P := aA (aB P.out qw70')
      replace OW := aA (OW.out.grown qw70')
      replace K := aA (K.out.trans (Kp.of qw70'))
      clear qw70'
      clear FU
      have c19 := bM B.out 19 (v := .bool n1.ctl.has) rfl
      have c37 := bM B.out 37 (v := .int .i64 n1.fi.has) rfl
      have c34 := bM B.out 34 (v := .slice n1.fi.A n1.fi.m.length n1.fi.c) rfl
      cases f
      ·
        go_wp2_with fail
        refine bodyPost_ret (results_none (by rfl) _ _ _) rfl ⟨Aw68', cw68', rfl, B.out, OW.out, K.out⟩
      cases hh : n1.ctl.has
      ·
        rw [hh] at c19
        by_cases h0 : 0 ≤ n1.fi.has
        ·
          go_wp2_with fail
          refine bodyPost_ret (results_none (by rfl) _ _ _) rfl ⟨Aw68', cw68', rfl, B.out, OW.out, K.out⟩
        have hm : n1.fi.m.length = 0 := by
          rcases HQ.out with h | h | h | h
          · rw [← HF.out] at h; cases h
          · rw [hh] at h; cases h
          · exact absurd h h0
          · rw [h]; rfl
        rw [hm] at c34
        clear hm hh
        go_wp2_with fail
        refine bodyPost_ret (results_none (by rfl) _ _ _) rfl ⟨Aw68', cw68', rfl, B.out, OW.out, K.out⟩
      rw [hh] at c19
      clear hh
      go_wp2_with fail
      refine bodyPost_ret (results_none (by rfl) _ _ _) rfl ⟨Aw68', cw68', rfl, B.out, OW.out, K.out⟩
    ·
      have e2 : (n1.sm.st != was.sm.st) = true := by simp [h2]
      have H2 := aA h2
      clear h2
      refine aD (i := 0) (v := .pointer (some ⟨b, 0, none⟩)) rfl rfl (by kernel_rfl) (by kernel_rfl) (by kernel_rfl) (by kernel_rfl) (by kernel_rfl) (fun _ _ _ h => h) rfl (fun W => by go_simp) ?_
      go_simp
      refine aD (i := 1) (v := .pointer (some ⟨b, 0, none⟩)) rfl rfl (by kernel_rfl) (by kernel_rfl) (by kernel_rfl) (by kernel_rfl) (by kernel_rfl) (fun _ _ _ h => h) rfl (fun W => by go_simp) ?_
      go_simp
      refine aD (i := 2) (v := .pointer (some ⟨b, 0, none⟩)) rfl rfl (by kernel_rfl) (by kernel_rfl) (by kernel_rfl) (by kernel_rfl) (by kernel_rfl) (fun _ _ _ h => h) rfl (fun W => by go_simp) ?_
      go_simp
      refine aD (i := 3) (v := .pointer (some ⟨b, 83, none⟩)) rfl rfl (by kernel_rfl) (by kernel_rfl) (by kernel_rfl) (by kernel_rfl) (by kernel_rfl) (fun _ _ _ h => h) rfl (fun W => by go_simp) ?_
      go_simp
      refine aD (i := 4) (v := .pointer (some ⟨b, 83, none⟩)) rfl rfl (by kernel_rfl) (by kernel_rfl) (by kernel_rfl) (by kernel_rfl) (by kernel_rfl) (fun _ _ _ h => h) rfl (fun W => by go_simp) ?_
      go_simp
      refine aQ (i := 5) (v := .int .i64 n1.sm.st) rfl rfl (by kernel_rfl) (by kernel_rfl) (by kernel_rfl) (by kernel_rfl) (by kernel_rfl) (fun _ _ _ h => h) rfl (fun W h => by go_simp) (bM B.out 83 (v := .int .i64 n1.sm.st) rfl) ?_
      go_simp
      refine aD (i := 6) (v := .pointer (some ⟨w.heap.size, 83, none⟩)) rfl rfl (by kernel_rfl) (by kernel_rfl) (by kernel_rfl) (by kernel_rfl) (by kernel_rfl) (fun _ _ _ h => h) rfl (fun W => by go_simp) ?_
      go_simp
      refine aD (i := 7) (v := .pointer (some ⟨w.heap.size, 83, none⟩)) rfl rfl (by kernel_rfl) (by kernel_rfl) (by kernel_rfl) (by kernel_rfl) (by kernel_rfl) (fun _ _ _ h => h) rfl (fun W => by go_simp) ?_
      go_simp
      refine aQ (i := 8) (v := .int .i64 was.sm.st) rfl rfl (by kernel_rfl) (by kernel_rfl) (by kernel_rfl) (by kernel_rfl) (by kernel_rfl) (fun _ _ _ h => h) rfl (fun W h => by go_simp) (aZ P.out 83 (v := .int .i64 was.sm.st) rfl) ?_
      go_simp
      refine aD (i := 9) (v := .bool true) rfl rfl (by kernel_rfl) (by kernel_rfl) (by kernel_rfl) (by kernel_rfl) (by kernel_rfl) (fun _ _ _ h => h) rfl (fun W => by go_simp) ?_
      go_simp
      refine aS (by kernel_rfl) ?_ _
      clear e2
      have cst := bM B.out 83 (v := .int .i64 n1.sm.st) rfl
      go_wp2_with fail
      clear cst
      (with_reducible refine (ndTell (⟨n1, l ++ [(⟨4, 0, n1.nm.st⟩ : Td)], Aw68', cw68', false⟩ : Wo) 4 1 n1.sm.st N b w69' hbN (Nat.le_trans hN K.out.size) (by simp; omega) B.out OW.out).mono ?_)
      rintro ew71' w71' ⟨Aw71', cw71', rfl, bw71', ow71', kw71', hw71'⟩
      replace P := aA (hw71' _ _ _ _ (by omega) (by decide) P.out)
      replace B := aA bw71'
      replace OW := aA ow71'
      replace K := aA (K.out.trans kw71')
      clear bw71' ow71' kw71' hw71'
      have hT : l ++ dC was n1 = (l ++ [(⟨4, 0, n1.nm.st⟩ : Td)]) ++ [(⟨4, 1, n1.sm.st⟩ : Td)] := by unfold dC; rw [if_neg H1.out, if_neg H2.out]; simp
      replace B := aA (show w71'.heap[b]? = some (.cells (⟨n1, l ++ dC was n1, Aw71', cw71', false⟩ : Wo).cs.toArray 145 (0, 0)) by rw [hT]; exact B.out)
      replace OW := aA (show Own w71' N 94 3 Aw71' cw71' ((l ++ dC was n1).map tdL) by rw [hT]; exact OW.out)
      clear hT
      go_wp2_with fail
      have FU := ndFull (⟨n1, l ++ dC was n1, Aw71', cw71', false⟩ : Wo) b w71' B.out
      dsimp only at FU
      obtain ⟨f, hf⟩ : ∃ f, f = (n1.up && n1.sm.st == 1) := ⟨_, rfl⟩
      rw [← hf] at FU
      have HF := aA hf
      replace FU := aA FU
      clear hf
      (with_reducible refine (FU.out).mono ?_)
      rintro ew72' w72' ⟨rfl, qw72'⟩
      replace B := aA (aB B.out qw72')
      replace P := aA (aB P.out qw72')
      replace OW := aA (OW.out.grown qw72')
      replace K := aA (K.out.trans (Kp.of qw72'))
      clear qw72'
      clear FU
      have c19 := bM B.out 19 (v := .bool n1.ctl.has) rfl
      have c37 := bM B.out 37 (v := .int .i64 n1.fi.has) rfl
      have c34 := bM B.out 34 (v := .slice n1.fi.A n1.fi.m.length n1.fi.c) rfl
      cases f
      ·
        go_wp2_with fail
        refine bodyPost_ret (results_none (by rfl) _ _ _) rfl ⟨Aw71', cw71', rfl, B.out, OW.out, K.out⟩
      cases hh : n1.ctl.has
      ·
        rw [hh] at c19
        by_cases h0 : 0 ≤ n1.fi.has
        ·
          go_wp2_with fail
          refine bodyPost_ret (results_none (by rfl) _ _ _) rfl ⟨Aw71', cw71', rfl, B.out, OW.out, K.out⟩
        have hm : n1.fi.m.length = 0 := by
          rcases HQ.out with h | h | h | h
          · rw [← HF.out] at h; cases h
          · rw [hh] at h; cases h
          · exact absurd h h0
          · rw [h]; rfl
        rw [hm] at c34
        clear hm hh
        go_wp2_with fail
        refine bodyPost_ret (results_none (by rfl) _ _ _) rfl ⟨Aw71', cw71', rfl, B.out, OW.out, K.out⟩
      rw [hh] at c19
      clear hh
      go_wp2_with fail
      refine bodyPost_ret (results_none (by rfl) _ _ _) rfl ⟨Aw71', cw71', rfl, B.out, OW.out, K.out⟩
end Go.Proofs.YtkmddjbialpppaaGreatDoor
