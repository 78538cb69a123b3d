import Derived.Test.YtkmddjbialpppaaGreatDoorMgNdN
namespace Go.Proofs.YtkmddjbialpppaaGreatDoor
open Go.ChangeShapes Go.WideShapes Go.ChangeAt Go.RowKit
open CM PD SG ND
set_option maxRecDepth 100000 in
set_option maxHeartbeats 32000000 in
theorem ndWant1 (wo : Wo) (hb : wo.bad = false) (k : Nat) (on : Bool) (pw : Pn) (nw : Nm) (b p0 p1 : Nat) (W : World) (hk : k < 16) (hm : memB wo.n.pn.mem k = true) (hp : wo.n.pn.Rt) (hn : nmB wo.n.nm = true) (hpw : pw = wo.n.pn.want k on) (hnw : nw = wo.n.nm.want (pw.own != 0)) (hB : W.heap[b]? = some (.cells wo.cs.toArray 145 (0, 0))) (h0 : W.heap[p0]? = some (.cells #[.int .i64 k] 3 (0, 0))) (h1 : W.heap[p1]? = some (.cells #[.bool on] 4 (0, 0))) :
    Calls Tryz.prog 56 #[.pointer (some ⟨b, 0, none⟩), .pointer (some ⟨p0, 0, none⟩), .pointer (some ⟨p1, 0, none⟩)] W fun e W' => e = .returned (.tuple #[]) ∧ W'.heap[b]? = some (.cells ({ wo with n := { wo.n with pn := pw, nm := nw } } : Wo).cs.toArray 145 (0, 0)) ∧ Kp (fun k => k = b) W W' := by
  have HBAD := aA hb
  have PW := aA (fun W => show Calls Tryz.prog 57 #[.agg (bO wo.n.pn).toArray, .int .i64 k, .bool on] W fun e w' => e = .returned (.tuple #[.agg (bO pw).toArray, .int .i64 0]) ∧ Below W.heap.size W w' from by rw [hpw]; exact pnWant_ok wo.n.pn k on W hp hk hm)
  have NWc := aA (fun W => show Calls Tryz.prog 59 #[.agg (bR wo.n.nm).toArray, .bool (pw.own != 0)] W fun e w' => e = .returned (.tuple #[.agg (bR nw).toArray, .int .i64 0]) ∧ Below W.heap.size W w' from by rw [hnw]; exact nmWant_ok wo.n.nm _ W hn)
  have P0 := aA h0
  have P1 := aA h1
  clear hb hk hm hp hn hpw hnw h0 h1
  have B := aA hB
  clear hB
  have K := aA (show Kp (fun k => k = b) W W from Kp.refl)
  have Q := aA (Below.refl W.heap.size W)
  go_enter Tryz.func56, Tryz.ntmps56
  go_upto_region 0 with fail
  go_cut [4, 5] (fun v4 v5 W' => ∃ x, v4 = .pointer (some ⟨x, 0, none⟩) ∧ v5 = .int .i64 0 ∧ b < x ∧ Hid (W'.heap[x]? = some (.cells (bO pw).toArray 47 (0, 0))) ∧ Hid (W'.heap[b]? = some (.cells wo.cs.toArray 145 (0, 0))) ∧ Hid (W'.heap[p0]? = some (.cells (([.int .i64 k] : List Value)).toArray 3 (0, 0))) ∧ Hid (W'.heap[p1]? = some (.cells (([.bool on] : List Value)).toArray 4 (0, 0))) ∧ Hid (Below W.heap.size W W'))
  case first =>
    refine bB [0, 1, 2, 3, 4, 5, 6, 8, 9, 10] [(4, fun W => W.rangeAt b 54 (bO wo.n.pn)), (5, fun W => W.cell? ⟨p0, 0, none⟩ = some (.int .i64 k)), (6, fun W => W.cell? ⟨p1, 0, none⟩ = some (.bool on))] (by kernel_rfl) ?_
    replace B := aA (show W.drew.heap[b]? = some (.cells wo.cs.toArray 145 (0, 0)) from B.out)
    replace P0 := aA (show W.drew.heap[p0]? = some (.cells (([.int .i64 k] : List Value)).toArray 3 (0, 0)) from P0.out)
    replace P1 := aA (show W.drew.heap[p1]? = some (.cells (([.bool on] : List Value)).toArray 4 (0, 0)) from P1.out)
    replace Q := aA (show Below W.heap.size W W.drew from Q.out.drew)
    generalize W.drew = w1' at *
    refine aD (i := 0) (v := .pointer (some ⟨b, 0, none⟩)) rfl rfl (by kernel_rfl) (by kernel_rfl) (by kernel_rfl) (by kernel_rfl) (by kernel_rfl) (fun _ _ _ h => h) rfl (fun W => by go_simp) ?_
    go_simp
    refine aD (i := 1) (v := .pointer (some ⟨b, 0, none⟩)) rfl rfl (by kernel_rfl) (by kernel_rfl) (by kernel_rfl) (by kernel_rfl) (by kernel_rfl) (fun _ _ _ h => h) rfl (fun W => by go_simp) ?_
    go_simp
    refine aD (i := 2) (v := .pointer (some ⟨b, 0, none⟩)) rfl rfl (by kernel_rfl) (by kernel_rfl) (by kernel_rfl) (by kernel_rfl) (by kernel_rfl) (fun _ _ _ h => h) rfl (fun W => by go_simp) ?_
    go_simp
    refine aD (i := 3) (v := .pointer (some ⟨b, 54, none⟩)) rfl rfl (by kernel_rfl) (by kernel_rfl) (by kernel_rfl) (by kernel_rfl) (by kernel_rfl) (fun _ _ _ h => h) rfl (fun W => by go_simp) ?_
    go_simp
    refine aQ (i := 4) (v := .agg (bO wo.n.pn).toArray) rfl rfl (by kernel_rfl) (by kernel_rfl) (by kernel_rfl) (by kernel_rfl) (by kernel_rfl) (fun _ _ _ h => h) rfl (fun W h => bQ W b 54 47 (bO wo.n.pn) _ h Tryz.underlying47 rfl (by kernel_rfl) _ _ (.tmp 11) (by rfl) (by rfl)) (dY B.out 54 rfl) ?_
    go_simp
    refine aQ (i := 5) (v := .int .i64 k) rfl rfl (by kernel_rfl) (by kernel_rfl) (by kernel_rfl) (by kernel_rfl) (by kernel_rfl) (fun _ _ _ h => h) rfl (fun W h => by go_simp) ((bE P0.out).1) ?_
    go_simp
    refine aQ (i := 6) (v := .bool on) rfl rfl (by kernel_rfl) (by kernel_rfl) (by kernel_rfl) (by kernel_rfl) (by kernel_rfl) (fun _ _ _ h => h) rfl (fun W h => by go_simp) ((bE P1.out).1) ?_
    go_simp
    refine cB (i := 7) (k := 11) (by kernel_rfl) ?_ ?_
    · refine aM rfl rfl ?_
      go_simp
      (with_reducible refine (PW.out w1').mono ?_)
      rintro ew2' w2' ⟨rfl, qw2'⟩
      replace B := aA (aB B.out qw2')
      replace P0 := aA (aB P0.out qw2')
      replace P1 := aA (aB P1.out qw2')
      replace Q := aA (aC Q.out Q.out.size qw2')
      clear qw2'
      go_simp
      refine ⟨aO (by kernel_rfl) (.cons (dY B.out 54 rfl) (.cons ((bE P0.out).1) (.cons ((bE P1.out).1) (.nil)))), ?_⟩
      go_simp
      refine aD (i := 8) (v := .tuple #[.agg (bO pw).toArray, .int .i64 0]) rfl rfl (by kernel_rfl) (by kernel_rfl) (by kernel_rfl) (by kernel_rfl) (by kernel_rfl) (fun _ _ _ h => h) rfl (fun W => by go_simp) ?_
      go_simp
      refine aD (i := 9) (v := .agg (bO pw).toArray) rfl rfl (by kernel_rfl) (by kernel_rfl) (by kernel_rfl) (by kernel_rfl) (by kernel_rfl) (fun _ _ _ h => h) rfl (fun W => by go_simp) ?_
      go_simp
      refine aD (i := 10) (v := .int .i64 0) rfl rfl (by kernel_rfl) (by kernel_rfl) (by kernel_rfl) (by kernel_rfl) (by kernel_rfl) (fun _ _ _ h => h) rfl (fun W => by go_simp) ?_
      go_simp
      refine aI (i := 11) (by kernel_rfl) ?_
      refine aM rfl rfl ?_
      go_simp
      have X := aA (World.alloc_heap_new w2' (.cells (bO fK).toArray 47))
      have zBx : b < w2'.heap.size := aH B.out
      have zP0x : p0 < w2'.heap.size := aH P0.out
      have zP1x : p1 < w2'.heap.size := aH P1.out
      have zQx : W.heap.size ≤ w2'.heap.size := Q.out.size
      have q4' : Below w2'.heap.size w2' (w2'.alloc (.cells (bO fK).toArray 47)) := (Below.refl _ _).alloc (Nat.le_refl _) _
      replace B := aA (aB B.out q4')
      replace P0 := aA (aB P0.out q4')
      replace P1 := aA (aB P1.out q4')
      replace Q := aA (aC Q.out Q.out.size q4')
      clear q4'
      refine ⟨aO (by kernel_rfl) (.cons (dY B.out 54 rfl) (.cons ((bE P0.out).1) (.cons ((bE P1.out).1) (.nil)))), ?_⟩
      change bN _ _ _ _ _ _ _ _ _ (w2'.alloc (.cells (bO fK).toArray 47))
      generalize w2'.alloc (.cells (bO fK).toArray 47) = w3' at *
      generalize w2'.heap.size = x at *
      go_simp
      refine aI (i := 12) (by kernel_rfl) ?_
      refine aM rfl rfl ?_
      have Tw5' := aA (show World.there _ x 0 19 from aK (cs := bO fK) X.out)
      refine bP 47 (.tmp 4) (.tmp 16) rfl x 0 (bO pw) (by rfl) (by rfl) (by exact Tw5'.out) (by kernel_rfl) (by simp [Value.oneCell', bO]) ?_
      intro w5' ew5'
      replace B := aA (show w5'.heap[b]? = some (.cells wo.cs.toArray 145 (0, 0)) by rw [ew5']; exact aG (by omega) _ _ _ B.out)
      replace P0 := aA (show w5'.heap[p0]? = some (.cells (([.int .i64 k] : List Value)).toArray 3 (0, 0)) by rw [ew5']; exact aG (by omega) _ _ _ P0.out)
      replace P1 := aA (show w5'.heap[p1]? = some (.cells (([.bool on] : List Value)).toArray 4 (0, 0)) by rw [ew5']; exact aG (by omega) _ _ _ P1.out)
      replace Q := aA (show Below W.heap.size W w5' by rw [ew5']; exact Q.out.trans (aE _ _ _ (by have := Q.out.size; omega)))
      replace X := aA (show w5'.heap[x]? = some (.cells (bO pw).toArray 47 (0, 0)) by rw [ew5']; exact aJ (bO pw) (xs := bO fK) X.out rfl)
      clear ew5' Tw5'
      refine ⟨aN (by kernel_rfl) (by kernel_rfl), ?_⟩
      go_simp
      refine aI (i := 13) (by kernel_rfl) ?_
      refine aM rfl rfl ?_
      go_simp
      refine ⟨aN (by kernel_rfl) (by kernel_rfl), ?_⟩
      go_simp
      refine aS (by kernel_rfl) ?_ _
      go_wp2_with fail
      go_meet
      exact ⟨x, rfl, rfl, by omega, X, B, P0, P1, Q⟩
    · refine aM rfl rfl ?_
      go_simp
      have X := aA (World.alloc_heap_new w1' (.cells (bO fK).toArray 47))
      have zBx : b < w1'.heap.size := aH B.out
      have zP0x : p0 < w1'.heap.size := aH P0.out
      have zP1x : p1 < w1'.heap.size := aH P1.out
      have zQx : W.heap.size ≤ w1'.heap.size := Q.out.size
      have q7' : Below w1'.heap.size w1' (w1'.alloc (.cells (bO fK).toArray 47)) := (Below.refl _ _).alloc (Nat.le_refl _) _
      replace B := aA (aB B.out q7')
      replace P0 := aA (aB P0.out q7')
      replace P1 := aA (aB P1.out q7')
      replace Q := aA (aC Q.out Q.out.size q7')
      clear q7'
      refine ⟨aO (by kernel_rfl) (.cons (dY B.out 54 rfl) (.cons ((bE P0.out).1) (.cons ((bE P1.out).1) (.nil)))), ?_⟩
      change bN _ _ _ _ _ _ _ _ _ (w1'.alloc (.cells (bO fK).toArray 47))
      generalize w1'.alloc (.cells (bO fK).toArray 47) = w6' at *
      generalize w1'.heap.size = x at *
      go_simp
      refine aI (i := 7) (by kernel_rfl) ?_
      refine aM rfl rfl ?_
      go_simp
      (with_reducible refine (PW.out w6').mono ?_)
      rintro ew8' w8' ⟨rfl, qw8'⟩
      replace B := aA (aB B.out qw8')
      replace P0 := aA (aB P0.out qw8')
      replace P1 := aA (aB P1.out qw8')
      replace X := aA (aB X.out qw8')
      replace Q := aA (aC Q.out Q.out.size qw8')
      clear qw8'
      go_simp
      refine ⟨aO (by kernel_rfl) (.cons (dY B.out 54 rfl) (.cons ((bE P0.out).1) (.cons ((bE P1.out).1) (.nil)))), ?_⟩
      go_simp
      refine aD (i := 8) (v := .tuple #[.agg (bO pw).toArray, .int .i64 0]) rfl rfl (by kernel_rfl) (by kernel_rfl) (by kernel_rfl) (by kernel_rfl) (by kernel_rfl) (fun _ _ _ h => h) rfl (fun W => by go_simp) ?_
      go_simp
      refine aD (i := 9) (v := .agg (bO pw).toArray) rfl rfl (by kernel_rfl) (by kernel_rfl) (by kernel_rfl) (by kernel_rfl) (by kernel_rfl) (fun _ _ _ h => h) rfl (fun W => by go_simp) ?_
      go_simp
      refine aD (i := 10) (v := .int .i64 0) rfl rfl (by kernel_rfl) (by kernel_rfl) (by kernel_rfl) (by kernel_rfl) (by kernel_rfl) (fun _ _ _ h => h) rfl (fun W => by go_simp) ?_
      go_simp
      refine aI (i := 12) (by kernel_rfl) ?_
      refine aM rfl rfl ?_
      have Tw9' := aA (show World.there _ x 0 19 from aK (cs := bO fK) X.out)
      refine bP 47 (.tmp 4) (.tmp 16) rfl x 0 (bO pw) (by rfl) (by rfl) (by exact Tw9'.out) (by kernel_rfl) (by simp [Value.oneCell', bO]) ?_
      intro w9' ew9'
      replace B := aA (show w9'.heap[b]? = some (.cells wo.cs.toArray 145 (0, 0)) by rw [ew9']; exact aG (by omega) _ _ _ B.out)
      replace P0 := aA (show w9'.heap[p0]? = some (.cells (([.int .i64 k] : List Value)).toArray 3 (0, 0)) by rw [ew9']; exact aG (by omega) _ _ _ P0.out)
      replace P1 := aA (show w9'.heap[p1]? = some (.cells (([.bool on] : List Value)).toArray 4 (0, 0)) by rw [ew9']; exact aG (by omega) _ _ _ P1.out)
      replace Q := aA (show Below W.heap.size W w9' by rw [ew9']; exact Q.out.trans (aE _ _ _ (by have := Q.out.size; omega)))
      replace X := aA (show w9'.heap[x]? = some (.cells (bO pw).toArray 47 (0, 0)) by rw [ew9']; exact aJ (bO pw) (xs := bO fK) X.out rfl)
      clear ew9' Tw9'
      refine ⟨aN (by kernel_rfl) (by kernel_rfl), ?_⟩
      go_simp
      refine aI (i := 13) (by kernel_rfl) ?_
      refine aM rfl rfl ?_
      go_simp
      refine ⟨aN (by kernel_rfl) (by kernel_rfl), ?_⟩
      go_simp
      refine aS (by kernel_rfl) ?_ _
      go_wp2_with fail
      go_meet
      exact ⟨x, rfl, rfl, by omega, X, B, P0, P1, Q⟩
  case rest =>
  clear B P0 P1 Q PW
  obtain ⟨x, rfl, rfl, zx, X, B, P0, P1, Q⟩ := hcut
  clear P0 P1
  go_upto_region 1 with fail
  refine bB [0, 1, 2, 3, 4, 5, 6] [(5, fun W => W.heap[x]? = some (.cells (bO pw).toArray 47 (0, 0)))] (by kernel_rfl) ?_
  replace B := aA (show wc.drew.heap[b]? = some (.cells wo.cs.toArray 145 (0, 0)) from B.out)
  replace X := aA (show wc.drew.heap[x]? = some (.cells (bO pw).toArray 47 (0, 0)) from X.out)
  replace Q := aA (show Below W.heap.size W wc.drew from Q.out.drew)
  generalize wc.drew = w10' at *
  refine aD (i := 0) (v := .pointer (some ⟨b, 0, none⟩)) rfl rfl (by kernel_rfl) (by kernel_rfl) (by kernel_rfl) (by kernel_rfl) (by kernel_rfl) (fun _ _ _ h => h) rfl (fun W => by go_simp) ?_
  go_simp
  refine aD (i := 1) (v := .pointer (some ⟨b, 0, none⟩)) rfl rfl (by kernel_rfl) (by kernel_rfl) (by kernel_rfl) (by kernel_rfl) (by kernel_rfl) (fun _ _ _ h => h) rfl (fun W => by go_simp) ?_
  go_simp
  refine aD (i := 2) (v := .pointer (some ⟨b, 0, none⟩)) rfl rfl (by kernel_rfl) (by kernel_rfl) (by kernel_rfl) (by kernel_rfl) (by kernel_rfl) (fun _ _ _ h => h) rfl (fun W => by go_simp) ?_
  go_simp
  refine aD (i := 3) (v := .pointer (some ⟨b, 0, none⟩)) rfl rfl (by kernel_rfl) (by kernel_rfl) (by kernel_rfl) (by kernel_rfl) (by kernel_rfl) (fun _ _ _ h => h) rfl (fun W => by go_simp) ?_
  go_simp
  refine aD (i := 4) (v := .pointer (some ⟨b, 54, none⟩)) rfl rfl (by kernel_rfl) (by kernel_rfl) (by kernel_rfl) (by kernel_rfl) (by kernel_rfl) (fun _ _ _ h => h) rfl (fun W => by go_simp) ?_
  go_simp
  refine aQ (i := 5) (v := .agg (bO pw).toArray) rfl rfl (by kernel_rfl) (by kernel_rfl) (by kernel_rfl) (by kernel_rfl) (by kernel_rfl) (fun _ _ _ h => h) rfl (fun W h => bZ W x 47 (bO pw) _ h Tryz.underlying47 rfl (by kernel_rfl) _ _ (.tmp 4) (by rfl) (by rfl)) (X.out) ?_
  go_simp
  refine aD (i := 6) (v := .int .i64 0) rfl rfl (by kernel_rfl) (by kernel_rfl) (by kernel_rfl) (by kernel_rfl) (by kernel_rfl) (fun _ _ _ h => h) rfl (fun W => by go_simp) ?_
  go_simp
  refine aI (i := 7) (by kernel_rfl) ?_
  refine aM rfl rfl ?_
  go_simp
  replace K := aA (K.out.trans (Kp.of Q.out))
  (with_reducible refine (ndSet_pn wo HBAD.out pw b w10' B.out).mono ?_)
  rintro ew11' w11' ⟨rfl, bw11', kw11'⟩
  replace B := aA bw11'
  replace K := aA (K.out.trans kw11')
  clear Q bw11' kw11' X
  have Q := aA (Below.refl w11'.heap.size w11')
  go_simp
  refine ⟨aN (by kernel_rfl) (by kernel_rfl), ?_⟩
  go_simp
  refine aS (by kernel_rfl) ?_ _
  go_upto_region 2 with fail
  go_cut [6, 5] (fun v6 v5 W' => ∃ x, v6 = .pointer (some ⟨x, 0, none⟩) ∧ v5 = .int .i64 0 ∧ b < x ∧ Hid (W'.heap[x]? = some (.cells (bR nw).toArray 49 (0, 0))) ∧ Hid (W'.heap[b]? = some (.cells (({ wo with n := { wo.n with pn := pw } } : Wo).cs).toArray 145 (0, 0))) ∧ Hid (Below w11'.heap.size w11' W'))
  case first =>
    refine bB [0, 1, 2, 3, 4, 5, 6, 7, 8, 9, 10, 11, 13, 14, 15] [(4, fun W => W.rangeAt b 73 (bR wo.n.nm)), (10, fun W => W.cell? ⟨b, 55, none⟩ = some (.int .u16 pw.own))] (by kernel_rfl) ?_
    replace B := aA (show w11'.drew.heap[b]? = some (.cells (({ wo with n := { wo.n with pn := pw } } : Wo).cs).toArray 145 (0, 0)) from B.out)
    replace Q := aA (show Below w11'.heap.size w11' w11'.drew from Q.out.drew)
    generalize w11'.drew = w12' at *
    refine aD (i := 0) (v := .pointer (some ⟨b, 0, none⟩)) rfl rfl (by kernel_rfl) (by kernel_rfl) (by kernel_rfl) (by kernel_rfl) (by kernel_rfl) (fun _ _ _ h => h) rfl (fun W => by go_simp) ?_
    go_simp
    refine aD (i := 1) (v := .pointer (some ⟨b, 0, none⟩)) rfl rfl (by kernel_rfl) (by kernel_rfl) (by kernel_rfl) (by kernel_rfl) (by kernel_rfl) (fun _ _ _ h => h) rfl (fun W => by go_simp) ?_
    go_simp
    refine aD (i := 2) (v := .pointer (some ⟨b, 0, none⟩)) rfl rfl (by kernel_rfl) (by kernel_rfl) (by kernel_rfl) (by kernel_rfl) (by kernel_rfl) (fun _ _ _ h => h) rfl (fun W => by go_simp) ?_
    go_simp
    refine aD (i := 3) (v := .pointer (some ⟨b, 73, none⟩)) rfl rfl (by kernel_rfl) (by kernel_rfl) (by kernel_rfl) (by kernel_rfl) (by kernel_rfl) (fun _ _ _ h => h) rfl (fun W => by go_simp) ?_
    go_simp
    refine aQ (i := 4) (v := .agg (bR wo.n.nm).toArray) rfl rfl (by kernel_rfl) (by kernel_rfl) (by kernel_rfl) (by kernel_rfl) (by kernel_rfl) (fun _ _ _ h => h) rfl (fun W h => bQ W b 73 49 (bR wo.n.nm) _ h Tryz.underlying49 rfl (by kernel_rfl) _ _ (.tmp 30) (by rfl) (by rfl)) (dY B.out 73 rfl) ?_
    go_simp
    refine aD (i := 5) (v := .pointer (some ⟨b, 0, none⟩)) rfl rfl (by kernel_rfl) (by kernel_rfl) (by kernel_rfl) (by kernel_rfl) (by kernel_rfl) (fun _ _ _ h => h) rfl (fun W => by go_simp) ?_
    go_simp
    refine aD (i := 6) (v := .pointer (some ⟨b, 0, none⟩)) rfl rfl (by kernel_rfl) (by kernel_rfl) (by kernel_rfl) (by kernel_rfl) (by kernel_rfl) (fun _ _ _ h => h) rfl (fun W => by go_simp) ?_
    go_simp
    refine aD (i := 7) (v := .pointer (some ⟨b, 0, none⟩)) rfl rfl (by kernel_rfl) (by kernel_rfl) (by kernel_rfl) (by kernel_rfl) (by kernel_rfl) (fun _ _ _ h => h) rfl (fun W => by go_simp) ?_
    go_simp
    refine aD (i := 8) (v := .pointer (some ⟨b, 54, none⟩)) rfl rfl (by kernel_rfl) (by kernel_rfl) (by kernel_rfl) (by kernel_rfl) (by kernel_rfl) (fun _ _ _ h => h) rfl (fun W => by go_simp) ?_
    go_simp
    refine aD (i := 9) (v := .pointer (some ⟨b, 55, none⟩)) rfl rfl (by kernel_rfl) (by kernel_rfl) (by kernel_rfl) (by kernel_rfl) (by kernel_rfl) (fun _ _ _ h => h) rfl (fun W => by go_simp) ?_
    go_simp
    refine aQ (i := 10) (v := .int .u16 pw.own) rfl rfl (by kernel_rfl) (by kernel_rfl) (by kernel_rfl) (by kernel_rfl) (by kernel_rfl) (fun _ _ _ h => h) rfl (fun W h => by go_simp) (bM B.out 55 (v := .int .u16 pw.own) rfl) ?_
    go_simp
    refine aD (i := 11) (v := .bool (pw.own != 0)) rfl rfl (by kernel_rfl) (by kernel_rfl) (by kernel_rfl) (by kernel_rfl) (by kernel_rfl) (fun _ _ _ h => h) rfl (fun W => by go_simp) ?_
    go_simp
    refine cB (i := 12) (k := 16) (by kernel_rfl) ?_ ?_
    · refine aM rfl rfl ?_
      go_simp
      (with_reducible refine (NWc.out w12').mono ?_)
      rintro ew13' w13' ⟨rfl, qw13'⟩
      replace B := aA (aB B.out qw13')
      replace Q := aA (aC Q.out Q.out.size qw13')
      clear qw13'
      go_simp
      refine ⟨aO (by kernel_rfl) (.cons (dY B.out 73 rfl) (.cons (bM B.out 55 (v := .int .u16 pw.own) rfl) (.nil))), ?_⟩
      go_simp
      refine aD (i := 13) (v := .tuple #[.agg (bR nw).toArray, .int .i64 0]) rfl rfl (by kernel_rfl) (by kernel_rfl) (by kernel_rfl) (by kernel_rfl) (by kernel_rfl) (fun _ _ _ h => h) rfl (fun W => by go_simp) ?_
      go_simp
      refine aD (i := 14) (v := .agg (bR nw).toArray) rfl rfl (by kernel_rfl) (by kernel_rfl) (by kernel_rfl) (by kernel_rfl) (by kernel_rfl) (fun _ _ _ h => h) rfl (fun W => by go_simp) ?_
      go_simp
      refine aD (i := 15) (v := .int .i64 0) rfl rfl (by kernel_rfl) (by kernel_rfl) (by kernel_rfl) (by kernel_rfl) (by kernel_rfl) (fun _ _ _ h => h) rfl (fun W => by go_simp) ?_
      go_simp
      refine aI (i := 16) (by kernel_rfl) ?_
      refine aM rfl rfl ?_
      go_simp
      have X := aA (World.alloc_heap_new w13' (.cells (bR fZ).toArray 49))
      have zBx : b < w13'.heap.size := aH B.out
      have zQx : w11'.heap.size ≤ w13'.heap.size := Q.out.size
      have q15' : Below w13'.heap.size w13' (w13'.alloc (.cells (bR fZ).toArray 49)) := (Below.refl _ _).alloc (Nat.le_refl _) _
      replace B := aA (aB B.out q15')
      replace Q := aA (aC Q.out Q.out.size q15')
      clear q15'
      refine ⟨aO (by kernel_rfl) (.cons (dY B.out 73 rfl) (.cons (bM B.out 55 (v := .int .u16 pw.own) rfl) (.nil))), ?_⟩
      change bN _ _ _ _ _ _ _ _ _ (w13'.alloc (.cells (bR fZ).toArray 49))
      generalize w13'.alloc (.cells (bR fZ).toArray 49) = w14' at *
      generalize w13'.heap.size = x at *
      go_simp
      refine aI (i := 17) (by kernel_rfl) ?_
      refine aM rfl rfl ?_
      have Tw16' := aA (show World.there _ x 0 10 from aK (cs := bR fZ) X.out)
      refine bP 49 (.tmp 6) (.tmp 40) rfl x 0 (bR nw) (by rfl) (by rfl) (by exact Tw16'.out) (by kernel_rfl) (by simp [Value.oneCell', bR]) ?_
      intro w16' ew16'
      replace B := aA (show w16'.heap[b]? = some (.cells (({ wo with n := { wo.n with pn := pw } } : Wo).cs).toArray 145 (0, 0)) by rw [ew16']; exact aG (by omega) _ _ _ B.out)
      replace Q := aA (show Below w11'.heap.size w11' w16' by rw [ew16']; exact Q.out.trans (aE _ _ _ (by have := Q.out.size; omega)))
      replace X := aA (show w16'.heap[x]? = some (.cells (bR nw).toArray 49 (0, 0)) by rw [ew16']; exact aJ (bR nw) (xs := bR fZ) X.out rfl)
      clear ew16' Tw16'
      refine ⟨aN (by kernel_rfl) (by kernel_rfl), ?_⟩
      go_simp
      refine aI (i := 18) (by kernel_rfl) ?_
      refine aM rfl rfl ?_
      go_simp
      refine ⟨aN (by kernel_rfl) (by kernel_rfl), ?_⟩
      go_simp
      refine aS (by kernel_rfl) ?_ _
      go_wp2_with fail
      go_meet
      exact ⟨x, rfl, rfl, by omega, X, B, Q⟩
    · refine aM rfl rfl ?_
      go_simp
      have X := aA (World.alloc_heap_new w12' (.cells (bR fZ).toArray 49))
      have zBx : b < w12'.heap.size := aH B.out
      have zQx : w11'.heap.size ≤ w12'.heap.size := Q.out.size
      have q18' : Below w12'.heap.size w12' (w12'.alloc (.cells (bR fZ).toArray 49)) := (Below.refl _ _).alloc (Nat.le_refl _) _
      replace B := aA (aB B.out q18')
      replace Q := aA (aC Q.out Q.out.size q18')
      clear q18'
      refine ⟨aO (by kernel_rfl) (.cons (dY B.out 73 rfl) (.cons (bM B.out 55 (v := .int .u16 pw.own) rfl) (.nil))), ?_⟩
      change bN _ _ _ _ _ _ _ _ _ (w12'.alloc (.cells (bR fZ).toArray 49))
      generalize w12'.alloc (.cells (bR fZ).toArray 49) = w17' at *
      generalize w12'.heap.size = x at *
      go_simp
      refine aI (i := 12) (by kernel_rfl) ?_
      refine aM rfl rfl ?_
      go_simp
      (with_reducible refine (NWc.out w17').mono ?_)
      rintro ew19' w19' ⟨rfl, qw19'⟩
      replace B := aA (aB B.out qw19')
      replace X := aA (aB X.out qw19')
      replace Q := aA (aC Q.out Q.out.size qw19')
      clear qw19'
      go_simp
      refine ⟨aO (by kernel_rfl) (.cons (dY B.out 73 rfl) (.cons (bM B.out 55 (v := .int .u16 pw.own) rfl) (.nil))), ?_⟩
      go_simp
      refine aD (i := 13) (v := .tuple #[.agg (bR nw).toArray, .int .i64 0]) rfl rfl (by kernel_rfl) (by kernel_rfl) (by kernel_rfl) (by kernel_rfl) (by kernel_rfl) (fun _ _ _ h => h) rfl (fun W => by go_simp) ?_
      go_simp
      refine aD (i := 14) (v := .agg (bR nw).toArray) rfl rfl (by kernel_rfl) (by kernel_rfl) (by kernel_rfl) (by kernel_rfl) (by kernel_rfl) (fun _ _ _ h => h) rfl (fun W => by go_simp) ?_
      go_simp
      refine aD (i := 15) (v := .int .i64 0) rfl rfl (by kernel_rfl) (by kernel_rfl) (by kernel_rfl) (by kernel_rfl) (by kernel_rfl) (fun _ _ _ h => h) rfl (fun W => by go_simp) ?_
      go_simp
      refine aI (i := 17) (by kernel_rfl) ?_
      refine aM rfl rfl ?_
      have Tw20' := aA (show World.there _ x 0 10 from aK (cs := bR fZ) X.out)
      refine bP 49 (.tmp 6) (.tmp 40) rfl x 0 (bR nw) (by rfl) (by rfl) (by exact Tw20'.out) (by kernel_rfl) (by simp [Value.oneCell', bR]) ?_
      intro w20' ew20'
      replace B := aA (show w20'.heap[b]? = some (.cells (({ wo with n := { wo.n with pn := pw } } : Wo).cs).toArray 145 (0, 0)) by rw [ew20']; exact aG (by omega) _ _ _ B.out)
      replace Q := aA (show Below w11'.heap.size w11' w20' by rw [ew20']; exact Q.out.trans (aE _ _ _ (by have := Q.out.size; omega)))
      replace X := aA (show w20'.heap[x]? = some (.cells (bR nw).toArray 49 (0, 0)) by rw [ew20']; exact aJ (bR nw) (xs := bR fZ) X.out rfl)
      clear ew20' Tw20'
      refine ⟨aN (by kernel_rfl) (by kernel_rfl), ?_⟩
      go_simp
      refine aI (i := 18) (by kernel_rfl) ?_
      refine aM rfl rfl ?_
      go_simp
      refine ⟨aN (by kernel_rfl) (by kernel_rfl), ?_⟩
      go_simp
      refine aS (by kernel_rfl) ?_ _
      go_wp2_with fail
      go_meet
      exact ⟨x, rfl, rfl, by omega, X, B, Q⟩
  case rest =>
  clear B Q NWc
  obtain ⟨x2, rfl, rfl, zx2, X, B, Q⟩ := hcut
  go_upto_region 3 with fail
  refine bB [0, 1, 2, 3, 4, 5, 6] [(5, fun W => W.heap[x2]? = some (.cells (bR nw).toArray 49 (0, 0)))] (by kernel_rfl) ?_
  replace B := aA (show wc.drew.heap[b]? = some (.cells (({ wo with n := { wo.n with pn := pw } } : Wo).cs).toArray 145 (0, 0)) from B.out)
  replace X := aA (show wc.drew.heap[x2]? = some (.cells (bR nw).toArray 49 (0, 0)) from X.out)
  replace Q := aA (show Below w11'.heap.size w11' wc.drew from Q.out.drew)
  generalize wc.drew = w21' at *
  refine aD (i := 0) (v := .pointer (some ⟨b, 0, none⟩)) rfl rfl (by kernel_rfl) (by kernel_rfl) (by kernel_rfl) (by kernel_rfl) (by kernel_rfl) (fun _ _ _ h => h) rfl (fun W => by go_simp) ?_
  go_simp
  refine aD (i := 1) (v := .pointer (some ⟨b, 0, none⟩)) rfl rfl (by kernel_rfl) (by kernel_rfl) (by kernel_rfl) (by kernel_rfl) (by kernel_rfl) (fun _ _ _ h => h) rfl (fun W => by go_simp) ?_
  go_simp
  refine aD (i := 2) (v := .pointer (some ⟨b, 0, none⟩)) rfl rfl (by kernel_rfl) (by kernel_rfl) (by kernel_rfl) (by kernel_rfl) (by kernel_rfl) (fun _ _ _ h => h) rfl (fun W => by go_simp) ?_
  go_simp
  refine aD (i := 3) (v := .pointer (some ⟨b, 0, none⟩)) rfl rfl (by kernel_rfl) (by kernel_rfl) (by kernel_rfl) (by kernel_rfl) (by kernel_rfl) (fun _ _ _ h => h) rfl (fun W => by go_simp) ?_
  go_simp
  refine aD (i := 4) (v := .pointer (some ⟨b, 73, none⟩)) rfl rfl (by kernel_rfl) (by kernel_rfl) (by kernel_rfl) (by kernel_rfl) (by kernel_rfl) (fun _ _ _ h => h) rfl (fun W => by go_simp) ?_
  go_simp
  refine aQ (i := 5) (v := .agg (bR nw).toArray) rfl rfl (by kernel_rfl) (by kernel_rfl) (by kernel_rfl) (by kernel_rfl) (by kernel_rfl) (fun _ _ _ h => h) rfl (fun W h => bZ W x2 49 (bR nw) _ h Tryz.underlying49 rfl (by kernel_rfl) _ _ (.tmp 6) (by rfl) (by rfl)) (X.out) ?_
  go_simp
  refine aD (i := 6) (v := .int .i64 0) rfl rfl (by kernel_rfl) (by kernel_rfl) (by kernel_rfl) (by kernel_rfl) (by kernel_rfl) (fun _ _ _ h => h) rfl (fun W => by go_simp) ?_
  go_simp
  refine aI (i := 7) (by kernel_rfl) ?_
  refine aM rfl rfl ?_
  go_simp
  replace K := aA (K.out.trans (Kp.of Q.out))
  (with_reducible refine (ndSet_nm ({ wo with n := { wo.n with pn := pw } } : Wo) HBAD.out nw b w21' B.out).mono ?_)
  rintro ew22' w22' ⟨rfl, bw22', kw22'⟩
  replace B := aA bw22'
  replace K := aA (K.out.trans kw22')
  clear Q bw22' kw22' X
  have Q := aA (Below.refl w22'.heap.size w22')
  go_simp
  refine ⟨aN (by kernel_rfl) (by kernel_rfl), ?_⟩
  go_simp
  refine aS (by kernel_rfl) ?_ _
  go_wp2_with fail
  go_end0
  exact ⟨rfl, B.out, K.out⟩
end Go.Proofs.YtkmddjbialpppaaGreatDoor
