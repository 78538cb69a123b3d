import Derived.Test.YtkmddjbialpppaaGreatDoorMgNdC
namespace Go.Proofs.YtkmddjbialpppaaGreatDoor
open Go.ChangeShapes Go.WideShapes Go.ChangeAt Go.RowKit
open CM PD SG ND
theorem pdly {W : World} {b off : Nat} {p : Pd} (h : W.rangeAt b off p.cs) : W.rangeAt b (off + 3) p.ly.cs := fun j v hj => by
  have h3 : j < 3 := by
    rcases Nat.lt_or_ge j 3 with h3 | h3
    · exact h3
    · rw [List.getElem?_eq_none (by simpa [Lv.cs] using h3)] at hj; cases hj
  have := h (3 + j) v (by rw [← hj]; rcases j with _ | _ | _ | j <;> first | rfl | omega)
  rwa [Nat.add_assoc]
set_option maxRecDepth 100000 in
set_option maxHeartbeats 16000000 in
theorem ndRight1_ok (o : Ou) (c : Cf) (cb ob : Nat) (SA : Option Addr) (sc : Nat) (S : List Nat) (i : Nat) (W : World) (ho : o.Ok W) (hr : o.right = true) (hc : c.Ok W) (hC : W.heap[cb]? = some (.cells c.cs.toArray 25 (0, 0))) (hS : W.heap[ob]? = some (.cells #[.slice SA S.length sc] 61 (0, 0))) (hR : NR W W.heap.size SA S) (hi : i < S.length) (hk : S[i] < c.l.length) (hL : (c.l[S[i]]).ly.L = o.ly.L) :
    Calls Tryz.prog 38 #[.int .i64 i, .agg o.cs.toArray, .pointer (some ⟨cb, 0, none⟩), .pointer (some ⟨ob, 0, none⟩)] W fun e w' => e = .returned (.bool true) ∧ Below W.heap.size W w' := by
  obtain ⟨sb, so, rfl, hsb, c0⟩ := NR.at_ hR hi
  have hii : (i : Int) < (S.length : Int) := by omega
  generalize S[i] = k at *
  have hki : (k : Int) < (c.l.length : Int) := by omega
  obtain ⟨pb, po, hca, hpb, rg⟩ := PdR.at_ hc.r hk
  have hp := (hc.p _ (List.getElem_mem hk)).ly
  generalize c.l[k] = p at *
  have hpl := hc.n
  obtain ⟨w0, hw0⟩ : ∃ w0, w0 = W.alloc (.cells o.cs.toArray 77) := ⟨_, rfl⟩
  have B := aA (World.alloc_heap_new W (.cells o.cs.toArray 77))
  have Q : Hid (Below W.heap.size W w0) := by rw [hw0]; exact aA ((Below.refl W.heap.size W).alloc (Nat.le_refl _) _)
  rw [← hw0] at B
  have C := aA (aB hC Q.out)
  have S1 := aA (aB hS Q.out)
  replace c0 := aA (aT Q.out hsb c0)
  have hsb0 := aA (show sb < w0.heap.size from Nat.lt_of_lt_of_le hsb Q.out.size)
  have RG := aA (show w0.rangeAt pb (po + k * 22) p.cs from fun j v hj => aT Q.out hpb (rg j v hj))
  have hpb0 := aA (show pb < w0.heap.size from Nat.lt_of_lt_of_le hpb Q.out.size)
  have RT := aA (fun W1 (q : Below W.heap.size W W1) => rightOut_l o W1 (ho.next q) hr)
  have SM := aA (fun W1 (q : Below W.heap.size W W1) => show Calls Tryz.prog 39 #[.agg o.ly.cs.toArray, .agg p.ly.cs.toArray] W1 fun e w' => e = .returned (.bool true) ∧ Below W1.heap.size W1 w' from by
    have h1 := ho.ly.next q
    have h2 := hp.next q
    generalize o.ly = a at *
    generalize p.ly = b at *
    obtain ⟨L1, x1, x2, x3, x4⟩ := a
    obtain ⟨L2, y1, y2, y3, y4⟩ := b
    dsimp only at hL
    subst hL
    exact ndSame_ok L2 x1 x2 x3 x4 y1 y2 y3 y4 W1 h1 h2)
  clear rg hS hC hR hc hp ho hr hL hsb hpb
  go_enter Tryz.func38, Tryz.ntmps38
  go_upto_region 1 with fail
  change Code.wp _ _ _ _ (W.alloc (.cells o.cs.toArray 77))
  rw [← hw0]
  clear hw0
  refine bB [0, 2, 3, 4, 5, 6, 7, 8, 9, 10, 11, 12, 13, 15] [(0, fun W' => W'.rangeAt W.heap.size 0 o.cs), (4, fun W' => W'.rangeAt W.heap.size 0 o.ly.cs), (6, fun W' => W'.cell? ⟨cb, 1, none⟩ = some (.slice (some ⟨pb, po, none⟩) c.l.length c.c)), (7, fun W' => W'.cell? ⟨ob, 0, none⟩ = some (.slice (some ⟨sb, so, none⟩) S.length sc)), (10, fun W' => W'.cell? ⟨sb, so + i, none⟩ = some (.int .i64 k)), (13, fun W' => W'.rangeAt pb (po + k * 22 + 3) p.ly.cs)] (by kernel_rfl) ?_
  replace B := aA (show w0.drew.heap[W.heap.size]? = some (.cells o.cs.toArray 77 (0, 0)) from B.out)
  replace C := aA (show w0.drew.heap[cb]? = some (.cells c.cs.toArray 25 (0, 0)) from C.out)
  replace S1 := aA (show w0.drew.heap[ob]? = some (.cells (([.slice (some ⟨sb, so, none⟩) S.length sc] : List Value)).toArray 61 (0, 0)) from S1.out)
  replace c0 := aA (show w0.drew.cell? ⟨sb, so + i, none⟩ = some (.int .i64 k) from c0.out)
  replace RG := aA (show w0.drew.rangeAt pb (po + k * 22) p.cs from RG.out)
  replace hsb0 := aA (show sb < w0.drew.heap.size from hsb0.out)
  replace hpb0 := aA (show pb < w0.drew.heap.size from hpb0.out)
  replace Q := aA (show Below W.heap.size W w0.drew from Q.out.drew)
  generalize w0.drew = w1' at *
  refine aQ (i := 0) (v := .agg o.cs.toArray) rfl rfl (by kernel_rfl) (by kernel_rfl) (by kernel_rfl) (by kernel_rfl) (by kernel_rfl) (fun _ _ _ h => h) rfl (fun W' h => bQ W' W.heap.size (0) 77 o.cs _ h Tryz.underlying77 rfl (by kernel_rfl) _ _ (.tmp 5) (by rfl) (by rfl)) (aL B.out 0 rfl) ?_
  go_simp
  refine aI (i := 1) (by kernel_rfl) ?_
  refine aM rfl rfl ?_
  go_simp
  (with_reducible refine (RT.out w1' Q.out).mono ?_)
  rintro ew2' w2' ⟨rfl, qw2'⟩
  replace B := aA (aB B.out qw2')
  replace C := aA (aB C.out qw2')
  replace S1 := aA (aB S1.out qw2')
  replace c0 := aA (aT qw2' hsb0.out c0.out)
  replace RG := aA (show w2'.rangeAt pb (po + k * 22) p.cs from fun j v hj => aT qw2' hpb0.out (RG.out j v hj))
  replace hsb0 := aA (Nat.lt_of_lt_of_le hsb0.out qw2'.size)
  replace hpb0 := aA (Nat.lt_of_lt_of_le hpb0.out qw2'.size)
  replace Q := aA (aC Q.out Q.out.size qw2')
  clear qw2' RT
  go_simp
  refine ⟨aO (by kernel_rfl) (.cons (aL B.out 0 rfl) (.cons (aL B.out 0 rfl) (.cons ((by rw [← hca]; exact (bL C.out).2.1)) (.cons ((bE S1.out).1) (.cons (c0.out) (.cons (pdly RG.out) .nil)))))), ?_⟩
  go_simp
  refine aD (i := 2) (v := .bool true) rfl rfl (by kernel_rfl) (by kernel_rfl) (by kernel_rfl) (by kernel_rfl) (by kernel_rfl) (fun _ _ _ h => h) rfl (fun W => by go_simp) ?_
  go_simp
  refine aR (i := 3) (v := .pointer (some ⟨W.heap.size, 0, none⟩)) rfl rfl (by kernel_rfl) (by kernel_rfl) (by kernel_rfl) (by kernel_rfl) (by kernel_rfl) (fun _ _ _ h => h) (by kernel_rfl) (fun W => by go_simp) ?_
  go_simp
  refine bC (i := 4) (v := .agg o.ly.cs.toArray) rfl rfl (by kernel_rfl) (by kernel_rfl) (by kernel_rfl) (by kernel_rfl) (by kernel_rfl) (fun _ _ _ h => h) (by kernel_rfl) (fun W' h => bQ W' W.heap.size (0) 66 o.ly.cs _ h Tryz.underlying66 rfl (by kernel_rfl) _ _ (.tmp 10) (by rfl) (by rfl)) (aL B.out 0 rfl) ?_
  go_simp
  refine aR (i := 5) (v := .pointer (some ⟨cb, 1, none⟩)) rfl rfl (by kernel_rfl) (by kernel_rfl) (by kernel_rfl) (by kernel_rfl) (by kernel_rfl) (fun _ _ _ h => h) (by kernel_rfl) (fun W => by go_simp) ?_
  go_simp
  refine bC (i := 6) (v := .slice (some ⟨pb, po, none⟩) c.l.length c.c) rfl rfl (by kernel_rfl) (by kernel_rfl) (by kernel_rfl) (by kernel_rfl) (by kernel_rfl) (fun _ _ _ h => h) (by kernel_rfl) (fun W' h => by go_simp) ((by rw [← hca]; exact (bL C.out).2.1)) ?_
  go_simp
  refine bC (i := 7) (v := .slice (some ⟨sb, so, none⟩) S.length sc) rfl rfl (by kernel_rfl) (by kernel_rfl) (by kernel_rfl) (by kernel_rfl) (by kernel_rfl) (fun _ _ _ h => h) (by kernel_rfl) (fun W' h => by go_simp) ((bE S1.out).1) ?_
  go_simp
  refine aR (i := 8) (v := .int .i64 i) rfl rfl (by kernel_rfl) (by kernel_rfl) (by kernel_rfl) (by kernel_rfl) (by kernel_rfl) (fun _ _ _ h => h) (by kernel_rfl) (fun W => by go_simp) ?_
  go_simp
  refine aR (i := 9) (v := .pointer (some ⟨sb, so + i, none⟩)) rfl rfl (by kernel_rfl) (by kernel_rfl) (by kernel_rfl) (by kernel_rfl) (by kernel_rfl) (fun _ _ _ h => h) (by kernel_rfl) (fun W => by go_simp) ?_
  go_simp
  refine bC (i := 10) (v := .int .i64 k) rfl rfl (by kernel_rfl) (by kernel_rfl) (by kernel_rfl) (by kernel_rfl) (by kernel_rfl) (fun _ _ _ h => h) (by kernel_rfl) (fun W' h => by go_simp) (c0.out) ?_
  go_simp
  refine aR (i := 11) (v := .pointer (some ⟨pb, po + k * 22, none⟩)) rfl rfl (by kernel_rfl) (by kernel_rfl) (by kernel_rfl) (by kernel_rfl) (by kernel_rfl) (fun _ _ _ h => h) (by kernel_rfl) (fun W => by go_simp) ?_
  go_simp
  refine aR (i := 12) (v := .pointer (some ⟨pb, po + k * 22 + 3, none⟩)) rfl rfl (by kernel_rfl) (by kernel_rfl) (by kernel_rfl) (by kernel_rfl) (by kernel_rfl) (fun _ _ _ h => h) (by kernel_rfl) (fun W => by go_simp) ?_
  go_simp
  refine bC (i := 13) (v := .agg p.ly.cs.toArray) rfl rfl (by kernel_rfl) (by kernel_rfl) (by kernel_rfl) (by kernel_rfl) (by kernel_rfl) (fun _ _ _ h => h) (by kernel_rfl) (fun W' h => bQ W' pb (po + k * 22 + 3) 66 p.ly.cs _ h Tryz.underlying66 rfl (by kernel_rfl) _ _ (.tmp 19) (by rfl) (by rfl)) (pdly RG.out) ?_
  go_simp
  refine aI (i := 14) (by kernel_rfl) ?_
  refine dL rfl (by kernel_rfl) ?_
  go_simp
  (with_reducible refine (SM.out w2' Q.out).mono ?_)
  rintro ew3' w3' ⟨rfl, qw3'⟩
  replace B := aA (aB B.out qw3')
  replace C := aA (aB C.out qw3')
  replace S1 := aA (aB S1.out qw3')
  replace c0 := aA (aT qw3' hsb0.out c0.out)
  replace RG := aA (show w3'.rangeAt pb (po + k * 22) p.cs from fun j v hj => aT qw3' hpb0.out (RG.out j v hj))
  replace hsb0 := aA (Nat.lt_of_lt_of_le hsb0.out qw3'.size)
  replace hpb0 := aA (Nat.lt_of_lt_of_le hpb0.out qw3'.size)
  replace Q := aA (aC Q.out Q.out.size qw3')
  clear qw3' SM
  go_simp
  refine ⟨aO (by kernel_rfl) (.cons (aL B.out 0 rfl) (.cons (aL B.out 0 rfl) (.cons ((by rw [← hca]; exact (bL C.out).2.1)) (.cons ((bE S1.out).1) (.cons (c0.out) (.cons (pdly RG.out) .nil)))))), ?_⟩
  go_simp
  refine aD (i := 15) (v := .bool true) rfl rfl (by kernel_rfl) (by kernel_rfl) (by kernel_rfl) (by kernel_rfl) (by kernel_rfl) (fun _ _ _ h => h) rfl (fun W => by go_simp) ?_
  go_simp
  refine aI (i := 16) (by kernel_rfl) ?_
  refine aM rfl rfl ?_
  go_simp
  refine ⟨aN (by kernel_rfl) (by kernel_rfl), ?_⟩
  go_simp
  refine aS (by kernel_rfl) ?_ _
  go_wp2_with fail
  go_ret
  exact ⟨rfl, Q.out⟩
set_option maxRecDepth 100000 in
set_option maxHeartbeats 16000000 in
theorem ndRight2_ok (o : Inn) (c : Cf) (cb ob : Nat) (SA : Option Addr) (sc : Nat) (S : List Nat) (i : Nat) (W : World) (ho : o.Ok W) (hr : o.right = true) (hc : c.Ok W) (hC : W.heap[cb]? = some (.cells c.cs.toArray 25 (0, 0))) (hS : W.heap[ob]? = some (.cells #[.slice SA S.length sc] 61 (0, 0))) (hR : NR W W.heap.size SA S) (hi : i < S.length) (hk : S[i] < c.l.length) (hL : (c.l[S[i]]).ly.L = o.ly.L) (n : Nd) (nb : Nat) (hN : W.heap[nb]? = some (.cells n.cs.toArray 53 (0, 0))) (hon : o.w.on = n.up) :
    Calls Tryz.prog 41 #[.int .i64 i, .agg o.cs.toArray, .pointer (some ⟨cb, 0, none⟩), .pointer (some ⟨ob, 0, none⟩), .pointer (some ⟨nb, 0, none⟩)] W fun e w' => e = .returned (.bool true) ∧ Below W.heap.size W w' := by
  obtain ⟨sb, so, rfl, hsb, c0⟩ := NR.at_ hR hi
  have hii : (i : Int) < (S.length : Int) := by omega
  generalize S[i] = k at *
  have hki : (k : Int) < (c.l.length : Int) := by omega
  obtain ⟨pb, po, hca, hpb, rg⟩ := PdR.at_ hc.r hk
  have hp := (hc.p _ (List.getElem_mem hk)).ly
  generalize c.l[k] = p at *
  have hpl := hc.n
  have HON := aA hon
  clear hon
  obtain ⟨w0, hw0⟩ : ∃ w0, w0 = W.alloc (.cells o.cs.toArray 102) := ⟨_, rfl⟩
  have B := aA (World.alloc_heap_new W (.cells o.cs.toArray 102))
  have Q : Hid (Below W.heap.size W w0) := by rw [hw0]; exact aA ((Below.refl W.heap.size W).alloc (Nat.le_refl _) _)
  rw [← hw0] at B
  have C := aA (aB hC Q.out)
  have S1 := aA (aB hS Q.out)
  have N := aA (aB hN Q.out)
  have UP := aA (fun W => eR n W)
  replace c0 := aA (aT Q.out hsb c0)
  have hsb0 := aA (show sb < w0.heap.size from Nat.lt_of_lt_of_le hsb Q.out.size)
  have RG := aA (show w0.rangeAt pb (po + k * 22) p.cs from fun j v hj => aT Q.out hpb (rg j v hj))
  have hpb0 := aA (show pb < w0.heap.size from Nat.lt_of_lt_of_le hpb Q.out.size)
  have RT := aA (fun W1 (q : Below W.heap.size W W1) => rightIn_l o W1 (ho.next q) hr)
  have SM := aA (fun W1 (q : Below W.heap.size W W1) => show Calls Tryz.prog 39 #[.agg o.ly.cs.toArray, .agg p.ly.cs.toArray] W1 fun e w' => e = .returned (.bool true) ∧ Below W1.heap.size W1 w' from by
    have h1 := ho.ly.next q
    have h2 := hp.next q
    generalize o.ly = a at *
    generalize p.ly = b at *
    obtain ⟨L1, x1, x2, x3, x4⟩ := a
    obtain ⟨L2, y1, y2, y3, y4⟩ := b
    dsimp only at hL
    subst hL
    exact ndSame_ok L2 x1 x2 x3 x4 y1 y2 y3 y4 W1 h1 h2)
  clear rg hS hC hR hc hp ho hr hL hsb hpb hN
  go_enter Tryz.func41, Tryz.ntmps41
  go_upto_region 1 with fail
  change Code.wp _ _ _ _ (W.alloc (.cells o.cs.toArray 102))
  rw [← hw0]
  clear hw0
  refine bB [0, 2, 3, 4, 5, 6, 7, 8, 9, 10, 11, 12, 13, 15, 16, 17, 18, 19, 20, 22, 23] [(0, fun W' => W'.rangeAt W.heap.size 0 o.cs), (4, fun W' => W'.rangeAt W.heap.size 0 o.ly.cs), (6, fun W' => W'.cell? ⟨cb, 1, none⟩ = some (.slice (some ⟨pb, po, none⟩) c.l.length c.c)), (7, fun W' => W'.cell? ⟨ob, 0, none⟩ = some (.slice (some ⟨sb, so, none⟩) S.length sc)), (10, fun W' => W'.cell? ⟨sb, so + i, none⟩ = some (.int .i64 k)), (13, fun W' => W'.rangeAt pb (po + k * 22 + 3) p.ly.cs), (19, fun W' => W'.cell? ⟨W.heap.size, 11, none⟩ = some (.bool o.w.on)), (20, fun W' => W'.rangeAt nb 0 n.cs)] (by kernel_rfl) ?_
  replace B := aA (show w0.drew.heap[W.heap.size]? = some (.cells o.cs.toArray 102 (0, 0)) from B.out)
  replace C := aA (show w0.drew.heap[cb]? = some (.cells c.cs.toArray 25 (0, 0)) from C.out)
  replace S1 := aA (show w0.drew.heap[ob]? = some (.cells (([.slice (some ⟨sb, so, none⟩) S.length sc] : List Value)).toArray 61 (0, 0)) from S1.out)
  replace N := aA (show w0.drew.heap[nb]? = some (.cells n.cs.toArray 53 (0, 0)) from N.out)
  replace c0 := aA (show w0.drew.cell? ⟨sb, so + i, none⟩ = some (.int .i64 k) from c0.out)
  replace RG := aA (show w0.drew.rangeAt pb (po + k * 22) p.cs from RG.out)
  replace hsb0 := aA (show sb < w0.drew.heap.size from hsb0.out)
  replace hpb0 := aA (show pb < w0.drew.heap.size from hpb0.out)
  replace Q := aA (show Below W.heap.size W w0.drew from Q.out.drew)
  generalize w0.drew = w1' at *
  refine aQ (i := 0) (v := .agg o.cs.toArray) rfl rfl (by kernel_rfl) (by kernel_rfl) (by kernel_rfl) (by kernel_rfl) (by kernel_rfl) (fun _ _ _ h => h) rfl (fun W' h => bQ W' W.heap.size (0) 102 o.cs _ h Tryz.underlying102 rfl (by kernel_rfl) _ _ (.tmp 6) (by rfl) (by rfl)) (aL B.out 0 rfl) ?_
  go_simp
  refine aI (i := 1) (by kernel_rfl) ?_
  refine aM rfl rfl ?_
  go_simp
  (with_reducible refine (RT.out w1' Q.out).mono ?_)
  rintro ew2' w2' ⟨rfl, qw2'⟩
  replace B := aA (aB B.out qw2')
  replace C := aA (aB C.out qw2')
  replace S1 := aA (aB S1.out qw2')
  replace N := aA (aB N.out qw2')
  replace c0 := aA (aT qw2' hsb0.out c0.out)
  replace RG := aA (show w2'.rangeAt pb (po + k * 22) p.cs from fun j v hj => aT qw2' hpb0.out (RG.out j v hj))
  replace hsb0 := aA (Nat.lt_of_lt_of_le hsb0.out qw2'.size)
  replace hpb0 := aA (Nat.lt_of_lt_of_le hpb0.out qw2'.size)
  replace Q := aA (aC Q.out Q.out.size qw2')
  clear qw2' RT
  go_simp
  refine ⟨aO (by kernel_rfl) (.cons (aL B.out 0 rfl) (.cons (aL B.out 0 rfl) (.cons ((by rw [← hca]; exact (bL C.out).2.1)) (.cons ((bE S1.out).1) (.cons (c0.out) (.cons (pdly RG.out) (.cons ((by simp [World.cell?, B.out, Inn.cs])) (.cons (aL N.out 0 rfl) .nil)))))))), ?_⟩
  go_simp
  refine aD (i := 2) (v := .bool true) rfl rfl (by kernel_rfl) (by kernel_rfl) (by kernel_rfl) (by kernel_rfl) (by kernel_rfl) (fun _ _ _ h => h) rfl (fun W => by go_simp) ?_
  go_simp
  refine aR (i := 3) (v := .pointer (some ⟨W.heap.size, 0, none⟩)) rfl rfl (by kernel_rfl) (by kernel_rfl) (by kernel_rfl) (by kernel_rfl) (by kernel_rfl) (fun _ _ _ h => h) (by kernel_rfl) (fun W => by go_simp) ?_
  go_simp
  refine bC (i := 4) (v := .agg o.ly.cs.toArray) rfl rfl (by kernel_rfl) (by kernel_rfl) (by kernel_rfl) (by kernel_rfl) (by kernel_rfl) (fun _ _ _ h => h) (by kernel_rfl) (fun W' h => bQ W' W.heap.size (0) 66 o.ly.cs _ h Tryz.underlying66 rfl (by kernel_rfl) _ _ (.tmp 11) (by rfl) (by rfl)) (aL B.out 0 rfl) ?_
  go_simp
  refine aR (i := 5) (v := .pointer (some ⟨cb, 1, none⟩)) rfl rfl (by kernel_rfl) (by kernel_rfl) (by kernel_rfl) (by kernel_rfl) (by kernel_rfl) (fun _ _ _ h => h) (by kernel_rfl) (fun W => by go_simp) ?_
  go_simp
  refine bC (i := 6) (v := .slice (some ⟨pb, po, none⟩) c.l.length c.c) rfl rfl (by kernel_rfl) (by kernel_rfl) (by kernel_rfl) (by kernel_rfl) (by kernel_rfl) (fun _ _ _ h => h) (by kernel_rfl) (fun W' h => by go_simp) ((by rw [← hca]; exact (bL C.out).2.1)) ?_
  go_simp
  refine bC (i := 7) (v := .slice (some ⟨sb, so, none⟩) S.length sc) rfl rfl (by kernel_rfl) (by kernel_rfl) (by kernel_rfl) (by kernel_rfl) (by kernel_rfl) (fun _ _ _ h => h) (by kernel_rfl) (fun W' h => by go_simp) ((bE S1.out).1) ?_
  go_simp
  refine aR (i := 8) (v := .int .i64 i) rfl rfl (by kernel_rfl) (by kernel_rfl) (by kernel_rfl) (by kernel_rfl) (by kernel_rfl) (fun _ _ _ h => h) (by kernel_rfl) (fun W => by go_simp) ?_
  go_simp
  refine aR (i := 9) (v := .pointer (some ⟨sb, so + i, none⟩)) rfl rfl (by kernel_rfl) (by kernel_rfl) (by kernel_rfl) (by kernel_rfl) (by kernel_rfl) (fun _ _ _ h => h) (by kernel_rfl) (fun W => by go_simp) ?_
  go_simp
  refine bC (i := 10) (v := .int .i64 k) rfl rfl (by kernel_rfl) (by kernel_rfl) (by kernel_rfl) (by kernel_rfl) (by kernel_rfl) (fun _ _ _ h => h) (by kernel_rfl) (fun W' h => by go_simp) (c0.out) ?_
  go_simp
  refine aR (i := 11) (v := .pointer (some ⟨pb, po + k * 22, none⟩)) rfl rfl (by kernel_rfl) (by kernel_rfl) (by kernel_rfl) (by kernel_rfl) (by kernel_rfl) (fun _ _ _ h => h) (by kernel_rfl) (fun W => by go_simp) ?_
  go_simp
  refine aR (i := 12) (v := .pointer (some ⟨pb, po + k * 22 + 3, none⟩)) rfl rfl (by kernel_rfl) (by kernel_rfl) (by kernel_rfl) (by kernel_rfl) (by kernel_rfl) (fun _ _ _ h => h) (by kernel_rfl) (fun W => by go_simp) ?_
  go_simp
  refine bC (i := 13) (v := .agg p.ly.cs.toArray) rfl rfl (by kernel_rfl) (by kernel_rfl) (by kernel_rfl) (by kernel_rfl) (by kernel_rfl) (fun _ _ _ h => h) (by kernel_rfl) (fun W' h => bQ W' pb (po + k * 22 + 3) 66 p.ly.cs _ h Tryz.underlying66 rfl (by kernel_rfl) _ _ (.tmp 20) (by rfl) (by rfl)) (pdly RG.out) ?_
  go_simp
  refine aI (i := 14) (by kernel_rfl) ?_
  refine dL rfl (by kernel_rfl) ?_
  go_simp
  (with_reducible refine (SM.out w2' Q.out).mono ?_)
  rintro ew3' w3' ⟨rfl, qw3'⟩
  replace B := aA (aB B.out qw3')
  replace C := aA (aB C.out qw3')
  replace S1 := aA (aB S1.out qw3')
  replace N := aA (aB N.out qw3')
  replace c0 := aA (aT qw3' hsb0.out c0.out)
  replace RG := aA (show w3'.rangeAt pb (po + k * 22) p.cs from fun j v hj => aT qw3' hpb0.out (RG.out j v hj))
  replace hsb0 := aA (Nat.lt_of_lt_of_le hsb0.out qw3'.size)
  replace hpb0 := aA (Nat.lt_of_lt_of_le hpb0.out qw3'.size)
  replace Q := aA (aC Q.out Q.out.size qw3')
  clear qw3' SM
  go_simp
  refine ⟨aO (by kernel_rfl) (.cons (aL B.out 0 rfl) (.cons (aL B.out 0 rfl) (.cons ((by rw [← hca]; exact (bL C.out).2.1)) (.cons ((bE S1.out).1) (.cons (c0.out) (.cons (pdly RG.out) (.cons ((by simp [World.cell?, B.out, Inn.cs])) (.cons (aL N.out 0 rfl) .nil)))))))), ?_⟩
  go_simp
  refine aD (i := 15) (v := .bool true) rfl rfl (by kernel_rfl) (by kernel_rfl) (by kernel_rfl) (by kernel_rfl) (by kernel_rfl) (fun _ _ _ h => h) rfl (fun W => by go_simp) ?_
  go_simp
  refine aD (i := 16) (v := .bool true) rfl rfl (by kernel_rfl) (by kernel_rfl) (by kernel_rfl) (by kernel_rfl) (by kernel_rfl) (fun _ _ _ h => h) rfl (fun W => by go_simp) ?_
  go_simp
  refine aR (i := 17) (v := .pointer (some ⟨W.heap.size, 8, none⟩)) rfl rfl (by kernel_rfl) (by kernel_rfl) (by kernel_rfl) (by kernel_rfl) (by kernel_rfl) (fun _ _ _ h => h) (by kernel_rfl) (fun W => by go_simp) ?_
  go_simp
  refine aR (i := 18) (v := .pointer (some ⟨W.heap.size, 11, none⟩)) rfl rfl (by kernel_rfl) (by kernel_rfl) (by kernel_rfl) (by kernel_rfl) (by kernel_rfl) (fun _ _ _ h => h) (by kernel_rfl) (fun W => by go_simp) ?_
  go_simp
  refine bC (i := 19) (v := .bool o.w.on) rfl rfl (by kernel_rfl) (by kernel_rfl) (by kernel_rfl) (by kernel_rfl) (by kernel_rfl) (fun _ _ _ h => h) (by kernel_rfl) (fun W' h => by go_simp) ((by simp [World.cell?, B.out, Inn.cs])) ?_
  go_simp
  refine bC (i := 20) (v := .agg n.cs.toArray) rfl rfl (by kernel_rfl) (by kernel_rfl) (by kernel_rfl) (by kernel_rfl) (by kernel_rfl) (fun _ _ _ h => h) (by kernel_rfl) (fun W' h => bQ W' nb (0) 53 n.cs _ h Tryz.underlying53 rfl (by kernel_rfl) _ _ (.tmp 4) (by rfl) (by rfl)) (aL N.out 0 rfl) ?_
  go_simp
  refine aI (i := 21) (by kernel_rfl) ?_
  refine dL rfl (by kernel_rfl) ?_
  go_simp
  (with_reducible refine (UP.out w3').mono ?_)
  rintro ew4' w4' ⟨rfl, qw4'⟩
  replace B := aA (aB B.out qw4')
  replace C := aA (aB C.out qw4')
  replace S1 := aA (aB S1.out qw4')
  replace N := aA (aB N.out qw4')
  replace c0 := aA (aT qw4' hsb0.out c0.out)
  replace RG := aA (show w4'.rangeAt pb (po + k * 22) p.cs from fun j v hj => aT qw4' hpb0.out (RG.out j v hj))
  replace hsb0 := aA (Nat.lt_of_lt_of_le hsb0.out qw4'.size)
  replace hpb0 := aA (Nat.lt_of_lt_of_le hpb0.out qw4'.size)
  replace Q := aA (aC Q.out Q.out.size qw4')
  clear qw4' UP
  go_simp
  refine ⟨aO (by kernel_rfl) (.cons (aL B.out 0 rfl) (.cons (aL B.out 0 rfl) (.cons ((by rw [← hca]; exact (bL C.out).2.1)) (.cons ((bE S1.out).1) (.cons (c0.out) (.cons (pdly RG.out) (.cons ((by simp [World.cell?, B.out, Inn.cs])) (.cons (aL N.out 0 rfl) .nil)))))))), ?_⟩
  go_simp
  have heq : (o.w.on == n.up) = true := by rw [HON.out]; simp
  clear HON
  refine aR (i := 22) (v := .bool true) rfl rfl (by kernel_rfl) (by kernel_rfl) (by kernel_rfl) (by kernel_rfl) (by kernel_rfl) (fun _ _ _ h => h) (by kernel_rfl) (fun W => by go_simp) ?_
  go_simp
  refine aD (i := 23) (v := .bool true) rfl rfl (by kernel_rfl) (by kernel_rfl) (by kernel_rfl) (by kernel_rfl) (by kernel_rfl) (fun _ _ _ h => h) rfl (fun W => by go_simp) ?_
  go_simp
  refine aI (i := 24) (by kernel_rfl) ?_
  refine aM rfl rfl ?_
  go_simp
  refine ⟨aN (by kernel_rfl) (by kernel_rfl), ?_⟩
  go_simp
  refine aS (by kernel_rfl) ?_ _
  go_wp2_with fail
  go_ret
  exact ⟨rfl, Q.out⟩
end Go.Proofs.YtkmddjbialpppaaGreatDoor
