import Derived.Test.YtkmddjbialpppaaGreatDoorMgNdG
import Derived.Test.YtkmddjbialpppaaGreatDoorSmC
import Derived.Test.YtkmddjbialpppaaGreatDoorMgCoJ
import Derived.Test.YtkmddjbialpppaaGreatDoorMgCsD
import Derived.Test.YtkmddjbialpppaaGreatDoorNdF
namespace Go.Proofs.YtkmddjbialpppaaGreatDoor
open Go.ChangeShapes Go.WideShapes Go.ChangeAt Go.RowKit
open CM PD SG ND
theorem Fi.Ok.kpb {x : Fi} {S : Nat → Prop} {W W' : World} (h : x.Ok W) (k : Kp S W W') (a : OffS S x.A x.m.length) : x.Ok W' := ⟨k.rd h.r (by rw [List.length_map]; exact a), h.cl, h.id, h.rt, h.hs, h.st, h.lt, h.off⟩
theorem slTd : SlT Tryz.prog 87 94 3 24 := SlT.mk Tryz.underlying87 (z := .agg #[.int .i64 0, .int .i64 0, .int .i64 0]) (by kernel_rfl) rfl (by decide)
theorem fF {W : World} {b : Nat} {wo : Wo} {t : TypeId} {fz : Nat × Nat} (h : W.heap[b]? = some (.cells wo.cs.toArray t fz)) : W.rangeAt b 0 wo.n.cs := aL h 0 (by
  show (wo.n.cs ++ _).take wo.n.cs.length = _
  exact List.take_left)
theorem dY {W : World} {b : Nat} {wo : Wo} {t : TypeId} {fz : Nat × Nat} (h : W.heap[b]? = some (.cells wo.cs.toArray t fz)) (o : Nat) {vs : List Value} (e : (wo.cs.drop o).take vs.length = vs) : W.rangeAt b o vs := aL h o e
set_option maxRecDepth 100000 in
set_option maxHeartbeats 16000000 in
theorem ndTell (wo : Wo) (k a n : Int) (N b : Nat) (W : World) (hbN : b < N) (hN : N ≤ W.heap.size) (hl : wo.l.length ≤ 1000) (hB : W.heap[b]? = some (.cells wo.cs.toArray 145 (0, 0))) (hO : Own W N 94 3 wo.tA wo.tc (wo.l.map tdL)) :
    Calls Tryz.prog 153 #[.pointer (some ⟨b, 0, none⟩), .int .i64 k, .int .i64 a, .int .i64 n] W fun e W' => ∃ A c, e = .returned (.tuple #[]) ∧ W'.heap[b]? = some (.cells ({ wo with l := wo.l ++ [(⟨k, a, n⟩ : Td)], tA := A, tc := c } : Wo).cs.toArray 145 (0, 0)) ∧ Own W' N 94 3 A c ((wo.l ++ [(⟨k, a, n⟩ : Td)]).map tdL) ∧ Kp (fun j => j = b ∨ N ≤ j) W W' ∧ ∀ (x : Nat) (cs : Array Value) (t : TypeId) (fz : Nat × Nat), x ≠ b → t ≠ 94 → W.heap[x]? = some (.cells cs t fz) → W'.heap[x]? = some (.cells cs t fz) := by
  have B := aA hB
  have OW := aA hO
  have c91 := bM hB 91 (v := .slice wo.tA wo.l.length wo.tc) rfl
  clear hB hO
  go_enter Tryz.func153, Tryz.ntmps153
  go_wp2_with (at_builtin; refine dM W _ [.int .i64 k, .int .i64 a, .int .i64 n] (by rfl) rfl _ _ 87 rfl slTd (by decide) rfl (by simp [Value.oneCell']) N _ _ _ (wo.l.map tdL) (by rfl) (by exact OW.out) 1 (by rfl) (by rw [List.length_map]; omega) hN (by rw [List.length_map]) ?_)
  intro A c w4 P4 L4
  have B4 := aA (P4.heap B.out (by decide))
  have O4 := aA (show Own w4 N 94 3 A c ((wo.l ++ [(⟨k, a, n⟩ : Td)]).map tdL) by rw [List.map_append]; exact P4.own)
  have K4 := aA (show Kp (fun j => j = b ∨ N ≤ j) W w4 from (Kp.of ((Below.refl _ _).alloc (Nat.le_refl _) (.cells _ 94))).trans ((iD P4.grown).mono fun j _ hj => by obtain ⟨x, hx, rfl⟩ := hj; exact .inr (fH OW.out hx).1))
  have H4 := aA (fun (x : Nat) (cs : Array Value) (t : TypeId) (fz : Nat × Nat) (ht : t ≠ 94) (h : W.heap[x]? = some (.cells cs t fz)) => P4.heap h ht)
  clear P4 L4 c91 B OW
  have c91 := bM B4.out 91 (v := .slice wo.tA wo.l.length wo.tc) rfl
  have f91 := wo_free B4.out 91
  go_wp2_with fail
  obtain ⟨w5, e5⟩ : ∃ wq, wq = w4.setCell ⟨b, 91, none⟩ (.slice A (wo.l.length + 1) c) := ⟨_, rfl⟩
  rw [← e5]
  have B5 := aA (show w5.heap[b]? = some (.cells ({ wo with l := wo.l ++ [(⟨k, a, n⟩ : Td)], tA := A, tc := c } : Wo).cs.toArray 145 (0, 0)) by
    rw [e5]
    have k6 := wo_set_told (wo.l ++ [(⟨k, a, n⟩ : Td)]) A c B4.out
    rw [List.length_append] at k6
    exact k6)
  have O5 := aA (show Own w5 N 94 3 A c ((wo.l ++ [(⟨k, a, n⟩ : Td)]).map tdL) by rw [e5]; exact cM hbN [.slice A (wo.l.length + 1) c] 91 _ O4.out)
  have K5 := aA (show Kp (fun j => j = b ∨ N ≤ j) W w5 by rw [e5]; exact K4.out.trans (Kp.setC _ _ _ _ (.inl rfl)))
  have H5 := aA (fun (x : Nat) (cs : Array Value) (t : TypeId) (fz : Nat × Nat) (hx : x ≠ b) (ht : t ≠ 94) (h : W.heap[x]? = some (.cells cs t fz)) => show w5.heap[x]? = some (.cells cs t fz) by rw [e5]; exact aG hx [.slice A (wo.l.length + 1) c] 91 _ (H4.out x cs t fz ht h))
  clear e5 B4 O4 K4 c91 f91 H4
  go_end0
  exact ⟨A, c, rfl, B5.out, O5.out, K5.out, H5.out⟩
set_option maxRecDepth 100000 in
set_option maxHeartbeats 16000000 in
theorem ndFull (wo : Wo) (b : Nat) (W : World) (hB : W.heap[b]? = some (.cells wo.cs.toArray 145 (0, 0))) :
    Calls Tryz.prog 115 #[.pointer (some ⟨b, 0, none⟩)] W fun e W' => e = .returned (.bool (wo.n.up && wo.n.sm.st == 1)) ∧ Below W.heap.size W W' := by
  have UP := eR wo.n W
  obtain ⟨u, hu⟩ : ∃ u, u = wo.n.up := ⟨_, rfl⟩
  rw [← hu] at UP ⊢
  replace UP := aA UP
  clear hu
  have B := aA hB
  clear hB
  have K := aA (show Kp (fun k => k = b) W W from Kp.refl)
  have Q := aA (Below.refl W.heap.size W)
  go_enter Tryz.func115, Tryz.ntmps115
  go_wp2_with (refine wpList_load_mid rfl 53 (.tmp 5) (by rfl) b 0 (by rfl) wo.n.cs _ (by exact fF B.out) Tryz.underlying53 (by rfl) (by kernel_rfl) ?_)
  (with_reducible refine (UP.out).mono ?_)
  rintro ew1' w1' ⟨rfl, qw1'⟩
  replace B := aA (aB B.out qw1')
  replace Q := aA (aC Q.out Q.out.size qw1')
  clear qw1'
  clear UP
  have c83 := bM B.out 83 (v := .int .i64 wo.n.sm.st) rfl
  cases u
  ·
    go_wp2_with fail
    go_ret
    exact ⟨rfl, Q.out⟩
  ·
    go_wp2_with fail
    go_ret
    exact ⟨rfl, Q.out⟩
set_option maxRecDepth 100000 in
set_option maxHeartbeats 16000000 in
theorem ndOn (wo : Wo) (hb : wo.bad = false) (b : Nat) (W : World) (hF : wo.n.fi.Ok W) (hB : W.heap[b]? = some (.cells wo.cs.toArray 145 (0, 0))) :
    Calls Tryz.prog 120 #[.pointer (some ⟨b, 0, none⟩), .bool true] W fun e W' => e = .returned (.tuple #[]) ∧ W'.heap[b]? = some (.cells ({ wo with n := { wo.n with fi := wo.n.fi.go1 } } : Wo).cs.toArray 145 (0, 0)) ∧ Kp (fun k => k = b) W W' := by
  have GO := aA (cnGo_on wo.n.fi W hF)
  have HBAD := aA hb
  clear hF hb
  have B := aA hB
  clear hB
  have K := aA (show Kp (fun k => k = b) W W from Kp.refl)
  have Q := aA (Below.refl W.heap.size W)
  go_enter Tryz.func120, Tryz.ntmps120
  go_wp2_with (refine wpList_load_mid rfl 44 (.tmp 10) (by rfl) b 34 (by rfl) (wo.n.fi.cs) _ (by exact dY B.out 34 rfl) Tryz.underlying44 (by rfl) (by kernel_rfl) ?_)
  (with_reducible refine (GO.out).mono ?_)
  rintro ew1' w1' ⟨rfl, qw1'⟩
  replace B := aA (aB B.out qw1')
  replace Q := aA (aC Q.out Q.out.size qw1')
  clear qw1'
  clear GO
  have X := World.alloc_heap_new w1' (.cells zFi.cs.toArray 44)
  have zBx : b < w1'.heap.size := aH B.out
  have zQx : W.heap.size ≤ w1'.heap.size := Q.out.size
  obtain ⟨w3', hw3'⟩ : ∃ wx, wx = w1'.alloc (.cells zFi.cs.toArray 44) := ⟨_, rfl⟩
  have q2' := aA (show Below w1'.heap.size w1' w3' by rw [hw3']; exact (Below.refl _ _).alloc (Nat.le_refl _) _)
  rw [← hw3'] at X
  replace X := aA X
  have Tw4' := aA (show (w1'.alloc (.cells zFi.cs.toArray 44)).there w1'.heap.size 0 7 by rw [← hw3']; exact aK (cs := zFi.cs) X.out)
  go_wp2_with (refine aF (by rfl) 44 (.tmp 4) (.tmp 14) (by rfl) w1'.heap.size 0 wo.n.fi.go1.cs (by rfl) (by rfl) (by exact Tw4'.out) (by kernel_rfl) (by simp [Value.oneCell', Fi.cs]) ?_)
  intro w4' ew4'
  replace ew4' : Hid (w4' = w3'.setCells w1'.heap.size 0 wo.n.fi.go1.cs) := by rw [hw3']; exact ew4'
  replace X := aA (show w4'.heap[w1'.heap.size]? = some (.cells wo.n.fi.go1.cs.toArray 44 (0, 0)) by rw [ew4'.out]; exact aJ wo.n.fi.go1.cs (xs := zFi.cs) X.out rfl)
  replace q2' := aA (show Below w1'.heap.size w1' w4' by rw [ew4'.out]; exact q2'.out.trans (aE _ _ _ (by omega)))
  clear ew4' Tw4' hw3'
  replace B := aA (aB B.out q2'.out)
  replace Q := aA (aC Q.out Q.out.size q2'.out)
  clear q2'
  generalize w1'.heap.size = x at *
  go_upto_region 1 with fail
  refine bB [0, 1, 2, 3, 4, 5, 6] [(5, fun W => W.heap[x]? = some (.cells wo.n.fi.go1.cs.toArray 44 (0, 0)))] (by kernel_rfl) ?_
  replace B := aA (show w4'.drew.heap[b]? = some (.cells wo.cs.toArray 145 (0, 0)) from B.out)
  replace X := aA (show w4'.drew.heap[x]? = some (.cells wo.n.fi.go1.cs.toArray 44 (0, 0)) from X.out)
  replace Q := aA (show Below W.heap.size W w4'.drew from Q.out.drew)
  generalize w4'.drew = w5' at *
  refine aD (i := 0) (v := .pointer (some ⟨b, 0, none⟩)) rfl rfl (by kernel_rfl) (by kernel_rfl) (by kernel_rfl) (by kernel_rfl) (by kernel_rfl) (fun _ _ _ h => h) rfl (fun W => by go_simp) ?_
  go_simp
  refine aD (i := 1) (v := .pointer (some ⟨b, 0, none⟩)) rfl rfl (by kernel_rfl) (by kernel_rfl) (by kernel_rfl) (by kernel_rfl) (by kernel_rfl) (fun _ _ _ h => h) rfl (fun W => by go_simp) ?_
  go_simp
  refine aD (i := 2) (v := .pointer (some ⟨b, 0, none⟩)) rfl rfl (by kernel_rfl) (by kernel_rfl) (by kernel_rfl) (by kernel_rfl) (by kernel_rfl) (fun _ _ _ h => h) rfl (fun W => by go_simp) ?_
  go_simp
  refine aD (i := 3) (v := .pointer (some ⟨b, 0, none⟩)) rfl rfl (by kernel_rfl) (by kernel_rfl) (by kernel_rfl) (by kernel_rfl) (by kernel_rfl) (fun _ _ _ h => h) rfl (fun W => by go_simp) ?_
  go_simp
  refine aD (i := 4) (v := .pointer (some ⟨b, 34, none⟩)) rfl rfl (by kernel_rfl) (by kernel_rfl) (by kernel_rfl) (by kernel_rfl) (by kernel_rfl) (fun _ _ _ h => h) rfl (fun W => by go_simp) ?_
  go_simp
  refine aQ (i := 5) (v := .agg (wo.n.fi.go1.cs).toArray) rfl rfl (by kernel_rfl) (by kernel_rfl) (by kernel_rfl) (by kernel_rfl) (by kernel_rfl) (fun _ _ _ h => h) rfl (fun W h => bZ W x 44 (wo.n.fi.go1.cs) _ h Tryz.underlying44 rfl (by kernel_rfl) _ _ (.tmp 4) (by rfl) (by rfl)) (X.out) ?_
  go_simp
  refine aD (i := 6) (v := .int .i64 0) rfl rfl (by kernel_rfl) (by kernel_rfl) (by kernel_rfl) (by kernel_rfl) (by kernel_rfl) (fun _ _ _ h => h) rfl (fun W => by go_simp) ?_
  go_simp
  refine aI (i := 7) (by kernel_rfl) ?_
  refine aM rfl rfl ?_
  go_simp
  replace K := aA (K.out.trans (Kp.of Q.out))
  (with_reducible refine (ndSet_fi wo HBAD.out wo.n.fi.go1 b w5' B.out).mono ?_)
  rintro ew6' w6' ⟨rfl, bw6', kw6'⟩
  replace B := aA bw6'
  replace K := aA (K.out.trans kw6')
  clear Q bw6' kw6' X
  have Q := aA (Below.refl w6'.heap.size w6')
  go_simp
  refine ⟨aN (by kernel_rfl) (by kernel_rfl), ?_⟩
  go_simp
  refine aS (by kernel_rfl) ?_ _
  go_wp2_with fail
  go_end0
  exact ⟨rfl, B.out, K.out⟩
set_option maxRecDepth 100000 in
set_option maxHeartbeats 16000000 in
theorem ndEach0 (b : Nat) (A : Option Addr) (c : Nat) (f : Value) (W : World) :
    Calls Tryz.prog 188 #[.pointer (some ⟨b, 0, none⟩), .slice A 0 c, f] W fun e W' => e = .returned (.slice none 0 0) ∧ W = W' := by
  go_enter Tryz.func188, Tryz.ntmps188
  go_wp2_with fail
  go_loopw [7, 14] (fun vo vi V => vo = .slice none 0 0 ∧ vi = .int .i64 0 ∧ W = V) (fun _ _ _ => 0)
  case atStart => exact ⟨rfl, rfl, rfl⟩
  case round =>
    obtain ⟨rfl, rfl, rfl⟩ := hrel
    go_wp2_with fail
    go_ret
    exact ⟨rfl, rfl⟩
set_option maxRecDepth 100000 in
set_option maxHeartbeats 32000000 in
theorem ndRise0 (wo : Wo) (hb : wo.bad = false) (b : Nat) (W : World) (htv : tvB wo.n.tv = true) (hsm : smB wo.n.sm = true) (hF : wo.n.fi.Ok W) (hoff : OffS (fun k => k = b) wo.n.fi.A wo.n.fi.m.length) (his : wo.n.is = []) (hB : W.heap[b]? = some (.cells wo.cs.toArray 145 (0, 0))) :
    Calls Tryz.prog 151 #[.pointer (some ⟨b, 0, none⟩)] W fun e W' => e = .returned (.tuple #[]) ∧ W'.heap[b]? = some (.cells ({ wo with n := { wo.n with tv := wo.n.tv.go 1, sm := wo.n.sm.want true, fi := wo.n.fi.go1, ctl := zCl, is := [], iA := none, ic := 0 } } : Wo).cs.toArray 145 (0, 0)) ∧ Kp (fun k => k = b) W W' := by
  have HBAD := aA hb
  have HF := aA hF
  have HIS := aA his
  have GO := aA (fun W => tvGo_ok wo.n.tv 1 W htv rfl)
  have MW := aA (fun W => smWant_ok wo.n.sm true W hsm)
  clear hb hF his htv hsm
  have B := aA hB
  clear hB
  have K := aA (show Kp (fun k => k = b) W W from Kp.refl)
  have Q := aA (Below.refl W.heap.size W)
  go_enter Tryz.func151, Tryz.ntmps151
  go_wp2_with (refine wpList_load_mid rfl 27 (.tmp 9) (by rfl) b 41 (by rfl) (bD wo.n.tv) _ (by exact dY B.out 41 rfl) Tryz.underlying27 (by rfl) (by kernel_rfl) ?_)
  (with_reducible refine (GO.out W).mono ?_)
  rintro ew1' w1' ⟨rfl, qw1'⟩
  replace B := aA (aB B.out qw1')
  replace Q := aA (aC Q.out Q.out.size qw1')
  clear qw1'
  clear GO
  have X := World.alloc_heap_new w1' (.cells (bD eX).toArray 27)
  have zBx : b < w1'.heap.size := aH B.out
  have zQx : W.heap.size ≤ w1'.heap.size := Q.out.size
  obtain ⟨w3', hw3'⟩ : ∃ wx, wx = w1'.alloc (.cells (bD eX).toArray 27) := ⟨_, rfl⟩
  have q2' := aA (show Below w1'.heap.size w1' w3' by rw [hw3']; exact (Below.refl _ _).alloc (Nat.le_refl _) _)
  rw [← hw3'] at X
  replace X := aA X
  have Tw4' := aA (show (w1'.alloc (.cells (bD eX).toArray 27)).there w1'.heap.size 0 13 by rw [← hw3']; exact aK (cs := bD eX) X.out)
  go_wp2_with (refine aF (by rfl) 27 (.tmp 2) (.tmp 12) (by rfl) w1'.heap.size 0 (bD (wo.n.tv.go 1)) (by rfl) (by rfl) (by exact Tw4'.out) (by kernel_rfl) (by simp [Value.oneCell', bD]) ?_)
  intro w4' ew4'
  replace ew4' : Hid (w4' = w3'.setCells w1'.heap.size 0 (bD (wo.n.tv.go 1))) := by rw [hw3']; exact ew4'
  replace X := aA (show w4'.heap[w1'.heap.size]? = some (.cells (bD (wo.n.tv.go 1)).toArray 27 (0, 0)) by rw [ew4'.out]; exact aJ (bD (wo.n.tv.go 1)) (xs := bD eX) X.out rfl)
  replace q2' := aA (show Below w1'.heap.size w1' w4' by rw [ew4'.out]; exact q2'.out.trans (aE _ _ _ (by omega)))
  clear ew4' Tw4' hw3'
  replace B := aA (aB B.out q2'.out)
  replace Q := aA (aC Q.out Q.out.size q2'.out)
  clear q2'
  generalize w1'.heap.size = x at *
  go_upto_region 1 with fail
  refine bB [0, 1, 2, 3, 4, 5, 6] [(5, fun W => W.heap[x]? = some (.cells (bD (wo.n.tv.go 1)).toArray 27 (0, 0)))] (by kernel_rfl) ?_
  replace B := aA (show w4'.drew.heap[b]? = some (.cells wo.cs.toArray 145 (0, 0)) from B.out)
  replace X := aA (show w4'.drew.heap[x]? = some (.cells (bD (wo.n.tv.go 1)).toArray 27 (0, 0)) from X.out)
  replace Q := aA (show Below W.heap.size W w4'.drew from Q.out.drew)
  generalize w4'.drew = w5' at *
  refine aD (i := 0) (v := .pointer (some ⟨b, 0, none⟩)) rfl rfl (by kernel_rfl) (by kernel_rfl) (by kernel_rfl) (by kernel_rfl) (by kernel_rfl) (fun _ _ _ h => h) rfl (fun W => by go_simp) ?_
  go_simp
  refine aD (i := 1) (v := .pointer (some ⟨b, 0, none⟩)) rfl rfl (by kernel_rfl) (by kernel_rfl) (by kernel_rfl) (by kernel_rfl) (by kernel_rfl) (fun _ _ _ h => h) rfl (fun W => by go_simp) ?_
  go_simp
  refine aD (i := 2) (v := .pointer (some ⟨b, 0, none⟩)) rfl rfl (by kernel_rfl) (by kernel_rfl) (by kernel_rfl) (by kernel_rfl) (by kernel_rfl) (fun _ _ _ h => h) rfl (fun W => by go_simp) ?_
  go_simp
  refine aD (i := 3) (v := .pointer (some ⟨b, 0, none⟩)) rfl rfl (by kernel_rfl) (by kernel_rfl) (by kernel_rfl) (by kernel_rfl) (by kernel_rfl) (fun _ _ _ h => h) rfl (fun W => by go_simp) ?_
  go_simp
  refine aD (i := 4) (v := .pointer (some ⟨b, 41, none⟩)) rfl rfl (by kernel_rfl) (by kernel_rfl) (by kernel_rfl) (by kernel_rfl) (by kernel_rfl) (fun _ _ _ h => h) rfl (fun W => by go_simp) ?_
  go_simp
  refine aQ (i := 5) (v := .agg (bD (wo.n.tv.go 1)).toArray) rfl rfl (by kernel_rfl) (by kernel_rfl) (by kernel_rfl) (by kernel_rfl) (by kernel_rfl) (fun _ _ _ h => h) rfl (fun W h => bZ W x 27 (bD (wo.n.tv.go 1)) _ h Tryz.underlying27 rfl (by kernel_rfl) _ _ (.tmp 2) (by rfl) (by rfl)) (X.out) ?_
  go_simp
  refine aD (i := 6) (v := .int .i64 0) rfl rfl (by kernel_rfl) (by kernel_rfl) (by kernel_rfl) (by kernel_rfl) (by kernel_rfl) (fun _ _ _ h => h) rfl (fun W => by go_simp) ?_
  go_simp
  refine aI (i := 7) (by kernel_rfl) ?_
  refine aM rfl rfl ?_
  go_simp
  replace K := aA (K.out.trans (Kp.of Q.out))
  (with_reducible refine (ndSet_tv wo HBAD.out (wo.n.tv.go 1) b w5' B.out).mono ?_)
  rintro ew6' w6' ⟨rfl, bw6', kw6'⟩
  replace B := aA bw6'
  replace K := aA (K.out.trans kw6')
  clear Q bw6' kw6' X
  have Q := aA (Below.refl w6'.heap.size w6')
  go_simp
  refine ⟨aN (by kernel_rfl) (by kernel_rfl), ?_⟩
  go_simp
  refine aS (by kernel_rfl) ?_ _
  go_wp2_with (refine wpList_load_mid rfl 51 (.tmp 26) (by rfl) b 83 (by rfl) (bW wo.n.sm) _ (by exact dY B.out 83 rfl) Tryz.underlying51 (by rfl) (by kernel_rfl) ?_)
  (with_reducible refine (MW.out w6').mono ?_)
  rintro ew7' w7' ⟨rfl, qw7'⟩
  replace B := aA (aB B.out qw7')
  replace Q := aA (aC Q.out Q.out.size qw7')
  clear qw7'
  clear MW
  have X := World.alloc_heap_new w7' (.cells (bW g8).toArray 51)
  have zBx2 : b < w7'.heap.size := aH B.out
  have zQx2 : w6'.heap.size ≤ w7'.heap.size := Q.out.size
  obtain ⟨w9', hw9'⟩ : ∃ wx, wx = w7'.alloc (.cells (bW g8).toArray 51) := ⟨_, rfl⟩
  have q8' := aA (show Below w7'.heap.size w7' w9' by rw [hw9']; exact (Below.refl _ _).alloc (Nat.le_refl _) _)
  rw [← hw9'] at X
  replace X := aA X
  have Tw10' := aA (show (w7'.alloc (.cells (bW g8).toArray 51)).there w7'.heap.size 0 7 by rw [← hw9']; exact aK (cs := bW g8) X.out)
  go_wp2_with (refine aF (by rfl) 51 (.tmp 4) (.tmp 29) (by rfl) w7'.heap.size 0 (bW (wo.n.sm.want true)) (by rfl) (by rfl) (by exact Tw10'.out) (by kernel_rfl) (by simp [Value.oneCell', bW]) ?_)
  intro w10' ew10'
  replace ew10' : Hid (w10' = w9'.setCells w7'.heap.size 0 (bW (wo.n.sm.want true))) := by rw [hw9']; exact ew10'
  replace X := aA (show w10'.heap[w7'.heap.size]? = some (.cells (bW (wo.n.sm.want true)).toArray 51 (0, 0)) by rw [ew10'.out]; exact aJ (bW (wo.n.sm.want true)) (xs := bW g8) X.out rfl)
  replace q8' := aA (show Below w7'.heap.size w7' w10' by rw [ew10'.out]; exact q8'.out.trans (aE _ _ _ (by omega)))
  clear ew10' Tw10' hw9'
  replace B := aA (aB B.out q8'.out)
  replace Q := aA (aC Q.out Q.out.size q8'.out)
  clear q8'
  generalize w7'.heap.size = x2 at *
  go_upto_region 3 with fail
  refine bB [0, 1, 2, 3, 4, 5, 6] [(5, fun W => W.heap[x2]? = some (.cells (bW (wo.n.sm.want true)).toArray 51 (0, 0)))] (by kernel_rfl) ?_
  replace B := aA (show w10'.drew.heap[b]? = some (.cells (({ wo with n := { wo.n with tv := wo.n.tv.go 1 } } : Wo).cs).toArray 145 (0, 0)) from B.out)
  replace X := aA (show w10'.drew.heap[x2]? = some (.cells (bW (wo.n.sm.want true)).toArray 51 (0, 0)) from X.out)
  replace Q := aA (show Below w6'.heap.size w6' w10'.drew from Q.out.drew)
  generalize w10'.drew = w11' at *
  refine aD (i := 0) (v := .pointer (some ⟨b, 0, none⟩)) rfl rfl (by kernel_rfl) (by kernel_rfl) (by kernel_rfl) (by kernel_rfl) (by kernel_rfl) (fun _ _ _ h => h) rfl (fun W => by go_simp) ?_
  go_simp
  refine aD (i := 1) (v := .pointer (some ⟨b, 0, none⟩)) rfl rfl (by kernel_rfl) (by kernel_rfl) (by kernel_rfl) (by kernel_rfl) (by kernel_rfl) (fun _ _ _ h => h) rfl (fun W => by go_simp) ?_
  go_simp
  refine aD (i := 2) (v := .pointer (some ⟨b, 0, none⟩)) rfl rfl (by kernel_rfl) (by kernel_rfl) (by kernel_rfl) (by kernel_rfl) (by kernel_rfl) (fun _ _ _ h => h) rfl (fun W => by go_simp) ?_
  go_simp
  refine aD (i := 3) (v := .pointer (some ⟨b, 0, none⟩)) rfl rfl (by kernel_rfl) (by kernel_rfl) (by kernel_rfl) (by kernel_rfl) (by kernel_rfl) (fun _ _ _ h => h) rfl (fun W => by go_simp) ?_
  go_simp
  refine aD (i := 4) (v := .pointer (some ⟨b, 83, none⟩)) rfl rfl (by kernel_rfl) (by kernel_rfl) (by kernel_rfl) (by kernel_rfl) (by kernel_rfl) (fun _ _ _ h => h) rfl (fun W => by go_simp) ?_
  go_simp
  refine aQ (i := 5) (v := .agg (bW (wo.n.sm.want true)).toArray) rfl rfl (by kernel_rfl) (by kernel_rfl) (by kernel_rfl) (by kernel_rfl) (by kernel_rfl) (fun _ _ _ h => h) rfl (fun W h => bZ W x2 51 (bW (wo.n.sm.want true)) _ h Tryz.underlying51 rfl (by kernel_rfl) _ _ (.tmp 4) (by rfl) (by rfl)) (X.out) ?_
  go_simp
  refine aD (i := 6) (v := .int .i64 0) rfl rfl (by kernel_rfl) (by kernel_rfl) (by kernel_rfl) (by kernel_rfl) (by kernel_rfl) (fun _ _ _ h => h) rfl (fun W => by go_simp) ?_
  go_simp
  refine aI (i := 7) (by kernel_rfl) ?_
  refine aM rfl rfl ?_
  go_simp
  replace K := aA (K.out.trans (Kp.of Q.out))
  (with_reducible refine (ndSet_sm ({ wo with n := { wo.n with tv := wo.n.tv.go 1 } } : Wo) HBAD.out (wo.n.sm.want true) b w11' B.out).mono ?_)
  rintro ew12' w12' ⟨rfl, bw12', kw12'⟩
  replace B := aA bw12'
  replace K := aA (K.out.trans kw12')
  clear Q bw12' kw12' X
  have Q := aA (Below.refl w12'.heap.size w12')
  go_simp
  refine ⟨aN (by kernel_rfl) (by kernel_rfl), ?_⟩
  go_simp
  refine aS (by kernel_rfl) ?_ _
  go_wp2_with fail
  replace K := aA (K.out.trans (Kp.of Q.out))
  (with_reducible refine (ndOn ({ wo with n := { wo.n with tv := wo.n.tv.go 1, sm := wo.n.sm.want true } } : Wo) HBAD.out b w12' (HF.out.kpb K.out hoff) B.out).mono ?_)
  rintro ew13' w13' ⟨rfl, bw13', kw13'⟩
  replace B := aA bw13'
  replace K := aA (K.out.trans kw13')
  clear Q bw13' kw13'
  have Q := aA (Below.refl w13'.heap.size w13')
  go_wp2_with fail
  (with_reducible refine (kG w13').mono ?_)
  rintro ew14' w14' ⟨rfl, qw14'⟩
  replace B := aA (aB B.out qw14')
  replace Q := aA (aC Q.out Q.out.size qw14')
  clear qw14'
  have TH := aA (show World.there _ b 11 23 from dF (cs := ({ wo with n := { wo.n with tv := wo.n.tv.go 1, sm := wo.n.sm.want true, fi := wo.n.fi.go1 } } : Wo).cs) B.out 11 23 (by show _ ≤ 93; exact Nat.le_of_ble_eq_true rfl))
  go_wp2_with (refine aF (by rfl) 39 (.tmp 45) (.tmp 42) (by rfl) b 11 zCl.cs (by rfl) (by rfl) (by exact TH.out) (by kernel_rfl) (by simp [Value.oneCell', Cl.cs]) ?_)
  intro w15' ew15'
  replace B := aA (show w15'.heap[b]? = some (.cells ({ wo with n := { wo.n with tv := wo.n.tv.go 1, sm := wo.n.sm.want true, fi := wo.n.fi.go1, ctl := zCl } } : Wo).cs.toArray 145 (0, 0)) by rw [ew15'.out]; exact wo_set_ctl zCl B.out)
  replace K := aA (show Kp (fun k => k = b) W w15' by rw [ew15'.out]; exact (K.out.trans (Kp.of Q.out)).trans (Kp.set _ _ _ _ rfl))
  clear ew15' TH Q
  have c10 := bM B.out 10 (v := .slice wo.n.iA 0 wo.n.ic) (by rw [← show wo.n.is.length = 0 by rw [HIS.out]; rfl]; rfl)
  have f10 := wo_free B.out 10
  go_wp2_with fail
  (with_reducible refine (ndEach0 b wo.n.iA wo.n.ic _ w15').mono ?_)
  rintro e1 w9 ⟨rfl, rfl⟩
  go_wp2_with fail
  obtain ⟨w8, e8⟩ : ∃ wq, wq = w15'.setCell ⟨b, 10, none⟩ (.slice none 0 0) := ⟨_, rfl⟩
  rw [← e8]
  have B8 := aA (show w8.heap[b]? = some (.cells ({ wo with n := { wo.n with tv := wo.n.tv.go 1, sm := wo.n.sm.want true, fi := wo.n.fi.go1, ctl := zCl, is := [], iA := none, ic := 0 } } : Wo).cs.toArray 145 (0, 0)) by rw [e8]; exact aU [.slice none 0 0] _ 10 _ B.out)
  have K8 := aA (show Kp (fun k => k = b) W w8 by rw [e8]; exact K.out.trans (Kp.setC _ _ _ _ rfl))
  clear e8 B K c10 f10
  go_end0
  exact ⟨rfl, B8.out, K8.out⟩
end Go.Proofs.YtkmddjbialpppaaGreatDoor
