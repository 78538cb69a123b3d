import Derived.Test.YtkmddjbialpppaaGreatDoorMgSmA
import Derived.Test.YtkmddjbialpppaaGreatDoorMgBxC
import Derived.Test.YtkmddjbialpppaaGreatDoorMgOrdL
import Derived.Test.YtkmddjbialpppaaGreatDoorMgCsD
namespace Go.Proofs.YtkmddjbialpppaaGreatDoor
open Go.ChangeShapes Go.WideShapes Go.ChangeAt Go.RowKit
open ND
namespace ND
def mnL (s : Sm) (on : Bool) : List Value := [.int .i64 s.st, .bool s.wants, .int .i64 s.left, .int .i64 s.times, .int .i64 s.fast, .int .i64 s.many, .int .i64 s.slow, .bool on]
def Sm.want (s : Sm) (on : Bool) : Sm := if s.wants = on then s else { s with wants := on, left := 0, times := 0, st := if on = true then 1 else 0 }
end ND
theorem kR {W : World} {B : Nat} {f : Sm} {on : Bool} {t : TypeId} {fz : Nat × Nat} (h : W.heap[B]? = some (.cells (mnL f on).toArray t fz)) : W.cell? ⟨B, 7, none⟩ = some (.bool on) := by simp [World.cell?, h, mnL]
theorem mn_free {W : World} {B : Nat} {f : Sm} {on : Bool} {t : TypeId} (h : W.heap[B]? = some (.cells (mnL f on).toArray t (0, 0))) (j : Nat) : W.frozen? ⟨B, j, none⟩ = false := by simp [World.frozen?, h]
set_option maxRecDepth 100000 in
set_option maxHeartbeats 16000000 in
theorem smWantP (s : Sm) (on : Bool) (B : Nat) (W : World) (hB : W.heap[B]? = some (.cells (mnL s on).toArray 243 (0, 0))) :
    Calls Tryz.prog 225 #[.pointer (some ⟨B, 0, none⟩)] W fun e W' => e = .returned (.tuple #[]) ∧ W'.heap[B]? = some (.cells (mnL { s with wants := on, left := 0, times := 0, st := if on = true then 1 else 0 } on).toArray 243 (0, 0)) ∧ Kp (fun k => k = B) W W' := by
  have HB := aA hB
  have c7 : W.cell? ⟨B, 7, none⟩ = some (.bool on) := by simp [World.cell?, hB, mnL]
  have c0 : W.cell? ⟨B, 0, none⟩ = some (.int .i64 s.st) := by simp [World.cell?, hB, mnL]
  have c1 : W.cell? ⟨B, 1, none⟩ = some (.bool s.wants) := by simp [World.cell?, hB, mnL]
  have c2 : W.cell? ⟨B, 2, none⟩ = some (.int .i64 s.left) := by simp [World.cell?, hB, mnL]
  have c3 : W.cell? ⟨B, 3, none⟩ = some (.int .i64 s.times) := by simp [World.cell?, hB, mnL]
  have f4 := mn_free hB
  clear hB
  cases on with
  | false =>
    go_enter Tryz.func225, Tryz.ntmps225
    go_wp2_with fail
    have H1 := aU [.bool false] (mnL s false) 1 _ HB.out
    have H2 := aU [.int .i64 0] _ 2 _ H1
    have H3 := aU [.int .i64 0] _ 3 _ H2
    have H4 := aU [.int .i64 0] _ 0 _ H3
    go_end0
    exact ⟨rfl, H4, ((((Kp.setC (S := fun k => k = B) _ _ _ _ rfl).trans (Kp.setC (S := fun k => k = B) _ _ _ _ rfl)).trans (Kp.setC (S := fun k => k = B) _ _ _ _ rfl)).trans (Kp.setC (S := fun k => k = B) _ _ _ _ rfl))⟩
  | true =>
    go_enter Tryz.func225, Tryz.ntmps225
    go_wp2_with fail
    have H1 := aU [.bool true] (mnL s true) 1 _ HB.out
    have H2 := aU [.int .i64 0] _ 2 _ H1
    have H3 := aU [.int .i64 0] _ 3 _ H2
    have H4 := aU [.int .i64 0] _ 0 _ H3
    have H5 := aU [.int .i64 1] _ 0 _ H4
    go_end0
    exact ⟨rfl, H5, (((((Kp.setC (S := fun k => k = B) _ _ _ _ rfl).trans (Kp.setC (S := fun k => k = B) _ _ _ _ rfl)).trans (Kp.setC (S := fun k => k = B) _ _ _ _ rfl)).trans (Kp.setC (S := fun k => k = B) _ _ _ _ rfl)).trans (Kp.setC (S := fun k => k = B) _ _ _ _ rfl))⟩
set_option maxRecDepth 100000 in
set_option maxHeartbeats 16000000 in
theorem smCall_ok (s g : Sm) (on on2 : Bool) (p fid : Nat) (w : World) (h : smB s = true) (hp : ∀ (args : Array Value) (W : World), (callFunc fid args).run Tryz.prog W = .ok (.enter fid args) W) (hB : w.heap[p]? = some (.cells (mnL s on).toArray 243 (0, 0)))
    (hdo : Hid (∀ W, W.heap[p]? = some (.cells (mnL s on).toArray 243 (0, 0)) → Calls Tryz.prog fid #[.pointer (some ⟨p, 0, none⟩)] W fun e W' => e = .returned (.tuple #[]) ∧ W'.heap[p]? = some (.cells (mnL g on2).toArray 243 (0, 0)) ∧ Kp (fun k => k = p) W W')) :
    Calls Tryz.prog 160 #[.pointer (some ⟨p, 0, none⟩), .func (.func fid) #[.pointer (some ⟨p, 0, none⟩)] #[]] w fun e w' => e = .returned (.tuple #[.agg (bW g).toArray, .bool on2, .int .i64 0]) ∧ Kp (fun k => k = p) w w' := by
  obtain ⟨w0, hw0⟩ : ∃ w0, w0 = w.alloc (.cells (bW g8).toArray 51) := ⟨_, rfl⟩
  have R := aA (World.alloc_heap_new w (.cells (bW g8).toArray 51))
  have Q : Hid (Below w.heap.size w w0) := by rw [hw0]; exact aA ((Below.refl w.heap.size w).alloc (Nat.le_refl _) (.cells (bW g8).toArray 51))
  rw [← hw0] at R
  have RT := aA (fun W => show Calls Tryz.prog 49 #[.agg (bW s).toArray] W fun e w' => e = .returned (.bool true) ∧ Below W.heap.size W w' from by
    have k := fL s W
    rwa [h] at k)
  have zp := aH hB
  have B := aA (aB hB Q.out)
  clear h hB
  go_enter Tryz.func160, Tryz.ntmps160
  go_upto_region 1 with fail
  change Code.wp _ _ _ _ (w.alloc (.cells (bW g8).toArray 51))
  rw [← hw0]
  clear hw0
  go_wp2_with (refine wpList_load_mid rfl 51 (.tmp 9) (by rfl) p 0 (by rfl) (bW s) _ (by exact aL B.out 0 rfl) Tryz.underlying51 (by rfl) (by kernel_rfl) ?_)
  (with_reducible refine (RT.out w0).mono ?_)
  rintro ew1' w1' ⟨rfl, qw1'⟩
  replace R := aA (aB R.out qw1')
  replace B := aA (aB B.out qw1')
  replace Q := aA (aC Q.out Q.out.size qw1')
  clear qw1'
  clear RT
  go_wp2_with fail
  (with_reducible refine (hdo.out w1' B.out).mono ?_)
  rintro e9 w9 ⟨rfl, b9, k9⟩
  have K := aA (show Kp (fun k => k = p) w w9 from (Kp.of Q.out).trans k9)
  replace R := aA (k9.heap R.out (by omega))
  replace B := aA b9
  clear b9 k9 Q hdo hp
  go_upto_region 4 with fail
  refine bB [0, 1, 2, 3, 4, 5, 6, 7] [(3, fun W => W.rangeAt p 0 (bW g)), (7, fun W => W.cell? ⟨p, 7, none⟩ = some (.bool on2))] (by kernel_rfl) ?_
  replace R := aA (show w9.drew.heap[w.heap.size]? = some (.cells (bW g8).toArray 51 (0, 0)) from R.out)
  replace B := aA (show w9.drew.heap[p]? = some (.cells (mnL g on2).toArray 243 (0, 0)) from B.out)
  replace K := aA (show Kp (fun k => k = p) w w9.drew from K.out.trans (Kp.of (Below.refl w9.heap.size w9).drew))
  generalize w9.drew = w8 at *
  refine aD (i := 0) (v := .pointer (some ⟨p, 0, none⟩)) rfl rfl (by kernel_rfl) (by kernel_rfl) (by kernel_rfl) (by kernel_rfl) (by kernel_rfl) (fun _ _ _ h => h) rfl (fun W => by go_simp) ?_
  go_simp
  refine aD (i := 1) (v := .pointer (some ⟨p, 0, none⟩)) rfl rfl (by kernel_rfl) (by kernel_rfl) (by kernel_rfl) (by kernel_rfl) (by kernel_rfl) (fun _ _ _ h => h) rfl (fun W => by go_simp) ?_
  go_simp
  refine aD (i := 2) (v := .pointer (some ⟨p, 0, none⟩)) rfl rfl (by kernel_rfl) (by kernel_rfl) (by kernel_rfl) (by kernel_rfl) (by kernel_rfl) (fun _ _ _ h => h) rfl (fun W => by go_simp) ?_
  go_simp
  refine aQ (i := 3) (v := .agg (bW g).toArray) rfl rfl (by kernel_rfl) (by kernel_rfl) (by kernel_rfl) (by kernel_rfl) (by kernel_rfl) (fun _ _ _ h => h) rfl (fun W h => bQ W p 0 51 (bW g) _ h Tryz.underlying51 rfl (by kernel_rfl) _ _ (.tmp 18) (by rfl) (by rfl)) (aL B.out 0 rfl) ?_
  go_simp
  refine aD (i := 4) (v := .pointer (some ⟨p, 0, none⟩)) rfl rfl (by kernel_rfl) (by kernel_rfl) (by kernel_rfl) (by kernel_rfl) (by kernel_rfl) (fun _ _ _ h => h) rfl (fun W => by go_simp) ?_
  go_simp
  refine aD (i := 5) (v := .pointer (some ⟨p, 0, none⟩)) rfl rfl (by kernel_rfl) (by kernel_rfl) (by kernel_rfl) (by kernel_rfl) (by kernel_rfl) (fun _ _ _ h => h) rfl (fun W => by go_simp) ?_
  go_simp
  refine aD (i := 6) (v := .pointer (some ⟨p, 7, none⟩)) rfl rfl (by kernel_rfl) (by kernel_rfl) (by kernel_rfl) (by kernel_rfl) (by kernel_rfl) (fun _ _ _ h => h) rfl (fun W => by go_simp) ?_
  go_simp
  refine aQ (i := 7) (v := .bool on2) rfl rfl (by kernel_rfl) (by kernel_rfl) (by kernel_rfl) (by kernel_rfl) (by kernel_rfl) (fun _ _ _ h => h) rfl (fun W h => by go_simp) ((kR B.out)) ?_
  go_simp
  have TR := aA (show World.there _ w.heap.size 0 7 from aK (cs := bW g8) R.out)
  refine aI (i := 8) (by kernel_rfl) ?_
  refine aM rfl rfl ?_
  refine bP 51 (.tmp 4) (.tmp 19) rfl w.heap.size 0 (bW g) (by rfl) (by rfl) (by exact TR.out) (by kernel_rfl) (by simp [Value.oneCell', bW]) ?_
  intro w7 e7
  replace R := aA (show w7.heap[w.heap.size]? = some (.cells (bW g).toArray 51 (0, 0)) by rw [e7]; exact aJ (bW g) (xs := bW g8) R.out rfl)
  replace K := aA (show Kp (fun k => k = p) w w7 by rw [e7]; exact K.out.new (Nat.le_refl _) _ _)
  replace B := aA (show w7.heap[p]? = some (.cells (mnL g on2).toArray 243 (0, 0)) by rw [e7]; exact aG (by omega) _ _ _ B.out)
  clear e7 TR
  refine ⟨aO (by kernel_rfl) (.cons (aL B.out 0 rfl) (.cons (kR B.out) .nil)), ?_⟩
  go_simp
  refine aI (i := 9) (by kernel_rfl) ?_
  refine aM rfl rfl ?_
  go_simp
  refine ⟨aO (by kernel_rfl) (.cons (aL B.out 0 rfl) (.cons (kR B.out) .nil)), ?_⟩
  go_simp
  refine aI (i := 10) (by kernel_rfl) ?_
  refine aM rfl rfl ?_
  go_simp
  refine ⟨aO (by kernel_rfl) (.cons (aL B.out 0 rfl) (.cons (kR B.out) .nil)), ?_⟩
  go_simp
  refine aS (by kernel_rfl) ?_ _
  go_wp2_with fail
  refine bodyPost_ret (eO (by rfl) _ w7 w.heap.size 51 (bW g).toArray (0, 0) _ (.bool on2) (.int .i64 0) (by rfl) (by rfl) (by rfl) R.out Tryz.underlying51 (by rfl) (by kernel_rfl)) rfl ⟨rfl, K.out⟩
set_option maxRecDepth 100000 in
set_option maxHeartbeats 16000000 in
theorem smWant_same (s : Sm) (on : Bool) (w : World) (h : smB s = true) (he : s.wants = on) :
    Calls Tryz.prog 187 #[.agg (bW s).toArray, .bool on] w fun e w' => e = .returned (.tuple #[.agg (bW s).toArray, .int .i64 0]) ∧ Below w.heap.size w w' := by
  obtain ⟨w0, hw0⟩ : ∃ w0, w0 = (w.alloc (.cells (bW s).toArray 51)).alloc (.cells (bW g8).toArray 51) := ⟨_, rfl⟩
  have B := aA (aB (World.alloc_heap_new w (.cells (bW s).toArray 51)) ((Below.refl _ (w.alloc (.cells (bW s).toArray 51))).alloc (Nat.le_refl _) (.cells (bW g8).toArray 51)))
  have R := aA (World.alloc_heap_new (w.alloc (.cells (bW s).toArray 51)) (.cells (bW g8).toArray 51))
  have Q : Hid (Below w.heap.size w w0) := by rw [hw0]; exact aA (((Below.refl w.heap.size w).alloc (Nat.le_refl _) (.cells (bW s).toArray 51)).alloc (by simp; try omega) (.cells (bW g8).toArray 51))
  rw [← hw0] at B R
  simp only [World.size_alloc] at R
  have RT := aA (fun W => show Calls Tryz.prog 49 #[.agg (bW s).toArray] W fun e w' => e = .returned (.bool true) ∧ Below W.heap.size W w' from by
    have k := fL s W
    rwa [h] at k)
  clear h
  go_enter Tryz.func187, Tryz.ntmps187
  go_upto_region 1 with fail
  change Code.wp _ _ _ _ ((w.alloc (.cells (bW s).toArray 51)).alloc (.cells (bW g8).toArray 51))
  rw [← hw0]
  clear hw0
  go_wp2_with (refine wpList_load_row rfl 51 (.tmp 2) (by rfl) w.heap.size (by rfl) 51 (bW s).toArray (0, 0) _ (by exact B.out) Tryz.underlying51 (by rfl) (by kernel_rfl) ?_)
  (with_reducible refine (RT.out w0).mono ?_)
  rintro ew1' w1' ⟨rfl, qw1'⟩
  replace B := aA (aB B.out qw1')
  replace R := aA (aB R.out qw1')
  replace Q := aA (aC Q.out Q.out.size qw1')
  clear qw1'
  clear RT
  have c1 : w1'.cell? ⟨w.heap.size, 1, none⟩ = some (.bool s.wants) := by simp [World.cell?, B.out, bW]
  have hq : (s.wants == on) = true := by rw [he]; simp
  clear he
  have Tw2' := aA (show World.there _ (w.heap.size + 1) 0 7 from aK (cs := bW g8) R.out)
  go_wp2_with (first | (refine wpList_load_row rfl 51 (.tmp 2) (by rfl) w.heap.size (by rfl) 51 (bW s).toArray (0, 0) _ (by exact B.out) Tryz.underlying51 (by rfl) (by kernel_rfl) ?_) | (refine aF (by rfl) 51 (.tmp 4) (.tmp 17) (by rfl) (w.heap.size + 1) 0 (bW s) (by rfl) (by rfl) (by exact Tw2'.out) (by kernel_rfl) (by simp [Value.oneCell', bW]) ?_))
  intro w2' ew2'
  replace B := aA (show w2'.heap[w.heap.size]? = some (.cells (bW s).toArray 51 (0, 0)) by rw [ew2'.out]; exact aG (by omega) _ _ _ B.out)
  replace Q := aA (show Below w.heap.size w w2' by rw [ew2'.out]; exact Q.out.trans (aE _ _ _ (by have := Q.out.size; omega)))
  replace R := aA (show w2'.heap[w.heap.size + 1]? = some (.cells (bW s).toArray 51 (0, 0)) by rw [ew2'.out]; exact aJ (bW s) (xs := bW g8) R.out rfl)
  clear ew2' Tw2'
  go_wp2_with fail
  refine bodyPost_ret (aP (by rfl) _ w2' (w.heap.size + 1) 51 (bW s).toArray (0, 0) _ (.int .i64 0) (by rfl) (by rfl) R.out Tryz.underlying51 (by rfl) (by kernel_rfl)) rfl ⟨rfl, Q.out⟩
set_option maxRecDepth 100000 in
set_option maxHeartbeats 16000000 in
theorem smWant_new (st : Int) (wants : Bool) (left times fast many slow v : Int) (on : Bool) (w : World) (hv : v = if on = true then 1 else 0) (h : smB ⟨st, wants, left, times, fast, many, slow⟩ = true) (he : wants ≠ on) :
    Calls Tryz.prog 187 #[.agg (bW ⟨st, wants, left, times, fast, many, slow⟩).toArray, .bool on] w fun e w' => e = .returned (.tuple #[.agg (bW (⟨v, on, 0, 0, fast, many, slow⟩ : Sm)).toArray, .int .i64 0]) ∧ Below w.heap.size w w' := by
  obtain ⟨w0, hw0⟩ : ∃ w0, w0 = (w.alloc (.cells (bW ⟨st, wants, left, times, fast, many, slow⟩).toArray 51)).alloc (.cells (bW g8).toArray 51) := ⟨_, rfl⟩
  have B := aA (aB (World.alloc_heap_new w (.cells (bW ⟨st, wants, left, times, fast, many, slow⟩).toArray 51)) ((Below.refl _ (w.alloc (.cells (bW ⟨st, wants, left, times, fast, many, slow⟩).toArray 51))).alloc (Nat.le_refl _) (.cells (bW g8).toArray 51)))
  have R := aA (World.alloc_heap_new (w.alloc (.cells (bW ⟨st, wants, left, times, fast, many, slow⟩).toArray 51)) (.cells (bW g8).toArray 51))
  have Q : Hid (Below w.heap.size w w0) := by rw [hw0]; exact aA (((Below.refl w.heap.size w).alloc (Nat.le_refl _) (.cells (bW ⟨st, wants, left, times, fast, many, slow⟩).toArray 51)).alloc (by simp; try omega) (.cells (bW g8).toArray 51))
  rw [← hw0] at B R
  simp only [World.size_alloc] at R
  have RT := aA (fun W => show Calls Tryz.prog 49 #[.agg (bW ⟨st, wants, left, times, fast, many, slow⟩).toArray] W fun e w' => e = .returned (.bool true) ∧ Below W.heap.size W w' from by
    have k := fL ⟨st, wants, left, times, fast, many, slow⟩ W
    rwa [h] at k)
  have HH := aA h
  have HV := aA hv
  clear h hv
  go_enter Tryz.func187, Tryz.ntmps187
  go_upto_region 1 with fail
  change Code.wp _ _ _ _ ((w.alloc (.cells (bW ⟨st, wants, left, times, fast, many, slow⟩).toArray 51)).alloc (.cells (bW g8).toArray 51))
  rw [← hw0]
  clear hw0
  go_wp2_with (refine wpList_load_row rfl 51 (.tmp 2) (by rfl) w.heap.size (by rfl) 51 (bW ⟨st, wants, left, times, fast, many, slow⟩).toArray (0, 0) _ (by exact B.out) Tryz.underlying51 (by rfl) (by kernel_rfl) ?_)
  (with_reducible refine (RT.out w0).mono ?_)
  rintro ew1' w1' ⟨rfl, qw1'⟩
  replace B := aA (aB B.out qw1')
  replace R := aA (aB R.out qw1')
  replace Q := aA (aC Q.out Q.out.size qw1')
  clear qw1'
  clear RT
  have c1 : w1'.cell? ⟨w.heap.size, 1, none⟩ = some (.bool wants) := by simp [World.cell?, B.out, bW]
  have hq : (wants == on) = false := by simp [he]
  clear he
  go_upto_region 4 with (refine wpList_load_row rfl 51 (.tmp 2) (by rfl) w.heap.size (by rfl) 51 #[.int .i64 st, .bool wants, .int .i64 left, .int .i64 times, .int .i64 fast, .int .i64 many, .int .i64 slow] (0, 0) _ (by exact B.out) Tryz.underlying51 (by rfl) (by kernel_rfl) ?_)
  clear c1 hq
  have P := World.alloc_heap_new w1' (.cells (mnL ⟨st, wants, left, times, fast, many, slow⟩ on).toArray 243)
  have q5 : Below w1'.heap.size w1' (w1'.alloc (.cells (mnL ⟨st, wants, left, times, fast, many, slow⟩ on).toArray 243)) := (Below.refl _ _).alloc (Nat.le_refl _) _
  have zP : w.heap.size + 1 < w1'.heap.size := aH R.out
  change Code.wp _ _ _ _ (w1'.alloc (.cells (mnL ⟨st, wants, left, times, fast, many, slow⟩ on).toArray 243))
  replace B := aA (aB B.out q5)
  replace R := aA (aB R.out q5)
  replace Q := aA (aC Q.out Q.out.size q5)
  clear q5
  generalize w1'.alloc (.cells (mnL ⟨st, wants, left, times, fast, many, slow⟩ on).toArray 243) = w5 at *
  generalize w1'.heap.size = p at *
  have CL := aA (smCall_ok ⟨st, wants, left, times, fast, many, slow⟩ (⟨v, on, 0, 0, fast, many, slow⟩ : Sm) on on p 225 w5 HH.out (fun _ _ => by kernel_rfl) P (aA fun W hW => by rw [HV.out]; exact smWantP ⟨st, wants, left, times, fast, many, slow⟩ on p W hW))
  clear P
  go_wp2_with fail
  (with_reducible refine (CL.out).mono ?_)
  rintro e6 w6 ⟨rfl, k6⟩
  replace B := aA (k6.heap B.out (by omega))
  replace R := aA (k6.heap R.out (by omega))
  replace Q := aA (Q.out.trans (k6.below (B := w.heap.size) (fun k h => by omega) Q.out.size))
  clear k6 CL
  have Tw2' := aA (show World.there _ w.heap.size 0 7 from aK (cs := bW ⟨st, wants, left, times, fast, many, slow⟩) B.out)
  go_wp2_with (refine aF (by rfl) 51 (.tmp 2) (.tmp 27) (by rfl) w.heap.size 0 (bW (⟨v, on, 0, 0, fast, many, slow⟩ : Sm)) (by rfl) (by rfl) (by exact Tw2'.out) (by kernel_rfl) (by simp [Value.oneCell', bW]) ?_)
  intro w2' ew2'
  replace R := aA (show w2'.heap[w.heap.size + 1]? = some (.cells (bW g8).toArray 51 (0, 0)) by rw [ew2'.out]; exact aG (by omega) _ _ _ R.out)
  replace Q := aA (show Below w.heap.size w w2' by rw [ew2'.out]; exact Q.out.trans (aE _ _ _ (by have := Q.out.size; omega)))
  replace B := aA (show w2'.heap[w.heap.size]? = some (.cells (bW (⟨v, on, 0, 0, fast, many, slow⟩ : Sm)).toArray 51 (0, 0)) by rw [ew2'.out]; exact aJ (bW (⟨v, on, 0, 0, fast, many, slow⟩ : Sm)) (xs := bW ⟨st, wants, left, times, fast, many, slow⟩) B.out rfl)
  clear ew2' Tw2'
  have Tw3' := aA (show World.there _ (w.heap.size + 1) 0 7 from aK (cs := bW g8) R.out)
  go_wp2_with (first | (refine wpList_load_row rfl 51 (.tmp 2) (by rfl) w.heap.size (by rfl) 51 (bW (⟨v, on, 0, 0, fast, many, slow⟩ : Sm)).toArray (0, 0) _ (by exact B.out) Tryz.underlying51 (by rfl) (by kernel_rfl) ?_) | (refine aF (by rfl) 51 (.tmp 4) (.tmp 30) (by rfl) (w.heap.size + 1) 0 (bW (⟨v, on, 0, 0, fast, many, slow⟩ : Sm)) (by rfl) (by rfl) (by exact Tw3'.out) (by kernel_rfl) (by simp [Value.oneCell', bW]) ?_))
  intro w3' ew3'
  replace B := aA (show w3'.heap[w.heap.size]? = some (.cells (bW (⟨v, on, 0, 0, fast, many, slow⟩ : Sm)).toArray 51 (0, 0)) by rw [ew3'.out]; exact aG (by omega) _ _ _ B.out)
  replace Q := aA (show Below w.heap.size w w3' by rw [ew3'.out]; exact Q.out.trans (aE _ _ _ (by have := Q.out.size; omega)))
  replace R := aA (show w3'.heap[w.heap.size + 1]? = some (.cells (bW (⟨v, on, 0, 0, fast, many, slow⟩ : Sm)).toArray 51 (0, 0)) by rw [ew3'.out]; exact aJ (bW (⟨v, on, 0, 0, fast, many, slow⟩ : Sm)) (xs := bW g8) R.out rfl)
  clear ew3' Tw3'
  go_wp2_with fail
  refine bodyPost_ret (aP (by rfl) _ w3' (w.heap.size + 1) 51 (bW (⟨v, on, 0, 0, fast, many, slow⟩ : Sm)).toArray (0, 0) _ (.int .i64 0) (by rfl) (by rfl) R.out Tryz.underlying51 (by rfl) (by kernel_rfl)) rfl ⟨rfl, Q.out⟩
set_option maxRecDepth 100000 in
set_option maxHeartbeats 16000000 in
theorem smWant_ok (s : Sm) (on : Bool) (w : World) (h : smB s = true) :
    Calls Tryz.prog 187 #[.agg (bW s).toArray, .bool on] w fun e w' => e = .returned (.tuple #[.agg (bW (s.want on)).toArray, .int .i64 0]) ∧ Below w.heap.size w w' := by
  by_cases he : s.wants = on
  · have hg : s.want on = s := if_pos he
    rw [hg]
    exact smWant_same s on w h he
  · have hg : s.want on = { s with wants := on, left := 0, times := 0, st := if on = true then 1 else 0 } := if_neg he
    rw [hg]
    obtain ⟨st, wants, left, times, fast, many, slow⟩ := s
    exact smWant_new st wants left times fast many slow _ on w rfl h he
end Go.Proofs.YtkmddjbialpppaaGreatDoor
