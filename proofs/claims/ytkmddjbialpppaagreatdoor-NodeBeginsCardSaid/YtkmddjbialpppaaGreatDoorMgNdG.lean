import Derived.Test.YtkmddjbialpppaaGreatDoorNdF
import Derived.Test.YtkmddjbialpppaaGreatDoorMgCoJ
import Derived.Test.YtkmddjbialpppaaGreatDoorNmC
import Derived.Test.YtkmddjbialpppaaGreatDoorMgGd
import Derived.Test.YtkmddjbialpppaaGreatDoorMgFbR
import Derived.Test.YtkmddjbialpppaaGreatDoorMgBxC
namespace Go.Proofs.YtkmddjbialpppaaGreatDoor
open Go.ChangeShapes Go.WideShapes Go.ChangeAt Go.RowKit
open CM PD SG ND
namespace ND
def n0 (c : Cf) (id : Int) : Nd := { zNd with cf := c, id := id, ctl := zCl }
def eD (c : Cf) (id : Int) (os : List Ou) (oA : Option Addr) (oc : Nat) (is : List Inn) (iA : Option Addr) (ic : Nat) (t : Tv) (mem : Int) : Nd :=
  ⟨c, id, os, oA, oc, is, iA, ic, zCl, eT 8, t, ⟨mem, 0, fun _ => 0, c.heard⟩, ⟨0, false, 0, 0, 0, 0, c.rep, c.cycle, c.heard, c.wait⟩, ⟨0, false, 0, 0, 5, 3, 20⟩, 0⟩
end ND
theorem dB (n : Nd) : ∀ v ∈ n.cs, v.oneCell' = true := by
  unfold Nd.cs
  simp only [List.forall_mem_append]
  refine ⟨?_, ?_, ?_, ?_, ?_, ?_, ?_, ?_, ?_⟩
  all_goals simp [Cf.cs, Cl.cs, Fi.cs, bD, bO, bR, bW, Value.oneCell']
theorem slOutN : SlT Tryz.prog 30 77 26 304 := SlT.mk Tryz.underlying30 (z := .agg Ou.zero.cs.toArray) (by kernel_rfl) rfl (by decide)
theorem slInN : SlT Tryz.prog 31 102 13 192 := SlT.mk Tryz.underlying31 (z := .agg Inn.zero.cs.toArray) (by kernel_rfl) rfl (by decide)
theorem whP_congr {l : List Pd} {f g : Pd → Bool} (h : ∀ p ∈ l, f p = g p) : ∀ k, cY l f k = cY l g k
  | 0 => rfl
  | k + 1 => by
    unfold cY
    rw [whP_congr h k]
    cases hk : l[k]? with
    | none => rfl
    | some p => dsimp only; rw [h p (List.mem_of_getElem? hk)]
theorem hear_congr {c : Cf} {id : Int} (h0 : 0 ≤ id) (h1 : id < c.nodes) : cY c.l (fT c id) c.l.length = cY c.l (iT id) c.l.length := whP_congr (fun p _ => by
  unfold fT iT cK
  rw [decide_eq_true (show 0 ≤ id ∧ id ≤ c.nodes - 1 by omega)]
  rfl) _
theorem cfB_pn {c : Cf} {mem : Int} (h : cF c = true) (hm : 0 ≤ mem ∧ mem < 65536) : Pn.Rt ⟨mem, 0, fun _ => 0, c.heard⟩ := by
  have hf := eZ h
  unfold gN at hf
  simp only [Bool.and_eq_true, decide_eq_true_eq] at hf
  have h6 := b8 hf.2.2.2.2.2.1
  have h7 := b8 hf.2.2.2.2.2.2.1
  exact ⟨by dsimp only; omega, by dsimp only; rw [u16_andNot 0 mem (by omega) (by omega) hm.1 hm.2]; simp, fun k hk => by dsimp only; omega⟩
theorem cfB_nm {c : Cf} (h : cF c = true) : nmB ⟨0, false, 0, 0, 0, 0, c.rep, c.cycle, c.heard, c.wait⟩ = true := by
  have hf := eZ h
  unfold gN at hf
  simp only [Bool.and_eq_true, decide_eq_true_eq] at hf
  have h4 := hf.2.2.2.1
  have h6 := hf.2.2.2.2.2.1
  have h7 := b8 hf.2.2.2.2.2.2.1
  have h6' := b8 h6
  have h8 := hf.2.2.2.2.2.2.2
  unfold nmB
  simp only [h4, h6, h8, Bool.true_and, isB, sdsB, awkB]
  simp [cK]
  omega
set_option maxRecDepth 100000 in
set_option maxHeartbeats 16000000 in
theorem ndNew_no (c : Cf) (id : Int) (t : Tv) (mem : Int) (w : World) (ho : c.Ok w) (h : (cF c && cK id 0 (c.nodes - 1)) = false) :
    Calls Tryz.prog 6 #[.agg c.cs.toArray, .int .i64 id, .agg (bD t).toArray, .int .u16 mem] w fun e w' => e = .returned (.tuple #[.agg zNd.cs.toArray, .int .i64 1]) ∧ Below w.heap.size w w' := by
  obtain ⟨w0, hw0⟩ : ∃ w0, w0 = ((w.alloc (.cells c.cs.toArray 25)).alloc (.cells (bD t).toArray 27)).alloc (.cells zNd.cs.toArray 53) := ⟨_, rfl⟩
  have C := aA (aB (aB (World.alloc_heap_new w (.cells c.cs.toArray 25)) ((Below.refl _ (w.alloc (.cells c.cs.toArray 25))).alloc (Nat.le_refl _) (.cells (bD t).toArray 27))) ((Below.refl _ ((w.alloc (.cells c.cs.toArray 25)).alloc (.cells (bD t).toArray 27))).alloc (Nat.le_refl _) (.cells zNd.cs.toArray 53)))
  have T := aA (aB (World.alloc_heap_new (w.alloc (.cells c.cs.toArray 25)) (.cells (bD t).toArray 27)) ((Below.refl _ ((w.alloc (.cells c.cs.toArray 25)).alloc (.cells (bD t).toArray 27))).alloc (Nat.le_refl _) (.cells zNd.cs.toArray 53)))
  have R := aA (World.alloc_heap_new ((w.alloc (.cells c.cs.toArray 25)).alloc (.cells (bD t).toArray 27)) (.cells zNd.cs.toArray 53))
  have Q : Hid (Below w.heap.size w w0) := by rw [hw0]; exact aA ((((Below.refl w.heap.size w).alloc (Nat.le_refl _) (.cells c.cs.toArray 25)).alloc (by simp; try omega) (.cells (bD t).toArray 27)).alloc (by simp; try omega) (.cells zNd.cs.toArray 53))
  rw [← hw0] at C T R
  simp only [World.size_alloc] at T R
  replace R := aA (show w0.heap[w.heap.size + 2]? = some (.cells zNd.cs.toArray 53 (0, 0)) from R.out)
  have CR := aA (fun W (q : Below w.heap.size w W) => cD c W (ho.next q))
  have HB := aA h
  clear ho h
  go_enter Tryz.func6, Tryz.ntmps6
  go_upto_region 1 with fail
  change Code.wp _ _ _ _ (((w.alloc (.cells c.cs.toArray 25)).alloc (.cells (bD t).toArray 27)).alloc (.cells zNd.cs.toArray 53))
  rw [← hw0]
  clear hw0
  have NW := aA (fun W => kG W)
  go_cut [10] (fun v10 W => ∃ b, v10 = .pointer (some ⟨b, 0, none⟩) ∧ w.heap.size + 2 < b ∧ Hid (W.heap[b]? = some (.cells (n0 c id).cs.toArray 53 (0, 0))) ∧ Hid (W.heap[w.heap.size]? = some (.cells c.cs.toArray 25 (0, 0))) ∧ Hid (W.heap[w.heap.size + 1]? = some (.cells (bD t).toArray 27 (0, 0))) ∧ Hid (W.heap[w.heap.size + 2]? = some (.cells zNd.cs.toArray 53 (0, 0))) ∧ Hid (Below w.heap.size w W))
  case first =>
    refine bB [0, 1, 3] [(0, fun W => W.heap[w.heap.size]? = some (.cells c.cs.toArray 25 (0, 0)))] (by kernel_rfl) ?_
    replace C := aA (show w0.drew.heap[w.heap.size]? = some (.cells c.cs.toArray 25 (0, 0)) from C.out)
    replace T := aA (show w0.drew.heap[w.heap.size + 1]? = some (.cells (bD t).toArray 27 (0, 0)) from T.out)
    replace R := aA (show w0.drew.heap[w.heap.size + 2]? = some (.cells zNd.cs.toArray 53 (0, 0)) from R.out)
    replace Q := aA (show Below w.heap.size w w0.drew from Q.out.drew)
    generalize w0.drew = w1' at *
    refine aQ (i := 0) (v := .agg #[.int .i64 c.nodes, .slice c.a c.l.length c.c, .int .u32 c.base, .int .i64 c.rep, .int .i64 c.cycle, .int .i64 c.heard, .int .i64 c.wait, .int .i64 c.rate]) rfl rfl (by kernel_rfl) (by kernel_rfl) (by kernel_rfl) (by kernel_rfl) (by kernel_rfl) (fun _ _ _ h => h) rfl (fun W h => bZ W w.heap.size 25 c.cs _ h Tryz.underlying25 rfl (by kernel_rfl) _ _ (.tmp 4) (by rfl) (by rfl)) (C.out) ?_
    go_simp
    refine aD (i := 1) (v := .int .i64 id) rfl rfl (by kernel_rfl) (by kernel_rfl) (by kernel_rfl) (by kernel_rfl) (by kernel_rfl) (fun _ _ _ h => h) rfl (fun W => by go_simp) ?_
    go_simp
    refine cB (i := 2) (k := 4) (by kernel_rfl) ?_ ?_
    · refine aM rfl rfl ?_
      go_simp
      (with_reducible refine (NW.out _).mono ?_)
      rintro ew2' w2' ⟨rfl, qw2'⟩
      replace C := aA (aB C.out qw2')
      replace T := aA (aB T.out qw2')
      replace R := aA (aB R.out qw2')
      replace Q := aA (aC Q.out Q.out.size qw2')
      clear qw2'
      go_simp
      refine ⟨aO (by kernel_rfl) (.cons C.out .nil), ?_⟩
      go_simp
      refine aD (i := 3) (v := .agg (n0 c id).cs.toArray) rfl rfl (by kernel_rfl) (by kernel_rfl) (by kernel_rfl) (by kernel_rfl) (by kernel_rfl) (fun _ _ _ h => h) rfl (fun W => by kernel_rfl) ?_
      go_simp
      refine aI (i := 4) (by kernel_rfl) ?_
      refine aM rfl rfl ?_
      go_simp
      have B := aA (World.alloc_heap_new w2' (.cells zNd.cs.toArray 53))
      have zCb : w.heap.size < w2'.heap.size := aH C.out
      have zTb : w.heap.size + 1 < w2'.heap.size := aH T.out
      have zRb : w.heap.size + 2 < w2'.heap.size := aH R.out
      have zQb : w.heap.size ≤ w2'.heap.size := Q.out.size
      have q4' : Below w2'.heap.size w2' (w2'.alloc (.cells zNd.cs.toArray 53)) := (Below.refl _ _).alloc (Nat.le_refl _) _
      replace C := aA (aB C.out q4')
      replace T := aA (aB T.out q4')
      replace R := aA (aB R.out q4')
      replace Q := aA (aC Q.out Q.out.size q4')
      clear q4'
      refine ⟨aO (by kernel_rfl) (.cons C.out .nil), ?_⟩
      change bN _ _ _ _ _ _ _ _ _ (w2'.alloc (.cells zNd.cs.toArray 53))
      generalize w2'.alloc (.cells zNd.cs.toArray 53) = w3' at *
      generalize w2'.heap.size = b at *
      go_simp
      refine aI (i := 5) (by kernel_rfl) ?_
      refine aM rfl rfl ?_
      have Tw5' := aA (show World.there _ b 0 91 from aK (cs := zNd.cs) B.out)
      refine bP 53 (.tmp 10) (.tmp 23) rfl b 0 ((n0 c id).cs) (by rfl) (by rfl) (by exact Tw5'.out) (by kernel_rfl) (by exact dB _) ?_
      intro w5' ew5'
      replace C := aA (show w5'.heap[w.heap.size]? = some (.cells c.cs.toArray 25 (0, 0)) by rw [ew5']; exact aG (by omega) _ _ _ C.out)
      replace T := aA (show w5'.heap[w.heap.size + 1]? = some (.cells (bD t).toArray 27 (0, 0)) by rw [ew5']; exact aG (by omega) _ _ _ T.out)
      replace R := aA (show w5'.heap[w.heap.size + 2]? = some (.cells zNd.cs.toArray 53 (0, 0)) by rw [ew5']; exact aG (by omega) _ _ _ R.out)
      replace Q := aA (show Below w.heap.size w w5' by rw [ew5']; exact Q.out.trans (aE _ _ _ (by have := Q.out.size; omega)))
      replace B := aA (show w5'.heap[b]? = some (.cells ((n0 c id).cs).toArray 53 (0, 0)) by rw [ew5']; exact aJ ((n0 c id).cs) (xs := zNd.cs) B.out rfl)
      clear ew5' Tw5'
      refine ⟨aN (by kernel_rfl) (by kernel_rfl), ?_⟩
      go_simp
      refine aS (by kernel_rfl) ?_ _
      go_wp2_with fail
      go_meet
      exact ⟨b, rfl, by omega, B, C, T, R, Q⟩
    · refine aM rfl rfl ?_
      go_simp
      have B := aA (World.alloc_heap_new w1' (.cells zNd.cs.toArray 53))
      have zCb : w.heap.size < w1'.heap.size := aH C.out
      have zTb : w.heap.size + 1 < w1'.heap.size := aH T.out
      have zRb : w.heap.size + 2 < w1'.heap.size := aH R.out
      have zQb : w.heap.size ≤ w1'.heap.size := Q.out.size
      have q7' : Below w1'.heap.size w1' (w1'.alloc (.cells zNd.cs.toArray 53)) := (Below.refl _ _).alloc (Nat.le_refl _) _
      replace C := aA (aB C.out q7')
      replace T := aA (aB T.out q7')
      replace R := aA (aB R.out q7')
      replace Q := aA (aC Q.out Q.out.size q7')
      clear q7'
      refine ⟨aO (by kernel_rfl) (.cons C.out .nil), ?_⟩
      change bN _ _ _ _ _ _ _ _ _ (w1'.alloc (.cells zNd.cs.toArray 53))
      generalize w1'.alloc (.cells zNd.cs.toArray 53) = w6' at *
      generalize w1'.heap.size = b at *
      go_simp
      refine aI (i := 2) (by kernel_rfl) ?_
      refine aM rfl rfl ?_
      go_simp
      (with_reducible refine (NW.out _).mono ?_)
      rintro ew8' w8' ⟨rfl, qw8'⟩
      replace C := aA (aB C.out qw8')
      replace T := aA (aB T.out qw8')
      replace R := aA (aB R.out qw8')
      replace B := aA (aB B.out qw8')
      replace Q := aA (aC Q.out Q.out.size qw8')
      clear qw8'
      go_simp
      refine ⟨aO (by kernel_rfl) (.cons C.out .nil), ?_⟩
      go_simp
      refine aD (i := 3) (v := .agg (n0 c id).cs.toArray) rfl rfl (by kernel_rfl) (by kernel_rfl) (by kernel_rfl) (by kernel_rfl) (by kernel_rfl) (fun _ _ _ h => h) rfl (fun W => by kernel_rfl) ?_
      go_simp
      refine aI (i := 5) (by kernel_rfl) ?_
      refine aM rfl rfl ?_
      have Tw9' := aA (show World.there _ b 0 91 from aK (cs := zNd.cs) B.out)
      refine bP 53 (.tmp 10) (.tmp 23) rfl b 0 ((n0 c id).cs) (by rfl) (by rfl) (by exact Tw9'.out) (by kernel_rfl) (by exact dB _) ?_
      intro w9' ew9'
      replace C := aA (show w9'.heap[w.heap.size]? = some (.cells c.cs.toArray 25 (0, 0)) by rw [ew9']; exact aG (by omega) _ _ _ C.out)
      replace T := aA (show w9'.heap[w.heap.size + 1]? = some (.cells (bD t).toArray 27 (0, 0)) by rw [ew9']; exact aG (by omega) _ _ _ T.out)
      replace R := aA (show w9'.heap[w.heap.size + 2]? = some (.cells zNd.cs.toArray 53 (0, 0)) by rw [ew9']; exact aG (by omega) _ _ _ R.out)
      replace Q := aA (show Below w.heap.size w w9' by rw [ew9']; exact Q.out.trans (aE _ _ _ (by have := Q.out.size; omega)))
      replace B := aA (show w9'.heap[b]? = some (.cells ((n0 c id).cs).toArray 53 (0, 0)) by rw [ew9']; exact aJ ((n0 c id).cs) (xs := zNd.cs) B.out rfl)
      clear ew9' Tw9'
      refine ⟨aN (by kernel_rfl) (by kernel_rfl), ?_⟩
      go_simp
      refine aS (by kernel_rfl) ?_ _
      go_wp2_with fail
      go_meet
      exact ⟨b, rfl, by omega, B, C, T, R, Q⟩
  case rest =>
  clear C T R Q NW
  obtain ⟨b, rfl, zb, B, C, T, R, Q⟩ := hcut
  go_wp2_with (refine wpList_load_row rfl 25 (.tmp 4) (by rfl) w.heap.size (by rfl) 25 c.cs.toArray (0, 0) _ (by exact C.out) Tryz.underlying25 (by rfl) (by kernel_rfl) ?_)
  rcases hb : cF c with _ | _
  ·
    rw [hb] at CR
    (with_reducible refine (CR.out wc Q.out).mono ?_)
    rintro ew10' w10' ⟨rfl, qw10'⟩
    replace C := aA (aB C.out qw10')
    replace T := aA (aB T.out qw10')
    replace R := aA (aB R.out qw10')
    replace B := aA (aB B.out qw10')
    replace Q := aA (aC Q.out Q.out.size qw10')
    clear qw10'
    clear CR
    clear HB hb
    have Tw11' := aA (show World.there _ (w.heap.size + 2) 0 91 from aK (cs := zNd.cs) R.out)
    go_wp2_with (refine aF (by rfl) 53 (.tmp 8) (.tmp 37) (by rfl) (w.heap.size + 2) 0 zNd.cs (by rfl) (by rfl) (by exact Tw11'.out) (by kernel_rfl) (by exact dB _) ?_)
    intro w11' ew11'
    replace C := aA (show w11'.heap[w.heap.size]? = some (.cells c.cs.toArray 25 (0, 0)) by rw [ew11'.out]; exact aG (by omega) _ _ _ C.out)
    replace T := aA (show w11'.heap[w.heap.size + 1]? = some (.cells (bD t).toArray 27 (0, 0)) by rw [ew11'.out]; exact aG (by omega) _ _ _ T.out)
    replace B := aA (show w11'.heap[b]? = some (.cells ((n0 c id).cs).toArray 53 (0, 0)) by rw [ew11'.out]; exact aG (by omega) _ _ _ B.out)
    replace Q := aA (show Below w.heap.size w w11' by rw [ew11'.out]; exact Q.out.trans (aE _ _ _ (by have := Q.out.size; omega)))
    replace R := aA (show w11'.heap[w.heap.size + 2]? = some (.cells zNd.cs.toArray 53 (0, 0)) by rw [ew11'.out]; exact aJ zNd.cs (xs := zNd.cs) R.out rfl)
    clear ew11' Tw11'
    go_wp2_with fail
    refine bodyPost_ret (aP (by rfl) _ w11' (w.heap.size + 2) 53 (zNd.cs).toArray (0, 0) _ (.int .i64 1) (by rfl) (by rfl) R.out Tryz.underlying53 (by rfl) (by kernel_rfl)) rfl ⟨rfl, Q.out⟩
  have hi := HB.out
  rw [hb, Bool.true_and] at hi
  rw [hb] at CR
  unfold cK at hi
  have hi2 := of_decide_eq_false hi
  clear hi HB hb
  (with_reducible refine (CR.out wc Q.out).mono ?_)
  rintro ew12' w12' ⟨rfl, qw12'⟩
  replace C := aA (aB C.out qw12')
  replace T := aA (aB T.out qw12')
  replace R := aA (aB R.out qw12')
  replace B := aA (aB B.out qw12')
  replace Q := aA (aC Q.out Q.out.size qw12')
  clear qw12'
  clear CR
  obtain ⟨d0, _⟩ := bL C.out
  by_cases h0 : id < 0
  ·
    go_upto_region 3 with fail
    clear d0
    have Tw13' := aA (show World.there _ (w.heap.size + 2) 0 91 from aK (cs := zNd.cs) R.out)
    go_wp2_with (refine aF (by rfl) 53 (.tmp 8) (.tmp 37) (by rfl) (w.heap.size + 2) 0 zNd.cs (by rfl) (by rfl) (by exact Tw13'.out) (by kernel_rfl) (by exact dB _) ?_)
    intro w13' ew13'
    replace C := aA (show w13'.heap[w.heap.size]? = some (.cells c.cs.toArray 25 (0, 0)) by rw [ew13'.out]; exact aG (by omega) _ _ _ C.out)
    replace T := aA (show w13'.heap[w.heap.size + 1]? = some (.cells (bD t).toArray 27 (0, 0)) by rw [ew13'.out]; exact aG (by omega) _ _ _ T.out)
    replace B := aA (show w13'.heap[b]? = some (.cells ((n0 c id).cs).toArray 53 (0, 0)) by rw [ew13'.out]; exact aG (by omega) _ _ _ B.out)
    replace Q := aA (show Below w.heap.size w w13' by rw [ew13'.out]; exact Q.out.trans (aE _ _ _ (by have := Q.out.size; omega)))
    replace R := aA (show w13'.heap[w.heap.size + 2]? = some (.cells zNd.cs.toArray 53 (0, 0)) by rw [ew13'.out]; exact aJ zNd.cs (xs := zNd.cs) R.out rfl)
    clear ew13' Tw13'
    go_wp2_with fail
    refine bodyPost_ret (aP (by rfl) _ w13' (w.heap.size + 2) 53 (zNd.cs).toArray (0, 0) _ (.int .i64 1) (by rfl) (by rfl) R.out Tryz.underlying53 (by rfl) (by kernel_rfl)) rfl ⟨rfl, Q.out⟩
  have h1 : c.nodes ≤ id := by omega
  ·
    go_upto_region 3 with fail
    clear d0
    have Tw14' := aA (show World.there _ (w.heap.size + 2) 0 91 from aK (cs := zNd.cs) R.out)
    go_wp2_with (refine aF (by rfl) 53 (.tmp 8) (.tmp 37) (by rfl) (w.heap.size + 2) 0 zNd.cs (by rfl) (by rfl) (by exact Tw14'.out) (by kernel_rfl) (by exact dB _) ?_)
    intro w14' ew14'
    replace C := aA (show w14'.heap[w.heap.size]? = some (.cells c.cs.toArray 25 (0, 0)) by rw [ew14'.out]; exact aG (by omega) _ _ _ C.out)
    replace T := aA (show w14'.heap[w.heap.size + 1]? = some (.cells (bD t).toArray 27 (0, 0)) by rw [ew14'.out]; exact aG (by omega) _ _ _ T.out)
    replace B := aA (show w14'.heap[b]? = some (.cells ((n0 c id).cs).toArray 53 (0, 0)) by rw [ew14'.out]; exact aG (by omega) _ _ _ B.out)
    replace Q := aA (show Below w.heap.size w w14' by rw [ew14'.out]; exact Q.out.trans (aE _ _ _ (by have := Q.out.size; omega)))
    replace R := aA (show w14'.heap[w.heap.size + 2]? = some (.cells zNd.cs.toArray 53 (0, 0)) by rw [ew14'.out]; exact aJ zNd.cs (xs := zNd.cs) R.out rfl)
    clear ew14' Tw14'
    go_wp2_with fail
    refine bodyPost_ret (aP (by rfl) _ w14' (w.heap.size + 2) 53 (zNd.cs).toArray (0, 0) _ (.int .i64 1) (by rfl) (by rfl) R.out Tryz.underlying53 (by rfl) (by kernel_rfl)) rfl ⟨rfl, Q.out⟩
namespace ND
structure Td where
  kind : Int
  at_ : Int
  n : Int
def tdL (t : Td) : List Value := [.int .i64 t.kind, .int .i64 t.at_, .int .i64 t.n]
structure Wo where
  n : Nd
  l : List Td
  tA : Option Addr
  tc : Nat
  bad : Bool
def Wo.cs (w : Wo) : List Value := w.n.cs ++ [.slice w.tA w.l.length w.tc, .bool w.bad]
end ND
theorem fA {α : Type} : ∀ (vs : List α) (a r : List α) (o : Nat), o + vs.length ≤ a.length → eH (a ++ r) o vs = eH a o vs ++ r
  | [], _, _, _, _ => rfl
  | v :: vs, a, r, o, h => by
    rw [List.length_cons] at h
    show eH ((a ++ r).set o v) (o + 1) vs = eH (a.set o v) (o + 1) vs ++ r
    rw [List.set_append_left _ _ (by omega)]
    exact fA vs (a.set o v) r (o + 1) (by rw [List.length_set]; omega)
theorem bM {W : World} {B : Nat} {n : Wo} {t : TypeId} {fz : Nat × Nat} (h : W.heap[B]? = some (.cells n.cs.toArray t fz)) (k : Nat) {v : Value} (hv : n.cs[k]? = some v) : W.cell? ⟨B, k, none⟩ = some v := by
  simp [World.cell?, h, hv]
theorem wo_free {W : World} {B : Nat} {n : Wo} {t : TypeId} (h : W.heap[B]? = some (.cells n.cs.toArray t (0, 0))) (j : Nat) : W.frozen? ⟨B, j, none⟩ = false := by simp [World.frozen?, h]
theorem wo_set_bad {W : World} {b : Nat} {n : Wo} (v : Bool) (h : W.heap[b]? = some (.cells n.cs.toArray 145 (0, 0))) : (W.setCells b 92 [.bool v]).heap[b]? = some (.cells ({ n with bad := v } : Wo).cs.toArray 145 (0, 0)) := aU [.bool v] n.cs 92 W h
theorem wo_set_told {W : World} {b : Nat} {n : Wo} (l : List Td) (A : Option Addr) (c : Nat) (h : W.heap[b]? = some (.cells n.cs.toArray 145 (0, 0))) : (W.setCells b 91 [.slice A l.length c]).heap[b]? = some (.cells ({ n with l := l, tA := A, tc := c } : Wo).cs.toArray 145 (0, 0)) := aU [.slice A l.length c] n.cs 91 W h
theorem wo_set_ctl {W : World} {b : Nat} {n : Wo} (x : Cl) (h : W.heap[b]? = some (.cells n.cs.toArray 145 (0, 0))) : (W.setCells b 11 (x.cs)).heap[b]? = some (.cells ({ n with n := { n.n with ctl := x } } : Wo).cs.toArray 145 (0, 0)) := by
  have k := aU (x.cs) n.cs 11 W h
  have e : eH n.cs 11 (x.cs) = ({ n with n := { n.n with ctl := x } } : Wo).cs := by
    unfold Wo.cs
    rw [fA (x.cs) n.n.cs _ 11 (by show _ ≤ 91; exact Nat.le_of_ble_eq_true rfl), nd_setL_ctl]
  rw [e] at k
  exact k
theorem wo_set_fi {W : World} {b : Nat} {n : Wo} (x : Fi) (h : W.heap[b]? = some (.cells n.cs.toArray 145 (0, 0))) : (W.setCells b 34 (x.cs)).heap[b]? = some (.cells ({ n with n := { n.n with fi := x } } : Wo).cs.toArray 145 (0, 0)) := by
  have k := aU (x.cs) n.cs 34 W h
  have e : eH n.cs 34 (x.cs) = ({ n with n := { n.n with fi := x } } : Wo).cs := by
    unfold Wo.cs
    rw [fA (x.cs) n.n.cs _ 34 (by show _ ≤ 91; exact Nat.le_of_ble_eq_true rfl), nd_setL_fi]
  rw [e] at k
  exact k
theorem wo_set_tv {W : World} {b : Nat} {n : Wo} (x : Tv) (h : W.heap[b]? = some (.cells n.cs.toArray 145 (0, 0))) : (W.setCells b 41 (bD x)).heap[b]? = some (.cells ({ n with n := { n.n with tv := x } } : Wo).cs.toArray 145 (0, 0)) := by
  have k := aU (bD x) n.cs 41 W h
  have e : eH n.cs 41 (bD x) = ({ n with n := { n.n with tv := x } } : Wo).cs := by
    unfold Wo.cs
    rw [fA (bD x) n.n.cs _ 41 (by show _ ≤ 91; exact Nat.le_of_ble_eq_true rfl), nd_setL_tv]
  rw [e] at k
  exact k
theorem wo_set_pn {W : World} {b : Nat} {n : Wo} (x : Pn) (h : W.heap[b]? = some (.cells n.cs.toArray 145 (0, 0))) : (W.setCells b 54 (bO x)).heap[b]? = some (.cells ({ n with n := { n.n with pn := x } } : Wo).cs.toArray 145 (0, 0)) := by
  have k := aU (bO x) n.cs 54 W h
  have e : eH n.cs 54 (bO x) = ({ n with n := { n.n with pn := x } } : Wo).cs := by
    unfold Wo.cs
    rw [fA (bO x) n.n.cs _ 54 (by show _ ≤ 91; exact Nat.le_of_ble_eq_true rfl), nd_setL_pn]
  rw [e] at k
  exact k
theorem wo_set_nm {W : World} {b : Nat} {n : Wo} (x : Nm) (h : W.heap[b]? = some (.cells n.cs.toArray 145 (0, 0))) : (W.setCells b 73 (bR x)).heap[b]? = some (.cells ({ n with n := { n.n with nm := x } } : Wo).cs.toArray 145 (0, 0)) := by
  have k := aU (bR x) n.cs 73 W h
  have e : eH n.cs 73 (bR x) = ({ n with n := { n.n with nm := x } } : Wo).cs := by
    unfold Wo.cs
    rw [fA (bR x) n.n.cs _ 73 (by show _ ≤ 91; exact Nat.le_of_ble_eq_true rfl), nd_setL_nm]
  rw [e] at k
  exact k
theorem wo_set_sm {W : World} {b : Nat} {n : Wo} (x : Sm) (h : W.heap[b]? = some (.cells n.cs.toArray 145 (0, 0))) : (W.setCells b 83 (bW x)).heap[b]? = some (.cells ({ n with n := { n.n with sm := x } } : Wo).cs.toArray 145 (0, 0)) := by
  have k := aU (bW x) n.cs 83 W h
  have e : eH n.cs 83 (bW x) = ({ n with n := { n.n with sm := x } } : Wo).cs := by
    unfold Wo.cs
    rw [fA (bW x) n.n.cs _ 83 (by show _ ≤ 91; exact Nat.le_of_ble_eq_true rfl), nd_setL_sm]
  rw [e] at k
  exact k
set_option maxRecDepth 100000 in
set_option maxHeartbeats 16000000 in
theorem ndMust (wo : Wo) (hb : wo.bad = false) (e : Int) (b : Nat) (W : World) (hB : W.heap[b]? = some (.cells wo.cs.toArray 145 (0, 0))) :
    Calls Tryz.prog 108 #[.pointer (some ⟨b, 0, none⟩), .int .i64 e] W fun r W' => r = .returned (.bool (e == 0)) ∧ W'.heap[b]? = some (.cells ({ wo with bad := e == 1 } : Wo).cs.toArray 145 (0, 0)) ∧ Kp (fun k => k = b) W W' := by
  have HB := aA hB
  have c92 := bM hB 92 (v := .bool wo.bad) rfl
  rw [hb] at c92
  have f4 := wo_free hB
  clear hB hb
  go_enter Tryz.func108, Tryz.ntmps108
  go_wp2_with fail
  go_ret
  exact ⟨rfl, wo_set_bad (e == 1) HB.out, Kp.setC (S := fun k => k = b) _ _ _ _ rfl⟩
set_option maxRecDepth 100000 in
set_option maxHeartbeats 16000000 in
theorem ndSet_pn (wo : Wo) (hb : wo.bad = false) (x : Pn) (b : Nat) (W : World) (hB : W.heap[b]? = some (.cells wo.cs.toArray 145 (0, 0))) :
    Calls Tryz.prog 58 #[.pointer (some ⟨b, 0, none⟩), .pointer (some ⟨b, 54, none⟩), .agg (bO x).toArray, .int .i64 0] W fun r W' => r = .returned (.tuple #[]) ∧ W'.heap[b]? = some (.cells ({ wo with n := { wo.n with pn := x } } : Wo).cs.toArray 145 (0, 0)) ∧ Kp (fun k => k = b) W W' := by
  have hz := aH hB
  obtain ⟨w0, hw0⟩ : ∃ w0, w0 = W.alloc (.cells (bO x).toArray 47) := ⟨_, rfl⟩
  have X := aA (World.alloc_heap_new W (.cells (bO x).toArray 47))
  have q0 : Below W.heap.size W (W.alloc (.cells (bO x).toArray 47)) := (Below.refl W.heap.size W).alloc (Nat.le_refl _) _
  have B := aA (aB hB q0)
  have K0 : Hid (Kp (fun k => k = b) W w0) := by rw [hw0]; exact aA (Kp.of q0)
  rw [← hw0] at X B
  have MU := aA (ndMust wo hb 0 b w0 B.out)
  have HBAD := aA hb
  clear hB hb q0
  go_enter Tryz.func58, Tryz.ntmps58
  go_upto_region 1 with fail
  change Code.wp _ _ _ _ (W.alloc (.cells (bO x).toArray 47))
  rw [← hw0]
  clear hw0
  go_wp2_with fail
  (with_reducible refine (MU.out).mono ?_)
  rintro e1 w1 ⟨rfl, b1, k1⟩
  have X1 := aA (k1.heap X.out (by omega))
  have B1 := aA (show w1.heap[b]? = some (.cells wo.cs.toArray 145 (0, 0)) from by
    rw [b1]
    have := HBAD.out
    cases wo
    dsimp only at this
    subst this
    rfl)
  have K1 := aA (K0.out.trans k1)
  clear b1 k1 X B K0 MU
  have TH := aA (show World.there _ b 54 19 from dF (cs := wo.cs) B1.out 54 19 (by show _ ≤ 93; exact Nat.le_of_ble_eq_true rfl))
  go_wp2_with (first | (refine wpList_load_row rfl 47 (.tmp 6) (by rfl) W.heap.size (by rfl) 47 (bO x).toArray (0, 0) _ (by exact X1.out) Tryz.underlying47 (by rfl) (by kernel_rfl) ?_) | (refine aF (by rfl) 47 (.tmp 13) (.tmp 12) (by rfl) b 54 (bO x) (by rfl) (by rfl) (by exact TH.out) (by kernel_rfl) (by simp [Value.oneCell', bO]) ?_))
  intro w2 e2
  have B2 := aA (show w2.heap[b]? = some (.cells ({ wo with n := { wo.n with pn := x } } : Wo).cs.toArray 145 (0, 0)) by rw [e2.out]; exact wo_set_pn x B1.out)
  have K2 := aA (show Kp (fun k => k = b) W w2 by rw [e2.out]; exact K1.out.trans (Kp.set _ _ _ _ rfl))
  clear e2 TH X1 B1 K1
  go_wp2_with fail
  go_end0
  exact ⟨rfl, B2.out, K2.out⟩
set_option maxRecDepth 100000 in
set_option maxHeartbeats 16000000 in
theorem ndSet_nm (wo : Wo) (hb : wo.bad = false) (x : Nm) (b : Nat) (W : World) (hB : W.heap[b]? = some (.cells wo.cs.toArray 145 (0, 0))) :
    Calls Tryz.prog 60 #[.pointer (some ⟨b, 0, none⟩), .pointer (some ⟨b, 73, none⟩), .agg (bR x).toArray, .int .i64 0] W fun r W' => r = .returned (.tuple #[]) ∧ W'.heap[b]? = some (.cells ({ wo with n := { wo.n with nm := x } } : Wo).cs.toArray 145 (0, 0)) ∧ Kp (fun k => k = b) W W' := by
  have hz := aH hB
  obtain ⟨w0, hw0⟩ : ∃ w0, w0 = W.alloc (.cells (bR x).toArray 49) := ⟨_, rfl⟩
  have X := aA (World.alloc_heap_new W (.cells (bR x).toArray 49))
  have q0 : Below W.heap.size W (W.alloc (.cells (bR x).toArray 49)) := (Below.refl W.heap.size W).alloc (Nat.le_refl _) _
  have B := aA (aB hB q0)
  have K0 : Hid (Kp (fun k => k = b) W w0) := by rw [hw0]; exact aA (Kp.of q0)
  rw [← hw0] at X B
  have MU := aA (ndMust wo hb 0 b w0 B.out)
  have HBAD := aA hb
  clear hB hb q0
  go_enter Tryz.func60, Tryz.ntmps60
  go_upto_region 1 with fail
  change Code.wp _ _ _ _ (W.alloc (.cells (bR x).toArray 49))
  rw [← hw0]
  clear hw0
  go_wp2_with fail
  (with_reducible refine (MU.out).mono ?_)
  rintro e1 w1 ⟨rfl, b1, k1⟩
  have X1 := aA (k1.heap X.out (by omega))
  have B1 := aA (show w1.heap[b]? = some (.cells wo.cs.toArray 145 (0, 0)) from by
    rw [b1]
    have := HBAD.out
    cases wo
    dsimp only at this
    subst this
    rfl)
  have K1 := aA (K0.out.trans k1)
  clear b1 k1 X B K0 MU
  have TH := aA (show World.there _ b 73 10 from dF (cs := wo.cs) B1.out 73 10 (by show _ ≤ 93; exact Nat.le_of_ble_eq_true rfl))
  go_wp2_with (first | (refine wpList_load_row rfl 49 (.tmp 6) (by rfl) W.heap.size (by rfl) 49 (bR x).toArray (0, 0) _ (by exact X1.out) Tryz.underlying49 (by rfl) (by kernel_rfl) ?_) | (refine aF (by rfl) 49 (.tmp 13) (.tmp 12) (by rfl) b 73 (bR x) (by rfl) (by rfl) (by exact TH.out) (by kernel_rfl) (by simp [Value.oneCell', bR]) ?_))
  intro w2 e2
  have B2 := aA (show w2.heap[b]? = some (.cells ({ wo with n := { wo.n with nm := x } } : Wo).cs.toArray 145 (0, 0)) by rw [e2.out]; exact wo_set_nm x B1.out)
  have K2 := aA (show Kp (fun k => k = b) W w2 by rw [e2.out]; exact K1.out.trans (Kp.set _ _ _ _ rfl))
  clear e2 TH X1 B1 K1
  go_wp2_with fail
  go_end0
  exact ⟨rfl, B2.out, K2.out⟩
set_option maxRecDepth 100000 in
set_option maxHeartbeats 16000000 in
theorem ndSet_sm (wo : Wo) (hb : wo.bad = false) (x : Sm) (b : Nat) (W : World) (hB : W.heap[b]? = some (.cells wo.cs.toArray 145 (0, 0))) :
    Calls Tryz.prog 119 #[.pointer (some ⟨b, 0, none⟩), .pointer (some ⟨b, 83, none⟩), .agg (bW x).toArray, .int .i64 0] W fun r W' => r = .returned (.tuple #[]) ∧ W'.heap[b]? = some (.cells ({ wo with n := { wo.n with sm := x } } : Wo).cs.toArray 145 (0, 0)) ∧ Kp (fun k => k = b) W W' := by
  have hz := aH hB
  obtain ⟨w0, hw0⟩ : ∃ w0, w0 = W.alloc (.cells (bW x).toArray 51) := ⟨_, rfl⟩
  have X := aA (World.alloc_heap_new W (.cells (bW x).toArray 51))
  have q0 : Below W.heap.size W (W.alloc (.cells (bW x).toArray 51)) := (Below.refl W.heap.size W).alloc (Nat.le_refl _) _
  have B := aA (aB hB q0)
  have K0 : Hid (Kp (fun k => k = b) W w0) := by rw [hw0]; exact aA (Kp.of q0)
  rw [← hw0] at X B
  have MU := aA (ndMust wo hb 0 b w0 B.out)
  have HBAD := aA hb
  clear hB hb q0
  go_enter Tryz.func119, Tryz.ntmps119
  go_upto_region 1 with fail
  change Code.wp _ _ _ _ (W.alloc (.cells (bW x).toArray 51))
  rw [← hw0]
  clear hw0
  go_wp2_with fail
  (with_reducible refine (MU.out).mono ?_)
  rintro e1 w1 ⟨rfl, b1, k1⟩
  have X1 := aA (k1.heap X.out (by omega))
  have B1 := aA (show w1.heap[b]? = some (.cells wo.cs.toArray 145 (0, 0)) from by
    rw [b1]
    have := HBAD.out
    cases wo
    dsimp only at this
    subst this
    rfl)
  have K1 := aA (K0.out.trans k1)
  clear b1 k1 X B K0 MU
  have TH := aA (show World.there _ b 83 7 from dF (cs := wo.cs) B1.out 83 7 (by show _ ≤ 93; exact Nat.le_of_ble_eq_true rfl))
  go_wp2_with (first | (refine wpList_load_row rfl 51 (.tmp 6) (by rfl) W.heap.size (by rfl) 51 (bW x).toArray (0, 0) _ (by exact X1.out) Tryz.underlying51 (by rfl) (by kernel_rfl) ?_) | (refine aF (by rfl) 51 (.tmp 13) (.tmp 12) (by rfl) b 83 (bW x) (by rfl) (by rfl) (by exact TH.out) (by kernel_rfl) (by simp [Value.oneCell', bW]) ?_))
  intro w2 e2
  have B2 := aA (show w2.heap[b]? = some (.cells ({ wo with n := { wo.n with sm := x } } : Wo).cs.toArray 145 (0, 0)) by rw [e2.out]; exact wo_set_sm x B1.out)
  have K2 := aA (show Kp (fun k => k = b) W w2 by rw [e2.out]; exact K1.out.trans (Kp.set _ _ _ _ rfl))
  clear e2 TH X1 B1 K1
  go_wp2_with fail
  go_end0
  exact ⟨rfl, B2.out, K2.out⟩
set_option maxRecDepth 100000 in
set_option maxHeartbeats 16000000 in
theorem ndSet_tv (wo : Wo) (hb : wo.bad = false) (x : Tv) (b : Nat) (W : World) (hB : W.heap[b]? = some (.cells wo.cs.toArray 145 (0, 0))) :
    Calls Tryz.prog 123 #[.pointer (some ⟨b, 0, none⟩), .pointer (some ⟨b, 41, none⟩), .agg (bD x).toArray, .int .i64 0] W fun r W' => r = .returned (.tuple #[]) ∧ W'.heap[b]? = some (.cells ({ wo with n := { wo.n with tv := x } } : Wo).cs.toArray 145 (0, 0)) ∧ Kp (fun k => k = b) W W' := by
  have hz := aH hB
  obtain ⟨w0, hw0⟩ : ∃ w0, w0 = W.alloc (.cells (bD x).toArray 27) := ⟨_, rfl⟩
  have X := aA (World.alloc_heap_new W (.cells (bD x).toArray 27))
  have q0 : Below W.heap.size W (W.alloc (.cells (bD x).toArray 27)) := (Below.refl W.heap.size W).alloc (Nat.le_refl _) _
  have B := aA (aB hB q0)
  have K0 : Hid (Kp (fun k => k = b) W w0) := by rw [hw0]; exact aA (Kp.of q0)
  rw [← hw0] at X B
  have MU := aA (ndMust wo hb 0 b w0 B.out)
  have HBAD := aA hb
  clear hB hb q0
  go_enter Tryz.func123, Tryz.ntmps123
  go_upto_region 1 with fail
  change Code.wp _ _ _ _ (W.alloc (.cells (bD x).toArray 27))
  rw [← hw0]
  clear hw0
  go_wp2_with fail
  (with_reducible refine (MU.out).mono ?_)
  rintro e1 w1 ⟨rfl, b1, k1⟩
  have X1 := aA (k1.heap X.out (by omega))
  have B1 := aA (show w1.heap[b]? = some (.cells wo.cs.toArray 145 (0, 0)) from by
    rw [b1]
    have := HBAD.out
    cases wo
    dsimp only at this
    subst this
    rfl)
  have K1 := aA (K0.out.trans k1)
  clear b1 k1 X B K0 MU
  have TH := aA (show World.there _ b 41 13 from dF (cs := wo.cs) B1.out 41 13 (by show _ ≤ 93; exact Nat.le_of_ble_eq_true rfl))
  go_wp2_with (first | (refine wpList_load_row rfl 27 (.tmp 6) (by rfl) W.heap.size (by rfl) 27 (bD x).toArray (0, 0) _ (by exact X1.out) Tryz.underlying27 (by rfl) (by kernel_rfl) ?_) | (refine aF (by rfl) 27 (.tmp 13) (.tmp 12) (by rfl) b 41 (bD x) (by rfl) (by rfl) (by exact TH.out) (by kernel_rfl) (by simp [Value.oneCell', bD]) ?_))
  intro w2 e2
  have B2 := aA (show w2.heap[b]? = some (.cells ({ wo with n := { wo.n with tv := x } } : Wo).cs.toArray 145 (0, 0)) by rw [e2.out]; exact wo_set_tv x B1.out)
  have K2 := aA (show Kp (fun k => k = b) W w2 by rw [e2.out]; exact K1.out.trans (Kp.set _ _ _ _ rfl))
  clear e2 TH X1 B1 K1
  go_wp2_with fail
  go_end0
  exact ⟨rfl, B2.out, K2.out⟩
set_option maxRecDepth 100000 in
set_option maxHeartbeats 16000000 in
theorem ndSet_fi (wo : Wo) (hb : wo.bad = false) (x : Fi) (b : Nat) (W : World) (hB : W.heap[b]? = some (.cells wo.cs.toArray 145 (0, 0))) :
    Calls Tryz.prog 159 #[.pointer (some ⟨b, 0, none⟩), .pointer (some ⟨b, 34, none⟩), .agg (x.cs).toArray, .int .i64 0] W fun r W' => r = .returned (.tuple #[]) ∧ W'.heap[b]? = some (.cells ({ wo with n := { wo.n with fi := x } } : Wo).cs.toArray 145 (0, 0)) ∧ Kp (fun k => k = b) W W' := by
  have hz := aH hB
  obtain ⟨w0, hw0⟩ : ∃ w0, w0 = W.alloc (.cells (x.cs).toArray 44) := ⟨_, rfl⟩
  have X := aA (World.alloc_heap_new W (.cells (x.cs).toArray 44))
  have q0 : Below W.heap.size W (W.alloc (.cells (x.cs).toArray 44)) := (Below.refl W.heap.size W).alloc (Nat.le_refl _) _
  have B := aA (aB hB q0)
  have K0 : Hid (Kp (fun k => k = b) W w0) := by rw [hw0]; exact aA (Kp.of q0)
  rw [← hw0] at X B
  have MU := aA (ndMust wo hb 0 b w0 B.out)
  have HBAD := aA hb
  clear hB hb q0
  go_enter Tryz.func159, Tryz.ntmps159
  go_upto_region 1 with fail
  change Code.wp _ _ _ _ (W.alloc (.cells (x.cs).toArray 44))
  rw [← hw0]
  clear hw0
  go_wp2_with fail
  (with_reducible refine (MU.out).mono ?_)
  rintro e1 w1 ⟨rfl, b1, k1⟩
  have X1 := aA (k1.heap X.out (by omega))
  have B1 := aA (show w1.heap[b]? = some (.cells wo.cs.toArray 145 (0, 0)) from by
    rw [b1]
    have := HBAD.out
    cases wo
    dsimp only at this
    subst this
    rfl)
  have K1 := aA (K0.out.trans k1)
  clear b1 k1 X B K0 MU
  have TH := aA (show World.there _ b 34 7 from dF (cs := wo.cs) B1.out 34 7 (by show _ ≤ 93; exact Nat.le_of_ble_eq_true rfl))
  go_wp2_with (first | (refine wpList_load_row rfl 44 (.tmp 6) (by rfl) W.heap.size (by rfl) 44 (x.cs).toArray (0, 0) _ (by exact X1.out) Tryz.underlying44 (by rfl) (by kernel_rfl) ?_) | (refine aF (by rfl) 44 (.tmp 13) (.tmp 12) (by rfl) b 34 (x.cs) (by rfl) (by rfl) (by exact TH.out) (by kernel_rfl) (by simp [Value.oneCell', Fi.cs]) ?_))
  intro w2 e2
  have B2 := aA (show w2.heap[b]? = some (.cells ({ wo with n := { wo.n with fi := x } } : Wo).cs.toArray 145 (0, 0)) by rw [e2.out]; exact wo_set_fi x B1.out)
  have K2 := aA (show Kp (fun k => k = b) W w2 by rw [e2.out]; exact K1.out.trans (Kp.set _ _ _ _ rfl))
  clear e2 TH X1 B1 K1
  go_wp2_with fail
  go_end0
  exact ⟨rfl, B2.out, K2.out⟩
end Go.Proofs.YtkmddjbialpppaaGreatDoor
