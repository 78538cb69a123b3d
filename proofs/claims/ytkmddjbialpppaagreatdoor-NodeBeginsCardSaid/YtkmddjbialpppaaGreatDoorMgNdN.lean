import Derived.Test.YtkmddjbialpppaaGreatDoorNdM
import Derived.Test.YtkmddjbialpppaaGreatDoorMgNdC
import Derived.Test.YtkmddjbialpppaaGreatDoorMgCoJ
import Derived.Test.YtkmddjbialpppaaGreatDoorMgOrdL
namespace Go.Proofs.YtkmddjbialpppaaGreatDoor
open Go.ChangeShapes Go.WideShapes Go.ChangeAt Go.RowKit
open CM PD SG ND
theorem wpList_build {P : Program} {ops : Array Oper} {rest : List Oper} {op : Oper} {a : Act} {Q : Exit → Act → World → Prop} {w : World} (ty : TypeId) (fs : Array (Nat × Operand)) (ho : op.op = .build ty fs) (hg : op.guard = none) (v : Value) (h : ∀ W, (execOp a.eval op).run P W = .ok (.value v) W)
    (k : wpList P ops Q rest (a.put op.dst v) w) : wpList P ops Q (op :: rest) a w := wpList_plain hg fun _ hK => by
  unfold Oper.wp
  rw [h]
  exact hK _ _ k
set_option maxRecDepth 100000 in
set_option maxHeartbeats 32000000 in
theorem ndCall2 (n n1 n2 : Nd) (l l2 : List Td) (fid p0 p1 : Nat) (hp : ∀ (args : Array Value) (W : World), (callFunc fid args).run Tryz.prog W = .ok (.enter fid args) W) (w : World) (ho : n.Ok w) (hsh : n.shape = true)
    (hdo : Hid (∀ (b : Nat) (W : World), w.heap.size ≤ b → b < W.heap.size → Below w.heap.size w W → W.heap[b]? = some (.cells (⟨n, [], none, 0, false⟩ : Wo).cs.toArray 145 (0, 0)) → Calls Tryz.prog fid #[.pointer (some ⟨b, 0, none⟩), .pointer (some ⟨p0, 0, none⟩), .pointer (some ⟨p1, 0, none⟩)] W fun e W' => ∃ A c, e = .returned (.tuple #[]) ∧ W'.heap[b]? = some (.cells (⟨n1, l, A, c, false⟩ : Wo).cs.toArray 145 (0, 0)) ∧ Own W' W.heap.size 94 3 A c (l.map tdL) ∧ Kp (fun j => j = b ∨ W.heap.size ≤ j) W W'))
    (hset : Hid (∀ (b N : Nat) (W : World) (A : Option Addr) (c : Nat), w.heap.size ≤ b → b < N → N ≤ W.heap.size → Below w.heap.size w W → W.heap[b]? = some (.cells (⟨n1, l, A, c, false⟩ : Wo).cs.toArray 145 (0, 0)) → Own W N 94 3 A c (l.map tdL) → Calls Tryz.prog 106 #[.pointer (some ⟨b, 0, none⟩), .agg n.cs.toArray] W fun e W' => ∃ A2 c2, e = .returned (.tuple #[]) ∧ W'.heap[b]? = some (.cells (⟨n2, l2, A2, c2, false⟩ : Wo).cs.toArray 145 (0, 0)) ∧ Own W' N 94 3 A2 c2 (l2.map tdL) ∧ Kp (fun j => j = b ∨ N ≤ j) W W')) :
    Calls Tryz.prog 55 #[.agg n.cs.toArray, .func (.func fid) #[] #[.pointer (some ⟨p0, 0, none⟩), .pointer (some ⟨p1, 0, none⟩)]] w fun e w' => ∃ A c, e = .returned (.tuple #[.agg n2.cs.toArray, .slice A l2.length c, .int .i64 0]) ∧ Rd w' w'.heap.size A 3 (l2.map tdL) ∧ Fresh w.heap.size A ∧ Below w.heap.size w w' := by
  obtain ⟨w0, hw0⟩ : ∃ w0, w0 = (w.alloc (.cells n.cs.toArray 53)).alloc (.cells zNd.cs.toArray 53) := ⟨_, rfl⟩
  have M := aA (aB (World.alloc_heap_new w (.cells n.cs.toArray 53)) ((Below.refl _ (w.alloc (.cells n.cs.toArray 53))).alloc (Nat.le_refl _) (.cells zNd.cs.toArray 53)))
  have R := aA (World.alloc_heap_new (w.alloc (.cells n.cs.toArray 53)) (.cells zNd.cs.toArray 53))
  have Q : Hid (Below w.heap.size w w0) := by rw [hw0]; exact aA (((Below.refl w.heap.size w).alloc (Nat.le_refl _) (.cells n.cs.toArray 53)).alloc (by simp; try omega) (.cells zNd.cs.toArray 53))
  rw [← hw0] at M R
  simp only [World.size_alloc] at R
  have SH := aA (show Calls Tryz.prog 34 #[.agg n.cs.toArray] w0 fun e w' => e = .returned (.bool true) ∧ Below w0.heap.size w0 w' from by
    have k := gK n w0 (ho.next Q.out)
    rwa [hsh] at k)
  clear ho hsh
  go_enter Tryz.func55, Tryz.ntmps55
  go_upto_region 1 with fail
  change Code.wp _ _ _ _ ((w.alloc (.cells n.cs.toArray 53)).alloc (.cells zNd.cs.toArray 53))
  rw [← hw0]
  clear hw0
  go_wp2_with (refine wpList_load_row rfl 53 (.tmp 2) (by rfl) w.heap.size (by rfl) 53 n.cs.toArray (0, 0) _ (by exact M.out) Tryz.underlying53 (by rfl) (by kernel_rfl) ?_)
  (with_reducible refine (SH.out).mono ?_)
  rintro ew1' w1' ⟨rfl, qw1'⟩
  replace M := aA (aB M.out qw1')
  replace R := aA (aB R.out qw1')
  replace Q := aA (aC Q.out Q.out.size qw1')
  clear qw1'
  clear SH
  go_upto_region 4 with (first | (refine wpList_load_row rfl 53 (.tmp 2) (by rfl) w.heap.size (by rfl) 53 n.cs.toArray (0, 0) _ (by exact M.out) Tryz.underlying53 (by rfl) (by kernel_rfl) ?_) | (refine wpList_build 145 #[(0, .tmp 12)] rfl rfl (.agg (⟨n, [], none, 0, false⟩ : Wo).cs.toArray) (fun W => by kernel_rfl) ?_))
  have B := World.alloc_heap_new w1' (.cells (⟨n, [], none, 0, false⟩ : Wo).cs.toArray 145)
  have q5 : Below w1'.heap.size w1' (w1'.alloc (.cells (⟨n, [], none, 0, false⟩ : Wo).cs.toArray 145)) := (Below.refl _ _).alloc (Nat.le_refl _) _
  have zR := aH R.out
  have zb5 : w1'.heap.size < (w1'.alloc (.cells (⟨n, [], none, 0, false⟩ : Wo).cs.toArray 145)).heap.size := by simp
  change Code.wp _ _ _ _ (w1'.alloc (.cells (⟨n, [], none, 0, false⟩ : Wo).cs.toArray 145))
  replace M := aA (aB M.out q5)
  replace R := aA (aB R.out q5)
  replace Q := aA (aC Q.out Q.out.size q5)
  clear q5
  generalize w1'.alloc (.cells (⟨n, [], none, 0, false⟩ : Wo).cs.toArray 145) = w5 at *
  generalize w1'.heap.size = b at *
  have DO := aA (hdo.out b w5 (by omega) zb5 Q.out B)
  clear B hdo
  go_wp2_with fail
  (with_reducible refine (DO.out).mono ?_)
  rintro e6 w6 ⟨A, c, rfl, b6, o6, k6⟩
  have B := aA b6
  have OW := aA o6
  replace M := aA (k6.heap M.out (by omega))
  replace R := aA (k6.heap R.out (by omega))
  have zN : w5.heap.size ≤ w6.heap.size := k6.size
  replace Q := aA (Q.out.trans (k6.below (B := w.heap.size) (fun j h => by rcases h with h | h <;> omega) Q.out.size))
  clear b6 o6 k6 DO
  have SE := aA (hset.out b w5.heap.size w6 A c (by omega) zb5 zN Q.out B.out OW.out)
  clear hset B OW
  go_wp2_with (refine wpList_load_row rfl 53 (.tmp 2) (by rfl) w.heap.size (by rfl) 53 n.cs.toArray (0, 0) _ (by exact M.out) Tryz.underlying53 (by rfl) (by kernel_rfl) ?_)
  (with_reducible refine (SE.out).mono ?_)
  rintro e7 w7 ⟨A2, c2, rfl, b7, o7, k7⟩
  have B := aA b7
  have OW := aA o7
  replace M := aA (k7.heap M.out (by omega))
  replace R := aA (k7.heap R.out (by omega))
  replace Q := aA (Q.out.trans (k7.below (B := w.heap.size) (fun j h => by rcases h with h | h <;> omega) Q.out.size))
  clear b7 o7 k7 SE
  have c92 := bM B.out 92 (v := .bool false) rfl
  go_upto_region 8 with fail
  clear c92
  refine bB [0, 1, 2, 3, 4, 5, 6, 7] [(3, fun W => W.rangeAt b 0 n2.cs), (7, fun W => W.cell? ⟨b, 91, none⟩ = some (.slice A2 l2.length c2))] (by kernel_rfl) ?_
  replace B := aA (show w7.drew.heap[b]? = _ from B.out)
  replace R := aA (show w7.drew.heap[w.heap.size + 1]? = _ from R.out)
  replace OW := aA (OW.out.grown (Below.refl w7.heap.size w7).drew)
  replace Q := aA (show Below w.heap.size w w7.drew from Q.out.drew)
  generalize w7.drew = w8 at *
  refine aD (i := 0) (v := .pointer (some ⟨b, 0, none⟩)) rfl rfl (by kernel_rfl) (by kernel_rfl) (by kernel_rfl) (by kernel_rfl) (by kernel_rfl) (fun _ _ _ h => h) rfl (fun W => by go_simp) ?_
  go_simp
  refine aD (i := 1) (v := .pointer (some ⟨b, 0, none⟩)) rfl rfl (by kernel_rfl) (by kernel_rfl) (by kernel_rfl) (by kernel_rfl) (by kernel_rfl) (fun _ _ _ h => h) rfl (fun W => by go_simp) ?_
  go_simp
  refine aD (i := 2) (v := .pointer (some ⟨b, 0, none⟩)) rfl rfl (by kernel_rfl) (by kernel_rfl) (by kernel_rfl) (by kernel_rfl) (by kernel_rfl) (fun _ _ _ h => h) rfl (fun W => by go_simp) ?_
  go_simp
  refine aQ (i := 3) (v := .agg n2.cs.toArray) rfl rfl (by kernel_rfl) (by kernel_rfl) (by kernel_rfl) (by kernel_rfl) (by kernel_rfl) (fun _ _ _ h => h) rfl (fun W h => bQ W b 0 53 n2.cs _ h Tryz.underlying53 rfl (by kernel_rfl) _ _ (.tmp 28) (by rfl) (by rfl)) (fF B.out) ?_
  go_simp
  refine aD (i := 4) (v := .pointer (some ⟨b, 0, none⟩)) rfl rfl (by kernel_rfl) (by kernel_rfl) (by kernel_rfl) (by kernel_rfl) (by kernel_rfl) (fun _ _ _ h => h) rfl (fun W => by go_simp) ?_
  go_simp
  refine aD (i := 5) (v := .pointer (some ⟨b, 0, none⟩)) rfl rfl (by kernel_rfl) (by kernel_rfl) (by kernel_rfl) (by kernel_rfl) (by kernel_rfl) (fun _ _ _ h => h) rfl (fun W => by go_simp) ?_
  go_simp
  refine aD (i := 6) (v := .pointer (some ⟨b, 91, none⟩)) rfl rfl (by kernel_rfl) (by kernel_rfl) (by kernel_rfl) (by kernel_rfl) (by kernel_rfl) (fun _ _ _ h => h) rfl (fun W => by go_simp) ?_
  go_simp
  refine aQ (i := 7) (v := .slice A2 l2.length c2) rfl rfl (by kernel_rfl) (by kernel_rfl) (by kernel_rfl) (by kernel_rfl) (by kernel_rfl) (fun _ _ _ h => h) rfl (fun W h => by go_simp) (bM B.out 91 (v := .slice A2 l2.length c2) rfl) ?_
  go_simp
  have TR := aA (show World.there _ (w.heap.size + 1) 0 91 from aK (cs := zNd.cs) R.out)
  refine aI (i := 8) (by kernel_rfl) ?_
  refine aM rfl rfl ?_
  refine bP 53 (.tmp 4) (.tmp 29) rfl (w.heap.size + 1) 0 n2.cs (by rfl) (by rfl) (by exact TR.out) (by kernel_rfl) (by exact dB _) ?_
  intro w9 e9
  replace R := aA (show w9.heap[w.heap.size + 1]? = some (.cells n2.cs.toArray 53 (0, 0)) by rw [e9]; exact aJ n2.cs (xs := zNd.cs) R.out rfl)
  replace B := aA (show w9.heap[b]? = some (.cells (⟨n2, l2, A2, c2, false⟩ : Wo).cs.toArray 145 (0, 0)) by rw [e9]; exact aG (by omega) _ _ _ B.out)
  replace OW := aA (show Own w9 w5.heap.size 94 3 A2 c2 (l2.map tdL) by rw [e9]; exact cM (by omega) _ _ _ OW.out)
  replace Q := aA (show Below w.heap.size w w9 by rw [e9]; exact Q.out.trans (aE _ _ _ (by omega)))
  clear e9 TR
  refine ⟨aO (by kernel_rfl) (.cons (fF B.out) (.cons (bM B.out 91 (v := .slice A2 l2.length c2) rfl) .nil)), ?_⟩
  go_simp
  refine aI (i := 9) (by kernel_rfl) ?_
  refine aM rfl rfl ?_
  go_simp
  refine ⟨aO (by kernel_rfl) (.cons (fF B.out) (.cons (bM B.out 91 (v := .slice A2 l2.length c2) rfl) .nil)), ?_⟩
  go_simp
  refine aI (i := 10) (by kernel_rfl) ?_
  refine aM rfl rfl ?_
  go_simp
  refine ⟨aO (by kernel_rfl) (.cons (fF B.out) (.cons (bM B.out 91 (v := .slice A2 l2.length c2) rfl) .nil)), ?_⟩
  go_simp
  refine aS (by kernel_rfl) ?_ _
  go_wp2_with fail
  refine bodyPost_ret (eO (by rfl) _ w9 (w.heap.size + 1) 53 n2.cs.toArray (0, 0) _ (.slice A2 l2.length c2) (.int .i64 0) (by rfl) (by rfl) (by rfl) R.out Tryz.underlying53 (by rfl) (by kernel_rfl)) rfl ⟨A2, c2, rfl, OW.out.rd (fun r hr => by obtain ⟨x, _, rfl⟩ := List.mem_map.1 hr; rfl), (fresh_own OW.out).mono (by have := zb5; omega), Q.out⟩
end Go.Proofs.YtkmddjbialpppaaGreatDoor
namespace Go.Proofs.YtkmddjbialpppaaGreatDoor
open Go.ChangeShapes Go.WideShapes Go.ChangeAt Go.RowKit
open ND
namespace ND
def memB (m : Int) (k : Nat) : Bool := bits .and .u16 (m / 2 ^ k) 1 == 1
def Pn.want (p : Pn) (k : Nat) (on : Bool) : Pn := { p with own := if on = true then bits .or .u16 (bits .andNot .u16 p.own (2 ^ k)) (2 ^ k) else bits .andNot .u16 p.own (2 ^ k) }
end ND
set_option maxRecDepth 100000 in
theorem pnBit_any (n : Int) (k : Nat) (hk : k < 16) (w : World) : Calls Tryz.prog 107 #[.int .u16 n, .int .i64 k] w fun e w' => e = .returned (.bool (memB n k)) ∧ w = w' := by
  unfold memB
  have h0 : (0 : Int) ≤ (k : Int) := by omega
  have h1 : (k : Int) ≤ 16 := by omega
  have h2 : (k : Int).toNat = k := by simp
  go_enter Tryz.func107, Tryz.ntmps107
  go_wp2_with fail
  go_ret
  exact ⟨rfl, rfl⟩
theorem pow_wrap {k : Nat} (hk : k < 16) : IntKind.u16.wrap (2 ^ k) = 2 ^ k := by
  have h : ∀ k : Fin 16, IntKind.u16.wrap (2 ^ k.val) = 2 ^ k.val := by decide +kernel
  exact h ⟨k, hk⟩
set_option maxRecDepth 100000 in
set_option maxHeartbeats 16000000 in
theorem pnWant_true (p : Pn) (k : Nat) (m : Int) (w : World) (h : p.Rt) (hk : k < 16) (hm : memB p.mem k = true) (hm2 : IntKind.u16.wrap (2 ^ k) = m) :
    Calls Tryz.prog 57 #[.agg (bO p).toArray, .int .i64 k, .bool true] w fun e w' => e = .returned (.tuple #[.agg (bO ({ p with own := (bits .or .u16 (bits .andNot .u16 p.own m) m) } : Pn)).toArray, .int .i64 0]) ∧ Below w.heap.size w w' := by
  obtain ⟨w0, hw0⟩ : ∃ w0, w0 = (w.alloc (.cells (bO p).toArray 47)).alloc (.cells (bO fK).toArray 47) := ⟨_, rfl⟩
  have B := aA (aB (World.alloc_heap_new w (.cells (bO p).toArray 47)) ((Below.refl _ (w.alloc (.cells (bO p).toArray 47))).alloc (Nat.le_refl _) (.cells (bO fK).toArray 47)))
  have R := aA (World.alloc_heap_new (w.alloc (.cells (bO p).toArray 47)) (.cells (bO fK).toArray 47))
  have Q : Hid (Below w.heap.size w w0) := by rw [hw0]; exact aA (((Below.refl w.heap.size w).alloc (Nat.le_refl _) (.cells (bO p).toArray 47)).alloc (by simp; try omega) (.cells (bO fK).toArray 47))
  rw [← hw0] at B R
  simp only [World.size_alloc] at R
  have RT := aA (fun W => gG p W h)
  have BI := aA (fun W => show Calls Tryz.prog 107 #[.int .u16 p.mem, .int .i64 k] W fun e w' => e = .returned (.bool true) ∧ W = w' from by
    have z := pnBit_any p.mem k hk W
    rwa [hm] at z)
  have h0 : (0 : Int) ≤ (k : Int) := by omega
  have h1 : (k : Int) ≤ 16 := by omega
  have h3 : (k : Int) < 16 := by omega
  have h2 : (k : Int).toNat = k := by simp
  clear h hk hm
  go_enter Tryz.func57, Tryz.ntmps57
  go_upto_region 1 with fail
  change Code.wp _ _ _ _ ((w.alloc (.cells (bO p).toArray 47)).alloc (.cells (bO fK).toArray 47))
  rw [← hw0]
  clear hw0
  go_wp2_with (refine wpList_load_row rfl 47 (.tmp 3) (by rfl) w.heap.size (by rfl) 47 (bO p).toArray (0, 0) _ (by exact B.out) Tryz.underlying47 (by rfl) (by kernel_rfl) ?_)
  (with_reducible refine (RT.out w0).mono ?_)
  rintro ew1' w1' ⟨rfl, qw1'⟩
  replace B := aA (aB B.out qw1')
  replace R := aA (aB R.out qw1')
  replace Q := aA (aC Q.out Q.out.size qw1')
  clear qw1'
  clear RT
  obtain ⟨b0, _⟩ := eC B.out
  go_wp2_with fail
  clear b0
  (with_reducible refine (BI.out _).mono ?_)
  rintro e1 w9 ⟨rfl, rfl⟩
  clear BI
  go_upto_region 3 with fail
  refine bB [0, 1, 2, 3, 4, 5] [(1, fun W => W.cell? ⟨w.heap.size, 1, none⟩ = some (.int .u16 p.own))] (by kernel_rfl) ?_
  replace B := aA (show w1'.drew.heap[w.heap.size]? = some (.cells (bO p).toArray 47 (0, 0)) from B.out)
  replace R := aA (show w1'.drew.heap[w.heap.size + 1]? = some (.cells (bO fK).toArray 47 (0, 0)) from R.out)
  replace Q := aA (show Below w.heap.size w w1'.drew from Q.out.drew)
  generalize w1'.drew = w2' at *
  refine aD (i := 0) (v := .pointer (some ⟨w.heap.size, 1, none⟩)) rfl rfl (by kernel_rfl) (by kernel_rfl) (by kernel_rfl) (by kernel_rfl) (by kernel_rfl) (fun _ _ _ h => h) rfl (fun W => by go_simp) ?_
  go_simp
  refine aQ (i := 1) (v := .int .u16 p.own) rfl rfl (by kernel_rfl) (by kernel_rfl) (by kernel_rfl) (by kernel_rfl) (by kernel_rfl) (fun _ _ _ h => h) rfl (fun W h => by go_simp) ((eC (n := p) B.out).2.1) ?_
  go_simp
  refine aD (i := 2) (v := .int .i64 k) rfl rfl (by kernel_rfl) (by kernel_rfl) (by kernel_rfl) (by kernel_rfl) (by kernel_rfl) (fun _ _ _ h => h) rfl (fun W => by go_simp) ?_
  go_simp
  refine aD (i := 3) (v := .int .u16 m) rfl rfl (by kernel_rfl) (by kernel_rfl) (by kernel_rfl) (by kernel_rfl) (by kernel_rfl) (fun _ _ _ h => h) rfl (fun W => by go_simp) ?_
  go_simp
  refine aD (i := 4) (v := .int .u16 (bits .andNot .u16 p.own m)) rfl rfl (by kernel_rfl) (by kernel_rfl) (by kernel_rfl) (by kernel_rfl) (by kernel_rfl) (fun _ _ _ h => h) rfl (fun W => by go_simp) ?_
  go_simp
  refine aD (i := 5) (v := .pointer (some ⟨w.heap.size, 1, none⟩)) rfl rfl (by kernel_rfl) (by kernel_rfl) (by kernel_rfl) (by kernel_rfl) (by kernel_rfl) (fun _ _ _ h => h) rfl (fun W => by go_simp) ?_
  go_simp
  have y0 : w2'.cell? ⟨w.heap.size, 1, none⟩ = some (.int .u16 p.own) := (eC (n := p) B.out).2.1
  have y1 : w2'.frozen? ⟨w.heap.size, 1, none⟩ = false := by simp [World.frozen?, B.out]
  refine aI (i := 6) (by kernel_rfl) ?_
  refine aM rfl rfl ?_
  go_simp
  clear y0 y1
  refine ⟨aN (by kernel_rfl) (by kernel_rfl), ?_⟩
  go_simp
  obtain ⟨w3', ew3'⟩ : ∃ wq, wq = w2'.setCell ⟨w.heap.size, 1, none⟩ (.int .u16 (bits .andNot .u16 p.own m)) := ⟨_, rfl⟩
  rw [← ew3']
  replace R := aA (show w3'.heap[w.heap.size + 1]? = some (.cells (bO fK).toArray 47 (0, 0)) by rw [ew3']; exact aG (by omega) ([.int .u16 (bits .andNot .u16 p.own m)]) 1 _ R.out)
  replace Q := aA (show Below w.heap.size w w3' by rw [ew3']; exact Q.out.trans (aE ([.int .u16 (bits .andNot .u16 p.own m)]) 1 _ (by omega)))
  replace B := aA (show w3'.heap[w.heap.size]? = some (.cells (bO ({ p with own := (bits .andNot .u16 p.own m) } : Pn)).toArray 47 (0, 0)) by rw [ew3']; exact aU ([.int .u16 (bits .andNot .u16 p.own m)]) (bO p) 1 _ B.out)
  clear ew3'
  refine aS (by kernel_rfl) ?_ _
  go_upto_region 5 with fail
  refine bB [0, 1, 2, 3, 4, 5] [(1, fun W => W.cell? ⟨w.heap.size, 1, none⟩ = some (.int .u16 (bits .andNot .u16 p.own m)))] (by kernel_rfl) ?_
  replace B := aA (show w3'.drew.heap[w.heap.size]? = some (.cells (bO ({ p with own := (bits .andNot .u16 p.own m) } : Pn)).toArray 47 (0, 0)) from B.out)
  replace R := aA (show w3'.drew.heap[w.heap.size + 1]? = some (.cells (bO fK).toArray 47 (0, 0)) from R.out)
  replace Q := aA (show Below w.heap.size w w3'.drew from Q.out.drew)
  generalize w3'.drew = w4' at *
  refine aD (i := 0) (v := .pointer (some ⟨w.heap.size, 1, none⟩)) rfl rfl (by kernel_rfl) (by kernel_rfl) (by kernel_rfl) (by kernel_rfl) (by kernel_rfl) (fun _ _ _ h => h) rfl (fun W => by go_simp) ?_
  go_simp
  refine aQ (i := 1) (v := .int .u16 (bits .andNot .u16 p.own m)) rfl rfl (by kernel_rfl) (by kernel_rfl) (by kernel_rfl) (by kernel_rfl) (by kernel_rfl) (fun _ _ _ h => h) rfl (fun W h => by go_simp) ((eC (n := ({ p with own := (bits .andNot .u16 p.own m) } : Pn)) B.out).2.1) ?_
  go_simp
  refine aD (i := 2) (v := .int .i64 k) rfl rfl (by kernel_rfl) (by kernel_rfl) (by kernel_rfl) (by kernel_rfl) (by kernel_rfl) (fun _ _ _ h => h) rfl (fun W => by go_simp) ?_
  go_simp
  refine aD (i := 3) (v := .int .u16 m) rfl rfl (by kernel_rfl) (by kernel_rfl) (by kernel_rfl) (by kernel_rfl) (by kernel_rfl) (fun _ _ _ h => h) rfl (fun W => by go_simp) ?_
  go_simp
  refine aD (i := 4) (v := .int .u16 (bits .or .u16 (bits .andNot .u16 p.own m) m)) rfl rfl (by kernel_rfl) (by kernel_rfl) (by kernel_rfl) (by kernel_rfl) (by kernel_rfl) (fun _ _ _ h => h) rfl (fun W => by go_simp) ?_
  go_simp
  refine aD (i := 5) (v := .pointer (some ⟨w.heap.size, 1, none⟩)) rfl rfl (by kernel_rfl) (by kernel_rfl) (by kernel_rfl) (by kernel_rfl) (by kernel_rfl) (fun _ _ _ h => h) rfl (fun W => by go_simp) ?_
  go_simp
  have y0 : w4'.cell? ⟨w.heap.size, 1, none⟩ = some (.int .u16 (bits .andNot .u16 p.own m)) := (eC (n := ({ p with own := (bits .andNot .u16 p.own m) } : Pn)) B.out).2.1
  have y1 : w4'.frozen? ⟨w.heap.size, 1, none⟩ = false := by simp [World.frozen?, B.out]
  refine aI (i := 6) (by kernel_rfl) ?_
  refine aM rfl rfl ?_
  go_simp
  clear y0 y1
  refine ⟨aN (by kernel_rfl) (by kernel_rfl), ?_⟩
  go_simp
  obtain ⟨w5', ew5'⟩ : ∃ wq, wq = w4'.setCell ⟨w.heap.size, 1, none⟩ (.int .u16 (bits .or .u16 (bits .andNot .u16 p.own m) m)) := ⟨_, rfl⟩
  rw [← ew5']
  replace R := aA (show w5'.heap[w.heap.size + 1]? = some (.cells (bO fK).toArray 47 (0, 0)) by rw [ew5']; exact aG (by omega) ([.int .u16 (bits .or .u16 (bits .andNot .u16 p.own m) m)]) 1 _ R.out)
  replace Q := aA (show Below w.heap.size w w5' by rw [ew5']; exact Q.out.trans (aE ([.int .u16 (bits .or .u16 (bits .andNot .u16 p.own m) m)]) 1 _ (by omega)))
  replace B := aA (show w5'.heap[w.heap.size]? = some (.cells (bO ({ p with own := (bits .or .u16 (bits .andNot .u16 p.own m) m) } : Pn)).toArray 47 (0, 0)) by rw [ew5']; exact aU ([.int .u16 (bits .or .u16 (bits .andNot .u16 p.own m) m)]) (bO ({ p with own := (bits .andNot .u16 p.own m) } : Pn)) 1 _ B.out)
  clear ew5'
  refine aS (by kernel_rfl) ?_ _
  go_upto_region 6 with fail
  have Tw6' := aA (show World.there _ (w.heap.size + 1) 0 19 from aK (cs := bO fK) R.out)
  go_wp2_with (first | (refine wpList_load_row rfl 47 (.tmp 3) (by rfl) w.heap.size (by rfl) 47 (bO ({ p with own := (bits .or .u16 (bits .andNot .u16 p.own m) m) } : Pn)).toArray (0, 0) _ (by exact B.out) Tryz.underlying47 (by rfl) (by kernel_rfl) ?_) | (refine aF (by rfl) 47 (.tmp 6) (.tmp 40) (by rfl) (w.heap.size + 1) 0 (bO ({ p with own := (bits .or .u16 (bits .andNot .u16 p.own m) m) } : Pn)) (by rfl) (by rfl) (by exact Tw6'.out) (by kernel_rfl) (by simp [Value.oneCell', bO]) ?_))
  intro w6' ew6'
  replace B := aA (show w6'.heap[w.heap.size]? = some (.cells (bO ({ p with own := (bits .or .u16 (bits .andNot .u16 p.own m) m) } : Pn)).toArray 47 (0, 0)) by rw [ew6'.out]; exact aG (by omega) _ _ _ B.out)
  replace Q := aA (show Below w.heap.size w w6' by rw [ew6'.out]; exact Q.out.trans (aE _ _ _ (by have := Q.out.size; omega)))
  replace R := aA (show w6'.heap[w.heap.size + 1]? = some (.cells (bO ({ p with own := (bits .or .u16 (bits .andNot .u16 p.own m) m) } : Pn)).toArray 47 (0, 0)) by rw [ew6'.out]; exact aJ (bO ({ p with own := (bits .or .u16 (bits .andNot .u16 p.own m) m) } : Pn)) (xs := bO fK) R.out rfl)
  clear ew6' Tw6'
  go_wp2_with fail
  refine bodyPost_ret (aP (by rfl) _ w6' (w.heap.size + 1) 47 (bO ({ p with own := (bits .or .u16 (bits .andNot .u16 p.own m) m) } : Pn)).toArray (0, 0) _ (.int .i64 0) (by rfl) (by rfl) R.out Tryz.underlying47 (by rfl) (by kernel_rfl)) rfl ⟨rfl, Q.out⟩
set_option maxRecDepth 100000 in
set_option maxHeartbeats 16000000 in
theorem pnWant_false (p : Pn) (k : Nat) (m : Int) (w : World) (h : p.Rt) (hk : k < 16) (hm : memB p.mem k = true) (hm2 : IntKind.u16.wrap (2 ^ k) = m) :
    Calls Tryz.prog 57 #[.agg (bO p).toArray, .int .i64 k, .bool false] w fun e w' => e = .returned (.tuple #[.agg (bO ({ p with own := (bits .andNot .u16 p.own m) } : Pn)).toArray, .int .i64 0]) ∧ Below w.heap.size w w' := by
  obtain ⟨w0, hw0⟩ : ∃ w0, w0 = (w.alloc (.cells (bO p).toArray 47)).alloc (.cells (bO fK).toArray 47) := ⟨_, rfl⟩
  have B := aA (aB (World.alloc_heap_new w (.cells (bO p).toArray 47)) ((Below.refl _ (w.alloc (.cells (bO p).toArray 47))).alloc (Nat.le_refl _) (.cells (bO fK).toArray 47)))
  have R := aA (World.alloc_heap_new (w.alloc (.cells (bO p).toArray 47)) (.cells (bO fK).toArray 47))
  have Q : Hid (Below w.heap.size w w0) := by rw [hw0]; exact aA (((Below.refl w.heap.size w).alloc (Nat.le_refl _) (.cells (bO p).toArray 47)).alloc (by simp; try omega) (.cells (bO fK).toArray 47))
  rw [← hw0] at B R
  simp only [World.size_alloc] at R
  have RT := aA (fun W => gG p W h)
  have BI := aA (fun W => show Calls Tryz.prog 107 #[.int .u16 p.mem, .int .i64 k] W fun e w' => e = .returned (.bool true) ∧ W = w' from by
    have z := pnBit_any p.mem k hk W
    rwa [hm] at z)
  have h0 : (0 : Int) ≤ (k : Int) := by omega
  have h1 : (k : Int) ≤ 16 := by omega
  have h3 : (k : Int) < 16 := by omega
  have h2 : (k : Int).toNat = k := by simp
  clear h hk hm
  go_enter Tryz.func57, Tryz.ntmps57
  go_upto_region 1 with fail
  change Code.wp _ _ _ _ ((w.alloc (.cells (bO p).toArray 47)).alloc (.cells (bO fK).toArray 47))
  rw [← hw0]
  clear hw0
  go_wp2_with (refine wpList_load_row rfl 47 (.tmp 3) (by rfl) w.heap.size (by rfl) 47 (bO p).toArray (0, 0) _ (by exact B.out) Tryz.underlying47 (by rfl) (by kernel_rfl) ?_)
  (with_reducible refine (RT.out w0).mono ?_)
  rintro ew1' w1' ⟨rfl, qw1'⟩
  replace B := aA (aB B.out qw1')
  replace R := aA (aB R.out qw1')
  replace Q := aA (aC Q.out Q.out.size qw1')
  clear qw1'
  clear RT
  obtain ⟨b0, _⟩ := eC B.out
  go_wp2_with fail
  clear b0
  (with_reducible refine (BI.out _).mono ?_)
  rintro e1 w9 ⟨rfl, rfl⟩
  clear BI
  go_upto_region 3 with fail
  refine bB [0, 1, 2, 3, 4, 5] [(1, fun W => W.cell? ⟨w.heap.size, 1, none⟩ = some (.int .u16 p.own))] (by kernel_rfl) ?_
  replace B := aA (show w1'.drew.heap[w.heap.size]? = some (.cells (bO p).toArray 47 (0, 0)) from B.out)
  replace R := aA (show w1'.drew.heap[w.heap.size + 1]? = some (.cells (bO fK).toArray 47 (0, 0)) from R.out)
  replace Q := aA (show Below w.heap.size w w1'.drew from Q.out.drew)
  generalize w1'.drew = w2' at *
  refine aD (i := 0) (v := .pointer (some ⟨w.heap.size, 1, none⟩)) rfl rfl (by kernel_rfl) (by kernel_rfl) (by kernel_rfl) (by kernel_rfl) (by kernel_rfl) (fun _ _ _ h => h) rfl (fun W => by go_simp) ?_
  go_simp
  refine aQ (i := 1) (v := .int .u16 p.own) rfl rfl (by kernel_rfl) (by kernel_rfl) (by kernel_rfl) (by kernel_rfl) (by kernel_rfl) (fun _ _ _ h => h) rfl (fun W h => by go_simp) ((eC (n := p) B.out).2.1) ?_
  go_simp
  refine aD (i := 2) (v := .int .i64 k) rfl rfl (by kernel_rfl) (by kernel_rfl) (by kernel_rfl) (by kernel_rfl) (by kernel_rfl) (fun _ _ _ h => h) rfl (fun W => by go_simp) ?_
  go_simp
  refine aD (i := 3) (v := .int .u16 m) rfl rfl (by kernel_rfl) (by kernel_rfl) (by kernel_rfl) (by kernel_rfl) (by kernel_rfl) (fun _ _ _ h => h) rfl (fun W => by go_simp) ?_
  go_simp
  refine aD (i := 4) (v := .int .u16 (bits .andNot .u16 p.own m)) rfl rfl (by kernel_rfl) (by kernel_rfl) (by kernel_rfl) (by kernel_rfl) (by kernel_rfl) (fun _ _ _ h => h) rfl (fun W => by go_simp) ?_
  go_simp
  refine aD (i := 5) (v := .pointer (some ⟨w.heap.size, 1, none⟩)) rfl rfl (by kernel_rfl) (by kernel_rfl) (by kernel_rfl) (by kernel_rfl) (by kernel_rfl) (fun _ _ _ h => h) rfl (fun W => by go_simp) ?_
  go_simp
  have y0 : w2'.cell? ⟨w.heap.size, 1, none⟩ = some (.int .u16 p.own) := (eC (n := p) B.out).2.1
  have y1 : w2'.frozen? ⟨w.heap.size, 1, none⟩ = false := by simp [World.frozen?, B.out]
  refine aI (i := 6) (by kernel_rfl) ?_
  refine aM rfl rfl ?_
  go_simp
  clear y0 y1
  refine ⟨aN (by kernel_rfl) (by kernel_rfl), ?_⟩
  go_simp
  obtain ⟨w3', ew3'⟩ : ∃ wq, wq = w2'.setCell ⟨w.heap.size, 1, none⟩ (.int .u16 (bits .andNot .u16 p.own m)) := ⟨_, rfl⟩
  rw [← ew3']
  replace R := aA (show w3'.heap[w.heap.size + 1]? = some (.cells (bO fK).toArray 47 (0, 0)) by rw [ew3']; exact aG (by omega) ([.int .u16 (bits .andNot .u16 p.own m)]) 1 _ R.out)
  replace Q := aA (show Below w.heap.size w w3' by rw [ew3']; exact Q.out.trans (aE ([.int .u16 (bits .andNot .u16 p.own m)]) 1 _ (by omega)))
  replace B := aA (show w3'.heap[w.heap.size]? = some (.cells (bO ({ p with own := (bits .andNot .u16 p.own m) } : Pn)).toArray 47 (0, 0)) by rw [ew3']; exact aU ([.int .u16 (bits .andNot .u16 p.own m)]) (bO p) 1 _ B.out)
  clear ew3'
  refine aS (by kernel_rfl) ?_ _
  go_upto_region 6 with fail
  have Tw4' := aA (show World.there _ (w.heap.size + 1) 0 19 from aK (cs := bO fK) R.out)
  go_wp2_with (first | (refine wpList_load_row rfl 47 (.tmp 3) (by rfl) w.heap.size (by rfl) 47 (bO ({ p with own := (bits .andNot .u16 p.own m) } : Pn)).toArray (0, 0) _ (by exact B.out) Tryz.underlying47 (by rfl) (by kernel_rfl) ?_) | (refine aF (by rfl) 47 (.tmp 6) (.tmp 40) (by rfl) (w.heap.size + 1) 0 (bO ({ p with own := (bits .andNot .u16 p.own m) } : Pn)) (by rfl) (by rfl) (by exact Tw4'.out) (by kernel_rfl) (by simp [Value.oneCell', bO]) ?_))
  intro w4' ew4'
  replace B := aA (show w4'.heap[w.heap.size]? = some (.cells (bO ({ p with own := (bits .andNot .u16 p.own m) } : Pn)).toArray 47 (0, 0)) by rw [ew4'.out]; exact aG (by omega) _ _ _ B.out)
  replace Q := aA (show Below w.heap.size w w4' by rw [ew4'.out]; exact Q.out.trans (aE _ _ _ (by have := Q.out.size; omega)))
  replace R := aA (show w4'.heap[w.heap.size + 1]? = some (.cells (bO ({ p with own := (bits .andNot .u16 p.own m) } : Pn)).toArray 47 (0, 0)) by rw [ew4'.out]; exact aJ (bO ({ p with own := (bits .andNot .u16 p.own m) } : Pn)) (xs := bO fK) R.out rfl)
  clear ew4' Tw4'
  go_wp2_with fail
  refine bodyPost_ret (aP (by rfl) _ w4' (w.heap.size + 1) 47 (bO ({ p with own := (bits .andNot .u16 p.own m) } : Pn)).toArray (0, 0) _ (.int .i64 0) (by rfl) (by rfl) R.out Tryz.underlying47 (by rfl) (by kernel_rfl)) rfl ⟨rfl, Q.out⟩
set_option maxRecDepth 100000 in
set_option maxHeartbeats 16000000 in
theorem pnWant_ok (p : Pn) (k : Nat) (on : Bool) (w : World) (h : p.Rt) (hk : k < 16) (hm : memB p.mem k = true) :
    Calls Tryz.prog 57 #[.agg (bO p).toArray, .int .i64 k, .bool on] w fun e w' => e = .returned (.tuple #[.agg (bO (p.want k on)).toArray, .int .i64 0]) ∧ Below w.heap.size w w' := by
  cases on
  · exact pnWant_false p k (2 ^ k) w h hk hm (pow_wrap hk)
  · exact pnWant_true p k (2 ^ k) w h hk hm (pow_wrap hk)
end Go.Proofs.YtkmddjbialpppaaGreatDoor
