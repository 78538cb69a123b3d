import Derived.Test.YtkmddjbialpppaaGreatDoorMgCsD
import Derived.Test.YtkmddjbialpppaaGreatDoorMgOrdL
import Derived.Test.YtkmddjbialpppaaGreatDoorMgFin
namespace Go.Proofs.YtkmddjbialpppaaGreatDoor
open Go.ChangeShapes Go.WideShapes Go.ChangeAt Go.RowKit
open CM PD SG ND
theorem rd_at {w : World} {B : Nat} {A : Option Addr} {sz : Nat} {α : Type} {f : α → List Value} {l : List α} (h : Rd w B A sz (l.map f)) {k : Nat} (hk : k < l.length) :
    ∃ b off, A = some ⟨b, off, none⟩ ∧ b < B ∧ w.rangeAt b (off + k * sz) (f l[k]) := by
  obtain ⟨b, off, e, hb, hc⟩ := h (by rw [List.length_map]; exact Nat.lt_of_le_of_lt (Nat.zero_le _) hk)
  refine ⟨b, off, e, hb, fun j v hj => ?_⟩
  have hx : (l.map f)[k]? = some (f l[k]) := by simp [hk]
  exact hc k _ j _ hx hj
set_option maxRecDepth 100000 in
theorem exec_eql_sg (s : Sg) (ev : Operand → Value) (op : Oper) (p q : Operand) (t : TypeId) (ho : op.op = .binOp .eql 136 p q t) (hp : ev p = .agg (jQ s).toArray) (hq : ev q = .agg (jQ s).toArray) (W : World) : (execOp ev op).run Tryz.prog W = .ok (.value (.bool true)) W := by
  unfold execOp
  simp only [ho, hp, hq]
  unfold jQ
  go_simp
set_option maxRecDepth 100000 in
set_option maxHeartbeats 8000000 in
theorem ndAll_Out (fid p0 p1 : Nat) (hp : ∀ (args : Array Value) (w : World), (callFunc fid args).run Tryz.prog w = .ok (.enter fid args) w) (l : List Ou) (A : Option Addr) (c : Nat) (w : World) (hr : Rd w w.heap.size A 26 (l.map Ou.cs)) (hl : l.length ≤ 9223372036854775807)
    (hc : Hid (∀ i (hi : i < l.length) w', Below w.heap.size w w' → Calls Tryz.prog fid #[.int .i64 i, .agg (Ou.cs l[i]).toArray, .pointer (some ⟨p0, 0, none⟩), .pointer (some ⟨p1, 0, none⟩)] w' fun e w'' => e = .returned (.bool true) ∧ Below w'.heap.size w' w'')) :
    Calls Tryz.prog 37 #[.slice A l.length c, .func (.func fid) #[] #[.pointer (some ⟨p0, 0, none⟩), .pointer (some ⟨p1, 0, none⟩)]] w fun e w' => e = .returned (.bool true) ∧ Below w.heap.size w w' := by
  go_enter Tryz.func37, Tryz.ntmps37
  go_wp2_with fail
  go_loopw [9] (fun vi W => ∃ k : Nat, k ≤ l.length ∧ vi = .int .i64 k ∧ Hid (Below w.heap.size w W)) (fun vi _ => l.length - (intOf vi).toNat)
  case atStart => exact ⟨0, Nat.zero_le _, rfl, aA (Below.refl _ _)⟩
  case round =>
    obtain ⟨k, hk, rfl, hq⟩ := hrel
    by_cases hlt : k < l.length
    · obtain ⟨b, off, rfl, hbs, rg⟩ := rd_at (Rd.below hr hq.out) hlt
      have HC := aA (hc.out k hlt)
      have hki : (k : Int) < (l.length : Int) := by omega
      have RG := aA rg
      clear rg
      generalize l[k] = f at *
      have th := aA (show (wr.alloc (.cells (zOu).toArray 77)).there wr.heap.size 0 26 from aK (cs := zOu) (World.alloc_heap_new wr _))
      go_wp2_with (first | (refine wpList_load_mid rfl 77 (.tmp 12) (by rfl) b (off + k * 26) (by rfl) (Ou.cs f) _ (by exact RG.out) Tryz.underlying77 (by rfl) (by kernel_rfl) ?_) | (refine aF (by rfl) 77 (.tmp 6) (.tmp 13) (by rfl) wr.heap.size 0 (Ou.cs f) (by rfl) (by rfl) (by exact th.out) (by kernel_rfl) (by simp [Value.oneCell', Ou.cs, Fv.v, Iv.v, Bv.v]) ?_))
      intro w2 e2
      have bs := aA (show w2.heap[wr.heap.size]? = some (.cells (Ou.cs f).toArray 77 (0, 0)) by rw [e2.out]; exact aJ (Ou.cs f) (xs := zOu) (World.alloc_heap_new wr _) rfl)
      have qb : Below wr.heap.size wr w2 := by
        rw [e2.out]
        exact ((Below.refl _ _).alloc (Nat.le_refl _) _).trans (aE (g := wr.heap.size) _ 0 _ (Nat.le_refl _))
      have Q2 := aA (aC hq.out hq.out.size qb)
      have C := aA (HC.out w2 Q2.out)
      clear th e2 qb hq HC RG
      go_wp2_with (refine wpList_load_row rfl 77 (.tmp 6) (by rfl) wr.heap.size (by rfl) 77 (Ou.cs f).toArray (0, 0) _ (by exact bs.out) Tryz.underlying77 (by rfl) (by kernel_rfl) ?_)
      (with_reducible refine (C.out).mono ?_)
      rintro e1 w3 ⟨rfl, q1⟩
      have Q := aA (aC Q2.out Q2.out.size q1)
      clear q1 C
      go_wp2_with fail
      go_roundw
      case rel => exact ⟨k + 1, by omega, by go_num, Q⟩
      case measure => simp [intOf]; omega
    · obtain rfl : k = l.length := by omega
      have hnl : ¬ (l.length : Int) < (l.length : Int) := by omega
      clear hlt hk
      go_wp2_with fail
      go_ret
      exact ⟨rfl, hq.out⟩
set_option maxRecDepth 100000 in
set_option maxHeartbeats 8000000 in
theorem ndAll_In (fid p0 p1 p2 : Nat) (hp : ∀ (args : Array Value) (w : World), (callFunc fid args).run Tryz.prog w = .ok (.enter fid args) w) (l : List Inn) (A : Option Addr) (c : Nat) (w : World) (hr : Rd w w.heap.size A 13 (l.map Inn.cs)) (hl : l.length ≤ 9223372036854775807)
    (hc : Hid (∀ i (hi : i < l.length) w', Below w.heap.size w w' → Calls Tryz.prog fid #[.int .i64 i, .agg (Inn.cs l[i]).toArray, .pointer (some ⟨p0, 0, none⟩), .pointer (some ⟨p1, 0, none⟩), .pointer (some ⟨p2, 0, none⟩)] w' fun e w'' => e = .returned (.bool true) ∧ Below w'.heap.size w' w'')) :
    Calls Tryz.prog 40 #[.slice A l.length c, .func (.func fid) #[] #[.pointer (some ⟨p0, 0, none⟩), .pointer (some ⟨p1, 0, none⟩), .pointer (some ⟨p2, 0, none⟩)]] w fun e w' => e = .returned (.bool true) ∧ Below w.heap.size w w' := by
  go_enter Tryz.func40, Tryz.ntmps40
  go_wp2_with fail
  go_loopw [9] (fun vi W => ∃ k : Nat, k ≤ l.length ∧ vi = .int .i64 k ∧ Hid (Below w.heap.size w W)) (fun vi _ => l.length - (intOf vi).toNat)
  case atStart => exact ⟨0, Nat.zero_le _, rfl, aA (Below.refl _ _)⟩
  case round =>
    obtain ⟨k, hk, rfl, hq⟩ := hrel
    by_cases hlt : k < l.length
    · obtain ⟨b, off, rfl, hbs, rg⟩ := rd_at (Rd.below hr hq.out) hlt
      have HC := aA (hc.out k hlt)
      have hki : (k : Int) < (l.length : Int) := by omega
      have RG := aA rg
      clear rg
      generalize l[k] = f at *
      have th := aA (show (wr.alloc (.cells (zIn).toArray 102)).there wr.heap.size 0 13 from aK (cs := zIn) (World.alloc_heap_new wr _))
      go_wp2_with (first | (refine wpList_load_mid rfl 102 (.tmp 12) (by rfl) b (off + k * 13) (by rfl) (Inn.cs f) _ (by exact RG.out) Tryz.underlying102 (by rfl) (by kernel_rfl) ?_) | (refine aF (by rfl) 102 (.tmp 6) (.tmp 13) (by rfl) wr.heap.size 0 (Inn.cs f) (by rfl) (by rfl) (by exact th.out) (by kernel_rfl) (by simp [Value.oneCell', Inn.cs, Fv.v, Iv.v]) ?_))
      intro w2 e2
      have bs := aA (show w2.heap[wr.heap.size]? = some (.cells (Inn.cs f).toArray 102 (0, 0)) by rw [e2.out]; exact aJ (Inn.cs f) (xs := zIn) (World.alloc_heap_new wr _) rfl)
      have qb : Below wr.heap.size wr w2 := by
        rw [e2.out]
        exact ((Below.refl _ _).alloc (Nat.le_refl _) _).trans (aE (g := wr.heap.size) _ 0 _ (Nat.le_refl _))
      have Q2 := aA (aC hq.out hq.out.size qb)
      have C := aA (HC.out w2 Q2.out)
      clear th e2 qb hq HC RG
      go_wp2_with (refine wpList_load_row rfl 102 (.tmp 6) (by rfl) wr.heap.size (by rfl) 102 (Inn.cs f).toArray (0, 0) _ (by exact bs.out) Tryz.underlying102 (by rfl) (by kernel_rfl) ?_)
      (with_reducible refine (C.out).mono ?_)
      rintro e1 w3 ⟨rfl, q1⟩
      have Q := aA (aC Q2.out Q2.out.size q1)
      clear q1 C
      go_wp2_with fail
      go_roundw
      case rel => exact ⟨k + 1, by omega, by go_num, Q⟩
      case measure => simp [intOf]; omega
    · obtain rfl : k = l.length := by omega
      have hnl : ¬ (l.length : Int) < (l.length : Int) := by omega
      clear hlt hk
      go_wp2_with fail
      go_ret
      exact ⟨rfl, hq.out⟩
set_option maxRecDepth 100000 in
set_option maxHeartbeats 8000000 in
theorem ndAll_Sig (fid p0 : Nat) (hp : ∀ (args : Array Value) (w : World), (callFunc fid args).run Tryz.prog w = .ok (.enter fid args) w) (l : List Sg) (A : Option Addr) (c : Nat) (w : World) (hr : Rd w w.heap.size A 4 (l.map jQ)) (hl : l.length ≤ 9223372036854775807)
    (hc : Hid (∀ i (hi : i < l.length) w', Below w.heap.size w w' → Calls Tryz.prog fid #[.int .i64 i, .agg (jQ l[i]).toArray, .pointer (some ⟨p0, 0, none⟩)] w' fun e w'' => e = .returned (.bool true) ∧ Below w'.heap.size w' w'')) :
    Calls Tryz.prog 78 #[.slice A l.length c, .func (.func fid) #[] #[.pointer (some ⟨p0, 0, none⟩)]] w fun e w' => e = .returned (.bool true) ∧ Below w.heap.size w w' := by
  go_enter Tryz.func78, Tryz.ntmps78
  go_wp2_with fail
  go_loopw [9] (fun vi W => ∃ k : Nat, k ≤ l.length ∧ vi = .int .i64 k ∧ Hid (Below w.heap.size w W)) (fun vi _ => l.length - (intOf vi).toNat)
  case atStart => exact ⟨0, Nat.zero_le _, rfl, aA (Below.refl _ _)⟩
  case round =>
    obtain ⟨k, hk, rfl, hq⟩ := hrel
    by_cases hlt : k < l.length
    · obtain ⟨b, off, rfl, hbs, rg⟩ := rd_at (Rd.below hr hq.out) hlt
      have HC := aA (hc.out k hlt)
      have hki : (k : Int) < (l.length : Int) := by omega
      have RG := aA rg
      clear rg
      generalize l[k] = f at *
      have th := aA (show (wr.alloc (.cells ((jQ ⟨0, 0, false, false⟩)).toArray 136)).there wr.heap.size 0 4 from aK (cs := (jQ ⟨0, 0, false, false⟩)) (World.alloc_heap_new wr _))
      go_wp2_with (first | (refine wpList_load_mid rfl 136 (.tmp 12) (by rfl) b (off + k * 4) (by rfl) (jQ f) _ (by exact RG.out) Tryz.underlying136 (by rfl) (by kernel_rfl) ?_) | (refine aF (by rfl) 136 (.tmp 6) (.tmp 13) (by rfl) wr.heap.size 0 (jQ f) (by rfl) (by rfl) (by exact th.out) (by kernel_rfl) (by simp [Value.oneCell', jQ]) ?_))
      intro w2 e2
      have bs := aA (show w2.heap[wr.heap.size]? = some (.cells (jQ f).toArray 136 (0, 0)) by rw [e2.out]; exact aJ (jQ f) (xs := (jQ ⟨0, 0, false, false⟩)) (World.alloc_heap_new wr _) rfl)
      have qb : Below wr.heap.size wr w2 := by
        rw [e2.out]
        exact ((Below.refl _ _).alloc (Nat.le_refl _) _).trans (aE (g := wr.heap.size) _ 0 _ (Nat.le_refl _))
      have Q2 := aA (aC hq.out hq.out.size qb)
      have C := aA (HC.out w2 Q2.out)
      clear th e2 qb hq HC RG
      go_wp2_with (refine wpList_load_row rfl 136 (.tmp 6) (by rfl) wr.heap.size (by rfl) 136 (jQ f).toArray (0, 0) _ (by exact bs.out) Tryz.underlying136 (by rfl) (by kernel_rfl) ?_)
      (with_reducible refine (C.out).mono ?_)
      rintro e1 w3 ⟨rfl, q1⟩
      have Q := aA (aC Q2.out Q2.out.size q1)
      clear q1 C
      go_wp2_with fail
      go_roundw
      case rel => exact ⟨k + 1, by omega, by go_num, Q⟩
      case measure => simp [intOf]; omega
    · obtain rfl : k = l.length := by omega
      have hnl : ¬ (l.length : Int) < (l.length : Int) := by omega
      clear hlt hk
      go_wp2_with fail
      go_ret
      exact ⟨rfl, hq.out⟩
set_option maxRecDepth 100000 in
set_option maxHeartbeats 8000000 in
theorem ndAll_Int (fid p0 : Nat) (hp : ∀ (args : Array Value) (w : World), (callFunc fid args).run Tryz.prog w = .ok (.enter fid args) w) (l : List Int) (A : Option Addr) (c : Nat) (w : World) (hr : Rd w w.heap.size A 1 (l.map (fun v => [Value.int .i64 v]))) (hl : l.length ≤ 9223372036854775807)
    (hc : Hid (∀ i (hi : i < l.length) w', Below w.heap.size w w' → Calls Tryz.prog fid #[.int .i64 i, .int .i64 l[i], .pointer (some ⟨p0, 0, none⟩)] w' fun e w'' => e = .returned (.bool true) ∧ Below w'.heap.size w' w'')) :
    Calls Tryz.prog 80 #[.slice A l.length c, .func (.func fid) #[] #[.pointer (some ⟨p0, 0, none⟩)]] w fun e w' => e = .returned (.bool true) ∧ Below w.heap.size w w' := by
  go_enter Tryz.func80, Tryz.ntmps80
  go_wp2_with fail
  go_loopw [9] (fun vi W => ∃ k : Nat, k ≤ l.length ∧ vi = .int .i64 k ∧ Hid (Below w.heap.size w W)) (fun vi _ => l.length - (intOf vi).toNat)
  case atStart => exact ⟨0, Nat.zero_le _, rfl, aA (Below.refl _ _)⟩
  case round =>
    obtain ⟨k, hk, rfl, hq⟩ := hrel
    by_cases hlt : k < l.length
    · obtain ⟨b, off, rfl, hbs, rg⟩ := rd_at (Rd.below hr hq.out) hlt
      have HC := aA (hc.out k hlt)
      have hki : (k : Int) < (l.length : Int) := by omega
      have RG := aA rg
      have c0 : wr.cell? ⟨b, off + k, none⟩ = some (.int .i64 l[k]) := by
        have := RG.out 0 _ rfl
        simpa using this
      have C := aA (HC.out wr hq.out)
      clear rg RG HC
      generalize l[k] = v at *
      go_wp2_with fail
      (with_reducible refine (C.out).mono ?_)
      rintro e1 w3 ⟨rfl, q1⟩
      have Q := aA (aC hq.out hq.out.size q1)
      clear q1 C c0
      go_wp2_with fail
      go_roundw
      case rel => exact ⟨k + 1, by omega, by go_num, Q⟩
      case measure => simp [intOf]; omega
    · obtain rfl : k = l.length := by omega
      have hnl : ¬ (l.length : Int) < (l.length : Int) := by omega
      clear hlt hk
      go_wp2_with fail
      go_ret
      exact ⟨rfl, hq.out⟩
set_option maxRecDepth 100000 in
set_option maxHeartbeats 8000000 in
theorem ndSame1_ok (L : Ly) (A : Option Addr) (c : Nat) (B0 : Option Addr) (d : Nat) (lb i : Nat) (W : World) (hi : i < L.sgs.length) (hL : W.heap[lb]? = some (.cells (Lv.cs ⟨L, A, c, B0, d⟩).toArray 66 (0, 0))) (hA : SgR W W.heap.size A L.sgs) :
    Calls Tryz.prog 79 #[.int .i64 i, .agg (jQ L.sgs[i]).toArray, .pointer (some ⟨lb, 0, none⟩)] W fun e w' => e = .returned (.bool true) ∧ Below W.heap.size W w' := by
  obtain ⟨b, off, rfl, hbs, rg⟩ := rd_at hA hi
  have hii : (i : Int) < (L.sgs.length : Int) := by omega
  obtain ⟨w0, hw0⟩ : ∃ w0, w0 = W.alloc (.cells (jQ L.sgs[i]).toArray 136) := ⟨_, rfl⟩
  have B := aA (World.alloc_heap_new W (.cells (jQ L.sgs[i]).toArray 136))
  have Q : Hid (Below W.heap.size W w0) := by rw [hw0]; exact aA ((Below.refl W.heap.size W).alloc (Nat.le_refl _) (.cells (jQ L.sgs[i]).toArray 136))
  rw [← hw0] at B
  go_enter Tryz.func79, Tryz.ntmps79
  go_upto_region 1 with fail
  change Code.wp _ _ _ _ (W.alloc (.cells (jQ L.sgs[i]).toArray 136))
  rw [← hw0]
  clear hw0
  have RG := aA (show w0.rangeAt b (off + i * 4) (jQ L.sgs[i]) from fun j v hj => aT Q.out hbs (rg j v hj))
  have C := aA (aB hL Q.out)
  clear rg hL hA
  generalize hs : L.sgs[i] = s at *
  clear hs
  refine bB [0, 1, 2, 3, 4, 5, 6] [(0, fun W' => W'.rangeAt W.heap.size 0 (jQ s)), (2, fun W' => W'.cell? ⟨lb, 1, none⟩ = some (.slice (some ⟨b, off, none⟩) L.sgs.length c)), (5, fun W' => W'.rangeAt b (off + i * 4) (jQ s))] (by kernel_rfl) ?_
  replace B := aA (show w0.drew.heap[W.heap.size]? = some (.cells (jQ s).toArray 136 (0, 0)) from B.out)
  replace C := aA (show w0.drew.heap[lb]? = some (.cells (Lv.cs ⟨L, (some ⟨b, off, none⟩), c, B0, d⟩).toArray 66 (0, 0)) from C.out)
  replace RG := aA (show w0.drew.rangeAt b (off + i * 4) (jQ s) from RG.out)
  replace Q := aA (show Below W.heap.size W w0.drew from Q.out.drew)
  generalize w0.drew = w1 at *
  refine aQ (i := 0) (v := .agg (jQ s).toArray) rfl rfl (by kernel_rfl) (by kernel_rfl) (by kernel_rfl) (by kernel_rfl) (by kernel_rfl) (fun _ _ _ h => h) rfl (fun W' h => bQ W' W.heap.size 0 136 (jQ s) _ h Tryz.underlying136 rfl (by kernel_rfl) _ _ (.tmp 4) (by rfl) (by rfl)) (aL B.out 0 rfl) ?_
  go_simp
  refine aD (i := 1) (v := .pointer (some ⟨lb, 1, none⟩)) rfl rfl (by kernel_rfl) (by kernel_rfl) (by kernel_rfl) (by kernel_rfl) (by kernel_rfl) (fun _ _ _ h => h) rfl (fun W => by go_simp) ?_
  go_simp
  refine aQ (i := 2) (v := .slice (some ⟨b, off, none⟩) L.sgs.length c) rfl rfl (by kernel_rfl) (by kernel_rfl) (by kernel_rfl) (by kernel_rfl) (by kernel_rfl) (fun _ _ _ h => h) rfl (fun W h => by go_simp) (by simp [World.cell?, C.out, Lv.cs]) ?_
  go_simp
  refine aD (i := 3) (v := .int .i64 i) rfl rfl (by kernel_rfl) (by kernel_rfl) (by kernel_rfl) (by kernel_rfl) (by kernel_rfl) (fun _ _ _ h => h) rfl (fun W => by go_simp) ?_
  go_simp
  refine aD (i := 4) (v := .pointer (some ⟨b, off + i * 4, none⟩)) rfl rfl (by kernel_rfl) (by kernel_rfl) (by kernel_rfl) (by kernel_rfl) (by kernel_rfl) (fun _ _ _ h => h) rfl (fun W => by go_simp) ?_
  go_simp
  refine aQ (i := 5) (v := .agg (jQ s).toArray) rfl rfl (by kernel_rfl) (by kernel_rfl) (by kernel_rfl) (by kernel_rfl) (by kernel_rfl) (fun _ _ _ h => h) rfl (fun W' h => bQ W' b (off + i * 4) 136 (jQ s) _ h Tryz.underlying136 rfl (by kernel_rfl) _ _ (.tmp 10) (by rfl) (by rfl)) (RG.out) ?_
  go_simp
  refine aD (i := 6) (v := .bool true) rfl rfl (by kernel_rfl) (by kernel_rfl) (by kernel_rfl) (by kernel_rfl) (by kernel_rfl) (fun _ _ _ h => h) rfl (fun W => exec_eql_sg s _ _ (.tmp 6) (.tmp 11) _ (by rfl) (by rfl) (by rfl) W) ?_
  go_simp
  refine aI (i := 7) (by kernel_rfl) ?_
  refine aM rfl rfl ?_
  go_simp
  refine ⟨aN (by kernel_rfl) (by kernel_rfl), ?_⟩
  go_simp
  refine aS (by kernel_rfl) ?_ _
  go_wp2_with fail
  go_ret
  exact ⟨rfl, Q.out⟩
set_option maxRecDepth 100000 in
set_option maxHeartbeats 8000000 in
theorem ndSame2_ok (L : Ly) (A : Option Addr) (c : Nat) (B0 : Option Addr) (d : Nat) (lb i : Nat) (W : World) (hi : i < L.nws.length) (hL : W.heap[lb]? = some (.cells (Lv.cs ⟨L, A, c, B0, d⟩).toArray 66 (0, 0))) (hB : InR W W.heap.size B0 L.nws) :
    Calls Tryz.prog 81 #[.int .i64 i, .int .i64 L.nws[i], .pointer (some ⟨lb, 0, none⟩)] W fun e w' => e = .returned (.bool true) ∧ Below W.heap.size W w' := by
  obtain ⟨b, off, rfl, hbs, c0⟩ := InR.at_ hB hi
  have hii : (i : Int) < (L.nws.length : Int) := by omega
  have l2 : W.cell? ⟨lb, 2, none⟩ = some (.slice (some ⟨b, off, none⟩) L.nws.length d) := by simp [World.cell?, hL, Lv.cs]
  clear hL hB
  generalize L.nws[i] = v at *
  have hv : (v == v) = true := by simp
  go_enter Tryz.func81, Tryz.ntmps81
  go_wp2_with fail
  go_ret
  exact ⟨rfl, Below.refl _ _⟩
set_option maxRecDepth 100000 in
set_option maxHeartbeats 8000000 in
theorem ndSame_ok (L : Ly) (A : Option Addr) (c : Nat) (B0 : Option Addr) (d : Nat) (A2 : Option Addr) (c2 : Nat) (B2 : Option Addr) (d2 : Nat) (w : World) (h1 : (⟨L, A, c, B0, d⟩ : Lv).Ok w) (h2 : (⟨L, A2, c2, B2, d2⟩ : Lv).Ok w) :
    Calls Tryz.prog 39 #[.agg (Lv.cs ⟨L, A, c, B0, d⟩).toArray, .agg (Lv.cs ⟨L, A2, c2, B2, d2⟩).toArray] w fun e w' => e = .returned (.bool true) ∧ Below w.heap.size w w' := by
  obtain ⟨w0, hw0⟩ : ∃ w0, w0 = (w.alloc (.cells (Lv.cs ⟨L, A, c, B0, d⟩).toArray 66)).alloc (.cells (Lv.cs ⟨L, A2, c2, B2, d2⟩).toArray 66) := ⟨_, rfl⟩
  have X := aA (aB (World.alloc_heap_new w (.cells (Lv.cs ⟨L, A, c, B0, d⟩).toArray 66)) ((Below.refl _ (w.alloc (.cells (Lv.cs ⟨L, A, c, B0, d⟩).toArray 66))).alloc (Nat.le_refl _) (.cells (Lv.cs ⟨L, A2, c2, B2, d2⟩).toArray 66)))
  have Y := aA (World.alloc_heap_new (w.alloc (.cells (Lv.cs ⟨L, A, c, B0, d⟩).toArray 66)) (.cells (Lv.cs ⟨L, A2, c2, B2, d2⟩).toArray 66))
  have Q : Hid (Below w.heap.size w w0) := by rw [hw0]; exact aA (((Below.refl w.heap.size w).alloc (Nat.le_refl _) (.cells (Lv.cs ⟨L, A, c, B0, d⟩).toArray 66)).alloc (by simp; try omega) (.cells (Lv.cs ⟨L, A2, c2, B2, d2⟩).toArray 66))
  rw [← hw0] at X Y
  simp only [World.size_alloc] at Y
  have S1 := aA (fun W (q : Below w.heap.size w W) (hY : W.heap[w.heap.size + 1]? = some (.cells (Lv.cs ⟨L, A2, c2, B2, d2⟩).toArray 66 (0, 0))) => ndAll_Sig 79 (w.heap.size + 1) (fun _ _ => rfl) L.sgs A c W (h1.next q).a (by have := h1.s; dsimp only at this; omega) (aA fun i hi w' q' => ndSame1_ok L A2 c2 B2 d2 (w.heap.size + 1) i w' hi (aB hY q') ((h2.next q).next q').a))
  have S2 := aA (fun W (q : Below w.heap.size w W) (hY : W.heap[w.heap.size + 1]? = some (.cells (Lv.cs ⟨L, A2, c2, B2, d2⟩).toArray 66 (0, 0))) => ndAll_Int 81 (w.heap.size + 1) (fun _ _ => rfl) L.nws B0 d W (h1.next q).b (by have := h1.n; dsimp only at this; omega) (aA fun i hi w' q' => ndSame2_ok L A2 c2 B2 d2 (w.heap.size + 1) i w' hi (aB hY q') ((h2.next q).next q').b))
  have hs1 : L.sgs.length ≤ 9223372036854775807 := h1.s
  have hs2 : L.nws.length ≤ 9223372036854775807 := h1.n
  have e1 : (L.size == L.size) = true := by simp
  have e2 : ((L.sgs.length : Int) == (L.sgs.length : Int)) = true := by simp
  have e3 : ((L.nws.length : Int) == (L.nws.length : Int)) = true := by simp
  clear h1 h2
  go_enter Tryz.func39, Tryz.ntmps39
  go_upto_region 1 with fail
  change Code.wp _ _ _ _ ((w.alloc (.cells (Lv.cs ⟨L, A, c, B0, d⟩).toArray 66)).alloc (.cells (Lv.cs ⟨L, A2, c2, B2, d2⟩).toArray 66))
  rw [← hw0]
  clear hw0
  obtain ⟨x0, x1, x2⟩ := bK X.out
  obtain ⟨y0, y1, y2⟩ := bK Y.out
  go_wp2_with fail
  (with_reducible refine (S1.out w0 Q.out Y.out).mono ?_)
  rintro ew1' w1' ⟨rfl, qw1'⟩
  replace X := aA (aB X.out qw1')
  replace Y := aA (aB Y.out qw1')
  replace Q := aA (aC Q.out Q.out.size qw1')
  clear qw1'
  clear S1 x0 x1 x2 y0 y1 y2
  obtain ⟨x0, x1, x2⟩ := bK X.out
  obtain ⟨y0, y1, y2⟩ := bK Y.out
  go_wp2_with fail
  (with_reducible refine (S2.out w1' Q.out Y.out).mono ?_)
  rintro ew2' w2' ⟨rfl, qw2'⟩
  replace X := aA (aB X.out qw2')
  replace Y := aA (aB Y.out qw2')
  replace Q := aA (aC Q.out Q.out.size qw2')
  clear qw2'
  clear S2 x0 x1 x2 y0 y1 y2
  go_wp2_with fail
  go_ret
  exact ⟨rfl, Q.out⟩
theorem Nd.shape_iff {n : Nd} : n.shape = true ↔ ((2 ≤ n.cf.nodes ∧ n.cf.nodes ≤ 4) ∧ (0 ≤ n.id ∧ n.id < n.cf.nodes)) ∧ n.os.length = n.sends.length ∧ n.is.length = n.hears.length := by
  unfold Nd.shape cK
  simp only [Bool.and_eq_true, decide_eq_true_eq]
  omega
set_option maxRecDepth 100000 in
set_option maxHeartbeats 16000000 in
theorem gK (n : Nd) (w : World) (ho : n.Okw w) :
    Calls Tryz.prog 34 #[.agg n.cs.toArray] w fun e w' => e = .returned (.bool n.shape) ∧ Below w.heap.size w w' := by
  obtain ⟨w0, hw0⟩ : ∃ w0, w0 = w.alloc (.cells n.cs.toArray 53) := ⟨_, rfl⟩
  have B := aA (World.alloc_heap_new w (.cells n.cs.toArray 53))
  have Q : Hid (Below w.heap.size w w0) := by rw [hw0]; exact aA ((Below.refl w.heap.size w).alloc (Nat.le_refl _) (.cells n.cs.toArray 53))
  rw [← hw0] at B
  obtain ⟨r, hr⟩ : ∃ r, r = n.shape := ⟨_, rfl⟩
  rw [← hr]
  have HR := aA (show r = true ↔ ((2 ≤ n.cf.nodes ∧ n.cf.nodes ≤ 4) ∧ (0 ≤ n.id ∧ n.id < n.cf.nodes)) ∧ n.os.length = n.sends.length ∧ n.is.length = n.hears.length by rw [hr]; exact Nd.shape_iff)
  have SE := aA (fun W (q : Below w.heap.size w W) => ndSends_any n W (ho.next q))
  have HE := aA (fun W (q : Below w.heap.size w W) (hid : 0 ≤ n.id ∧ n.id ≤ 3) => ndHears_any n W (ho.next q) hid)
  have hlo := ho.no
  have hli := ho.ni
  have hls : n.sends.length ≤ 1000 := Nat.le_trans nd_len.1 ho.cf.n
  have hlh : n.hears.length ≤ 1000 := Nat.le_trans nd_len.2 ho.cf.n
  clear hr ho
  go_enter Tryz.func34, Tryz.ntmps34
  go_upto_region 1 with fail
  change Code.wp _ _ _ _ (w.alloc (.cells n.cs.toArray 53))
  rw [← hw0]
  clear hw0
  have C := World.alloc_heap_new w0 (.cells zCf.cs.toArray 25)
  have zBy : w.heap.size < w0.heap.size := aH B.out
  have zQy : w.heap.size ≤ w0.heap.size := Q.out.size
  obtain ⟨w2', hw2'⟩ : ∃ wx, wx = w0.alloc (.cells zCf.cs.toArray 25) := ⟨_, rfl⟩
  have q1' := aA (show Below w0.heap.size w0 w2' by rw [hw2']; exact (Below.refl _ _).alloc (Nat.le_refl _) _)
  rw [← hw2'] at C
  replace C := aA C
  have Tw3' := aA (show (w0.alloc (.cells zCf.cs.toArray 25)).there w0.heap.size 0 8 by rw [← hw2']; exact aK (cs := zCf.cs) C.out)
  go_wp2_with (first | (refine wpList_load_mid rfl 25 (.tmp 4) (by rfl) w.heap.size 0 (by rfl) (n.cf.cs) _ (by exact aL B.out 0 rfl) Tryz.underlying25 (by rfl) (by kernel_rfl) ?_) | (refine aF (by rfl) 25 (.tmp 3) (.tmp 5) (by rfl) w0.heap.size 0 n.cf.cs (by rfl) (by rfl) (by exact Tw3'.out) (by kernel_rfl) (by simp [Value.oneCell', Cf.cs]) ?_))
  intro w3' ew3'
  replace ew3' : Hid (w3' = w2'.setCells w0.heap.size 0 n.cf.cs) := by rw [hw2']; exact ew3'
  replace C := aA (show w3'.heap[w0.heap.size]? = some (.cells n.cf.cs.toArray 25 (0, 0)) by rw [ew3'.out]; exact aJ n.cf.cs (xs := zCf.cs) C.out rfl)
  replace q1' := aA (show Below w0.heap.size w0 w3' by rw [ew3'.out]; exact q1'.out.trans (aE _ _ _ (by omega)))
  clear ew3' Tw3' hw2'
  replace B := aA (aB B.out q1'.out)
  replace Q := aA (aC Q.out Q.out.size q1'.out)
  clear q1'
  generalize w0.heap.size = y at *
  have c8 := aZ B.out 8 (v := .int .i64 n.id) rfl
  obtain ⟨d0, _⟩ := bL C.out
  by_cases hb : ¬ ((2 ≤ n.cf.nodes ∧ n.cf.nodes ≤ 4) ∧ (0 ≤ n.id ∧ n.id < n.cf.nodes))
  ·
    clear SE HE
    go_wp2_with fail
    all_goals go_ret
    all_goals exact ⟨aV (bI HR.out (by omega)), Q.out⟩
  obtain ⟨⟨hb1, hb2⟩, hb3, hb4⟩ : (2 ≤ n.cf.nodes ∧ n.cf.nodes ≤ 4) ∧ (0 ≤ n.id ∧ n.id < n.cf.nodes) := by omega
  have HB := aA (show ((2 ≤ n.cf.nodes ∧ n.cf.nodes ≤ 4) ∧ (0 ≤ n.id ∧ n.id < n.cf.nodes)) ∧ 0 ≤ n.id ∧ n.id ≤ 3 by omega)
  clear hb
  go_upto_region 4 with fail
  clear hb1 hb2 hb3 hb4 c8 d0
  by_cases h1 : n.os.length = n.sends.length
  ·
    have e1 : ((n.os.length : Int) == (n.sends.length : Int)) = true := by rw [h1]; simp
    have H1 := aA h1
    clear h1
    refine bB [0, 1, 2, 3, 5, 6, 7, 8, 9, 10, 11, 13, 14, 15] [(1, fun W => W.cell? ⟨w.heap.size, 9, none⟩ = some (.slice n.oA n.os.length n.oc)), (3, fun W => W.rangeAt (w.heap.size) 0 n.cs), (9, fun W => W.cell? ⟨w.heap.size, 10, none⟩ = some (.slice n.iA n.is.length n.ic)), (11, fun W => W.rangeAt (w.heap.size) 0 n.cs)] (by kernel_rfl) ?_
    replace B := aA (show w3'.drew.heap[w.heap.size]? = some (.cells n.cs.toArray 53 (0, 0)) from B.out)
    replace C := aA (show w3'.drew.heap[y]? = some (.cells n.cf.cs.toArray 25 (0, 0)) from C.out)
    replace Q := aA (show Below w.heap.size w w3'.drew from Q.out.drew)
    generalize w3'.drew = w4' at *
    refine aD (i := 0) (v := .pointer (some ⟨w.heap.size, 9, none⟩)) rfl rfl (by kernel_rfl) (by kernel_rfl) (by kernel_rfl) (by kernel_rfl) (by kernel_rfl) (fun _ _ _ h => h) rfl (fun W => by go_simp) ?_
    go_simp
    refine aQ (i := 1) (v := .slice n.oA n.os.length n.oc) rfl rfl (by kernel_rfl) (by kernel_rfl) (by kernel_rfl) (by kernel_rfl) (by kernel_rfl) (fun _ _ _ h => h) rfl (fun W h => by go_simp) (aZ B.out 9 (v := .slice n.oA n.os.length n.oc) rfl) ?_
    go_simp
    refine aD (i := 2) (v := .int .i64 n.os.length) rfl rfl (by kernel_rfl) (by kernel_rfl) (by kernel_rfl) (by kernel_rfl) (by kernel_rfl) (fun _ _ _ h => h) rfl (fun W => by go_simp) ?_
    go_simp
    refine aQ (i := 3) (v := .agg n.cs.toArray) rfl rfl (by kernel_rfl) (by kernel_rfl) (by kernel_rfl) (by kernel_rfl) (by kernel_rfl) (fun _ _ _ h => h) rfl (fun W h => bQ W (w.heap.size) 0 53 n.cs _ h Tryz.underlying53 rfl (by kernel_rfl) _ _ (.tmp 1) (by rfl) (by rfl)) (aL B.out 0 rfl) ?_
    go_simp
    refine aI (i := 4) (by kernel_rfl) ?_
    refine aM rfl rfl ?_
    go_simp
    (with_reducible refine (SE.out w4' Q.out).mono ?_)
    rintro ew5' w5' ⟨⟨A, cc, rfl, _, _⟩, qw5'⟩
    replace B := aA (aB B.out qw5')
    replace C := aA (aB C.out qw5')
    replace Q := aA (aC Q.out Q.out.size qw5')
    clear qw5'
    clear SE
    go_simp
    refine ⟨aO (by kernel_rfl) (.cons (aZ B.out 9 (v := .slice n.oA n.os.length n.oc) rfl) (.cons (aL B.out 0 rfl) (.cons (aZ B.out 10 (v := .slice n.iA n.is.length n.ic) rfl) (.cons (aL B.out 0 rfl) .nil)))), ?_⟩
    go_simp
    refine aD (i := 5) (v := .int .i64 n.sends.length) rfl rfl (by kernel_rfl) (by kernel_rfl) (by kernel_rfl) (by kernel_rfl) (by kernel_rfl) (fun _ _ _ h => h) rfl (fun W => by go_simp) ?_
    go_simp
    refine aD (i := 6) (v := .bool true) rfl rfl (by kernel_rfl) (by kernel_rfl) (by kernel_rfl) (by kernel_rfl) (by kernel_rfl) (fun _ _ _ h => h) rfl (fun W => by go_simp) ?_
    go_simp
    refine aD (i := 7) (v := .bool true) rfl rfl (by kernel_rfl) (by kernel_rfl) (by kernel_rfl) (by kernel_rfl) (by kernel_rfl) (fun _ _ _ h => h) rfl (fun W => by go_simp) ?_
    go_simp
    refine aR (i := 8) (v := .pointer (some ⟨w.heap.size, 10, none⟩)) rfl rfl (by kernel_rfl) (by kernel_rfl) (by kernel_rfl) (by kernel_rfl) (by kernel_rfl) (fun _ _ _ h => h) (by kernel_rfl) (fun W => by go_simp) ?_
    go_simp
    refine bC (i := 9) (v := .slice n.iA n.is.length n.ic) rfl rfl (by kernel_rfl) (by kernel_rfl) (by kernel_rfl) (by kernel_rfl) (by kernel_rfl) (fun _ _ _ h => h) (by kernel_rfl) (fun W h => by go_simp) (aZ B.out 10 (v := .slice n.iA n.is.length n.ic) rfl) ?_
    go_simp
    refine aR (i := 10) (v := .int .i64 n.is.length) rfl rfl (by kernel_rfl) (by kernel_rfl) (by kernel_rfl) (by kernel_rfl) (by kernel_rfl) (fun _ _ _ h => h) (by kernel_rfl) (fun W => by go_simp) ?_
    go_simp
    refine bC (i := 11) (v := .agg n.cs.toArray) rfl rfl (by kernel_rfl) (by kernel_rfl) (by kernel_rfl) (by kernel_rfl) (by kernel_rfl) (fun _ _ _ h => h) (by kernel_rfl) (fun W h => bQ W (w.heap.size) 0 53 n.cs _ h Tryz.underlying53 rfl (by kernel_rfl) _ _ (.tmp 1) (by rfl) (by rfl)) (aL B.out 0 rfl) ?_
    go_simp
    refine aI (i := 12) (by kernel_rfl) ?_
    refine dL rfl (by kernel_rfl) ?_
    go_simp
    (with_reducible refine (HE.out w5' Q.out HB.out.2).mono ?_)
    rintro ew6' w6' ⟨⟨A2, cc2, rfl, _, _⟩, qw6'⟩
    replace B := aA (aB B.out qw6')
    replace C := aA (aB C.out qw6')
    replace Q := aA (aC Q.out Q.out.size qw6')
    clear qw6'
    clear HE
    go_simp
    refine ⟨aO (by kernel_rfl) (.cons (aZ B.out 9 (v := .slice n.oA n.os.length n.oc) rfl) (.cons (aL B.out 0 rfl) (.cons (aZ B.out 10 (v := .slice n.iA n.is.length n.ic) rfl) (.cons (aL B.out 0 rfl) .nil)))), ?_⟩
    go_simp
    refine aR (i := 13) (v := .int .i64 n.hears.length) rfl rfl (by kernel_rfl) (by kernel_rfl) (by kernel_rfl) (by kernel_rfl) (by kernel_rfl) (fun _ _ _ h => h) (by kernel_rfl) (fun W => by go_simp) ?_
    go_simp
    refine aR (i := 14) (v := .bool ((n.is.length : Int) == (n.hears.length : Int))) rfl rfl (by kernel_rfl) (by kernel_rfl) (by kernel_rfl) (by kernel_rfl) (by kernel_rfl) (fun _ _ _ h => h) (by kernel_rfl) (fun W => by go_simp) ?_
    go_simp
    refine aD (i := 15) (v := .bool ((n.is.length : Int) == (n.hears.length : Int))) rfl rfl (by kernel_rfl) (by kernel_rfl) (by kernel_rfl) (by kernel_rfl) (by kernel_rfl) (fun _ _ _ h => h) rfl (fun W => by go_simp) ?_
    go_simp
    refine aI (i := 16) (by kernel_rfl) ?_
    refine aM rfl rfl ?_
    go_simp
    refine ⟨aN (by kernel_rfl) (by kernel_rfl), ?_⟩
    go_simp
    refine aS (by kernel_rfl) ?_ _
    go_wp2_with fail
    go_ret
    refine ⟨aV ?_, Q.out⟩
    have HR2 := HR.out
    cases r with
    | true => exact beq_iff_eq.2 (by have := (HR2.1 rfl).2.2; omega)
    | false => exact beq_eq_false_iff_ne.2 (fun h => absurd (HR2.2 ⟨HB.out.1, H1.out, by omega⟩) (by simp))
  have e1 : ((n.os.length : Int) == (n.sends.length : Int)) = false := beq_eq_false_iff_ne.2 (by omega)
  have E := aA (show r = false from (bI HR.out (fun h => h1 h.2.1)).symm)
  clear h1 HR
  refine bB [0, 1, 2, 3, 5, 6, 7, 8, 9, 10, 11, 12, 13, 14, 15] [(1, fun W => W.cell? ⟨w.heap.size, 9, none⟩ = some (.slice n.oA n.os.length n.oc)), (3, fun W => W.rangeAt (w.heap.size) 0 n.cs)] (by kernel_rfl) ?_
  replace B := aA (show w3'.drew.heap[w.heap.size]? = some (.cells n.cs.toArray 53 (0, 0)) from B.out)
  replace C := aA (show w3'.drew.heap[y]? = some (.cells n.cf.cs.toArray 25 (0, 0)) from C.out)
  replace Q := aA (show Below w.heap.size w w3'.drew from Q.out.drew)
  generalize w3'.drew = w7' at *
  refine aD (i := 0) (v := .pointer (some ⟨w.heap.size, 9, none⟩)) rfl rfl (by kernel_rfl) (by kernel_rfl) (by kernel_rfl) (by kernel_rfl) (by kernel_rfl) (fun _ _ _ h => h) rfl (fun W => by go_simp) ?_
  go_simp
  refine aQ (i := 1) (v := .slice n.oA n.os.length n.oc) rfl rfl (by kernel_rfl) (by kernel_rfl) (by kernel_rfl) (by kernel_rfl) (by kernel_rfl) (fun _ _ _ h => h) rfl (fun W h => by go_simp) (aZ B.out 9 (v := .slice n.oA n.os.length n.oc) rfl) ?_
  go_simp
  refine aD (i := 2) (v := .int .i64 n.os.length) rfl rfl (by kernel_rfl) (by kernel_rfl) (by kernel_rfl) (by kernel_rfl) (by kernel_rfl) (fun _ _ _ h => h) rfl (fun W => by go_simp) ?_
  go_simp
  refine aQ (i := 3) (v := .agg n.cs.toArray) rfl rfl (by kernel_rfl) (by kernel_rfl) (by kernel_rfl) (by kernel_rfl) (by kernel_rfl) (fun _ _ _ h => h) rfl (fun W h => bQ W (w.heap.size) 0 53 n.cs _ h Tryz.underlying53 rfl (by kernel_rfl) _ _ (.tmp 1) (by rfl) (by rfl)) (aL B.out 0 rfl) ?_
  go_simp
  refine aI (i := 4) (by kernel_rfl) ?_
  refine aM rfl rfl ?_
  go_simp
  (with_reducible refine (SE.out w7' Q.out).mono ?_)
  rintro ew8' w8' ⟨⟨A, cc, rfl, _, _⟩, qw8'⟩
  replace B := aA (aB B.out qw8')
  replace C := aA (aB C.out qw8')
  replace Q := aA (aC Q.out Q.out.size qw8')
  clear qw8'
  clear SE
  go_simp
  refine ⟨aO (by kernel_rfl) (.cons (aZ B.out 9 (v := .slice n.oA n.os.length n.oc) rfl) (.cons (aL B.out 0 rfl) .nil)), ?_⟩
  go_simp
  refine aD (i := 5) (v := .int .i64 n.sends.length) rfl rfl (by kernel_rfl) (by kernel_rfl) (by kernel_rfl) (by kernel_rfl) (by kernel_rfl) (fun _ _ _ h => h) rfl (fun W => by go_simp) ?_
  go_simp
  refine aD (i := 6) (v := .bool false) rfl rfl (by kernel_rfl) (by kernel_rfl) (by kernel_rfl) (by kernel_rfl) (by kernel_rfl) (fun _ _ _ h => h) rfl (fun W => by go_simp) ?_
  go_simp
  refine aD (i := 7) (v := .bool false) rfl rfl (by kernel_rfl) (by kernel_rfl) (by kernel_rfl) (by kernel_rfl) (by kernel_rfl) (fun _ _ _ h => h) rfl (fun W => by go_simp) ?_
  go_simp
  refine dS (i := 8) rfl rfl (by kernel_rfl) (by kernel_rfl) (by kernel_rfl) (by kernel_rfl) (by kernel_rfl) (fun _ _ _ h => h) (by kernel_rfl) ?_
  go_simp
  refine dS (i := 9) rfl rfl (by kernel_rfl) (by kernel_rfl) (by kernel_rfl) (by kernel_rfl) (by kernel_rfl) (fun _ _ _ h => h) (by kernel_rfl) ?_
  go_simp
  refine dS (i := 10) rfl rfl (by kernel_rfl) (by kernel_rfl) (by kernel_rfl) (by kernel_rfl) (by kernel_rfl) (fun _ _ _ h => h) (by kernel_rfl) ?_
  go_simp
  refine dS (i := 11) rfl rfl (by kernel_rfl) (by kernel_rfl) (by kernel_rfl) (by kernel_rfl) (by kernel_rfl) (fun _ _ _ h => h) (by kernel_rfl) ?_
  go_simp
  refine dS (i := 12) rfl rfl (by kernel_rfl) (by kernel_rfl) (by kernel_rfl) (by kernel_rfl) (by kernel_rfl) (fun _ _ _ h => h) (by kernel_rfl) ?_
  go_simp
  refine dS (i := 13) rfl rfl (by kernel_rfl) (by kernel_rfl) (by kernel_rfl) (by kernel_rfl) (by kernel_rfl) (fun _ _ _ h => h) (by kernel_rfl) ?_
  go_simp
  refine dS (i := 14) rfl rfl (by kernel_rfl) (by kernel_rfl) (by kernel_rfl) (by kernel_rfl) (by kernel_rfl) (fun _ _ _ h => h) (by kernel_rfl) ?_
  go_simp
  refine aD (i := 15) (v := .bool false) rfl rfl (by kernel_rfl) (by kernel_rfl) (by kernel_rfl) (by kernel_rfl) (by kernel_rfl) (fun _ _ _ h => h) rfl (fun W => by go_simp) ?_
  go_simp
  refine aI (i := 16) (by kernel_rfl) ?_
  refine aM rfl rfl ?_
  go_simp
  refine ⟨aN (by kernel_rfl) (by kernel_rfl), ?_⟩
  go_simp
  refine aS (by kernel_rfl) ?_ _
  go_wp2_with fail
  go_ret
  exact ⟨aV (by rw [E.out]), Q.out⟩
end Go.Proofs.YtkmddjbialpppaaGreatDoor
