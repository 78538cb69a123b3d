/- BoxCalls. -/
import Derived.Test.YtbdgifngldipcaaBcK
namespace Go.Proofs.Ytbdgifngldipcaa
open Go.ChangeShapes Go.WideShapes Go.ChangeAt Go.RowKit
open FP (Fr)
open HP (kB at' Hp)

theorem cutB_mem {l : List Bx} {x : Bx} (h : x ∈ cutB l) : ∃ y ∈ l, x = cutBx y := by
  unfold cutB at h
  obtain ⟨y, hy, rfl⟩ := List.mem_map.1 h
  exact ⟨y, List.mem_of_mem_take hy, rfl⟩
theorem cutB_len (l : List Bx) : (cutB l).length ≤ 12 := by unfold cutB; rw [List.length_map, List.length_take]; omega

theorem fr_cells5 {W : World} {B : Nat} {id : Nat} {ext rem : Bool} {dlc : Int} {data : ByteArray} {t : TypeId} {fz : Nat × Nat} (h : W.heap[B]? = some (.cells #[.int .u32 id, .bool ext, .bool rem, .int .i64 dlc, .string data] t fz)) :
    W.cell? ⟨B, 0, none⟩ = some (.int .u32 id) ∧ W.cell? ⟨B, 1, none⟩ = some (.bool ext) ∧ W.cell? ⟨B, 2, none⟩ = some (.bool rem) ∧ W.cell? ⟨B, 3, none⟩ = some (.int .i64 dlc) ∧ W.cell? ⟨B, 4, none⟩ = some (.string data) := by
  refine ⟨?_, ?_, ?_, ?_, ?_⟩ <;> simp [World.cell?, h]
theorem fr_froz {W : World} {B : Nat} {cs : Array Value} {t : TypeId} (h : W.heap[B]? = some (.cells cs t (0, 0))) : W.frozen? ⟨B, 4, none⟩ = false := by simp [World.frozen?, h]
theorem bxr_ne3 {W : World} {B B9 : Nat} {A A' : Option Addr} {n' c' : Nat} {a b : Int} {t : TypeId} {fz : Nat × Nat} {l : List Bx} (hb : W.heap[B]? = some (.cells #[.slice A' n' c', .int .i64 a, .int .i64 b] t fz)) (hl : 0 < l.length) (h : BxR W B9 A l) : ∀ g off, A = some ⟨g, off, none⟩ → g ≠ B := by
  rintro g off rfl rfl
  obtain ⟨_, c0, c1, _⟩ := h.at2 hl
  simp only [Nat.zero_mul, Nat.add_zero] at c0 c1
  rcases off with _ | _ | _ | off
  · simp [World.cell?, hb] at c0
  · simp [World.cell?, hb] at c1
  · simp [World.cell?, hb] at c1
  · simp [World.cell?, hb] at c0
theorem bxr_ne5 {W : World} {B B9 : Nat} {A : Option Addr} {id : Nat} {ext rem : Bool} {dlc : Int} {data : ByteArray} {t : TypeId} {fz : Nat × Nat} {l : List Bx} (hb : W.heap[B]? = some (.cells #[.int .u32 id, .bool ext, .bool rem, .int .i64 dlc, .string data] t fz)) (hl : 0 < l.length) (h : BxR W B9 A l) : ∀ g off, A = some ⟨g, off, none⟩ → g ≠ B := by
  rintro g off rfl rfl
  obtain ⟨_, c0, c1, _⟩ := h.at2 hl
  simp only [Nat.zero_mul, Nat.add_zero] at c0 c1
  rcases off with _ | _ | _ | _ | _ | off
  · simp [World.cell?, hb] at c0
  · simp [World.cell?, hb] at c0
  · simp [World.cell?, hb] at c0
  · simp [World.cell?, hb] at c1
  · simp [World.cell?, hb] at c0
  · simp [World.cell?, hb] at c0
theorem bxr_set {W : World} {B : Nat} {A : Option Addr} {l : List Bx} (hne : 0 < l.length → ∀ g off, A = some ⟨g, off, none⟩ → g ≠ B) (h : BxR W W.heap.size A l) (vs : List Value) (o : Nat) : BxR (W.setCells B o vs) (W.setCells B o vs).heap.size A l := by
  rcases Nat.eq_zero_or_pos l.length with h0 | h0
  · have : l = [] := List.length_eq_zero_iff.1 h0
    subst this
    exact Rd.nil
  · exact rd_setCells (hne h0) vs o W h

set_option maxRecDepth 100000 in
set_option maxHeartbeats 8000000 in
theorem boxCalls_walk (size : Int) (l0 : List Bx) (A : Option Addr) (c : Nat) (seq cap handle : Int) (f0 : Fr) (w : World) (hr0 : BxR w w.heap.size A l0) (hc0 : l0.length ≤ c) (hcm : c ≤ maxLen) (hs0 : ∀ x ∈ l0, x.f.data.size ≤ maxLen) (hi0 : ∀ x ∈ l0, x.f.id < 4294967296) (hf0 : f0.id < 4294967296) (hfs : f0.data.size ≤ maxLen) :
    Calls Try.prog 12 #[.int .i64 size, .agg #[.slice A l0.length c, .int .i64 seq, .int .i64 cap], .int .i64 handle, .agg #[.int .u32 f0.id, .bool f0.ext, .bool f0.rem, .int .i64 f0.dlc, .string f0.data]] w fun e w' => e = .returned (.bool true) ∧ Below w.heap.size w w' := by
  have AL := hide (fun W => alive09_any W)
  have FW := hide (fun W (q : Below w.heap.size w W) => few09_any l0 A c seq cap W (BxR.next hr0 q q.size) hc0 hcm hs0)
  have HI := hide (show ∀ x ∈ cutB l0, x.f.id < 4294967296 from fun x hx => by obtain ⟨y, hy, rfl⟩ := cutB_mem hx; exact hi0 y hy)
  have h12 := cutB_len l0
  obtain ⟨f, hf⟩ : ∃ f, f = cutF f0 := ⟨_, rfl⟩
  have hfi : f.id < 4294967296 := by rw [hf]; exact hf0
  have HF := hide hf
  clear hr0 hs0 hi0 hf0 hf
  obtain ⟨id, ext, rem, dlc, data⟩ := f0
  dsimp only at *
  unfold maxLen at hfs
  obtain ⟨k2, em2, hm2⟩ := run_min (P := Try.prog) (data.size : Int) 12
  obtain ⟨k2', hk2⟩ : ∃ k2' : Nat, k2' = min data.size 12 := ⟨_, rfl⟩
  have hmk : k2 = k2' := by omega
  subst hmk
  have hkl : k2' ≤ data.size := by omega
  have HF2 : Hid (f = ⟨id, ext, rem, dlc, data.extract 0 k2'⟩) := hide (by rw [HF.out, hk2]; rfl)
  clear hk2 em2 HF
  have q0 : Below w.heap.size w ((w.alloc (.cells #[.slice A l0.length c, .int .i64 seq, .int .i64 cap] 65)).alloc (.cells #[.int .u32 id, .bool ext, .bool rem, .int .i64 dlc, .string data] 39)) := ((Below.refl _ _).alloc (Nat.le_refl _) _).alloc (by simp) _
  have B5 : Hid (((w.alloc (.cells #[.slice A l0.length c, .int .i64 seq, .int .i64 cap] 65)).alloc (.cells #[.int .u32 id, .bool ext, .bool rem, .int .i64 dlc, .string data] 39)).heap[w.heap.size]? = some (.cells #[.slice A l0.length c, .int .i64 seq, .int .i64 cap] 65 (0, 0))) := hide (by rw [Below.heap_alloc _ _ _ (by simp)]; exact World.alloc_heap_new w _)
  have B7 : Hid (((w.alloc (.cells #[.slice A l0.length c, .int .i64 seq, .int .i64 cap] 65)).alloc (.cells #[.int .u32 id, .bool ext, .bool rem, .int .i64 dlc, .string data] 39)).heap[w.heap.size + 1]? = some (.cells #[.int .u32 id, .bool ext, .bool rem, .int .i64 dlc, .string data] 39 (0, 0))) := hide (by
    have := World.alloc_heap_new (w.alloc (.cells #[.slice A l0.length c, .int .i64 seq, .int .i64 cap] 65)) (.cells #[.int .u32 id, .bool ext, .bool rem, .int .i64 dlc, .string data] 39)
    simpa using this)
  go_enter Try.func12, Try.ntmps12
  go_wp2_with fail
  (with_reducible refine (FW.out _ q0).mono ?_)
  rintro e1 w1 ⟨A1, c1, rfl, r1, hc1, q1⟩
  have Q1 := below_next q0 q0.size q1
  have C5 := hide (heap_below B5.out q1)
  have C7 := hide (heap_below B7.out q1)
  obtain ⟨l, hl⟩ : ∃ l, l = cutB l0 := ⟨_, rfl⟩
  rw [← hl] at r1 hc1 HI h12 ⊢
  obtain ⟨n, hn⟩ : ∃ n, n = l.length := ⟨_, rfl⟩
  rw [← hn] at hc1 ⊢
  have HN := hide hn.symm
  have H12 := hide h12
  have R1 := hide r1
  have hn12 : n ≤ 12 := by omega
  have z5 : w.heap.size + 1 < w1.heap.size := heap_lt C7.out
  clear hl hn h12 r1 q1 B5 B7 FW q0
  go_wp2_with (refine wpList_store_hid (by rfl) 65 (.tmp 5) (.tmp 26) (by rfl) w.heap.size 0 [.slice A1 n c1, .int .i64 seq, .int .i64 cap] (by rfl) (by rfl) (by exact three_freeB C5.out) (by kernel_rfl) (by simp [Value.oneCell']) ?_)
  intro W2 e2
  have D5 := whole_heap [.slice A1 n c1, .int .i64 seq, .int .i64 cap] (xs := [_, _, _]) C5.out rfl
  have D7 := other_heap (x := w.heap.size + 1) (b := w.heap.size) (by omega) [.slice A1 n c1, .int .i64 seq, .int .i64 cap] 0 _ C7.out
  have q2 := Q1.trans (below_setCells (g := w.heap.size) [.slice A1 n c1, .int .i64 seq, .int .i64 cap] 0 w1 (by omega))
  have R2 := bxr_set (fun h => bxr_ne3 C5.out h R1.out) R1.out [.slice A1 n c1, .int .i64 seq, .int .i64 cap] 0
  rw [← e2.out] at D5 D7 q2 R2
  replace D5 := hide D5
  replace D7 := hide D7
  replace R2 := hide R2
  clear e2 C5 C7 R1
  obtain ⟨y0, y1, y2, y3, y4⟩ := fr_cells5 D7.out
  have y5 := fr_froz D7.out
  have z5b : w.heap.size + 1 < W2.heap.size := heap_lt D7.out
  go_wp2_with fail
  have S3 : Hid (Bo (W2.setCell ⟨w.heap.size + 1, 4, none⟩ (.string (data.extract 0 k2'))) w.heap.size A1 c1 n seq cap l) := hide ⟨by rw [heap_setCell_other _ _ _ _ (by simp)]; exact D5.out, HN.out, hc1, bxr_set (fun h => bxr_ne5 D7.out h R2.out) R2.out [.string (data.extract 0 k2')] 4⟩
  have F3 : Hid ((W2.setCell ⟨w.heap.size + 1, 4, none⟩ (.string (data.extract 0 k2'))).heap[w.heap.size + 1]? = some (.cells #[.int .u32 f.id, .bool f.ext, .bool f.rem, .int .i64 f.dlc, .string f.data] 39 (0, 0))) := hide (by
    have := heap_setCell_same W2 (w.heap.size + 1) 4 _ _ (.string (data.extract 0 k2')) D7.out
    rw [HF2.out]
    simpa using this)
  have Q3 : Below w.heap.size w (W2.setCell ⟨w.heap.size + 1, 4, none⟩ (.string (data.extract 0 k2'))) := q2.setCell (by simp) _
  clear D5 D7 R2 q2 y0 y1 y2 y3 y4 y5 HF2 z5 z5b Q1
  generalize W2.setCell ⟨w.heap.size + 1, 4, none⟩ (.string (data.extract 0 k2')) = w3 at *
  (with_reducible refine (new_u size w3).mono ?_)
  rintro e4 w4 ⟨nc, rn, rfl, hnew, q4⟩
  have HNEW := hide hnew
  have qa : Below w4.heap.size w4 (w4.alloc (.cells #[.slice none 0 0, .int .i64 0, .int .i64 nc] 65)) := (Below.refl _ _).alloc (Nat.le_refl _) _
  have S4 := hide ((S3.out.below q4).below qa)
  have F4 := hide (heap_below (heap_below F3.out q4) qa)
  have N4 : Hid (Bo (w4.alloc (.cells #[.slice none 0 0, .int .i64 0, .int .i64 nc] 65)) w4.heap.size none 0 0 0 nc []) := hide (Bo.new rfl (Nat.le_refl _) Rd.nil)
  have Q4 := below_next (below_next Q3 Q3.size q4) (below_next Q3 Q3.size q4).size qa
  have zw4 : w.heap.size + 1 < w4.heap.size := heap_lt (heap_below F3.out q4)
  clear S3 F3 hnew q4 qa Q3
  go_upto_region 4 with fail
  generalize w4.alloc (.cells #[.slice none 0 0, .int .i64 0, .int .i64 nc] 65) = w5 at *
  go_cut [45] from 36 (fun v W => v = .bool (decide (size < 1) || decide (8 < size)) ∧ W = w5)
  case first =>
    by_cases hs1 : size < 1
    · go_wp2_with fail
      go_meet
      exact ⟨by rw [decide_eq_true hs1]; rfl, rfl⟩
    · go_wp2_with fail
      go_meet
      exact ⟨by rw [decide_eq_false (show ¬ size < 1 by omega)]; rfl, rfl⟩
  case rest =>
    obtain ⟨rfl, rfl⟩ := hcut
    go_upto_if 45 with fail
    go_cut [45] from 36 (fun _ W => Below wc.heap.size wc W)
    case first =>
      rcases HNEW.out with ⟨n1, n2, rfl, rfl⟩ | ⟨hno, rfl⟩
      · have IS := hide (is9_any [] 0 none 0 0 nc [] 0 none 0 wc rfl rfl Rd.nil (Nat.le_refl _) Rd.nil (by simp) (right_iff.2 ⟨n1, n2, by simp; omega, by omega, by omega, by simp, List.Pairwise.nil, fun k _ hk => absurd hk (by simp)⟩) (List.Perm.refl _))
        obtain ⟨y0, y1, y2⟩ := N4.out.cells
        have b1 : decide (nc < 1) = false := decide_eq_false (by omega)
        have b2 : decide (8 < nc) = false := decide_eq_false (by omega)
        go_wp2_with fail
        (with_reducible refine IS.out.mono ?_)
        rintro e5 w5 ⟨rfl, q5⟩
        go_wp2_with fail
        go_meet
        exact q5
      · have b1 : (decide (size < 1) || decide (8 < size)) = true := by simp; omega
        go_wp2_with fail
        go_meet
        exact Below.refl _ _
    case rest =>
      rename World => w5
      have S5 := hide (S4.out.below hcut)
      have F5 := hide (heap_below F4.out hcut)
      have Q5 := below_next Q4 Q4.size hcut
      have z5 : w.heap.size + 1 < w5.heap.size := heap_lt F5.out
      clear S4 F4 N4 Q4 HNEW hcut zw4
      obtain ⟨x0, x1, x2⟩ := S5.out.cells
      obtain ⟨y0, y1, y2, y3, y4⟩ := fr_cells F5.out
      go_wp2_with fail
      (with_reducible refine (put_u (handle := handle) S5.out.rd S5.out.len H12.out S5.out.le HI.out hfi).mono ?_)
      rintro e6 w6 ⟨Ap, cp, np, lp, sp, kp, rp, rfl, hlp, hcp, rdp, hPP, q6⟩
      have HPP := hide hPP
      have qa : Below w6.heap.size w6 (w6.alloc (.cells #[.slice Ap np cp, .int .i64 sp, .int .i64 kp] 65)) := (Below.refl _ _).alloc (Nat.le_refl _) _
      have q6a := below_next q6 q6.size qa
      have S6 := hide (S5.out.below q6a)
      have F6 := hide (heap_below F5.out q6a)
      have P6 : Hid (Bo (w6.alloc (.cells #[.slice Ap np cp, .int .i64 sp, .int .i64 kp] 65)) w6.heap.size Ap cp np sp kp lp) := hide (Bo.new hlp hcp rdp)
      have Q6 := below_next Q5 Q5.size q6a
      have z6 : w.heap.size + 1 < w6.heap.size := heap_lt (heap_below F5.out q6)
      clear x0 x1 x2 y0 y1 y2 y3 y4 S5 F5 Q5 hlp hcp rdp hPP q6 qa q6a z5
      obtain ⟨x0, x1, x2⟩ := S6.out.cells
      have z6a : w.heap.size < w6.heap.size := by omega
      go_wp2_with fail
      (with_reducible refine (best_u S6.out.rd S6.out.len H12.out S6.out.le HI.out).mono ?_)
      rintro e7 w7 ⟨x, rx, rfl, hbx, q7⟩
      have HBX := hide hbx
      have qa : Below w7.heap.size w7 (w7.alloc (.cells #[.int .i64 x.h, .int .u32 x.f.id, .bool x.f.ext, .bool x.f.rem, .int .i64 x.f.dlc, .string x.f.data, .int .i64 x.s] 70)) := (Below.refl _ _).alloc (Nat.le_refl _) _
      have q7a := below_next q7 q7.size qa
      have S7 := hide (S6.out.below q7a)
      have F7 := hide (heap_below F6.out q7a)
      have P7 := hide (P6.out.below q7a)
      have X7 := hide (World.alloc_heap_new w7 (.cells #[.int .i64 x.h, .int .u32 x.f.id, .bool x.f.ext, .bool x.f.rem, .int .i64 x.f.dlc, .string x.f.data, .int .i64 x.s] 70))
      have Q7 := below_next Q6 Q6.size q7a
      have z7 : w6.heap.size < w7.heap.size := (P6.out.below q7).lt
      clear x0 x1 x2 S6 F6 P6 Q6 hbx q7 qa q7a
      obtain ⟨x0, x1, x2⟩ := S7.out.cells
      have z7a : w.heap.size < w7.heap.size := by omega
      go_wp2_with fail
      (with_reducible refine (take_u S7.out.rd S7.out.len H12.out S7.out.le HI.out).mono ?_)
      rintro e8 w8 ⟨At, ct, nt, lt, st, kt, y, rt, rfl, hlt, hct, rdt, hTP, q8⟩
      have HTP := hide hTP
      have qa : Below w8.heap.size w8 (w8.alloc (.cells #[.slice At nt ct, .int .i64 st, .int .i64 kt] 65)) := (Below.refl _ _).alloc (Nat.le_refl _) _
      have qb : Below (w8.alloc (.cells #[.slice At nt ct, .int .i64 st, .int .i64 kt] 65)).heap.size (w8.alloc (.cells #[.slice At nt ct, .int .i64 st, .int .i64 kt] 65)) ((w8.alloc (.cells #[.slice At nt ct, .int .i64 st, .int .i64 kt] 65)).alloc (.cells #[.int .i64 y.h, .int .u32 y.f.id, .bool y.f.ext, .bool y.f.rem, .int .i64 y.f.dlc, .string y.f.data, .int .i64 y.s] 70)) := (Below.refl _ _).alloc (Nat.le_refl _) _
      have q8a := below_next (below_next q8 q8.size qa) (below_next q8 q8.size qa).size qb
      have S8 := hide (S7.out.below q8a)
      have F8 := hide (heap_below F7.out q8a)
      have P8 := hide (P7.out.below q8a)
      have X8 := hide (heap_below X7.out q8a)
      have T8 : Hid (Bo _ w8.heap.size At ct nt st kt lt) := hide ((Bo.new hlt hct rdt).below qb)
      have Y8 : Hid (((w8.alloc (.cells #[.slice At nt ct, .int .i64 st, .int .i64 kt] 65)).alloc (.cells #[.int .i64 y.h, .int .u32 y.f.id, .bool y.f.ext, .bool y.f.rem, .int .i64 y.f.dlc, .string y.f.data, .int .i64 y.s] 70)).heap[w8.heap.size + 1]? = some (.cells #[.int .i64 y.h, .int .u32 y.f.id, .bool y.f.ext, .bool y.f.rem, .int .i64 y.f.dlc, .string y.f.data, .int .i64 y.s] 70 (0, 0))) := hide (by
        have := World.alloc_heap_new (w8.alloc (.cells #[.slice At nt ct, .int .i64 st, .int .i64 kt] 65)) (.cells #[.int .i64 y.h, .int .u32 y.f.id, .bool y.f.ext, .bool y.f.rem, .int .i64 y.f.dlc, .string y.f.data, .int .i64 y.s] 70)
        simpa using this)
      have Q8 := below_next Q7 Q7.size q8a
      have z8 : w7.heap.size < w8.heap.size := heap_lt (heap_below X7.out q8)
      clear x0 x1 x2 S7 F7 P7 X7 Q7 hlt hct rdt hTP q8 qa qb q8a
      obtain ⟨x0, x1, x2⟩ := S8.out.cells
      have z8a : w.heap.size < w8.heap.size := by omega
      go_wp2_with fail
      (with_reducible refine (drop_u S8.out.rd S8.out.len H12.out S8.out.le HI.out handle).mono ?_)
      rintro e9 w9 ⟨Ad, cd, nd, ld, sd, kd, gone, rd, rfl, hld, hcd, rdd, hDP, q9⟩
      have HDP := hide hDP
      have qa : Below w9.heap.size w9 (w9.alloc (.cells #[.slice Ad nd cd, .int .i64 sd, .int .i64 kd] 65)) := (Below.refl _ _).alloc (Nat.le_refl _) _
      have q9a := below_next q9 q9.size qa
      have S9 := hide (S8.out.below q9a)
      have F9 := hide (heap_below F8.out q9a)
      have P9 := hide (P8.out.below q9a)
      have X9 := hide (heap_below X8.out q9a)
      have T9 := hide (T8.out.below q9a)
      have Y9 := hide (heap_below Y8.out q9a)
      have D9 : Hid (Bo (w9.alloc (.cells #[.slice Ad nd cd, .int .i64 sd, .int .i64 kd] 65)) w9.heap.size Ad cd nd sd kd ld) := hide (Bo.new hld hcd rdd)
      have Q9 := below_next Q8 Q8.size q9a
      have z9 : w8.heap.size + 1 < w9.heap.size := heap_lt (heap_below Y8.out q9)
      clear x0 x1 x2 S8 F8 P8 X8 T8 Y8 Q8 hld hcd rdd hDP q9 qa q9a
      go_wp2_with fail
      generalize w9.alloc (.cells #[.slice Ad nd cd, .int .i64 sd, .int .i64 kd] 65) = wA at *
      obtain ⟨R, hR⟩ : ∃ R, R = rightBx l seq cap := ⟨_, rfl⟩
      have zA : w.heap.size < wA.heap.size := S9.out.lt
      have m5 := S9.out.cells_s
      have RF := hide (rright_v S9.out H12.out HI.out hR)
      have RIs := hide (right_s S9.out H12.out HI.out hR)
      have RFs := hide (rright_s S9.out H12.out HI.out hR)
      have HR := hide hR
      have hRR : (R != R) = false := by cases R <;> rfl
      clear hR
      refine wp_region_tame (by kernel_rfl) (by kernel_rfl) ?_
      repeat (go_big_quiet_step (first | (go_at_call 46; exact tame_of (RIs.out _)) | (go_at_call 47; exact tame_of (RFs.out _)) | (go_at_call 41; exact tame_of (AL.out _))))
      refine wpQuiet_nil ?_
      rintro _ ⟨s, rfl⟩
      obtain ⟨wB, qB⟩ := s
      dsimp only
      have SB := S9.out.below qB
      have FB := heap_below F9.out qB
      have PB := P9.out.below qB
      have XB := heap_below X9.out qB
      have TB := T9.out.below qB
      have YB := heap_below Y9.out qB
      have DB := D9.out.below qB
      have QB := below_next Q9 Q9.size qB
      clear m5 RIs RFs S9 F9 P9 X9 T9 Y9 D9 Q9 RF
      go_upto_if 89 with fail
      go_cut [89] from 36 (fun _ W => W = wB)
      case first =>
        go_wp2_with fail
        go_meet
        rfl
      case rest =>
        rename_i hK
        subst hcut
        refine hK _ _ ?_
        exact tail15_walk w _ l lp lt ld x y A1 Ap At Ad c1 n cp np ct nt cd nd _ _ _ _ _ seq cap sp kp rp rx st kt rt sd kd gone rd handle f _ _ _ _ _ _ _ _ _ _ _ _ _ _ _ _ _ _ _ _ _ _ _ _ _ _ _ _ _ _ _ _ _ _ _ _ _ _ _ _ _ _ _ _ _ _ _ _ _ _ _ _ _ _ _ _ _ _ _ _ _ _ _ _ _ _ _ _ _ _ _ _ _ _ _ _ _ _ _ _ _ _ _ _ _ _ _ _ _ _ _ _ _ _ _ _ _ _ _ _ _ _ _ _ _ _ _ _ _ _ _ _ _ _ _ _ _ _ _ _ _ _ _ _ _ _ _ _ _ _ _ _ _ _ _ _ _ _ _ _ _ _ _ _ _ _ _ _ _ _ _ _ _ _ _ _ _ _ _ _ _ _ _ _ _ _ _ _ _ _ _ _ _ _ _ _ _ _ _ _ _ _ _ _ _ _ _ _ _ _ _ _ _ _ _ _ _ _ _ _ _ _ _ _ _ _ _ _ _ _ _ _ _ _ _ _ _ _ _ _ _ _ _ _ _ _ _ _ _ _ _ _ _ _ _ _ _ _ _ _ _ _ _ _ _ _ _ _ _ _ _ _ SB FB PB XB TB YB DB QB H12.out HI.out hfi HPP.out HBX.out HTP.out HDP.out
end Go.Proofs.Ytbdgifngldipcaa
