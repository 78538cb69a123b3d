/- slices.Insert of one timer. -/
import Derived.Test.YtnfpbbgajabjkaaTmB
import Derived.Test.YtnfpbbgajabjkaaCpy
import Derived.Lib.Overlaps
namespace Go.Proofs.Ytnfpbbgajabjkaa
open Go.ChangeShapes Go.WideShapes Go.ChangeAt Go.RowKit

def InsV (l : List Tm) (i : Nat) (x : Tm) (base : Nat) (w : World) (e : Ending) (w' : World) : Prop :=
  ∃ A' c', e = .returned (.slice A' (l.length + 1) c') ∧ Own w' base 40 2 A' c' ((l.take i ++ x :: l.drop i).map tmc) ∧ Below base w w'

def zrow : List Value := [.int .i64 0, .int .i64 0]
theorem szTimer : (Try.prog.info? 40).map (·.size) = some 2 := by kernel_rfl
theorem zrTimer : (Try.prog.info? 40).map (·.zero) = some (some (.agg zrow.toArray)) := by kernel_rfl

set_option maxRecDepth 100000 in
set_option maxHeartbeats 2000000 in
theorem insert_end (l : List Tm) (A : Option Addr) (c : Nat) (x : Tm) (bx base : Nat) (w : World) (ho : Own w base 40 2 A c (l.map tmc)) (hb : base ≤ w.heap.size) (hx : w.heap[bx]? = some (.cells #[.int .i64 x.id, .int .i64 x.due] 40 (0, 0))) (hl : l.length ≤ 1000) :
    Calls Try.prog 56 #[.slice A l.length c, .int .i64 l.length, .slice (some ⟨bx, 0, none⟩) 1 1] w (InsV l l.length x base w) := by
  have hle : l.length ≤ c := by have := ho.le; simpa using this
  obtain ⟨A', hA', hrun⟩ := run_from (P := Try.prog) 22 40 Try.underlying22 2 (fun W => by kernel_rfl) A l.length c l.length l.length rfl (Nat.le_refl _)
  have HO := hide ho
  have R1 := hide (show Rd w w.heap.size (some ⟨bx, 0, none⟩) 2 [tmc x] from rd_row (cs := tmc x) hx)
  have E1 := hide (show ((l.map tmc).length + [tmc x].length) * 16 ≤ 140737488355328 by simp; omega)
  have E2 := hide (show (l.map tmc).length + [tmc x].length ≤ maxLen by simp [maxLen]; omega)
  have E3 := hide (show l.length = (l.map tmc).length by simp)
  clear ho hx hA'
  go_enter Try.func56, Try.ntmps56
  go_wp2_with (at_builtin; refine wpList_append_rows _ rfl _ _ 22 rfl slTm base _ _ _ (l.map tmc) (by rfl) (by exact HO.out) _ _ _ [tmc x] (by rfl) (by exact R1.out) (by simp [tmc]) (by simp [tmc, Value.oneCell']) (by exact E1.out) (by exact E2.out) (by exact hb) (by exact E3.out) (by rfl) ?_)
  intro A6 c6 W6 o6 g6
  have q6 := below_append (Below.refl base w) g6 HO.out (Nat.le_refl _) hb
  have O6 := hide o6
  clear o6 g6 hrun
  go_wp2
  go_ret
  refine ⟨A6, c6, rfl, ?_, q6⟩
  rw [List.take_of_length_le (Nat.le_refl _), List.drop_of_length_le (Nat.le_refl _), List.map_append]
  exact O6.out

set_option maxRecDepth 100000 in
set_option maxHeartbeats 4000000 in
theorem insert_mid (l : List Tm) (g c i : Nat) (x : Tm) (bx base : Nat) (w : World) (ho : Own w base 40 2 (some ⟨g, 0, none⟩) c (l.map tmc)) (hb : base ≤ w.heap.size) (hx : w.heap[bx]? = some (.cells #[.int .i64 x.id, .int .i64 x.due] 40 (0, 0))) (hg : g ≠ bx) (hl : l.length ≤ 1000) (hi : i < l.length) (hc : l.length < c) :
    Calls Try.prog 56 #[.slice (some ⟨g, 0, none⟩) l.length c, .int .i64 i, .slice (some ⟨bx, 0, none⟩) 1 1] w (InsV l i x base w) := by
  obtain ⟨n, hn⟩ : ∃ n, n = l.length := ⟨_, rfl⟩
  have HN := hide hn
  have hin : i < n := by omega
  have hn1 : n ≤ 1000 := by omega
  have hnc : n < c := by omega
  have HO := hide ho
  have HX := hide hx
  rw [← hn]
  clear ho hx hl hi hc hn
  obtain ⟨N, hN⟩ : ∃ N, N = n + 1 := ⟨_, rfl⟩
  obtain ⟨I, hI⟩ : ∃ I, I = i + 1 := ⟨_, rfl⟩
  have hN1 : n < N := by omega
  have hN2 : N ≤ c := by omega
  have hI1 : i < I := by omega
  have hI2 : I ≤ n := by omega
  have hrun0 := run_from (P := Try.prog) 22 40 Try.underlying22 2 (fun W => by kernel_rfl) (some ⟨g, 0, none⟩) n c i i rfl (by omega)
  have hto := run_to (P := Try.prog) 22 40 Try.underlying22 2 (fun W => by kernel_rfl) (some ⟨g, 0, none⟩) n c ((n : Int) + 1) N (by omega) (by omega)
  have hwN : IntKind.i64.wrap ((n : Int) + 1) = (N : Int) := by rw [IntWalk.i64_in _ (by omega)]; omega
  have HNN := hide hN
  have HII := hide hI
  have hle1 : (i : Int) < (n : Int) := by omega
  have hb1 : ((i : Int) == (n : Int)) = false := by rw [beq_eq_false_iff_ne]; omega
  have hb2 : (i == n) = false := by rw [beq_eq_false_iff_ne]; omega
  obtain ⟨A0, hA0, hrun0⟩ := hrun0
  clear hN hI hA0
  have hsb : ∃ k, w.shape? g = some (40, k) ∧ k ≠ 0 := by
    rcases HO.out.2 with ⟨hv, _⟩ | ⟨g', cap, cur, hv, _, hgh, _, _, hcs, _⟩
    · cases hv
    · simp only [Value.slice.injEq, Option.some.injEq, Addr.mk.injEq, and_true] at hv
      obtain ⟨rfl, _, rfl⟩ := hv
      exact ⟨cur.size, by simp [World.shape?, hgh], by omega⟩
  have hov : ∀ lb cb, (callFunc 98 #[.slice (some ⟨bx, 0, none⟩) 1 1, .slice (some ⟨g, (i + 1) * 2, none⟩) lb cb]).run Try.prog w = .ok (.value (.bool false)) w := fun lb cb => by
    obtain ⟨kB, h1, h2⟩ := hsb
    rw [run_callFunc_extern Try.func98 (by kernel_rfl) (by kernel_rfl) (by kernel_rfl) (e := Extern.SlicesOverlaps.overlaps #[22, 22] #[4]) (by kernel_rfl),
      Lib.run_overlaps_apart w 22 4 40 Try.underlying22 2 (fun w => by kernel_rfl) ⟨bx, 0, none⟩ ⟨g, (i + 1) * 2, none⟩ 1 1 lb cb (fun e => hg e.symm) 40 40 2 kB (by simp [World.shape?, HX.out]) h1 h2 (by simp [World.frozen?, HX.out]) (by simp [World.frozen?, HX.out])]
    rfl
  have hgt : decide (c < N) = false := by rw [decide_eq_false_iff_not]; omega
  have hwi : IntKind.i64.wrap ((i : Int) + 1) = (i : Int) + 1 := IntWalk.i64_in _ (by omega)
  have h2i : 0 ≤ (i : Int) + 1 := by omega
  have h3i : ((i : Int) + 1).toNat = i + 1 := by omega
  have h4i : (i : Int) + 1 ≤ (N : Int) := by omega
  have h5i : ¬ (c = i + 1) := by omega
  have h6i : ¬ (c = i) := by omega
  have h7i : (i : Int) ≤ (N : Int) := by omega
  obtain ⟨g', r, hge, hrl, HW⟩ := HO.out.wider (tmc_rows l) (by rw [List.length_map]; have := HN.out; omega)
  have HRW := hide HW
  have HRS : ∀ y ∈ l.map tmc ++ [r], y.length = 2 := fun y hy => by
    rcases List.mem_append.1 hy with h | h
    · exact tmc_rows l y h
    · rw [List.mem_singleton.1 h]; exact hrl
  have HRS := hide HRS
  have HSR := hide (show Rd w w.heap.size (some ⟨g, i * 2, none⟩) 2 ((l.drop i).map tmc) from by
    have := (HO.out.rd (tmc_rows l)).drop i c (by rw [List.length_map]; have := HN.out; omega)
    rw [if_neg h6i, ← List.map_drop] at this
    simpa [Go.WideShapes.add_plain] using this)
  have G1 := hide (show i + 1 + ((l.drop i).map tmc).length ≤ (l.map tmc ++ [r]).length by have := HN.out; simp; omega)
  have G2 := hide (show ((l.drop i).map tmc).length = Nat.min (N - i) (N - (i + 1)) by have := HN.out; have := HNN.out; simp [Nat.min_def]; split <;> omega)
  have EX := hide (show (l.map tmc ++ [r]).take (i + 1) ++ (l.drop i).map tmc ++ (l.map tmc ++ [r]).drop (i + 1 + ((l.drop i).map tmc).length) = (l.map tmc ++ [r]).take (i + 1) ++ (l.drop i).map tmc by
    have hd : (l.map tmc ++ [r]).drop (i + 1 + ((l.drop i).map tmc).length) = [] := List.drop_of_length_le (by have := HN.out; simp; omega)
    rw [hd, List.append_nil])
  clear hsb HW hrl hgt hge
  go_enter Try.func56, Try.ntmps56
  go_wp2
  refine wp_region_L [0, 1, 2, 3, 4, 5, 6, 7] [] (by kernel_rfl) ?_
  replace HRW : Hid (Own w.drew base 40 2 (some ⟨g, 0, none⟩) c (l.map tmc ++ [r])) := HRW
  replace HSR : Hid (Rd w.drew w.drew.heap.size (some ⟨g, i * 2, none⟩) 2 ((l.drop i).map tmc)) := HSR
  replace HX : Hid (w.drew.heap[bx]? = some (.cells #[.int .i64 x.id, .int .i64 x.due] 40 (0, 0))) := HX
  have hbd : base ≤ w.drew.heap.size := hb
  have QD : Below base w w.drew := (Below.refl _ _).drew
  generalize w.drew = w2 at *
  clear hov
  refine wpAnyL_pure (i := 0) (v := .slice (some ⟨g, 0, none⟩) N c) rfl rfl (by kernel_rfl) (by kernel_rfl) (by kernel_rfl) (by kernel_rfl) (by kernel_rfl) (fun _ _ _ h => h) rfl (fun W => by go_simp) ?_
  refine wpAnyL_pure (i := 1) (v := .int .i64 i) rfl rfl (by kernel_rfl) (by kernel_rfl) (by kernel_rfl) (by kernel_rfl) (by kernel_rfl) (fun _ _ _ h => h) rfl (fun W => by go_simp) ?_
  refine wpAnyL_pure (i := 2) (v := .int .i64 1) rfl rfl (by kernel_rfl) (by kernel_rfl) (by kernel_rfl) (by kernel_rfl) (by kernel_rfl) (fun _ _ _ h => h) rfl (fun W => by go_simp) ?_
  go_simp
  refine wpAnyL_pure (i := 3) (v := .int .i64 ((i : Int) + 1)) rfl rfl (by kernel_rfl) (by kernel_rfl) (by kernel_rfl) (by kernel_rfl) (by kernel_rfl) (fun _ _ _ h => h) rfl (fun W => by go_simp) ?_
  go_simp
  refine wpAnyL_pure (i := 4) (v := .slice (some ⟨g, (i + 1) * 2, none⟩) (N - (i + 1)) (c - (i + 1))) rfl rfl (by kernel_rfl) (by kernel_rfl) (by kernel_rfl) (by kernel_rfl) (by kernel_rfl) (fun _ _ _ h => h) rfl (fun W => by go_simp) ?_
  go_simp
  refine wpAnyL_pure (i := 5) (v := .slice (some ⟨g, 0, none⟩) N c) rfl rfl (by kernel_rfl) (by kernel_rfl) (by kernel_rfl) (by kernel_rfl) (by kernel_rfl) (fun _ _ _ h => h) rfl (fun W => by go_simp) ?_
  refine wpAnyL_pure (i := 6) (v := .int .i64 i) rfl rfl (by kernel_rfl) (by kernel_rfl) (by kernel_rfl) (by kernel_rfl) (by kernel_rfl) (fun _ _ _ h => h) rfl (fun W => by go_simp) ?_
  go_simp
  refine wpAnyL_pure (i := 7) (v := .slice (some ⟨g, i * 2, none⟩) (N - i) (c - i)) rfl rfl (by kernel_rfl) (by kernel_rfl) (by kernel_rfl) (by kernel_rfl) (by kernel_rfl) (fun _ _ _ h => h) rfl (fun W => by go_simp) ?_
  go_simp
  refine wpAnyL_one (i := 8) (by kernel_rfl) ?_
  refine wpOp_do rfl rfl ?_
  refine wp_copy_rows w2 _ _ _ _ 40 rfl Try.underlying22 szTimer base g c (i + 1) (l.map tmc ++ [r]) ((l.drop i).map tmc) _ _ _ _ _ (by rfl) (by rfl) HRW.out HRS.out (tmc_rows _) G1.out G2.out (rd_src (by decide) HSR.out (tmc_rows _)) (tmc_ones _) ?_
  intro w3 o3 g3
  rw [EX.out] at o3
  have O3 := hide o3
  have HX3 := hide (heap_grownB HX.out g3 (by simpa using hg))
  have Q3 := QD.trans (below_append (N := 0) (A := some ⟨g, 0, none⟩) (c := c) (Below.refl base w2) g3 HRW.out (Nat.le_refl _) hbd)
  have hb3 : base ≤ w3.heap.size := by have := g3.size; omega
  clear o3 g3 HRW HSR HX QD
  refine ⟨keepsL_all (by kernel_rfl) (by kernel_rfl), ?_⟩
  refine wpAnyL_done (by kernel_rfl) ?_ _
  have K1 := hide (show i + [tmc x].length ≤ ((l.map tmc ++ [r]).take (i + 1) ++ (l.drop i).map tmc).length by have := HN.out; simp; omega)
  have K2 := hide (show [tmc x].length = Nat.min 1 (N - i) by simp [Nat.min_def]; omega)
  have K3 := hide (show ∀ y ∈ (l.map tmc ++ [r]).take (i + 1) ++ (l.drop i).map tmc, y.length = 2 from fun y hy => by
    rcases List.mem_append.1 hy with h | h
    · exact HRS.out y (List.mem_of_mem_take h)
    · exact tmc_rows _ y h)
  have R3 := hide (show Rd w3 w3.heap.size (some ⟨bx, 0, none⟩) 2 [tmc x] from rd_row (cs := tmc x) HX3.out)
  go_wp2_with (refine wpList_copy_rows _ (by rfl) _ _ 22 22 40 (by rfl) Try.underlying22 szTimer base g c i ((l.map tmc ++ [r]).take (i + 1) ++ (l.drop i).map tmc) [tmc x] _ _ _ _ _ (by rfl) (by rfl) (by exact O3.out) (by exact K3.out) (by simp [tmc]) (by exact K1.out) (by exact K2.out) (by exact rd_src (by decide) R3.out (by simp [tmc])) (by simp [tmc, Value.oneCell']) ?_)
  intro w4 o4 g4
  have Q4 := Q3.trans (below_append (N := 0) (A := some ⟨g, 0, none⟩) (c := c) (Below.refl base w3) g4 O3.out (Nat.le_refl _) hb3)
  have FIN := hide (show Own w4 base 40 2 (some ⟨g, 0, none⟩) c ((l.take i ++ x :: l.drop i).map tmc) from by
    have e : ((l.map tmc ++ [r]).take (i + 1) ++ (l.drop i).map tmc).take i ++ [tmc x] ++ ((l.map tmc ++ [r]).take (i + 1) ++ (l.drop i).map tmc).drop (i + [tmc x].length) = (l.take i ++ x :: l.drop i).map tmc := by
      have hl := HN.out
      have h1 : ((l.map tmc ++ [r]).take (i + 1)).length = i + 1 := by simp; omega
      rw [List.take_append_of_le_length (by omega), List.take_take, Nat.min_eq_left (by omega), List.take_append_of_le_length (by rw [List.length_map]; omega), List.length_singleton, List.drop_append_of_le_length (by omega), List.drop_of_length_le (by omega), List.nil_append]
      simp [List.map_append, List.map_take]
    rw [← e]
    simp only [List.map_drop, List.append_assoc, List.singleton_append, List.length_singleton] at o4 ⊢
    exact o4)
  clear o4 g4 O3 HX3 R3 K1 K2 K3
  go_wp2
  go_ret
  exact ⟨some ⟨g, 0, none⟩, c, by rw [← HN.out, ← HNN.out]; rfl, FIN.out, Q4⟩

set_option maxRecDepth 100000 in
set_option maxHeartbeats 4000000 in
theorem insert_new (l : List Tm) (A : Option Addr) (c i : Nat) (x : Tm) (bx base : Nat) (w : World) (ho : Own w base 40 2 A c (l.map tmc)) (hb : base ≤ w.heap.size) (hx : w.heap[bx]? = some (.cells #[.int .i64 x.id, .int .i64 x.due] 40 (0, 0))) (hl : l.length ≤ 1000) (hi : i < l.length) (hc : c ≤ l.length) :
    Calls Try.prog 56 #[.slice A l.length c, .int .i64 i, .slice (some ⟨bx, 0, none⟩) 1 1] w (InsV l i x base w) := by
  obtain ⟨n, hn⟩ : ∃ n, n = l.length := ⟨_, rfl⟩
  have hle : l.length ≤ c := by have := ho.le; simpa using this
  obtain ⟨g, rfl, _, _⟩ := ho.ofLen (by rw [List.length_map]; omega)
  have HN := hide hn
  obtain rfl : c = n := by omega
  have hin : i < c := by omega
  have hn1 : c ≤ 1000 := by omega
  have HO := hide ho
  have HX := hide hx
  rw [← hn]
  clear ho hx hl hi hc hn hle
  obtain ⟨k, hk⟩ : ∃ k, k = c + 1 - i := ⟨_, rfl⟩
  have hk1 : i + k ≤ c + 1 := by omega
  have hk2 : c + 1 ≤ i + k := by omega
  have HK := hide hk
  have hrun0 := run_from (P := Try.prog) 22 40 Try.underlying22 2 (fun W => by kernel_rfl) (some ⟨g, 0, none⟩) c c i i rfl (by omega)
  have hto := run_to (P := Try.prog) 22 40 Try.underlying22 2 (fun W => by kernel_rfl) (some ⟨g, 0, none⟩) c c i i rfl (by omega)
  have hb1 : ((i : Int) == (c : Int)) = false := by rw [beq_eq_false_iff_ne]; omega
  have hb2 : (i == c) = false := by rw [beq_eq_false_iff_ne]; omega
  have hlt : (i : Int) < (c : Int) := by omega
  have hks : (c : Int) + 1 - (i : Int) = (k : Int) := by omega
  have HKS := hide hks
  obtain ⟨A0, hA0, hrun0⟩ := hrun0
  have h6i : ¬ (c = i) := by omega
  obtain rfl : A0 = some ⟨g, i * 2, none⟩ := by rw [hA0, if_neg h6i]; simp [Go.WideShapes.add_plain]
  obtain ⟨p, hp⟩ : ∃ p, p = l.take i := ⟨_, rfl⟩
  obtain ⟨q, hq⟩ : ∃ q, q = l.drop i := ⟨_, rfl⟩
  have RT := hide (show Rd w w.heap.size (some ⟨g, 0, none⟩) 2 ((l.take i).map tmc) by have := (HO.out.rd (tmc_rows l)).take i; rwa [← List.map_take] at this)
  have HSR := hide (show Rd w w.heap.size (some ⟨g, i * 2, none⟩) 2 ((l.drop i).map tmc) from by
    have := (HO.out.rd (tmc_rows l)).drop i c (by rw [List.length_map]; have := HN.out; omega)
    rw [if_neg h6i, ← List.map_drop] at this
    simpa [Go.WideShapes.add_plain] using this)
  rw [← hp] at RT
  rw [← hq] at HSR
  have W1 := hide (show i = (p.map tmc).length by have := HN.out; rw [hp]; simp; omega)
  have W5 := hide (show c - i = (q.map tmc).length by have := HN.out; rw [hq]; simp; omega)
  have HP := hide hp
  have HQ := hide hq
  clear hp hq
  have W2 := hide (show c < (p.map tmc).length + k by rw [← W1.out]; omega)
  have W3 := hide (show (p.map tmc).length + k ≤ maxLen by rw [← W1.out]; simp [maxLen]; omega)
  have W4 := hide (show ((p.map tmc).length + k) * 16 ≤ 140737488355328 by rw [← W1.out]; omega)
  clear hA0 hk hks
  go_enter Try.func56, Try.ntmps56
  go_wp2_with (at_builtin; refine wpList_append_zero_rows _ (by rfl) _ _ 22 3 (by rfl) slTm zrTimer Try.underlying3 _ _ _ (p.map tmc) k (by rfl) (by exact congrArg (Value.int .i64) HKS.out) (by exact W1.out) (by exact RT.out) (by exact tmc_rows _) (by omega) (by exact W2.out) (by exact W3.out) (by exact W4.out) ?_)
  intro c4 w4 o4 q4
  obtain ⟨N, hN⟩ : ∃ N, N = i + k := ⟨_, rfl⟩
  have hN1 : N ≤ c + 1 := by omega
  have hN2 : c + 1 ≤ N := by omega
  have hNc : N ≤ c4 := by have := o4.le; rw [List.length_append, List.length_replicate, ← W1.out] at this; omega
  have h7i : ¬ (c4 = i) := by omega
  have h8i : (i : Int) ≤ (N : Int) := by omega
  have O4 := hide o4
  have HX4 := hide (heap_below HX.out q4)
  have Q4 := hide q4
  rw [← hN]
  have HNN := hide hN
  have K1 := hide (show i + [tmc x].length ≤ (p.map tmc ++ List.replicate k zrow).length by rw [List.length_append, ← W1.out, List.length_replicate, List.length_singleton]; omega)
  have K2 := hide (show [tmc x].length = Nat.min 1 (N - i) by simp [Nat.min_def]; omega)
  have K3 := hide (show ∀ y ∈ p.map tmc ++ List.replicate k zrow, y.length = 2 from fun y hy => by
    rcases List.mem_append.1 hy with h | h
    · exact tmc_rows _ y h
    · rw [List.eq_of_mem_replicate h]; rfl)
  have R4 := hide (show Rd w4 w4.heap.size (some ⟨bx, 0, none⟩) 2 [tmc x] from rd_row (cs := tmc x) HX4.out)
  clear o4 q4 hrun0 hN
  go_wp2_with (refine wpList_copy_rows _ (by rfl) _ _ 22 22 40 (by rfl) Try.underlying22 szTimer w.heap.size w.heap.size c4 i (p.map tmc ++ List.replicate k zrow) [tmc x] _ _ _ _ _ (by rfl) (by rfl) (by exact O4.out) (by exact K3.out) (by simp [tmc]) (by exact K1.out) (by exact K2.out) (by exact rd_src (by decide) R4.out (by simp [tmc])) (by simp [tmc, Value.oneCell']) ?_)
  intro w5 o5 g5
  have Q5 := hide (Q4.out.trans (below_append (N := 0) (A := some ⟨w.heap.size, 0, none⟩) (c := c4) (Below.refl w.heap.size w4) g5 O4.out (Nat.le_refl _) Q4.out.size))
  have e5 : (p.map tmc ++ List.replicate k zrow).take i ++ [tmc x] ++ (p.map tmc ++ List.replicate k zrow).drop (i + [tmc x].length) = p.map tmc ++ [tmc x] ++ List.replicate (k - 1) zrow := by
    have h1 := W1.out
    have h2 : (p.map tmc).take i = p.map tmc := List.take_of_length_le (by omega)
    rw [List.take_append_of_le_length (by omega), h2, List.drop_append, List.drop_of_length_le (by rw [List.length_singleton]; omega), List.nil_append, ← h1, List.length_singleton, Nat.add_sub_cancel_left, List.drop_replicate]
  have O5 := hide (show Own w5 w.heap.size 40 2 (some ⟨w.heap.size, 0, none⟩) c4 (p.map tmc ++ [tmc x] ++ List.replicate (k - 1) zrow) by rw [← e5]; simp only [List.append_assoc, List.singleton_append, List.length_singleton] at o5 ⊢; exact o5)
  clear o5 g5 e5 O4 R4 K1 K2 K3 HX4
  have hwi : IntKind.i64.wrap ((i : Int) + 1) = (i : Int) + 1 := IntWalk.i64_in _ (by omega)
  have h2i : 0 ≤ (i : Int) + 1 := by omega
  have h3i : ((i : Int) + 1).toNat = i + 1 := by omega
  have h4i : (i : Int) + 1 ≤ (N : Int) := by omega
  have h5i : ¬ (c4 = i + 1) := by omega
  have h9i : (i : Int) ≤ (c : Int) := by omega
  go_wp2_with fail
  refine wp_region_L [0, 1, 2, 3, 4, 5, 6, 7] [] (by kernel_rfl) ?_
  replace O5 : Hid (Own w5.drew w.heap.size 40 2 (some ⟨w.heap.size, 0, none⟩) c4 (p.map tmc ++ [tmc x] ++ List.replicate (k - 1) zrow)) := O5
  replace Q5 : Hid (Below w.heap.size w w5.drew) := hide Q5.out.drew
  generalize w5.drew = w6 at *
  refine wpAnyL_pure (i := 0) (v := .slice (some ⟨w.heap.size, 0, none⟩) N c4) rfl rfl (by kernel_rfl) (by kernel_rfl) (by kernel_rfl) (by kernel_rfl) (by kernel_rfl) (fun _ _ _ h => h) rfl (fun W => by go_simp) ?_
  refine wpAnyL_pure (i := 1) (v := .int .i64 i) rfl rfl (by kernel_rfl) (by kernel_rfl) (by kernel_rfl) (by kernel_rfl) (by kernel_rfl) (fun _ _ _ h => h) rfl (fun W => by go_simp) ?_
  refine wpAnyL_pure (i := 2) (v := .int .i64 1) rfl rfl (by kernel_rfl) (by kernel_rfl) (by kernel_rfl) (by kernel_rfl) (by kernel_rfl) (fun _ _ _ h => h) rfl (fun W => by go_simp) ?_
  go_simp
  refine wpAnyL_pure (i := 3) (v := .int .i64 ((i : Int) + 1)) rfl rfl (by kernel_rfl) (by kernel_rfl) (by kernel_rfl) (by kernel_rfl) (by kernel_rfl) (fun _ _ _ h => h) rfl (fun W => by go_simp) ?_
  go_simp
  refine wpAnyL_pure (i := 4) (v := .slice (some ⟨w.heap.size, (i + 1) * 2, none⟩) (N - (i + 1)) (c4 - (i + 1))) rfl rfl (by kernel_rfl) (by kernel_rfl) (by kernel_rfl) (by kernel_rfl) (by kernel_rfl) (fun _ _ _ h => h) rfl (fun W => by go_simp) ?_
  go_simp
  refine wpAnyL_pure (i := 5) (v := .slice (some ⟨g, 0, none⟩) c c) rfl rfl (by kernel_rfl) (by kernel_rfl) (by kernel_rfl) (by kernel_rfl) (by kernel_rfl) (fun _ _ _ h => h) rfl (fun W => by go_simp) ?_
  refine wpAnyL_pure (i := 6) (v := .int .i64 i) rfl rfl (by kernel_rfl) (by kernel_rfl) (by kernel_rfl) (by kernel_rfl) (by kernel_rfl) (fun _ _ _ h => h) rfl (fun W => by go_simp) ?_
  go_simp
  refine wpAnyL_pure (i := 7) (v := .slice (some ⟨g, i * 2, none⟩) (c - i) (c - i)) rfl rfl (by kernel_rfl) (by kernel_rfl) (by kernel_rfl) (by kernel_rfl) (by kernel_rfl) (fun _ _ _ h => h) rfl (fun W => by go_simp) ?_
  go_simp
  refine wpAnyL_one (i := 8) (by kernel_rfl) ?_
  refine wpOp_do rfl rfl ?_
  have hp1 := W1.out
  have hq1 := W5.out
  rw [List.length_map] at hp1 hq1
  have hkk : 1 ≤ k := by omega
  refine wp_copy_rows w6 _ _ _ _ 40 rfl Try.underlying22 szTimer w.heap.size w.heap.size c4 (i + 1) (p.map tmc ++ [tmc x] ++ List.replicate (k - 1) zrow) (q.map tmc) _ _ _ _ _ (by rfl) (by rfl) O5.out (fun y hy => ?_) (tmc_rows _) (by simp; omega) (by simp [Nat.min_def]; split <;> omega) (rd_src (by decide) (HSR.out.below Q5.out) (tmc_rows _)) (tmc_ones _) ?_
  · rcases List.mem_append.1 hy with h | h
    · rcases List.mem_append.1 h with h | h
      · exact tmc_rows _ y h
      · rw [List.mem_singleton.1 h]; rfl
    · rw [List.eq_of_mem_replicate h]; rfl
  intro w7 o7 g7
  have e7 : (p.map tmc ++ [tmc x] ++ List.replicate (k - 1) zrow).take (i + 1) ++ q.map tmc ++ (p.map tmc ++ [tmc x] ++ List.replicate (k - 1) zrow).drop (i + 1 + (q.map tmc).length) = (l.take i ++ x :: l.drop i).map tmc := by
    have h1 : (p.map tmc ++ [tmc x]).length = i + 1 := by simp; omega
    rw [List.take_append_of_le_length (by omega), List.take_of_length_le (by omega), List.drop_of_length_le (by simp; omega), List.append_nil, ← HP.out, ← HQ.out]
    simp
  rw [e7] at o7
  have Q7 := Q5.out.trans (below_append (N := 0) (A := some ⟨w.heap.size, 0, none⟩) (c := c4) (Below.refl w.heap.size w6) g7 O5.out (Nat.le_refl _) Q5.out.size)
  have FIN := hide (o7.mono hb)
  have QF := Q7.mono hb
  clear o7 g7 e7 O5 Q5 Q7 hp1 hq1 hwi
  refine ⟨keepsL_all (by kernel_rfl) (by kernel_rfl), ?_⟩
  refine wpAnyL_done (by kernel_rfl) ?_ _
  go_wp2
  go_ret
  refine ⟨some ⟨w.heap.size, 0, none⟩, c4, ?_, FIN.out, QF⟩
  have hNl : N = l.length + 1 := by have := HN.out; omega
  rw [← hNl]
  rfl

theorem insert_any (l : List Tm) (A : Option Addr) (c i : Nat) (x : Tm) (bx base : Nat) (w : World) (ho : Own w base 40 2 A c (l.map tmc)) (hb : base ≤ w.heap.size) (hx : w.heap[bx]? = some (.cells #[.int .i64 x.id, .int .i64 x.due] 40 (0, 0))) (hA : ∀ g off, A = some ⟨g, off, none⟩ → g ≠ bx) (hl : l.length ≤ 1000) (hi : i ≤ l.length) :
    Calls Try.prog 56 #[.slice A l.length c, .int .i64 i, .slice (some ⟨bx, 0, none⟩) 1 1] w (InsV l i x base w) := by
  by_cases h : i = l.length
  · subst h; exact insert_end l A c x bx base w ho hb hx hl
  · obtain ⟨g, rfl, _, _⟩ := ho.ofLen (by rw [List.length_map]; omega)
    by_cases hc : l.length < c
    · exact insert_mid l g c i x bx base w ho hb hx (hA g 0 rfl) hl (by omega) hc
    · exact insert_new l _ c i x bx base w ho hb hx hl (by omega) (by omega)
end Go.Proofs.Ytnfpbbgajabjkaa
