/- slices.Values' iterator; slices.AppendSeq, Collect over it. -/
import Derived.Test.YtbdgifngldipcaaPsK
import Derived.Test.YtbdgifngldipcaaRng2
namespace Go.Proofs.Ytbdgifngldipcaa
open Go.ChangeShapes Go.WideShapes Go.ChangeAt Go.RowKit
open FP (Fr)
open SP

/-- What the iterator is handed at k. -/
def yieldF (l : List Fr) (k : Nat) : Array Value := #[.agg #[.int .u32 (OP.atF l k).id, .bool (OP.atF l k).ext, .bool (OP.atF l k).rem, .int .i64 (OP.atF l k).dlc, .string (OP.atF l k).data]]

set_option maxRecDepth 100000 in
set_option maxHeartbeats 2000000 in
theorem iterV_any (m lr Bv c n : Nat) (l : List Fr) (A : Option Addr) (hn : l.length = n) (I J : Nat → World → Prop)
    (hI : Hid (∀ k W, I k W → W.cell? ⟨Bv, 0, none⟩ = some (.slice A n c) ∧ FrR W W.heap.size A l))
    (hJI : Hid (∀ k W, J k W → I k W)) (hJa : Hid (∀ k W o, J k W → J k (W.alloc o)))
    (hY : Hid (∀ k W, k < n → J k W → YieldAt Fence.wide (m - 1) Try.prog lr (yieldF l k) W fun e W' => e = .returned (.bool true) ∧ J (k + 1) W'))
    (W : World) (h0 : J 0 W) (hn9 : n ≤ 1000) :
    CallsIn Fence.wide m Try.prog 88 #[.func (.yield lr) #[] #[], .pointer (some ⟨Bv, 0, none⟩)] W fun e W' => (∃ v, e = .returned v) ∧ J n W' := by
  have HN := hide hn
  obtain ⟨c0, _⟩ := hI.out _ _ (hJI.out _ _ h0)
  clear hn
  refine callsIn_of_wp Try.func88 rfl trivial ?_ rfl
  simp only [Try.ntmps88, List.size_toArray, List.length_cons, List.length_nil, Nat.reduceAdd, Nat.reduceSub, Array.replicate_succ, Array.replicate_zero, List.push_toArray, List.append_toArray, List.nil_append, List.cons_append]
  gi_wp2
  clear c0
  gi_loopw [7] (fun i wr => ∃ k : Nat, k ≤ n ∧ i = .int .i64 k ∧ J k wr) (fun i _ => n - (intOf i).toNat)
  case atStart => exact ⟨0, by omega, rfl, h0⟩
  case round =>
    obtain ⟨k, hk, rfl, hj⟩ := hrel
    by_cases hlt : k < n
    · obtain ⟨_, hr⟩ := hI.out _ _ (hJI.out _ _ hj)
      have hkl : k < l.length := by rw [HN.out]; exact hlt
      obtain ⟨b, off, rfl, hb, d0, d1, d2, d3, d4⟩ := hr.at_ hkl
      have hYk := hY.out k
      unfold yieldF at hYk
      rw [OP.atF_lt hkl] at hYk
      have HYK := hide hYk
      have hJk := hide (hJa.out k wr (.cells #[.int .u32 l[k].id, .bool l[k].ext, .bool l[k].rem, .int .i64 l[k].dlc, .string l[k].data] 39) hj)
      have hki : (k : Int) < (n : Int) := by omega
      clear hYk hr
      obtain ⟨fn, tmps, assign, body, hy, hR⟩ := HYK.out _ hlt hJk.out
      gi_wp2
      refine ⟨fun h => by simp [Fence.wide] at h, hR.mono ?_⟩
      rintro e W3 ⟨rfl, hJ3⟩
      gi_wp2
      go_roundw
      case rel => exact ⟨k + 1, by omega, by go_num, hJ3⟩
      case measure => simp [intOf]; omega
    · obtain rfl : k = n := by omega
      gi_wp2
      go_end0
      exact ⟨⟨_, rfl⟩, hj⟩
end Go.Proofs.Ytbdgifngldipcaa
