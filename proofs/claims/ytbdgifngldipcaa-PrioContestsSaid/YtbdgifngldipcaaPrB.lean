/- prio.contest: the bits that the bus has, round by round. -/
import Derived.Test.YtbdgifngldipcaaPrA
import Derived.Test.YtbdgifngldipcaaRng
namespace Go.Proofs.Ytbdgifngldipcaa
open Go.ChangeShapes Go.WideShapes Go.ChangeAt Go.RowKit
open FP (bit bitsOf Fr bitB)
attribute [local go_sem] Oper.semAt_some

def byteAt (S : ByteArray) (k : Nat) : Int := if h : k < S.size then (S[k].toNat : Int) else 0
def busN (S : Nat → ByteArray) (x : Nat → Int) (k : Nat) : Nat → Int
  | 0 => 49
  | i + 1 => if x i < 0 ∧ k < (S i).size then min (busN S x k i) (byteAt (S i) k) else busN S x k i
def lostN (S : Nat → ByteArray) (n : Nat) : Nat → Nat → Int
  | 0, _ => -1
  | k + 1, j => if lostN S n k j < 0 ∧ k < (S j).size ∧ busN S (lostN S n k) k n < byteAt (S j) k then (k : Int) else lostN S n k j

theorem run_min8 {P : Program} (x y : Int) : ∃ m, m = min x y ∧ ∀ (ts : Array TypeId) (t : TypeId) (W : World), (Builtin.min_ ts t #[.int .u8 x, .int .u8 y]).run P W = .ok (.int .u8 m) W :=
  ⟨_, rfl, fun ts t W => by
    rw [run_min_int2]
    congr 2
    split <;> omega⟩

theorem byteAt_lt {S : ByteArray} {k : Nat} (h : k < S.size) : byteAt S k = (S[k].toNat : Int) := dif_pos h

def InB (S : Nat → ByteArray) (x : Nat → Int) (k n : Nat) (i b : Value) : Prop := ∃ p : Nat, p ≤ n ∧ i = .int .i64 p ∧ b = .int .u8 (busN S x k p)

set_option maxRecDepth 100000 in
set_option maxHeartbeats 2000000 in
theorem iter_any (m l Bf Bl gf gl n cf cl : Nat) (S : Nat → ByteArray) (x : Nat → Nat → Int) (I J : Nat → World → Prop)
    (hI : Hid (∀ k W, I k W → W.cell? ⟨Bf, 0, none⟩ = some (.slice (some ⟨gf, 0, none⟩) n cf) ∧ W.cell? ⟨Bl, 0, none⟩ = some (.slice (some ⟨gl, 0, none⟩) n cl) ∧
      ∀ j, j < n → W.cell? ⟨gf, j, none⟩ = some (.string (S j)) ∧ W.cell? ⟨gl, j, none⟩ = some (.int .i64 (x k j))))
    (hJI : Hid (∀ k W, J k W → I k W))
    (hY : Hid (∀ k W, k < 32 → J k W → YieldAt Fence.wide (m - 1) Try.prog l #[.int .i64 k, .int .u8 (busN S (x k) k n)] W fun e W' => e = .returned (.bool true) ∧ J (k + 1) W'))
    (W : World) (h0 : J 0 W) (hn : n ≤ 1000) :
    CallsIn Fence.wide m Try.prog 85 #[.func (.yield l) #[] #[], .pointer (some ⟨Bf, 0, none⟩), .pointer (some ⟨Bl, 0, none⟩)] W fun e W' => (∃ v, e = .returned v) ∧ J 32 W' := by
  refine callsIn_of_wp Try.func85 rfl trivial ?_ rfl
  simp only [Try.ntmps85, List.size_toArray, List.length_cons, List.length_nil, Nat.reduceAdd, Nat.reduceSub, Array.replicate_succ, Array.replicate_zero, List.push_toArray, List.append_toArray, List.nil_append, List.cons_append]
  gi_wp2
  gi_loopw [8] (fun i wr => ∃ k : Nat, k ≤ 32 ∧ i = .int .i64 k ∧ J k wr) (fun i _ => 32 - (intOf i).toNat)
  case atStart => exact ⟨0, by omega, rfl, h0⟩
  case round =>
    obtain ⟨k, hk, rfl, hj⟩ := hrel
    by_cases hlt : k < 32
    · obtain ⟨c1, c2, c3⟩ := hI.out _ _ (hJI.out _ _ hj)
      have C3 := hide c3
      clear c3
      gi_wp2
      gi_loopw [13, 5] (fun i b w2 => InB S (x k) k n i b ∧ w2 = wr) (fun i _ _ => n - (intOf i).toNat)
      case atStart => exact ⟨⟨0, Nat.zero_le _, rfl, rfl⟩, rfl⟩
      case round =>
        obtain ⟨⟨p, hp, rfl, rfl⟩, rfl⟩ := hrel
        by_cases hlp : p < n
        · obtain ⟨d1, d2⟩ := C3.out p hlp
          have HB := hide (show busN S (x k) k (p + 1) = if x k p < 0 ∧ k < (S p).size then min (busN S (x k) k p) (byteAt (S p) k) else busN S (x k) k p from rfl)
          have HA := hide (fun h => byteAt_lt (S := S p) (k := k) h)
          generalize busN S (x k) k p = b at *
          obtain ⟨b', hb'⟩ : ∃ b', busN S (x k) k (p + 1) = b' := ⟨_, rfl⟩
          rw [hb'] at HB
          have HN := hide hb'
          clear hb'
          generalize byteAt (S p) k = y at *
          generalize S p = T at *
          generalize x k p = X at *
          by_cases hX : X < 0
          · by_cases hT : k < T.size
            · have e1 : y = (T[k].toNat : Int) := HA.out hT
              have e2 : b' = min b y := by rw [HB.out, if_pos ⟨hX, hT⟩]
              rw [e1] at e2
              obtain ⟨mn, hm, RM⟩ := run_min8 (P := Try.prog) b (T[k].toNat : Int)
              rw [← hm] at e2
              subst e2
              clear e1 hm HB HA
              have hTi : (k : Int) < (T.size : Int) := by omega
              gi_wp2
              go_roundw
              case rel => first | exact ⟨⟨p + 1, by omega, by go_num, by rw [HN.out]⟩, trivial⟩ | exact ⟨_, _, _, _, ⟨p + 1, by omega, rfl, by rw [HN.out]⟩, rfl, rfl, rfl, rfl⟩
              case measure => simp [intOf]; omega
            · have e2 : b' = b := by rw [HB.out, if_neg (fun h => hT h.2)]
              subst e2
              clear HB HA
              have hTi : ¬ (k : Int) < (T.size : Int) := by omega
              gi_wp2
              go_roundw
              case rel => first | exact ⟨⟨p + 1, by omega, by go_num, by rw [HN.out]⟩, trivial⟩ | exact ⟨_, _, _, _, ⟨p + 1, by omega, rfl, by rw [HN.out]⟩, rfl, rfl, rfl, rfl⟩
              case measure => simp [intOf]; omega
          · have hX0 : 0 ≤ X := by omega
            have e2 : b' = b := by rw [HB.out, if_neg (fun h => hX h.1)]
            subst e2
            clear HB HA
            gi_wp2
            go_roundw
            case rel => first | exact ⟨⟨p + 1, by omega, by go_num, by rw [HN.out]⟩, trivial⟩ | exact ⟨_, _, _, _, ⟨p + 1, by omega, rfl, by rw [HN.out]⟩, rfl, rfl, rfl, rfl⟩
            case measure => simp [intOf]; omega
        · obtain rfl : p = n := by omega
          obtain ⟨fn, tmps, assign, body, hy, hR⟩ := hY.out k _ hlt hj
          gi_wp2
          refine ⟨fun h => by simp [Fence.wide] at h, hR.mono ?_⟩
          rintro e W3 ⟨rfl, hJ3⟩
          gi_wp2
          go_roundw
          case rel => exact ⟨k + 1, by omega, by go_num, hJ3⟩
          case measure => simp [intOf]; omega
    · obtain rfl : k = 32 := by omega
      gi_wp2
      go_end0
      exact ⟨⟨_, rfl⟩, hj⟩
end Go.Proofs.Ytbdgifngldipcaa
