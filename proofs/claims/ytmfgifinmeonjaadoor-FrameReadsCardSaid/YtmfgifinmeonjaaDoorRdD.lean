/- The walks of stuff.Right, stuff.Step. -/
import Derived.Test.YtmfgifinmeonjaaDoorRdA
import Derived.Test.YtmfgifinmeonjaaDoorFbL
import Derived.Test.YtmfgifinmeonjaaDoorBlF
namespace Go.Proofs.YtmfgifinmeonjaaDoor
open Go.ChangeShapes Go.WideShapes Go.ChangeAt Go.RowKit
open FP (uN uK stuffedF doneB badB sizeE sizeV SR)

/-- What stuffing may know. -/
def StK (last : UInt8) (n : Nat) : Prop := (n = 0 ∧ last = 0) ∨ ((last = 48 ∨ last = 49) ∧ 1 ≤ n ∧ n ≤ 5)
theorem StK.le {last : UInt8} {n : Nat} (h : StK last n) : n ≤ 5 := by rcases h with h | h <;> omega
theorem StK.step {last : UInt8} {n : Nat} (h : StK last n) {c : UInt8} (hc : c = 48 ∨ c = 49) : StK c (uN last n c) := by
  have := FP.uN_le (last := last) h.le c
  exact .inr ⟨hc, this.1, this.2⟩

set_option maxRecDepth 100000 in
theorem stBit_any (c : UInt8) (w : World) (hc : c = 48 ∨ c = 49) : Calls Tryd.prog 81 #[.int .u8 c.toNat] w fun e w' => e = .returned (.bool true) ∧ w = w' := by
  rcases hc with rfl | rfl
  all_goals
    go_enter Tryd.func81, Tryd.ntmps81
    go_wp2
    go_ret
    exact ⟨rfl, rfl⟩

set_option maxRecDepth 100000 in
set_option maxHeartbeats 1000000 in
theorem stRight_any (last : UInt8) (n : Nat) (w : World) (h : StK last n) : Calls Tryd.prog 80 #[.agg #[.int .u8 last.toNat, .int .i64 n]] w fun e w' => e = .returned (.bool true) ∧ Below w.heap.size w w' := by
  have q0 : Below w.heap.size w (w.alloc (.cells #[.int .u8 last.toNat, .int .i64 n] 94)) := (Below.refl _ _).alloc (Nat.le_refl _) _
  have BB := hide (fun c W hc => stBit_any c W hc)
  rcases h with ⟨rfl, rfl⟩ | ⟨hl, h1, h5⟩
  · clear BB
    go_enter Tryd.func80, Tryd.ntmps80
    go_wp2
    go_ret
    exact ⟨rfl, q0⟩
  · have e0 : ((last.toNat : Int) == 0) = false := by rcases hl with rfl | rfl <;> decide
    have B1 := hide (fun W => BB.out last W hl)
    have h1' : decide ((1 : Int) ≤ n) = true := decide_eq_true (by omega)
    have h5' : decide ((n : Int) ≤ 5) = true := decide_eq_true (by omega)
    clear BB hl
    go_enter Tryd.func80, Tryd.ntmps80
    go_wp2_with fail
    refine (B1.out _).mono ?_
    rintro e1 w1 ⟨rfl, rfl⟩
    go_wp2
    go_ret
    exact ⟨rfl, q0⟩

set_option maxRecDepth 100000 in
set_option maxHeartbeats 1000000 in
theorem stStep_any (last : UInt8) (n : Nat) (c : UInt8) (w : World) (h : StK last n) (hc : c = 48 ∨ c = 49) :
    Calls Tryd.prog 69 #[.agg #[.int .u8 last.toNat, .int .i64 n], .int .u8 c.toNat] w fun e w' => e = .returned (.tuple #[.agg #[.int .u8 c.toNat, .int .i64 (uN last n c : Nat)], .int .i64 (uK last n c : Nat), .int .i64 0]) ∧ Below w.heap.size w w' := by
  have RT := hide (fun W => stRight_any last n W h)
  have BB := hide (fun W => stBit_any c W hc)
  have hn := h.le
  have ST := hide (fun b W hW => step_any b last n c hn W hW)
  have q0 : Below w.heap.size w ((w.alloc (.cells #[.int .u8 last.toNat, .int .i64 n] 94)).alloc (.cells #[.int .u8 0, .int .i64 0] 94)) := ((Below.refl _ _).alloc (Nat.le_refl _) _).alloc (by simp) _
  have B0 := hide (show ((w.alloc (.cells #[.int .u8 last.toNat, .int .i64 n] 94)).alloc (.cells #[.int .u8 0, .int .i64 0] 94)).heap[w.heap.size + 1]? = some (.cells #[.int .u8 0, .int .i64 0] 94 (0, 0)) from (two_new _ _ _).2)
  have B1 := hide (show ((w.alloc (.cells #[.int .u8 last.toNat, .int .i64 n] 94)).alloc (.cells #[.int .u8 0, .int .i64 0] 94)).heap[w.heap.size]? = some (.cells #[.int .u8 last.toNat, .int .i64 n] 94 (0, 0)) from (two_new _ _ _).1)
  clear h hc
  go_enter Tryd.func69, Tryd.ntmps69
  go_wp2_with fail
  refine (RT.out _).mono ?_
  rintro e1 w1 ⟨rfl, q1⟩
  have Q1 := hide (below_next q0 q0.size q1)
  have C0 := hide (heap_below B0.out q1)
  have C1 := hide (heap_below B1.out q1)
  clear q0 q1 B0 B1
  go_wp2_with fail
  refine (BB.out _).mono ?_
  rintro e2 w2 ⟨rfl, rfl⟩
  obtain ⟨x0, x1, _⟩ := two_st C1.out
  go_wp2_with fail
  have hz1 : w.heap.size + 1 < w1.heap.size := heap_lt C0.out
  have al := (Below.refl w1.heap.size w1).alloc (Nat.le_refl _) (.cells #[.int .u8 last.toNat, .int .i64 n] 96)
  have C2 := hide (heap_below C0.out al)
  have Q2 := hide (below_next Q1.out Q1.out.size al)
  have S2 := hide (World.alloc_heap_new w1 (.cells #[.int .u8 last.toNat, .int .i64 n] 96))
  clear al x0 x1 C0 C1 Q1
  refine (ST.out _ _ S2.out).mono ?_
  rintro e3 w3 ⟨rfl, h3, g3⟩
  have C3 := hide (heap_grownB C2.out g3 (by simp; omega))
  have Q3 := hide (Q2.out.grown g3 Q2.out.size (fun k hk => by simp at hk; omega))
  obtain ⟨y0, y1, _⟩ := two_st h3
  have hN : (stN last n c : Nat) = uN last n c := rfl
  have hK : (stK last n c : Nat) = uK last n c := rfl
  rw [hN] at y1
  rw [hK]
  clear h3 g3 C2 Q2 S2 ST hN hK
  go_wp2_with (refine wpList_store_hid (by rfl) 94 (.tmp 4) (.tmp 27) (by rfl) (w.heap.size + 1) 0 [.int .u8 c.toNat, .int .i64 (uN last n c : Nat)] (by rfl) (by rfl) (by exact (show w3.there (w.heap.size + 1) 0 2 from there_heap (cs := [_, _]) C3.out)) (by kernel_rfl) (by simp [Value.oneCell']) ?_)
  intro W4 e4
  have C4 := whole_heap [.int .u8 c.toNat, .int .i64 (uN last n c : Nat)] (xs := [_, _]) C3.out rfl
  have Q4 := Q3.out.trans (below_setCells (g := w.heap.size + 1) [.int .u8 c.toNat, .int .i64 (uN last n c : Nat)] 0 _ (by omega))
  rw [← e4.out] at C4 Q4
  clear e4 C3 Q3 y0 y1
  obtain ⟨z0, z1, _⟩ := two_st C4
  have QQ := hide Q4
  clear C4 Q4
  go_wp2
  refine bodyPost_ret (v := .tuple #[.agg #[.int .u8 c.toNat, .int .i64 (uN last n c : Nat)], .int .i64 (uK last n c : Nat), .int .i64 0]) (by simp [results, Tryd.results69, go_sem, z0, z1]) rfl ⟨rfl, QQ.out⟩
end Go.Proofs.YtmfgifinmeonjaaDoor
