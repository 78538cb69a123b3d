/- The reference's Same and Without of boxes. -/
import Derived.Test.YtbdgifngldipcaaBxS
import Derived.Test.YtbdgifngldipcaaHpU
namespace Go.Proofs.Ytbdgifngldipcaa
open Go.ChangeShapes Go.WideShapes Go.ChangeAt Go.RowKit
open FP (Fr)

set_option maxRecDepth 100000 in
set_option maxHeartbeats 1000000 in
theorem same9 (l : List Bx) (A : Option Addr) (c : Nat) (B : Option Addr) (d : Nat) (w : World) (hA : BxR w w.heap.size A l) (hB : BxR w w.heap.size B l) (hl : l.length ≤ 1000) :
    Calls Try.prog 67 #[.slice A l.length c, .slice B l.length d] w fun e w' => e = .returned (.bool true) ∧ Below w.heap.size w w' := by
  have HA := hide hA
  have HB := hide hB
  clear hA hB
  go_enter Try.func67, Try.ntmps67
  go_wp2
  go_loopw [13] (fun i W => ∃ k : Nat, k ≤ l.length ∧ i = .int .i64 k ∧ Below w.heap.size w W) (fun i _ => l.length - (intOf i).toNat)
  case atStart => exact ⟨0, Nat.zero_le _, rfl, Below.refl _ _⟩
  case round =>
    obtain ⟨k, hk, rfl, q⟩ := hrel
    by_cases hlt : k < l.length
    · obtain ⟨b, off, rfl, _⟩ := HA.out.at_ hlt
      obtain ⟨b', off', rfl, _⟩ := HB.out.at_ hlt
      have mA := BxR.all (BxR.next HA.out q q.size) (Nat.le_refl _) hlt
      have mB := BxR.all (BxR.next HB.out q q.size) (Nat.le_refl _) hlt
      have h1 : (k : Int) < (l.length : Int) := by omega
      have h0 : (0 : Int) ≤ (k : Int) := by omega
      go_wp2_with fail
      refine wp_region_tame (by kernel_rfl) (by kernel_rfl) ?_
      repeat (go_big_quiet_step (fail))
      refine wpQuiet_nil ?_
      rintro _ ⟨s, rfl⟩
      have qs := q.trans (s.h.mono q.size)
      clear mA mB
      go_wp2
      go_roundw
      case rel => exact ⟨k + 1, by omega, by go_num, qs⟩
      case measure => simp [intOf]; omega
    · go_wp2
      go_ret
      exact ⟨rfl, q⟩

def WoB (n : Nat) (l : List Bx) (w : World) (e : Ending) (w' : World) : Prop :=
  ∃ A c, e = .returned (.tuple #[.slice A l.length c, .int .i64 ((n : Int) - l.length)]) ∧ BxR w' w'.heap.size A l ∧ l.length ≤ c ∧ Below w.heap.size w w'

theorem stay_snoc {id : Int} {l : List Bx} {k : Nat} (hk : k < l.length) : stay id (l.take (k + 1)) = if (l[k].h == id) = true then stay id (l.take k) else stay id (l.take k) ++ [l[k]] := by
  unfold stay
  rw [List.take_succ_eq_append_getElem hk, List.filter_append]
  cases h : l[k].h == id <;> simp [h]

set_option maxRecDepth 100000 in
set_option maxHeartbeats 2000000 in
theorem refWithout9 (l : List Bx) (A : Option Addr) (c : Nat) (id : Int) (w : World) (hr : BxR w w.heap.size A l) (hl : l.length ≤ 1000) :
    Calls Try.prog 49 #[.slice A l.length c, .int .i64 id] w (WoB l.length (stay id l) w) := by
  have HR := hide hr
  have O0 := hide (Own.lit w w.heap.size 70 7 [] (Nat.le_refl _) (by simp) (by simp))
  have q0 : Below w.heap.size w (w.alloc (.cells #[] 70)) := (Below.refl _ _).alloc (Nat.le_refl _) _
  clear hr
  go_enter Try.func49, Try.ntmps49
  go_wp2
  go_loopw [12, 6] (fun i vo W => ∃ (k n : Nat) (A' : Option Addr) (c' : Nat), k ≤ l.length ∧ i = .int .i64 k ∧ vo = .slice A' n c' ∧ n ≤ k ∧ Hid ((stay id (l.take k)).length = n ∧ Own W w.heap.size 70 7 A' c' ((stay id (l.take k)).map bxc)) ∧ Below w.heap.size w W) (fun i _ _ => l.length - (intOf i).toNat)
  case atStart => exact ⟨0, 0, _, 0, Nat.zero_le _, rfl, rfl, Nat.le_refl _, hide ⟨rfl, O0.out⟩, q0⟩
  case round =>
    obtain ⟨k, n, A', c', hk, rfl, rfl, hn, hO, q⟩ := hrel
    have zb : w.heap.size ≤ wr.heap.size := q.size
    by_cases hlt : k < l.length
    · obtain ⟨b, off, rfl, hbs, d0, d1, d2, d3, d4, d5, d6⟩ := (BxR.next HR.out q q.size).at_ hlt
      have SN := hide (stay_snoc (id := id) hlt)
      have qa : Below wr.heap.size wr (wr.alloc (.cells #[.int .i64 l[k].h, .int .u32 l[k].f.id, .bool l[k].f.ext, .bool l[k].f.rem, .int .i64 l[k].f.dlc, .string l[k].f.data, .int .i64 l[k].s] 70)) := (Below.refl _ _).alloc (Nat.le_refl _) _
      have qw := below_next q q.size qa
      rcases hb : l[k].h == id with _ | _
      · have hb' : (l[k].h != id) = true := by simp only [bne, hb]; rfl
        have OA := hide ((hO.out.2.alloc (.cells #[.int .i64 l[k].h, .int .u32 l[k].f.id, .bool l[k].f.ext, .bool l[k].f.rem, .int .i64 l[k].f.dlc, .string l[k].f.data, .int .i64 l[k].s] 70)).alloc (.cells #[.int .i64 l[k].h, .int .u32 l[k].f.id, .bool l[k].f.ext, .bool l[k].f.rem, .int .i64 l[k].f.dlc, .string l[k].f.data, .int .i64 l[k].s] 70))
        have R6 := hide (fun t => rd_row (cs := [.int .i64 l[k].h, .int .u32 l[k].f.id, .bool l[k].f.ext, .bool l[k].f.rem, .int .i64 l[k].f.dlc, .string l[k].f.data, .int .i64 l[k].s]) (World.alloc_heap_new (wr.alloc (.cells #[.int .i64 l[k].h, .int .u32 l[k].f.id, .bool l[k].f.ext, .bool l[k].f.rem, .int .i64 l[k].f.dlc, .string l[k].f.data, .int .i64 l[k].s] 70)) (.cells #[.int .i64 l[k].h, .int .u32 l[k].f.id, .bool l[k].f.ext, .bool l[k].f.rem, .int .i64 l[k].f.dlc, .string l[k].f.data, .int .i64 l[k].s] t)))
        have E1 := hide (show (((stay id (l.take k)).map bxc).length + [([.int .i64 l[k].h, .int .u32 l[k].f.id, .bool l[k].f.ext, .bool l[k].f.rem, .int .i64 l[k].f.dlc, .string l[k].f.data, .int .i64 l[k].s] : List Value)].length) * 48 ≤ 140737488355328 by rw [List.length_map, hO.out.1]; simp; omega)
        have E2 := hide (show ((stay id (l.take k)).map bxc).length + [([.int .i64 l[k].h, .int .u32 l[k].f.id, .bool l[k].f.ext, .bool l[k].f.rem, .int .i64 l[k].f.dlc, .string l[k].f.data, .int .i64 l[k].s] : List Value)].length ≤ maxLen by rw [List.length_map, hO.out.1]; simp [maxLen]; omega)
        have E3 := hide (show n = ((stay id (l.take k)).map bxc).length by rw [List.length_map, hO.out.1])
        rw [hb] at SN
        clear hb
        go_wp2_with (at_builtin; refine wpList_append_rows _ rfl _ _ 63 rfl slBox w.heap.size _ _ _ ((stay id (l.take k)).map bxc) (by rfl) (by exact OA.out) _ _ _ [[.int .i64 l[k].h, .int .u32 l[k].f.id, .bool l[k].f.ext, .bool l[k].f.rem, .int .i64 l[k].f.dlc, .string l[k].f.data, .int .i64 l[k].s]] (by rfl) (by simpa using R6.out _) (by simp) (by simp [Value.oneCell']) (by exact E1.out) (by exact E2.out) (by simp; omega) (by exact E3.out) (by rfl) ?_)
        intro A6 c6 W6 o6 g6
        have q6 := below_append (qw.alloc qw.size (.cells #[.int .i64 l[k].h, .int .u32 l[k].f.id, .bool l[k].f.ext, .bool l[k].f.rem, .int .i64 l[k].f.dlc, .string l[k].f.data, .int .i64 l[k].s] 70)) g6 OA.out (Nat.le_refl _) (by have := qw.size; simp; omega)
        have NX : Hid ((stay id (l.take (k + 1))).length = n + 1 ∧ Own W6 w.heap.size 70 7 A6 c6 ((stay id (l.take (k + 1))).map bxc)) := by
          have e := SN.out
          rw [if_neg (by simp)] at e
          rw [e]
          exact hide ⟨by rw [List.length_append, hO.out.1]; rfl, by rw [List.map_append]; exact o6⟩
        clear o6 g6 OA R6 E1 E2 E3 hO SN d0 d1 d2 d3 d4 d5 d6
        go_wp2
        go_roundw
        case rel => exact ⟨k + 1, n + 1, A6, c6, by omega, by go_num, rfl, by omega, NX, q6⟩
        case measure => simp [intOf]; omega
      · have hb' : (l[k].h != id) = false := by simp only [bne, hb]; rfl
        rw [hb] at SN
        have NX : Hid ((stay id (l.take (k + 1))).length = n ∧ Own (wr.alloc (.cells #[.int .i64 l[k].h, .int .u32 l[k].f.id, .bool l[k].f.ext, .bool l[k].f.rem, .int .i64 l[k].f.dlc, .string l[k].f.data, .int .i64 l[k].s] 70)) w.heap.size 70 7 A' c' ((stay id (l.take (k + 1))).map bxc)) := by
          have e := SN.out
          rw [if_pos rfl] at e
          rw [e]
          exact hide ⟨hO.out.1, hO.out.2.alloc _⟩
        clear hb hO SN
        go_wp2
        go_roundw
        case rel => exact ⟨k + 1, n, A', c', by omega, by go_num, rfl, by omega, NX, qw⟩
        case measure => simp [intOf]; omega
    · have hkl : k = l.length := by omega
      have e : l.take k = l := by rw [hkl, List.take_length]
      have H := hO.out
      rw [e] at H
      have F := hide H
      have hnl : (n : Int) ≤ (l.length : Int) := by omega
      have hL : Hid ((stay id l).length = n) := hide F.out.1
      have hO7 := hide F.out.2
      clear H hO e hkl F
      go_wp2
      go_ret2
      exact ⟨A', c', by rw [hL.out]; rfl, hO7.out.rd (bxc_rows _), by have := hO7.out.le; rw [List.length_map] at this; exact this, q⟩
end Go.Proofs.Ytbdgifngldipcaa
