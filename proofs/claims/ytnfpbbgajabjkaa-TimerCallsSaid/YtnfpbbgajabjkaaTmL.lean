/- The reference's Same, SameInts, Without, Due, With of timers. -/
import Derived.Test.YtnfpbbgajabjkaaTmJ
namespace Go.Proofs.Ytnfpbbgajabjkaa
open Go.ChangeShapes Go.WideShapes Go.ChangeAt Go.RowKit

set_option maxRecDepth 100000 in
set_option maxHeartbeats 1000000 in
theorem same13 (l : List Tm) (A : Option Addr) (c : Nat) (B : Option Addr) (d : Nat) (w : World) (hA : TmR w w.heap.size A l) (hB : TmR w w.heap.size B l) (hl : l.length ≤ 1000) :
    Calls Try.prog 60 #[.slice A l.length c, .slice B l.length d] w fun e w' => e = .returned (.bool true) ∧ Below w.heap.size w w' := by
  have HA := hide hA
  have HB := hide hB
  clear hA hB
  go_enter Try.func60, Try.ntmps60
  go_wp2
  go_loopw [13] (fun i W => ∃ k : Nat, k ≤ l.length ∧ i = .int .i64 k ∧ Below w.heap.size w W) (fun i _ => l.length - (intOf i).toNat)
  case atStart => exact ⟨0, Nat.zero_le _, rfl, Below.refl _ _⟩
  case round =>
    obtain ⟨k, hk, rfl, q⟩ := hrel
    by_cases hlt : k < l.length
    · obtain ⟨b, off, rfl, _⟩ := HA.out.at_ hlt
      obtain ⟨b', off', rfl, _⟩ := HB.out.at_ hlt
      have mA := TmR.all (TmR.next HA.out q q.size) (Nat.le_refl _) hlt
      have mB := TmR.all (TmR.next HB.out q q.size) (Nat.le_refl _) hlt
      have h1 : (k : Int) < (l.length : Int) := by omega
      have h0 : (0 : Int) ≤ (k : Int) := by omega
      go_wp2_with fail
      refine wp_region_tame (by kernel_rfl) (by kernel_rfl) ?_
      repeat (go_big_quiet_step (fail))
      refine wpQuiet_nil ?_
      rintro _ ⟨s, rfl⟩
      have qs := q.trans (s.h.mono q.size)
      clear mA mB
      go_wp2
      go_roundw
      case rel => exact ⟨k + 1, by omega, by go_num, qs⟩
      case measure => simp [intOf]; omega
    · go_wp2
      go_ret
      exact ⟨rfl, q⟩

theorem idr_at {w : World} {B : Nat} {A : Option Addr} {l : List Tm} (h : Rd w B A 1 (idRows l)) {k : Nat} (hk : k < l.length) : ∃ b off, A = some ⟨b, off, none⟩ ∧ b < B ∧ w.cell? ⟨b, off + k, none⟩ = some (.int .i64 l[k].id) := by
  obtain ⟨b, off, e, hb, hc⟩ := h (by rw [idRows_len]; omega)
  refine ⟨b, off, e, hb, ?_⟩
  have := hc k [.int .i64 l[k].id] 0 (.int .i64 l[k].id) (by simp [idRows, hk]) rfl
  simpa using this
set_option maxRecDepth 100000 in
set_option maxHeartbeats 1000000 in
theorem sameInts13 (l : List Tm) (A : Option Addr) (c : Nat) (B : Option Addr) (d : Nat) (w : World) (hA : Rd w w.heap.size A 1 (idRows l)) (hB : Rd w w.heap.size B 1 (idRows l)) (hl : l.length ≤ 1000) :
    Calls Try.prog 23 #[.slice A l.length c, .slice B l.length d] w fun e w' => e = .returned (.bool true) ∧ Below w.heap.size w w' := by
  have HA := hide hA
  have HB := hide hB
  clear hA hB
  go_enter Try.func23, Try.ntmps23
  go_wp2
  go_loopw [13] (fun i W => ∃ k : Nat, k ≤ l.length ∧ i = .int .i64 k ∧ Below w.heap.size w W) (fun i _ => l.length - (intOf i).toNat)
  case atStart => exact ⟨0, Nat.zero_le _, rfl, Below.refl _ _⟩
  case round =>
    obtain ⟨k, hk, rfl, q⟩ := hrel
    by_cases hlt : k < l.length
    · obtain ⟨b, off, rfl, hb, ca⟩ := idr_at (HA.out.next q q.size) hlt
      obtain ⟨b', off', rfl, hb', cb⟩ := idr_at (HB.out.next q q.size) hlt
      have mA := fun s : InW wr => s.cell hb ca
      have mB := fun s : InW wr => s.cell hb' cb
      have h1 : (k : Int) < (l.length : Int) := by omega
      have h0 : (0 : Int) ≤ (k : Int) := by omega
      clear ca cb
      go_wp2_with fail
      refine wp_region_tame (by kernel_rfl) (by kernel_rfl) ?_
      repeat (go_big_quiet_step (fail))
      refine wpQuiet_nil ?_
      rintro _ ⟨s, rfl⟩
      have qs := q.trans (s.h.mono q.size)
      clear mA mB
      go_wp2
      go_roundw
      case rel => exact ⟨k + 1, by omega, by go_num, qs⟩
      case measure => simp [intOf]; omega
    · go_wp2
      go_ret
      exact ⟨rfl, q⟩

def RowV (l : List Tm) (w : World) (e : Ending) (w' : World) : Prop :=
  ∃ A c, e = .returned (.slice A l.length c) ∧ TmR w' w'.heap.size A l ∧ l.length ≤ c ∧ Below w.heap.size w w'

theorem without_snoc {id : Int} {l : List Tm} {k : Nat} (hk : k < l.length) : withoutTm id (l.take (k + 1)) = if (l[k].id == id) = true then withoutTm id (l.take k) else withoutTm id (l.take k) ++ [l[k]] := by
  unfold withoutTm
  rw [List.take_succ_eq_append_getElem hk, List.filter_append]
  cases h : l[k].id == id <;> simp [List.filter_cons, h]

set_option maxRecDepth 100000 in
set_option maxHeartbeats 2000000 in
theorem refWithout_any (l : List Tm) (A : Option Addr) (c : Nat) (id : Int) (w : World) (hr : TmR w w.heap.size A l) (hl : l.length ≤ 1000) :
    Calls Try.prog 21 #[.slice A l.length c, .int .i64 id] w (RowV (withoutTm id l) w) := by
  have HR := hide hr
  have O0 := hide (Own.lit w w.heap.size 40 2 [] (Nat.le_refl _) (by simp) (by simp))
  have q0 : Below w.heap.size w (w.alloc (.cells #[] 40)) := (Below.refl _ _).alloc (Nat.le_refl _) _
  clear hr
  go_enter Try.func21, Try.ntmps21
  go_wp2
  go_loopw [11, 5] (fun i vo W => ∃ (k n : Nat) (A' : Option Addr) (c' : Nat), k ≤ l.length ∧ i = .int .i64 k ∧ vo = .slice A' n c' ∧ n ≤ k ∧ Hid ((withoutTm id (l.take k)).length = n ∧ Own W w.heap.size 40 2 A' c' ((withoutTm id (l.take k)).map tmc)) ∧ Below w.heap.size w W) (fun i _ _ => l.length - (intOf i).toNat)
  case atStart => exact ⟨0, 0, _, 0, Nat.zero_le _, rfl, rfl, Nat.le_refl _, hide ⟨rfl, O0.out⟩, q0⟩
  case round =>
    obtain ⟨k, n, A', c', hk, rfl, rfl, hn, hO, q⟩ := hrel
    have zb : w.heap.size ≤ wr.heap.size := q.size
    by_cases hlt : k < l.length
    · obtain ⟨b, off, rfl, hbs, c0, c1⟩ := (TmR.next HR.out q q.size).at_ hlt
      have SN := hide (without_snoc (id := id) hlt)
      have qa : Below wr.heap.size wr (wr.alloc (.cells #[.int .i64 l[k].id, .int .i64 l[k].due] 40)) := (Below.refl _ _).alloc (Nat.le_refl _) _
      have qw := below_next q q.size qa
      rcases hb : l[k].id == id with _ | _
      · have hb' : (l[k].id != id) = true := by simp only [bne, hb]; rfl
        have OA := hide ((hO.out.2.alloc (.cells #[.int .i64 l[k].id, .int .i64 l[k].due] 40)).alloc (.cells #[.int .i64 l[k].id, .int .i64 l[k].due] 40))
        have R6 := hide (fun t => rd_row (cs := [.int .i64 l[k].id, .int .i64 l[k].due]) (World.alloc_heap_new (wr.alloc (.cells #[.int .i64 l[k].id, .int .i64 l[k].due] 40)) (.cells #[.int .i64 l[k].id, .int .i64 l[k].due] t)))
        have E1 := hide (show (((withoutTm id (l.take k)).map tmc).length + [([.int .i64 l[k].id, .int .i64 l[k].due] : List Value)].length) * 16 ≤ 140737488355328 by rw [List.length_map, hO.out.1]; simp; omega)
        have E2 := hide (show ((withoutTm id (l.take k)).map tmc).length + [([.int .i64 l[k].id, .int .i64 l[k].due] : List Value)].length ≤ maxLen by rw [List.length_map, hO.out.1]; simp [maxLen]; omega)
        have E3 := hide (show n = ((withoutTm id (l.take k)).map tmc).length by rw [List.length_map, hO.out.1])
        rw [hb] at SN
        clear hb
        go_wp2_with (at_builtin; refine wpList_append_rows _ rfl _ _ 22 rfl slTm w.heap.size _ _ _ ((withoutTm id (l.take k)).map tmc) (by rfl) (by exact OA.out) _ _ _ [[.int .i64 l[k].id, .int .i64 l[k].due]] (by rfl) (by simpa using R6.out _) (by simp) (by simp [Value.oneCell']) (by exact E1.out) (by exact E2.out) (by simp; omega) (by exact E3.out) (by rfl) ?_)
        intro A6 c6 W6 o6 g6
        have q6 := below_append (qw.alloc qw.size (.cells #[.int .i64 l[k].id, .int .i64 l[k].due] 40)) g6 OA.out (Nat.le_refl _) (by have := qw.size; simp; omega)
        have NX : Hid ((withoutTm id (l.take (k + 1))).length = n + 1 ∧ Own W6 w.heap.size 40 2 A6 c6 ((withoutTm id (l.take (k + 1))).map tmc)) := by
          have e := SN.out
          rw [if_neg (by simp)] at e
          rw [e]
          exact hide ⟨by rw [List.length_append, hO.out.1]; rfl, by rw [List.map_append]; exact o6⟩
        clear o6 g6 OA R6 E1 E2 E3 hO SN c0 c1
        go_wp2
        go_roundw
        case rel => exact ⟨k + 1, n + 1, A6, c6, by omega, by go_num, rfl, by omega, NX, q6⟩
        case measure => simp [intOf]; omega
      · have hb' : (l[k].id != id) = false := by simp only [bne, hb]; rfl
        rw [hb] at SN
        have NX : Hid ((withoutTm id (l.take (k + 1))).length = n ∧ Own (wr.alloc (.cells #[.int .i64 l[k].id, .int .i64 l[k].due] 40)) w.heap.size 40 2 A' c' ((withoutTm id (l.take (k + 1))).map tmc)) := by
          have e := SN.out
          rw [if_pos rfl] at e
          rw [e]
          exact hide ⟨hO.out.1, hO.out.2.alloc _⟩
        clear hb hO SN
        go_wp2
        go_roundw
        case rel => exact ⟨k + 1, n, A', c', by omega, by go_num, rfl, by omega, NX, qw⟩
        case measure => simp [intOf]; omega
    · have hkl : k = l.length := by omega
      have e : l.take k = l := by rw [hkl, List.take_length]
      have H := hO.out
      rw [e] at H
      have F := hide H
      clear H hO e hkl
      go_wp2
      go_ret
      exact ⟨A', c', by rw [F.out.1]; rfl, F.out.2.rd (tmc_rows _), by have := F.out.2.le; simpa using this, q⟩
end Go.Proofs.Ytnfpbbgajabjkaa
