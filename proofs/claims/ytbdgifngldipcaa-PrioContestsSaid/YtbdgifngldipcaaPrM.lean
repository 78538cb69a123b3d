/- prio.Field, prio.Contest where it refuses, the document's Well. -/
import Derived.Test.YtbdgifngldipcaaPrK
import Derived.Test.YtbdgifngldipcaaPrL
namespace Go.Proofs.Ytbdgifngldipcaa
open Go.ChangeShapes Go.WideShapes Go.ChangeAt Go.RowKit
open FP (Fr)

set_option maxRecDepth 100000 in
theorem Field_any (f : Fr) (w : World) (hr : FP.rightB f = true) (hf : f.id < 4294967296) :
    Calls Try.prog 31 #[.agg #[.int .u32 f.id, .bool f.ext, .bool f.rem, .int .i64 f.dlc, .string f.data]] w fun e w' => e = .returned (.tuple #[.string (fstr f), .int .i64 0]) ∧ Below w.heap.size w w' := by
  have R := hide (fun W => frRight_any f W hf)
  rw [hr] at R
  have FF := hide (fun W => field_any f W hr)
  have q0 : Below w.heap.size w (w.alloc (.cells #[.int .u32 f.id, .bool f.ext, .bool f.rem, .int .i64 f.dlc, .string f.data] 39)) := (Below.refl _ _).alloc (Nat.le_refl _) _
  have hS : (⟨(fieldF f).toArray⟩ : ByteArray) = fstr f := rfl
  rw [hS] at FF
  generalize fstr f = S at *
  clear hr hS
  obtain ⟨id, ext, rem, dlc, data⟩ := f
  dsimp only at *
  go_enter Try.func31, Try.ntmps31
  go_wp2_with fail
  refine (R.out _).mono ?_
  rintro e1 w1 ⟨rfl, q1⟩
  have c0 : w1.cell? ⟨w.heap.size, 0, none⟩ = some (.int .u32 id) := cellBelow q1 (by simp) (by simp [go_sem])
  have c1 : w1.cell? ⟨w.heap.size, 1, none⟩ = some (.bool ext) := cellBelow q1 (by simp) (by simp [go_sem])
  have c2 : w1.cell? ⟨w.heap.size, 2, none⟩ = some (.bool rem) := cellBelow q1 (by simp) (by simp [go_sem])
  have c3 : w1.cell? ⟨w.heap.size, 3, none⟩ = some (.int .i64 dlc) := cellBelow q1 (by simp) (by simp [go_sem])
  have c4 : w1.cell? ⟨w.heap.size, 4, none⟩ = some (.string data) := cellBelow q1 (by simp) (by simp [go_sem])
  have q1' := below_next q0 q0.size q1
  clear q1
  go_wp2_with fail
  refine (FF.out _).mono ?_
  rintro e2 w2 ⟨rfl, q2⟩
  go_wp2
  refine bodyPost_ret (v := .tuple #[.string S, .int .i64 0]) (by simp [results, Try.results31, go_sem]) rfl ⟨rfl, below_next q1' q1'.size q2⟩

set_option maxRecDepth 100000 in
theorem Contest_bad (l : List Fr) (A : Option Addr) (c : Nat) (w : World) (hr : FrR w w.heap.size A l) (hl : l.length ≤ 1000) (hid : ∀ f ∈ l, f.id < 4294967296) (hb : l.length = 0 ∨ wellB l = false) :
    Calls Try.prog 29 #[.slice A l.length c] w fun e w' => e = .returned (.tuple #[.slice none 0 0, .slice none 0 0, .int .i64 1]) ∧ Below w.heap.size w w' := by
  by_cases h0 : l.length = 0
  · rw [h0]
    clear hr hid hb
    go_enter Try.func29, Try.ntmps29
    go_wp2
    refine bodyPost_ret (v := .tuple #[.slice none 0 0, .slice none 0 0, .int .i64 1]) (by simp [results, Try.results29, go_sem]) rfl ⟨rfl, Below.refl _ _⟩
  · have hw : wellB l = false := by rcases hb with h | h <;> simp_all
    have WELL := well_any l A c w hr hl hid
    rw [hw] at WELL
    have WELL := hide WELL
    have hz : ((l.length : Int) == 0) = false := by rw [beq_eq_false_iff_ne]; omega
    clear hw hr hid hb
    go_enter Try.func29, Try.ntmps29
    go_wp2_with fail
    refine WELL.out.mono ?_
    rintro e1 w1 ⟨rfl, q1⟩
    go_wp2
    refine bodyPost_ret (v := .tuple #[.slice none 0 0, .slice none 0 0, .int .i64 1]) (by simp [results, Try.results29, go_sem]) rfl ⟨rfl, q1⟩

set_option maxRecDepth 100000 in
set_option maxHeartbeats 1000000 in
theorem refWell_any (l : List Fr) (A : Option Addr) (c : Nat) (w : World) (hr : FrR w w.heap.size A l) (hl : l.length ≤ 1000) (hid : ∀ f ∈ l, f.id < 4294967296) :
    Calls Try.prog 30 #[.slice A l.length c] w fun e w' => e = .returned (.bool (wellB l)) ∧ Below w.heap.size w w' := by
  have R := hide (fun k (h : k < l.length) W => refRight04_any l[k] W (hid _ (List.getElem_mem h)))
  clear hid
  go_enter Try.func30, Try.ntmps30
  go_wp2
  go_loopw [7] (fun i W => ∃ k : Nat, k ≤ l.length ∧ i = .int .i64 k ∧ Hid (∀ f ∈ l.take k, FP.rightB f = true) ∧ Below w.heap.size w W) (fun i _ => l.length - (intOf i).toNat)
  case atStart => exact ⟨0, Nat.zero_le _, rfl, hide (by simp), Below.refl _ _⟩
  case round =>
    obtain ⟨k, hk, rfl, hinv, q⟩ := hrel
    by_cases hlt : k < l.length
    · obtain ⟨b, off, rfl, hbs, d0, d1, d2, d3, d4⟩ := hr.at_ hlt
      have c0 := cellBelow q hbs d0
      have c1 := cellBelow q hbs d1
      have c2 := cellBelow q hbs d2
      have c3 := cellBelow q hbs d3
      have c4 := cellBelow q hbs d4
      have C := hide (R.out k hlt)
      have q0 : Below w.heap.size w (wr.alloc (.cells #[.int .u32 l[k].id, .bool l[k].ext, .bool l[k].rem, .int .i64 l[k].dlc, .string l[k].data] 39)) := q.alloc q.size _
      clear d0 d1 d2 d3 d4
      rcases hpk : FP.rightB l[k] with _ | _
      · have hF := hide (show wellB l = false from List.all_eq_false.2 ⟨l[k], List.getElem_mem hlt, by rw [hpk]; simp⟩)
        rw [hpk] at C
        clear hpk
        go_wp2_with fail
        refine (C.out _).mono ?_
        rintro e1 w1 ⟨rfl, q1⟩
        go_wp2
        go_ret
        exact ⟨by rw [hF.out]; rfl, below_next q0 q0.size q1⟩
      · have hT := hide (show ∀ f ∈ l.take (k + 1), FP.rightB f = true by
          intro f hf
          rw [List.take_succ_eq_append_getElem hlt, List.mem_append] at hf
          rcases hf with hf | hf
          · exact hinv.out f hf
          · rw [List.mem_singleton.1 hf]; exact hpk)
        rw [hpk] at C
        clear hpk
        go_wp2_with fail
        refine (C.out _).mono ?_
        rintro e1 w1 ⟨rfl, q1⟩
        go_wp2
        go_roundw
        case rel => exact ⟨k + 1, by omega, by go_num, hT, below_next q0 q0.size q1⟩
        case measure => simp [intOf]; omega
    · have hT := hide (show wellB l = true by
        unfold wellB
        rw [List.all_eq_true]
        intro f hf
        exact hinv.out f (by rw [List.take_of_length_le (by omega)]; exact hf))
      go_wp2
      go_ret
      exact ⟨by rw [hT.out]; rfl, q⟩
end Go.Proofs.Ytbdgifngldipcaa
