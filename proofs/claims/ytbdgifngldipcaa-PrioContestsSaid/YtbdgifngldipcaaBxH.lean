/- slices.Clone, DeleteFunc of boxes. -/
import Derived.Test.YtbdgifngldipcaaBxG
import Derived.Lib.SliceRun
namespace Go.Proofs.Ytbdgifngldipcaa
open Go.ChangeShapes Go.WideShapes Go.ChangeAt Go.RowKit
open FP (Fr)
abbrev slBx := slBox
def CloneBxV (l : List Bx) (w : World) (e : Ending) (w' : World) : Prop :=
  ∃ A' c', e = .returned (.slice A' l.length c') ∧ Own w' w.heap.size 70 7 A' c' (l.map bxc) ∧ Below w.heap.size w w'

set_option maxRecDepth 100000 in
set_option maxHeartbeats 1000000 in
theorem cloneBx_any (l : List Bx) (A : Option Addr) (c : Nat) (w : World) (hr : BxR w w.heap.size A l) (hl : l.length ≤ 100000) :
    Calls Try.prog 64 #[.slice A l.length c] w (CloneBxV l w) := by
  have hnil := fun (w : World) a n c n' c' => Lib.run_eql_slice_nil (P := Try.prog) w 63 70 a n c n' c' Try.underlying63
  rcases A with _ | a
  · have h0 : l = [] := by
      rcases l with _ | ⟨x, l⟩
      · rfl
      · obtain ⟨_, _, e, _⟩ := hr (by simp)
        cases e
    subst h0
    go_enter Try.func64, Try.ntmps64
    go_wp2
    go_ret
    exact ⟨none, 0, rfl, Own.nil, Below.refl _ _⟩
  · have O0 := hide (Own.lit w w.heap.size 70 7 [] (Nat.le_refl _) (by simp) (by simp))
    have q0 : Below w.heap.size w (w.alloc (.cells #[] 70)) := (Below.refl _ _).alloc (Nat.le_refl _) _
    have R0 := hide (BxR.next hr q0 q0.size)
    have S1 := hide (show (([] : List (List Value)).length + (l.map bxc).length) * 48 ≤ 140737488355328 by simp; omega)
    have S2 := hide (show ([] : List (List Value)).length + (l.map bxc).length ≤ maxLen by simp [maxLen]; omega)
    have S3 := hide (show l.length = (l.map bxc).length by simp)
    clear hr
    go_enter Try.func64, Try.ntmps64
    go_wp2_with (at_builtin; refine wpList_append_rows _ rfl _ _ 63 rfl slBx w.heap.size _ _ _ [] rfl O0.out _ _ _ (l.map bxc) rfl R0.out (bxc_rows l) (bxc_ones l) S1.out S2.out ?_ rfl S3.out ?_)
    · simp
    intro A4 n4 w4 o4 g4
    have q4 : Below w.heap.size w w4 := below_append q0 g4 O0.out (Nat.le_refl _) q0.size
    have O4 := hide o4
    clear o4 g4 O0 R0 S1 S2 S3 q0 hnil
    go_wp2
    go_ret
    exact ⟨A4, n4, by simp, O4.out, q4⟩

/-- What the rounds of DeleteFunc keep: the first i stay, of the first j; the rest is as it was. -/
structure DelBx (p : Bx → Bool) (l : List Bx) (i j : Nat) (m : List Bx) : Prop where
  len : m.length = l.length
  jl : j ≤ l.length
  ij : i ≤ j
  kept : m.take i = (l.take j).filter fun x => !p x
  rest : m.drop j = l.drop j
theorem DelBx.at_ {p : Bx → Bool} {l m : List Bx} {i j : Nat} (h : DelBx p l i j m) (hj : j < l.length) : m[j]'(by rw [h.len]; exact hj) = l[j] := by
  have h1 : m[j]? = l[j]? := by
    have := congrArg (fun x => x[0]?) h.rest
    simpa [List.getElem?_drop] using this
  rw [List.getElem?_eq_getElem hj, List.getElem?_eq_getElem (by rw [h.len]; exact hj)] at h1
  exact Option.some.inj h1
theorem DelBx.skip {p : Bx → Bool} {l m : List Bx} {i j : Nat} (h : DelBx p l i j m) (hj : j < l.length) (hp : p l[j] = true) : DelBx p l i (j + 1) m :=
  ⟨h.len, hj, by have := h.ij; omega, by rw [List.take_succ_eq_append_getElem hj, List.filter_append, h.kept]; simp [hp], by
    have := congrArg (List.drop 1) h.rest
    simpa [List.drop_drop, Nat.add_comm] using this⟩
theorem DelBx.keep {p : Bx → Bool} {l m : List Bx} {i j : Nat} (h : DelBx p l i j m) (hj : j < l.length) (hp : p l[j] = false) : DelBx p l (i + 1) (j + 1) (m.set i l[j]) := by
  have hi := h.ij
  have hil : i < m.length := by rw [h.len]; omega
  refine ⟨by simp [h.len], hj, by omega, ?_, ?_⟩
  · rw [List.take_succ_eq_append_getElem hj, List.filter_append, ← h.kept, List.take_succ_eq_append_getElem (by simpa using hil)]
    simp [hp, List.take_set_of_le]
  · have := congrArg (List.drop 1) h.rest
    rw [List.drop_set_of_lt (by omega)]
    simpa [List.drop_drop, Nat.add_comm] using this
theorem delBx_start {p : Bx → Bool} {l : List Bx} (h : 0 ≤ idxBx p l) : ∃ i : Nat, idxBx p l = i ∧ i < l.length ∧ DelBx p l i (i + 1) l := by
  have ha := (idxBx_nonneg p l).1 h
  unfold idxBx at h ⊢
  have hn : ¬ (l.all (fun f => !p f)) = true := by
    intro hc
    rw [if_pos hc] at h
    omega
  rw [if_neg hn]
  have hlt : l.findIdx p < l.length := List.findIdx_lt_length_of_exists (List.any_eq_true.1 ha)
  refine ⟨_, rfl, hlt, rfl, hlt, by omega, ?_, rfl⟩
  rw [List.take_succ_eq_append_getElem hlt, List.filter_append]
  have h1 : (l.take (l.findIdx p)).filter (fun x => !p x) = l.take (l.findIdx p) := by
    rw [List.filter_eq_self]
    intro x hx
    rw [List.mem_take_iff_getElem] at hx
    obtain ⟨k, hk, rfl⟩ := hx
    have := List.not_of_lt_findIdx (p := p) (xs := l) (i := k) (by omega)
    simpa using this
  have h2 : p (l[l.findIdx p]) = true := List.findIdx_getElem
  rw [h1]
  simp [h2]
theorem delBx_none {p : Bx → Bool} {l : List Bx} (h : idxBx p l < 0) : idxBx p l = -1 ∧ (l.filter fun x => !p x) = l := by
  have hn : ¬ l.any p = true := fun hc => by have := (idxBx_nonneg p l).2 hc; omega
  have ha : l.all (fun f => !p f) = true := by
    rw [List.all_eq_true]
    intro x hx
    cases hpx : p x
    · rfl
    · exact absurd (List.any_eq_true.2 ⟨x, hx, hpx⟩) hn
  refine ⟨by unfold idxBx; rw [if_pos ha], ?_⟩
  rw [List.filter_eq_self]
  exact List.all_eq_true.1 ha

theorem Bx_load (W : World) (g o : Nat) (x : Bx) (h : W.rangeAt g o (bxc x)) : (Instr.loadAt 70 (.pointer (some ⟨g, o, none⟩))).run Try.prog W = .ok (.agg #[.int .i64 x.h, .int .u32 x.f.id, .bool x.f.ext, .bool x.f.rem, .int .i64 x.f.dlc, .string x.f.data, .int .i64 x.s]) W :=
  run_loadAt_mid W g o 70 (bxc x) _ h Try.underlying70 rfl (by kernel_rfl)

set_option maxRecDepth 100000 in
set_option maxHeartbeats 2000000 in
theorem deleteBx_any (fid : Nat) (cap : Array Value) (p : Bx → Bool) (hp : ∀ (args : Array Value) (w : World), (callFunc fid args).run Try.prog w = .ok (.enter fid args) w) (base : Nat) (l : List Bx) (A : Option Addr) (c : Nat) (w : World)
    (ho : Own w base 70 7 A c (l.map bxc)) (hb : base ≤ w.heap.size) (hl : l.length ≤ 1000) (z : Bx) (hz : ∀ w, (zeroValue 70).run Try.prog w = .ok (.agg #[.int .i64 z.h, .int .u32 z.f.id, .bool z.f.ext, .bool z.f.rem, .int .i64 z.f.dlc, .string z.f.data, .int .i64 z.s]) w)
    (hc : Hid (∀ f ∈ l, ∀ w', Below base w w' → Calls Try.prog fid (#[.agg #[.int .i64 f.h, .int .u32 f.f.id, .bool f.f.ext, .bool f.f.rem, .int .i64 f.f.dlc, .string f.f.data, .int .i64 f.s]] ++ cap) w' fun e w'' => e = .returned (.bool (p f)) ∧ Below w'.heap.size w' w'')) :
    Calls Try.prog 68 #[.slice A l.length c, .func (.func fid) #[] cap] w fun e w' => e = .returned (.slice A (l.filter fun x => !p x).length c) ∧ Own w' base 70 7 A c ((l.filter fun x => !p x).map bxc) ∧ Below base w w' := by
  have I := hide (indexBx_any fid cap p hp l A c w (ho.rd (bxc_rows l)) hl (hide (fun f hf w' hw => hc.out f hf w' (hw.mono hb))))
  have HO := hide ho
  have hle : l.length ≤ c := by have := ho.le; simpa using this
  by_cases h : idxBx p l < 0
  · obtain ⟨e1, e2⟩ := delBx_none h
    rw [e2]
    rw [e1] at I
    clear ho h e1 e2 hp hc
    go_enter Try.func68, Try.ntmps68
    go_wp2_with fail
    (with_reducible refine I.out.mono ?_)
    rintro e1 w1 ⟨rfl, q1⟩
    go_wp2
    go_ret
    exact ⟨rfl, HO.out.grown q1, q1.mono hb⟩
  · obtain ⟨i0, e1, hil, hd⟩ := delBx_start (by omega : 0 ≤ idxBx p l)
    rw [e1] at I
    obtain ⟨g, rfl, hg1, hg2⟩ := ho.ofLen (by rw [List.length_map]; omega)
    have HD := hide hd
    have hi1 : ((i0 : Int) == -1) = false := by rw [beq_eq_false_iff_ne]; omega
    clear ho h e1 hd
    go_enter Try.func68, Try.ntmps68
    go_wp2_with fail
    (with_reducible refine I.out.mono ?_)
    rintro e1 w1 ⟨rfl, q1⟩
    have O1 := hide (HO.out.grown q1)
    go_wp2
    go_loopw [5, 6] (fun vi vj W => ∃ (i j : Nat) (m : List Bx), vi = .int .i64 i ∧ vj = .int .i64 j ∧ j ≤ l.length ∧ i < j ∧ Hid (DelBx p l i j m ∧ Own W base 70 7 (some ⟨g, 0, none⟩) c (m.map bxc)) ∧ Below base w W) (fun _ vj _ => l.length - (intOf vj).toNat)
    case atStart => exact ⟨i0, i0 + 1, l, rfl, by go_num, by omega, by omega, hide ⟨HD.out, O1.out⟩, q1.mono hb⟩
    case round =>
      obtain ⟨i, j, m, rfl, rfl, hj, hij, hr, q⟩ := hrel
      have zb : base ≤ wr.heap.size := by have := q.size; omega
      have hml := hr.out.1.len
      by_cases hlt : j < l.length
      · have hjm : j < m.length := by omega
        have hrg : wr.rangeAt g (j * 7) (bxc l[j]) := by
          have := hr.out.2.range (bxc_rows m) (k := j) (by simpa using hjm)
          simpa [hr.out.1.at_ hlt] using this
        obtain ⟨c0, c1, c2, c3, c4, c5, c6⟩ := Bx_cells hrg
        have C := hide (hc.out l[j] (List.getElem_mem hlt))
        have hfr := World.ownsRow.frozenAt hr.out.2
        have OA := hide (hr.out.2.alloc (.cells #[.int .i64 l[j].h, .int .u32 l[j].f.id, .bool l[j].f.ext, .bool l[j].f.rem, .int .i64 l[j].f.dlc, .string l[j].f.data, .int .i64 l[j].s] 70))
        have qa : Below base w (wr.alloc (.cells #[.int .i64 l[j].h, .int .u32 l[j].f.id, .bool l[j].f.ext, .bool l[j].f.rem, .int .i64 l[j].f.dlc, .string l[j].f.data, .int .i64 l[j].s] 70)) := q.alloc zb _
        have him : i < m.length := by omega
        clear hml hrg
        rcases hpj : p l[j] with _ | _
        · have HK := hide (hr.out.1.keep hlt hpj)
          rw [hpj] at C
          clear hpj
          go_wp2_with fail
          (with_reducible refine (C.out _ qa).mono ?_)
          rintro e2 w2 ⟨rfl, q2⟩
          have qb := below_next qa (Nat.le_trans hb qa.size) q2
          have o2 := OA.out.grown q2
          obtain ⟨hc2, hz2⟩ := bcell q2
          have zx : wr.heap.size < w2.heap.size := by simp at hz2; omega
          obtain ⟨d0, d1, d2, d3, d4, d5, d6⟩ := Bx_cells (x := m[i]) (by have := o2.range (bxc_rows m) (k := i) (by simpa using him); simpa using this)
          have hf2 := World.ownsRow.frozenAt o2
          obtain ⟨s3, g3⟩ := o2.setRow (bxc_rows m) (k := i) (row := bxc l[j]) (by simpa using him) rfl
          rw [← List.map_set] at s3
          have q3 := below_append (N := 0) (A := some ⟨g, 0, none⟩) (c := c) qb g3 o2 (Nat.le_refl _) (Nat.le_trans hb qb.size)
          have S3 := hide (And.intro HK.out s3)
          have Q3 := hide q3
          clear s3 g3 q3 o2 c0 c1 c2 c3 c4 c5 c6 hfr
          go_wp2
          go_roundw
          case rel => exact ⟨i + 1, j + 1, _, by go_num, by go_num, by omega, by omega, S3, Q3.out⟩
          case measure => simp [intOf]; omega
        · have HK := hide (hr.out.1.skip hlt hpj)
          rw [hpj] at C
          clear hpj
          go_wp2_with fail
          (with_reducible refine (C.out _ qa).mono ?_)
          rintro e2 w2 ⟨rfl, q2⟩
          have qb := below_next qa (Nat.le_trans hb qa.size) q2
          have S3 := hide (And.intro HK.out (OA.out.grown q2))
          clear c0 c1 c2 c3 c4 c5 c6 hfr
          go_wp2
          go_roundw
          case rel => exact ⟨i, j + 1, m, rfl, by go_num, by omega, by omega, S3, qb⟩
          case measure => simp [intOf]; omega
      · obtain rfl : j = l.length := by omega
        have hkp := hr.out.1.kept
        rw [List.take_length] at hkp
        have hfl : (l.filter fun x => !p x).length = i := by rw [← hkp, List.length_take]; omega
        obtain ⟨A1, eA1, hfrom⟩ := run_from (P := Try.prog) 63 70 Try.underlying63 7 (fun W => by kernel_rfl) (some ⟨g, 0, none⟩) l.length c i i rfl (by omega)
        rw [if_neg (by omega)] at eA1
        have hto := run_to (P := Try.prog) 63 70 Try.underlying63 7 (fun W => by kernel_rfl) (some ⟨g, 0, none⟩) l.length c i i rfl (by omega)
        obtain ⟨W3, hclr, own3, g3⟩ := run_clear_rows (P := Try.prog) wr 63 70 (z := .agg #[.int .i64 z.h, .int .u32 z.f.id, .bool z.f.ext, .bool z.f.rem, .int .i64 z.f.dlc, .string z.f.data, .int .i64 z.s]) Try.underlying63 hz (by rfl) (by have := bxc_one z; simpa [bxc, Value.cells] using this) base g c hr.out.2 (bxc_rows m) (n := l.length) (by simpa using hml.symm) i (by simpa [hml] using hij) (c - i)
        rw [← List.map_take, hkp] at own3
        have q3 := below_append (N := 0) (A := some ⟨g, 0, none⟩) (c := c) q g3 hr.out.2 (Nat.le_refl _) zb
        obtain rfl : A1 = some ⟨g, i * 7, none⟩ := by rw [eA1]; simp [Go.WideShapes.add_plain]
        have FIN := hide (And.intro own3 q3)
        have HFL := hide hfl
        clear own3 q3 g3 eA1 hkp hfl hml hr
        go_wp2
        go_ret
        exact ⟨by rw [HFL.out]; rfl, FIN.out⟩

end Go.Proofs.Ytbdgifngldipcaa
