/- LoadMore: a load that is put ahead does not make one earlier; one that is put behind neither. -/
import Derived.Test.YtbdgifngldipcaaLoadC
import Derived.Test.YtbdgifngldipcaaFrame
namespace Go.Proofs.Ytbdgifngldipcaa
open Go.ChangeShapes Go.WideShapes Go.ChangeAt Go.RowKit
open LP (Ld okB rightB mx ah needF lateF)

theorem bad_iff (a b : Int) : okB (a, b) = true ↔ (1 ≤ a ∧ a ≤ 200 ∧ 1 ≤ b ∧ b ≤ 1000000) := by simp [okB]

set_option maxRecDepth 100000 in
set_option maxHeartbeats 400000 in
theorem refRight_any (l : List Ld) (A : Option Addr) (c : Nat) (w : World) (hr : LdR w w.heap.size A l) (hl : l.length ≤ 1000) :
    Calls Try.prog 16 #[.slice A l.length c] w fun e w' => e = .returned (.bool (rightB l)) ∧ Below w.heap.size w w' := by
  go_enter Try.func16, Try.ntmps16
  go_wp2
  go_loopw [7] (fun i wr => ∃ k : Nat, k ≤ l.length ∧ i = .int .i64 k ∧ Hid (∀ x ∈ l.take k, okB x = true) ∧ Below w.heap.size w wr) (fun i _ => l.length - (intOf i).toNat)
  case atStart => exact ⟨0, Nat.zero_le _, rfl, hide (by simp), Below.refl _ _⟩
  case round =>
    obtain ⟨k, hk, rfl, hinv, hbl⟩ := hrel
    have hsz := hbl.size
    by_cases hlt : k < l.length
    · obtain ⟨b, off, rfl, hbs, h1, h2⟩ := hr.at_ hlt
      obtain ⟨xa, xb, hx0⟩ : ∃ a b, l[k] = (a, b) := ⟨_, _, rfl⟩
      rw [hx0] at h1 h2
      have h1' := cellBelow hbl hbs h1
      have h2' := cellBelow hbl hbs h2
      clear h1 h2
      have hbx := bad_iff xa xb
      by_cases hx : okB (xa, xb) = true
      · have hT := hide (show ∀ x ∈ l.take (k + 1), okB x = true by
          intro x hx'
          rw [List.take_succ_eq_append_getElem hlt, List.mem_append] at hx'
          rcases hx' with hx' | hx'
          · exact hinv.out x hx'
          · rw [List.mem_singleton.1 hx', hx0]; exact hx)
        obtain ⟨i1, i2, i3, i4⟩ := hbx.1 hx
        clear hx0 hbx hx
        go_wp2
        go_roundw
        case rel => exact ⟨k + 1, by omega, by go_num, hT, hbl.alloc hsz _⟩
        case measure => simp [intOf]; omega
      · have hF := hide (show rightB l = false by
          unfold rightB
          rw [Bool.and_eq_false_iff]
          exact .inr (List.all_eq_false.2 ⟨l[k], List.getElem_mem hlt, by rw [hx0]; exact hx⟩))
        have hnx : ¬ (1 ≤ xa ∧ xa ≤ 200 ∧ 1 ≤ xb ∧ xb ≤ 1000000) := fun h => hx (hbx.2 h)
        clear hx0 hbx hx
        have hn4 : xa < 1 ∨ 200 < xa ∨ xb < 1 ∨ 1000000 < xb := by omega
        clear hnx
        by_cases c1 : xa < 1
        · clear hn4
          go_wp2
          go_ret
          exact ⟨by rw [hF.out]; rfl, hbl.alloc hsz _⟩
        · by_cases c2 : 200 < xa
          · clear hn4
            go_wp2
            go_ret
            exact ⟨by rw [hF.out]; rfl, hbl.alloc hsz _⟩
          · by_cases c3 : xb < 1
            · clear hn4
              go_wp2
              go_ret
              exact ⟨by rw [hF.out]; rfl, hbl.alloc hsz _⟩
            · have c4 : 1000000 < xb := by omega
              clear hn4
              go_wp2
              go_ret
              exact ⟨by rw [hF.out]; rfl, hbl.alloc hsz _⟩
    · have hT := hide (show rightB l = decide ((l.length : Int) ≤ 16) by
        have : l.take k = l := List.take_of_length_le (by omega)
        have h2 := hinv.out
        rw [this] at h2
        unfold rightB
        rw [List.all_eq_true.2 h2, Bool.and_true, decide_eq_decide]
        omega)
      go_wp2
      go_ret
      exact ⟨by rw [hT.out]; rfl, hbl⟩

theorem slLoad : SlT Try.prog 22 24 2 16 := SlT.mk Try.underlying22 (z := .agg #[.int .i64 0, .int .i64 0]) (by kernel_rfl) rfl (by decide)

theorem ldc_rows (l : List Ld) : ∀ r ∈ l.map ldc, r.length = 2 := by intro r hr; obtain ⟨x, _, rfl⟩ := List.mem_map.1 hr; rfl
theorem ldc_ones (l : List Ld) : ∀ r ∈ l.map ldc, ∀ u ∈ r, u.oneCell' = true := by
  intro r hr u hu
  obtain ⟨x, _, rfl⟩ := List.mem_map.1 hr
  simp only [ldc, List.mem_cons, List.not_mem_nil, or_false] at hu
  rcases hu with rfl | rfl <;> rfl

theorem Late_n (l : List Ld) (A : Option Addr) (n c : Nat) (i : Int) (w : World) (hr : LdR w w.heap.size A l) (hl : l.length ≤ 1000) (hn : n = l.length) (hc : n ≤ c) :
    Calls Try.prog 15 #[.slice A n c, .int .i64 i] w fun e w' => e = .returned (.tuple #[.int .i64 (lateV l i), .int .i64 (lateE l i)]) ∧ Below w.heap.size w w' := by
  subst hn
  exact Late_any l A c i w hr hl hc

theorem snoc_map (l : List Ld) (x : Ld) : (l ++ [x]).map ldc = l.map ldc ++ [ldc x] := by simp
theorem rd_snoc {w : World} {base : Nat} {A : Option Addr} {c : Nat} {l : List Ld} {x : Ld} (h : Own w base 24 2 A c (l.map ldc ++ [ldc x])) : LdR w w.heap.size A (l ++ [x]) := by
  have := Own.rd h (by rw [← snoc_map]; exact ldc_rows _)
  unfold LdR
  rw [snoc_map]
  exact this
theorem le_snoc {w : World} {base : Nat} {A : Option Addr} {c : Nat} {l : List Ld} {x : Ld} (h : Own w base 24 2 A c (l.map ldc ++ [ldc x])) : l.length + 1 ≤ c := by
  have := Own.le h
  simpa using this

theorem ldr_behind (w : World) (x : Ld) : LdR ((w.alloc (.cells #[] 24)).alloc (.cells #[.int .i64 x.1, .int .i64 x.2] 24)).drew ((w.alloc (.cells #[] 24)).alloc (.cells #[.int .i64 x.1, .int .i64 x.2] 24)).drew.heap.size (some ⟨w.heap.size + 1, 0, none⟩) [x] := by
  have h := LdR.new (w.alloc (.cells #[] 24)) [x]
  have e : (w.alloc (.cells #[] 24)).heap.size = w.heap.size + 1 := by simp
  rw [e] at h
  exact h

/-- What LoadMore asks, once all has been reckoned. -/
theorem more_law {l : List Ld} (hl : rightB l = true) {x : Ld} (hx : okB x = true) {k : Nat} (hk : k < l.length) (h16 : l.length < 16) (_hz : lateF l k ≠ 0) :
    rightB (x :: l) = true ∧ rightB (l ++ [x]) = true ∧ (lateF (x :: l) (k + 1) ≠ 0 → lateF l k ≤ lateF (x :: l) (k + 1)) ∧ (lateF (l ++ [x]) k ≠ 0 → lateF l k ≤ lateF (l ++ [x]) k) ∧
      ∀ y ∈ l.drop (k + 1), x.1 ≤ y.1 → lateF (l ++ [x]) k = lateF l k := by
  have hR := LP.right_iff.1 hl
  refine ⟨LP.right_iff.2 ⟨by simp; omega, ?_⟩, LP.right_iff.2 ⟨by simp; omega, ?_⟩, LP.late_ahead hx k, LP.late_behind hR.2 hx hk, fun y hy h => LP.late_same hR.2 hx hk hy h⟩
  · intro y hy
    rcases List.mem_cons.1 hy with rfl | hy
    · exact hx
    · exact hR.2 y hy
  · intro y hy
    rcases List.mem_append.1 hy with hy | hy
    · exact hR.2 y hy
    · rw [List.mem_singleton.1 hy]; exact hx

theorem more_ends {l : List Ld} (hl : rightB l = true) {x : Ld} (hx : okB x = true) {k : Nat} (hk : k < l.length) (h16 : l.length < 16) (hz : lateF l k ≠ 0) :
    ((lateE (x :: l) (k + 1) = 0 ∧ lateF l k ≤ lateV (x :: l) (k + 1)) ∨ lateE (x :: l) (k + 1) = 41) ∧
    ((lateE (l ++ [x]) k = 0 ∧ lateF l k ≤ lateV (l ++ [x]) k) ∨ lateE (l ++ [x]) k = 41) ∧
    ∀ y ∈ l.drop (k + 1), x.1 ≤ y.1 → lateE (l ++ [x]) k = 0 ∧ lateV (l ++ [x]) k = lateF l k := by
  obtain ⟨r1, r2, m1, m2, m3⟩ := more_law hl hx hk h16 hz
  have i1 : rightB (x :: l) = true ∧ 0 ≤ ((k : Int) + 1) ∧ ((k : Int) + 1) < ((x :: l).length : Int) := ⟨r1, by omega, by simp; omega⟩
  have i2 : rightB (l ++ [x]) = true ∧ 0 ≤ (k : Int) ∧ (k : Int) < ((l ++ [x]).length : Int) := ⟨r2, by omega, by simp; omega⟩
  have t1 : ((k : Int) + 1).toNat = k + 1 := by omega
  have e1 : lateE (x :: l) (k + 1) = if lateF (x :: l) (k + 1) = 0 then 41 else 0 := by unfold lateE; rw [if_pos i1, t1]
  have v1 : lateV (x :: l) (k + 1) = lateF (x :: l) (k + 1) := by unfold lateV; rw [if_pos i1, t1]
  have e2 : lateE (l ++ [x]) k = if lateF (l ++ [x]) k = 0 then 41 else 0 := by unfold lateE; rw [if_pos i2, Int.toNat_natCast]
  have v2 : lateV (l ++ [x]) k = lateF (l ++ [x]) k := by unfold lateV; rw [if_pos i2, Int.toNat_natCast]
  rw [e1, v1, e2, v2]
  refine ⟨?_, ?_, fun y hy h => ?_⟩
  · by_cases h : lateF (x :: l) (k + 1) = 0
    · right; rw [if_pos h]
    · left; rw [if_neg h]; exact ⟨rfl, m1 h⟩
  · by_cases h : lateF (l ++ [x]) k = 0
    · right; rw [if_pos h]
    · left; rw [if_neg h]; exact ⟨rfl, m2 h⟩
  · have := m3 y hy h
    rw [this, if_neg hz]; exact ⟨rfl, rfl⟩

set_option maxRecDepth 100000 in
set_option maxHeartbeats 4000000 in
theorem loadMore_walk (l0 : List Ld) (A : Option Addr) (c : Nat) (x : Ld) (i : Int) (w : World) (hr0 : LdR w w.heap.size A l0) (hc0 : l0.length ≤ c) (hcm : c ≤ maxLen) :
    Calls Try.prog 3 #[.slice A l0.length c, .agg #[.int .i64 x.1, .int .i64 x.2], .int .i64 i] w fun e w' => e = .returned (.bool true) ∧ Below w.heap.size w w' := by
  obtain ⟨l, hl⟩ : ∃ l, l = l0.take 20 := ⟨_, rfl⟩
  have hlen : l.length = min l0.length 20 := by rw [hl, List.length_take]; omega
  have hr : LdR w w.heap.size A l := by rw [hl]; exact hr0.take 20
  have hl20 : l.length ≤ 20 := by omega
  have hlc : l.length ≤ c := by omega
  have FEW := hide (fun W => few_any A l0.length c W hc0 (by omega))
  rw [← hlen] at FEW
  clear hl hlen hr0 hc0
  have HL := hide (fun W (hb : Below w.heap.size w W) => Late_any l A c i W (hr.next hb hb.size) (by omega) hlc)
  have ALV := hide alive22_any
  have q0 : Below w.heap.size w (w.alloc (.cells #[.int .i64 x.1, .int .i64 x.2] 24)) := (Below.refl _ w).alloc (Nat.le_refl _) _
  by_cases he : lateE l i = 0
  · have hin : rightB l = true ∧ 0 ≤ i ∧ i < l.length := by
      unfold lateE at he
      by_cases h : rightB l = true ∧ 0 ≤ i ∧ i < l.length
      · exact h
      · rw [if_neg h] at he; omega
    obtain ⟨hrb, h0, h1⟩ := hin
    obtain ⟨k, rfl⟩ := Int.eq_ofNat_of_zero_le h0
    have hk : k < l.length := by omega
    have hz : lateF l k ≠ 0 := fun h => by
      unfold lateE at he
      rw [if_pos ⟨hrb, h0, h1⟩] at he
      simp [h] at he
    have hV : lateV l k = lateF l k := by unfold lateV; rw [if_pos ⟨hrb, h0, h1⟩]; simp
    rw [hV, he] at HL
    clear hV he h0 h1
    have HZ := hide hz
    have HRB := hide hrb
    clear hz hrb
    have REF := hide (fun W => refRight_any [x] (some ⟨W.heap.size, 0, none⟩) 1 (W.alloc (.cells #[.int .i64 x.1, .int .i64 x.2] 24)) (LdR.new W [x]) (by simp))
    by_cases h16 : 16 ≤ l.length
    · go_enter Try.func3, Try.ntmps3
      go_wp2_with fail
      refine (FEW.out _).mono ?_
      rintro e1 w1 ⟨rfl, rfl⟩
      go_wp2_with fail
      refine (HL.out _ q0).mono ?_
      rintro e2 w2 ⟨rfl, q2⟩
      have q2' := below_next q0 q0.size q2
      clear q2
      go_wp2_with fail
      refine (ALV.out w2).mono ?_
      rintro e3 w3 ⟨rfl, q3⟩
      go_wp2
      go_ret
      exact ⟨rfl, below_next q2' q2'.size q3⟩
    · have h16' : l.length < 16 := by omega
      clear h16
      have hR1 : rightB [x] = okB x := by simp [rightB]
      rw [hR1] at REF
      clear hR1
      by_cases hx : okB x = true
      · rw [hx] at REF
        have HX := hide hx
        clear hx
        go_enter Try.func3, Try.ntmps3
        go_wp2_with fail
        refine (FEW.out _).mono ?_
        rintro e1 w1 ⟨rfl, rfl⟩
        go_wp2_with fail
        refine (HL.out _ q0).mono ?_
        rintro e2 w2 ⟨rfl, q2⟩
        have c0 : w2.cell? ⟨w.heap.size, 0, none⟩ = some (.int .i64 x.1) := cellBelow q2 (by simp) (by simp [go_sem])
        have c1 : w2.cell? ⟨w.heap.size, 1, none⟩ = some (.int .i64 x.2) := cellBelow q2 (by simp) (by simp [go_sem])
        have z2 : w.heap.size < w2.heap.size := by have := q2.size; simp at this; omega
        have q2' := below_next q0 q0.size q2
        go_wp2_with fail
        refine (REF.out w2).mono ?_
        rintro e3 w3 ⟨rfl, q3⟩
        have c0' : w3.cell? ⟨w.heap.size, 0, none⟩ = some (.int .i64 x.1) := cellBelow q3 (by simp; omega) (by simp [go_sem, c0, z2])
        have c1' : w3.cell? ⟨w.heap.size, 1, none⟩ = some (.int .i64 x.2) := cellBelow q3 (by simp; omega) (by simp [go_sem, c1, z2])
        have z3 : w.heap.size < w3.heap.size := by have := q3.size; simp at this; omega
        have q3' := below_next (q2'.alloc q2'.size _) (q2'.alloc q2'.size _).size q3
        clear q2 c0 c1 z2 q2' q3
        have hown : Own (w3.alloc (.cells #[.int .i64 x.1, .int .i64 x.2] 24)) w3.heap.size 24 2 (some ⟨w3.heap.size, 0, none⟩) 1 [ldc x] := Own.lit w3 w3.heap.size 24 2 [ldc x] (Nat.le_refl _) (by simp [maxLen]) (by simp [ldc])
        have hrd3 : LdR (w3.alloc (.cells #[.int .i64 x.1, .int .i64 x.2] 24)) (w3.alloc (.cells #[.int .i64 x.1, .int .i64 x.2] 24)).heap.size A l := hr.next (q3'.alloc q3'.size _) (q3'.alloc q3'.size _).size
        have S1 := hide (show ([ldc x].length + (l.map ldc).length) * 16 ≤ 140737488355328 by simp; omega)
        have S2 := hide (show [ldc x].length + (l.map ldc).length ≤ maxLen by simp [maxLen]; omega)
        have S3 := hide (show l.length = (l.map ldc).length by simp)
        have HO := hide hown
        have HR3 := hide hrd3
        clear hown hrd3
        go_wp2_with (at_builtin; refine wpList_append_rows _ rfl _ _ 22 rfl slLoad w3.heap.size _ _ _ [ldc x] rfl HO.out _ _ _ (l.map ldc) rfl HR3.out (ldc_rows l) (ldc_ones l) S1.out S2.out ?_ rfl S3.out ?_)
        · simp
        intro A4 n4 w4 o4 g4
        have q4 : Below w.heap.size w w4 := below_append (q3'.alloc q3'.size _) g4 HO.out q3'.size (q3'.alloc q3'.size _).size
        have rd4 : LdR w4 w4.heap.size A4 (x :: l) := Own.rd o4 (ldc_rows (x :: l))
        have hc4 : 1 + l.length ≤ n4 := by have := Own.le o4; simp at this; omega
        have c04 : w4.cell? ⟨w.heap.size, 0, none⟩ = some (.int .i64 x.1) := cellBelow (below_own g4 HO.out (by simp)) z3 (by simp [go_sem, c0', z3])
        have c14 : w4.cell? ⟨w.heap.size, 1, none⟩ = some (.int .i64 x.2) := cellBelow (below_own g4 HO.out (by simp)) z3 (by simp [go_sem, c1', z3])
        have z4 : w.heap.size < w4.heap.size := by have := g4.size; simp at this; omega
        have O4 := hide o4
        have R4 := hide rd4
        clear o4 g4 rd4 c0' c1' q3' S1 S2 S3 HO HR3
        go_wp2_with fail
        refine (Late_n (x :: l) A4 (1 + l.length) n4 _ w4 R4.out (by simp; omega) (by simp; omega) hc4).mono ?_
        rintro e5 w5 ⟨rfl, q5⟩
        have c05 : w5.cell? ⟨w.heap.size, 0, none⟩ = some (.int .i64 x.1) := cellBelow q5 z4 c04
        have c15 : w5.cell? ⟨w.heap.size, 1, none⟩ = some (.int .i64 x.2) := cellBelow q5 z4 c14
        have q5' : Below w.heap.size w w5 := below_next q4 q4.size q5
        have z5 : w.heap.size < w5.heap.size := by have := q5.size; omega
        clear q4 q5 c04 c14 z4 O4 R4
        go_upto_region 6 with fail
        go_cut [11, 12] (fun a b W => a = .int .i64 (lateV (l ++ [x]) k) ∧ b = .int .i64 (lateE (l ++ [x]) k) ∧ Below w.heap.size w W ∧ W.cell? ⟨w.heap.size, 0, none⟩ = some (.int .i64 x.1) ∧ w.heap.size < W.heap.size)
        case first =>
          have S3 := hide (show l.length = (l.map ldc).length by simp)
          have S4 := hide (show (([] : List (List Value)).length + (l.map ldc).length) * 16 ≤ 140737488355328 by simp; omega)
          have S5 := hide (show ([] : List (List Value)).length + (l.map ldc).length ≤ maxLen by simp [maxLen]; omega)
          have S6 := hide (show ((l.map ldc).length + [ldc x].length) * 16 ≤ 140737488355328 by simp; omega)
          have S7 := hide (show (l.map ldc).length + [ldc x].length ≤ maxLen by simp [maxLen]; omega)
          have OE : ∀ W : World, w5.heap.size ≤ W.heap.size → Own (W.alloc (.cells #[] 24)) w5.heap.size 24 2 (some ⟨W.heap.size, 0, none⟩) 0 [] := fun W h => Own.lit W w5.heap.size 24 2 [] h (by simp) (by simp)
          have O1 : Hid (Own (w5.alloc (.cells #[] 24)).drew w5.heap.size 24 2 (some ⟨w5.heap.size, 0, none⟩) 0 []) := OE w5 (Nat.le_refl _)
          have O2 : Hid (Own ((w5.alloc (.cells #[] 24)).alloc (.cells #[.int .i64 x.1, .int .i64 x.2] 24)).drew w5.heap.size 24 2 (some ⟨w5.heap.size, 0, none⟩) 0 []) := (OE w5 (Nat.le_refl _)).alloc _
          have O3a : (Own ((w5.alloc (.cells #[.int .i64 x.1, .int .i64 x.2] 24)).alloc (.cells #[] 24)).drew w5.heap.size 24 2 (some ⟨w5.heap.size + 1, 0, none⟩) 0 []) := by have := (OE (w5.alloc (.cells #[.int .i64 x.1, .int .i64 x.2] 24)) (by simp)).drew; simpa using this
          have O3 := hide O3a
          clear O3a
          have X1 := hide (fun W => LdR.new W [x])
          have X2a : (LdR ((w5.alloc (.cells #[] 24)).alloc (.cells #[.int .i64 x.1, .int .i64 x.2] 24)).drew ((w5.alloc (.cells #[] 24)).alloc (.cells #[.int .i64 x.1, .int .i64 x.2] 24)).drew.heap.size (some ⟨w5.heap.size + 1, 0, none⟩) [x]) := ldr_behind w5 x
          have X2 := hide X2a
          clear X2a
          have X3 : Hid (LdR ((w5.alloc (.cells #[.int .i64 x.1, .int .i64 x.2] 24)).alloc (.cells #[] 24)).drew ((w5.alloc (.cells #[.int .i64 x.1, .int .i64 x.2] 24)).alloc (.cells #[] 24)).drew.heap.size (some ⟨w5.heap.size, 0, none⟩) [x]) := LdR.next (LdR.new w5 [x]) ((Below.refl _ _).alloc (Nat.le_refl _) _).drew (by simp)
          clear OE
          have QL := hide (fun (W : World) (h : Below w.heap.size w W) => hr.next h h.size)
          have K1 : Below w5.heap.size w5 (w5.alloc (.cells #[] 24)).drew := ((Below.refl _ _).alloc (Nat.le_refl _) _).drew
          have K2 : Below w5.heap.size w5 ((w5.alloc (.cells #[] 24)).alloc (.cells #[.int .i64 x.1, .int .i64 x.2] 24)).drew := (((Below.refl _ _).alloc (Nat.le_refl _) _).alloc (by simp) _).drew
          have K3 : Below w5.heap.size w5 ((w5.alloc (.cells #[.int .i64 x.1, .int .i64 x.2] 24)).alloc (.cells #[] 24)).drew := (((Below.refl _ _).alloc (Nat.le_refl _) _).alloc (by simp) _).drew
          go_region_law (first
            | (refine step_append_rows _ rfl _ _ 22 rfl slLoad w5.heap.size _ _ _ [] rfl ?_ _ _ _ (l.map ldc) rfl ?_ (ldc_rows l) (ldc_ones l) S4.out S5.out ?_ rfl S3.out ?_; (with_reducible exact O1.out); exact QL.out _ (below_next q5' q5'.size K1); (simp <;> omega); intro A6 n6 w6 o6 g6; have k6 := hide (below_append K1 g6 O1.out (Nat.le_refl _) K1.size); have O6 : Hid (Own w6 w5.heap.size 24 2 A6 n6 (l.map ldc)) := o6; have c06 := cellBelow k6.out z5 c05; have c16 := cellBelow k6.out z5 c15; have z6 : w.heap.size < w6.heap.size := Nat.lt_of_lt_of_le z5 k6.out.size; clear o6 g6)
            | (refine step_append_rows _ rfl _ _ 22 rfl slLoad w5.heap.size _ _ _ [] rfl ?_ _ _ _ (l.map ldc) rfl ?_ (ldc_rows l) (ldc_ones l) S4.out S5.out ?_ rfl S3.out ?_; (with_reducible exact O2.out); exact QL.out _ (below_next q5' q5'.size K2); (simp <;> omega); intro A6 n6 w6 o6 g6; have k6 := hide (below_append K2 g6 O2.out (Nat.le_refl _) K2.size); have rx := hide (Rd.grown X2.out g6 (Nat.le_refl _) (by intro b off e; injection e with e; injection e with e1; subst e1; simp [Value.ownBlock])); have O6 : Hid (Own w6 w5.heap.size 24 2 A6 n6 (l.map ldc)) := o6; have c06 := cellBelow k6.out z5 c05; have c16 := cellBelow k6.out z5 c15; have z6 : w.heap.size < w6.heap.size := Nat.lt_of_lt_of_le z5 k6.out.size; clear o6 g6)
            | (refine step_append_rows _ rfl _ _ 22 rfl slLoad w5.heap.size _ _ _ [] rfl ?_ _ _ _ (l.map ldc) rfl ?_ (ldc_rows l) (ldc_ones l) S4.out S5.out ?_ rfl S3.out ?_; (with_reducible exact O3.out); exact QL.out _ (below_next q5' q5'.size K3); (simp <;> omega); intro A6 n6 w6 o6 g6; have k6 := hide (below_append K3 g6 O3.out (Nat.le_refl _) K3.size); have rx := hide (Rd.grown X3.out g6 (Nat.le_refl _) (by intro b off e; injection e with e; injection e with e1; subst e1; simp [Value.ownBlock])); have O6 : Hid (Own w6 w5.heap.size 24 2 A6 n6 (l.map ldc)) := o6; have c06 := cellBelow k6.out z5 c05; have c16 := cellBelow k6.out z5 c15; have z6 : w.heap.size < w6.heap.size := Nat.lt_of_lt_of_le z5 k6.out.size; clear o6 g6)
            | ((refine step_append_rows _ rfl _ _ 22 rfl slLoad w5.heap.size _ _ _ (l.map ldc) rfl ?_ _ _ _ [ldc x] rfl ?_ (ldc_rows [x]) (ldc_ones [x]) S6.out S7.out ?_ S3.out rfl ?_); (with_reducible exact O6.out.alloc _); (exact X1.out w6); (simp; have hk6 := k6.out.size; omega); intro A7 n7 w7 o7 g7; have k7 := hide (below_append (k6.out.alloc k6.out.size _) g7 (O6.out.alloc _) (Nat.le_refl _) (k6.out.alloc k6.out.size _).size); have O7 := hide (rd_snoc o7); have N7 := hide (le_snoc o7); clear o7 g7)
            | (refine step_append_rows _ rfl _ _ 22 rfl slLoad w5.heap.size _ _ _ (l.map ldc) rfl ?_ _ _ _ [ldc x] rfl ?_ (ldc_rows [x]) (ldc_ones [x]) S6.out S7.out ?_ S3.out rfl ?_; (with_reducible exact O6.out); exact rx.out; exact k6.out.size; intro A7 n7 w7 o7 g7; have k7 := hide (below_append k6.out g7 O6.out (Nat.le_refl _) k6.out.size); have O7 := hide (rd_snoc o7); have N7 := hide (le_snoc o7); clear o7 g7)
            | (go_simp; go_at_call 15; refine (Late_n (l ++ [x]) A7 (l.length + 1) n7 _ w7 O7.out (by simp; omega) (by simp) N7.out).mono ?_; rintro e8 w8 ⟨rfl, q8⟩))
          all_goals
            have fin : Below w5.heap.size w5 w8 := below_next k7.out k7.out.size q8
            go_wp2_with fail
            go_meet
            exact ⟨rfl, rfl, below_next q5' q5'.size fin, cellBelow fin z5 c05, Nat.lt_of_lt_of_le z5 fin.size⟩
        case rest =>
          obtain ⟨rfl, rfl, q6, c06, z6⟩ := hcut
          have ML := hide (more_ends HRB.out HX.out hk h16' HZ.out)
          generalize lateV (x :: l) (↑k + 1) = V1 at *
          generalize lateE (x :: l) (↑k + 1) = E1 at *
          generalize lateV (l ++ [x]) ↑k = V2 at *
          generalize lateE (l ++ [x]) ↑k = E2 at *
          clear c05 c15 q5' z5
          go_upto_region 7 with fail
          go_cut [93] (fun v W => v = .bool false ∧ Below w.heap.size w W ∧ W.cell? ⟨w.heap.size, 0, none⟩ = some (.int .i64 x.1) ∧ w.heap.size < W.heap.size)
          case first =>
            obtain ⟨h1, h2, _⟩ := ML.out
            rcases h1 with ⟨rfl, h1⟩ | rfl <;> rcases h2 with ⟨rfl, h2⟩ | rfl
            all_goals
              go_wp2_with fail
              refine (ALV.out _).mono ?_
              rintro e9 w9 ⟨rfl, q9⟩
              go_wp2_with fail
              go_meet
              exact ⟨by first | rfl | (simp; omega), below_next q6 q6.size q9, cellBelow q9 z6 c06, Nat.lt_of_lt_of_le z6 q9.size⟩
          case rest =>
            obtain ⟨rfl, q7, c07, z7⟩ := hcut
            obtain ⟨A1, hA1, hrun⟩ := run_from (P := Try.prog) 22 24 Try.underlying22 2 (fun W => by kernel_rfl) A l.length c ((k : Int) + 1) (k + 1) (by omega) (by omega)
            have hd := hr.drop (k + 1) c hlc
            rw [← hA1] at hd
            clear hA1
            have hD : (l.drop (k + 1)).length = l.length - (k + 1) := List.length_drop
            have HF := hide ML.out.2.2
            obtain ⟨r, hr2⟩ : ∃ r, r = l.drop (k + 1) := ⟨_, rfl⟩
            rw [← hr2] at hd hD HF
            clear hr2 ML FEW HL REF ALV
            have hlr : r.length ≤ 20 := by omega
            go_wp2
            rw [← hD]
            clear hD
            go_loopw [99] (fun i W => ∃ j : Nat, j ≤ r.length ∧ i = .int .i64 j ∧ Below w.heap.size w W ∧ W.cell? ⟨w.heap.size, 0, none⟩ = some (.int .i64 x.1) ∧ w.heap.size < W.heap.size) (fun i _ => r.length - (intOf i).toNat)
            case atStart => exact ⟨0, Nat.zero_le _, rfl, q7, c07, z7⟩
            case round =>
              obtain ⟨j, hj, rfl, q8, c08, z8⟩ := hrel
              by_cases hlt : j < r.length
              · obtain ⟨b, off, rfl, hbs, d1, d2⟩ := hd.at_ hlt
                have d1' := cellBelow q8 hbs d1
                have d2' := cellBelow q8 hbs d2
                have q9 : Below w.heap.size w (wr.alloc (.cells #[.int .i64 r[j].1, .int .i64 r[j].2] 24)) := q8.alloc q8.size _
                clear d1 d2
                by_cases hge : x.1 ≤ r[j].1
                · obtain ⟨rfl, hv⟩ := HF.out r[j] (List.getElem_mem hlt) hge
                  have hvb : (V2 == lateF l k) = true := by simp [hv]
                  clear hv
                  go_wp2
                  go_ret
                  exact ⟨rfl, q9⟩
                · go_wp2
                  go_roundw
                  case rel => exact ⟨j + 1, by omega, by go_num, q9, by simp [go_sem, c08, z8], by simp; omega⟩
                  case measure => simp [intOf]; omega
              · go_wp2
                go_ret
                exact ⟨rfl, q8⟩
      · have hxf : okB x = false := by simpa using hx
        rw [hxf] at REF
        clear hx hxf
        go_enter Try.func3, Try.ntmps3
        go_wp2_with fail
        refine (FEW.out _).mono ?_
        rintro e1 w1 ⟨rfl, rfl⟩
        go_wp2_with fail
        refine (HL.out _ q0).mono ?_
        rintro e2 w2 ⟨rfl, q2⟩
        have c0 : w2.cell? ⟨w.heap.size, 0, none⟩ = some (.int .i64 x.1) := cellBelow q2 (by simp) (by simp [go_sem])
        have c1 : w2.cell? ⟨w.heap.size, 1, none⟩ = some (.int .i64 x.2) := cellBelow q2 (by simp) (by simp [go_sem])
        have q2' := below_next q0 q0.size q2
        have z2 : w.heap.size < w2.heap.size := by have := q2.size; simp at this; omega
        clear q2
        go_wp2_with fail
        refine (REF.out w2).mono ?_
        rintro e3 w3 ⟨rfl, q3⟩
        have q3' := below_next (q2'.alloc q2'.size _) (q2'.alloc q2'.size _).size q3
        clear q3
        go_wp2_with fail
        refine (ALV.out w3).mono ?_
        rintro e4 w4 ⟨rfl, q4⟩
        go_wp2
        go_ret
        exact ⟨rfl, below_next q3' q3'.size q4⟩
  · have heb : (lateE l i == 0) = false := by simp [he]
    have hen : (lateE l i != 0) = true := by simp [he]
    clear he
    go_enter Try.func3, Try.ntmps3
    go_wp2_with fail
    refine (FEW.out _).mono ?_
    rintro e1 w1 ⟨rfl, rfl⟩
    go_wp2_with fail
    refine (HL.out _ q0).mono ?_
    rintro e2 w2 ⟨rfl, q2⟩
    have q2' := below_next q0 q0.size q2
    clear q2
    go_wp2_with fail
    refine (ALV.out w2).mono ?_
    rintro e3 w3 ⟨rfl, q3⟩
    go_wp2
    go_ret
    exact ⟨rfl, below_next q2' q2'.size q3⟩
end Go.Proofs.Ytbdgifngldipcaa
