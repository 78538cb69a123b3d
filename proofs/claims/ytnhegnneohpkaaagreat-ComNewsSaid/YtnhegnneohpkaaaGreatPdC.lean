/- The walk of pdu.Right. -/
import Derived.Test.YtnhegnneohpkaaaGreatMgPdB
namespace Go.Proofs.YtnhegnneohpkaaaGreat
open Go.ChangeShapes Go.WideShapes Go.ChangeAt Go.RowKit
open SG PD

set_option maxRecDepth 100000 in
theorem right1_any (lb : Nat) (n : Int) (s : Sg) (w : World) (h : w.cell? ⟨lb, 0, none⟩ = some (.int .i64 n)) (hlb : lb < w.heap.size) :
    Calls Tryz.prog 81 #[.agg #[.int .i64 s.start, .int .i64 s.width, .bool s.big, .bool s.sgn], .pointer (some ⟨lb, 0, none⟩)] w fun e w' => e = .returned (.bool (!rightS s n)) ∧ Below w.heap.size w w' := by
  have R := hide (fun W => sigRight_any s n W)
  generalize rightS s n = x at *
  obtain ⟨st, wd, bg, sg⟩ := s
  dsimp only at *
  have q0 : Below w.heap.size w (w.alloc (.cells #[.int .i64 st, .int .i64 wd, .bool bg, .bool sg] 23)) := (Below.refl _ _).alloc (Nat.le_refl _) _
  have h2 := cellBelow q0 hlb h
  go_enter Tryz.func81, Tryz.ntmps81
  go_wp2_with fail
  (with_reducible refine (R.out _).mono ?_)
  rintro e1 w1 ⟨rfl, q1⟩
  have q := below_next q0 q0.size q1
  clear q0 q1 h2
  go_wp2_with fail
  go_ret
  exact ⟨rfl, q⟩
set_option maxRecDepth 100000 in
theorem right2_any (lb : Nat) (n : Int) (a : Int) (w : World) (h : w.cell? ⟨lb, 0, none⟩ = some (.int .i64 n)) (h0 : 0 ≤ n) (h8 : n ≤ 8) :
    Calls Tryz.prog 84 #[.int .i64 a, .pointer (some ⟨lb, 0, none⟩)] w fun e w' => e = .returned (.bool (!decide (-1 ≤ a ∧ a < 8 * n))) ∧ Below w.heap.size w w' := by
  by_cases h1 : a < -1
  · rw [decide_eq_false (by omega)]
    go_enter Tryz.func84, Tryz.ntmps84
    go_wp2_with fail
    go_ret
    exact ⟨rfl, Below.refl _ _⟩
  · by_cases h2 : a < 8 * n
    · rw [decide_eq_true (by omega)]
      go_enter Tryz.func84, Tryz.ntmps84
      go_wp2_with fail
      go_ret
      refine ⟨?_, Below.refl _ _⟩
      refine ret_bool ?_
      (simp <;> omega)
    · rw [decide_eq_false (by omega)]
      go_enter Tryz.func84, Tryz.ntmps84
      go_wp2_with fail
      go_ret
      refine ⟨?_, Below.refl _ _⟩
      refine ret_bool ?_
      (simp <;> omega)

theorem right_parts (L : Ly) (h1 : 0 ≤ L.size) (h2 : L.size ≤ 8) (h3 : L.sgs.length ≤ 16) (h4 : L.nws.length = L.sgs.length) :
    rightB L = (!(L.sgs.any fun s => !rightS s L.size) && (!(L.nws.any fun a => !decide (-1 ≤ a ∧ a < 8 * L.size)) && eqA (fun p => min (cntL L.sgs L.nws p) 1) (cntL L.sgs L.nws))) := by
  rw [Bool.eq_iff_iff, right_iff]
  simp only [Bool.and_eq_true, Bool.not_eq_true', List.any_eq_false, eqA_iff]
  constructor
  · rintro ⟨_, _, _, _, a, b, c⟩
    exact ⟨fun s hs => by simpa using a s hs, fun x hx => by simpa using b x hx, fun p hp => by have := c p hp; omega⟩
  · rintro ⟨a, b, c⟩
    exact ⟨h1, h2, h3, h4, fun s hs => by simpa using a s hs, fun x hx => by simpa using b x hx, fun p hp => by have := c p hp; omega⟩

theorem right_no (L : Ly) (h : ¬ (0 ≤ L.size ∧ L.size ≤ 8 ∧ L.sgs.length ≤ 16 ∧ L.nws.length = L.sgs.length)) : rightB L = false := by
  cases hr : rightB L with
  | false => rfl
  | true =>
    have := right_iff.1 hr
    exact absurd ⟨this.1, this.2.1, this.2.2.1, this.2.2.2.1⟩ h

set_option maxRecDepth 100000 in
set_option maxHeartbeats 4000000 in
theorem pduRight_any (L : Ly) (A : Option Addr) (c : Nat) (B : Option Addr) (d : Nat) (w : World) (hA : SgR w w.heap.size A L.sgs) (hB : InR w w.heap.size B L.nws) (hs : L.sgs.length ≤ 1000) (hn : L.nws.length ≤ 1000) (hc : L.sgs.length ≤ c) (hd : L.nws.length ≤ d) :
    Calls Tryz.prog 49 #[.agg (lyV L A c B d)] w fun e w' => e = .returned (.bool (rightB L)) ∧ Below w.heap.size w w' := by
  have q0 : Below w.heap.size w (w.alloc (.cells (lyV L A c B d) 27)) := (Below.refl _ _).alloc (Nat.le_refl _) _
  by_cases hp : 0 ≤ L.size ∧ L.size ≤ 8 ∧ L.sgs.length ≤ 16 ∧ L.nws.length = L.sgs.length
  · obtain ⟨h1, h2, h3, h4⟩ := hp
    rw [right_parts L h1 h2 h3 h4]
    have CS := hide (fun lb (W : World) (hb : Below w.heap.size w W) (hcell : W.cell? ⟨lb, 0, none⟩ = some (.int .i64 L.size)) (hlb : lb < W.heap.size) => containsSg_any 81 lb (fun s => !rightS s L.size) (fun _ _ => rfl) L.sgs A c W (Rd.next hA hb hb.size) hs (hide (fun s _ W2 hb2 => right1_any lb L.size s W2 (cellBelow hb2 hlb hcell) (Nat.lt_of_lt_of_le hlb hb2.size))))
    have CI := hide (fun lb (W : World) (hb : Below w.heap.size w W) (hcell : W.cell? ⟨lb, 0, none⟩ = some (.int .i64 L.size)) (hlb : lb < W.heap.size) => containsIn_any 84 lb (fun a => !decide (-1 ≤ a ∧ a < 8 * L.size)) (fun _ _ => rfl) L.nws B d W (Rd.next hB hb hb.size) hn (hide (fun a _ W2 hb2 => right2_any lb L.size a W2 (cellBelow hb2 hlb hcell) h1 h2)))
    have US := hide (fun (W : World) (hb : Below w.heap.size w W) => used_any L A c B d W (Rd.next hA hb hb.size) (Rd.next hB hb hb.size) hs hn hc hd)
    have B0 := hide (World.alloc_heap_new w (.cells (lyV L A c B d) 27))
    generalize (L.sgs.any fun s => !rightS s L.size) = b1 at *
    generalize (L.nws.any fun a => !decide (-1 ≤ a ∧ a < 8 * L.size)) = b2 at *
    generalize cntL L.sgs L.nws = g at *
    clear hA hB
    unfold lyV at *
    have hli : (L.sgs.length : Int) ≤ 16 := by omega
    have hn4 : ((L.nws.length : Int) == (L.sgs.length : Int)) = true := by rw [beq_iff_eq]; omega
    have hn5 : ((L.nws.length : Int) != (L.sgs.length : Int)) = false := by simp [bne, hn4]
    clear h4
    obtain ⟨c0, c1, c2⟩ := three_cells B0.out
    have Q0 := hide q0
    have hz0 : w.heap.size < (w.alloc (.cells #[.int .i64 L.size, .slice A L.sgs.length c, .slice B L.nws.length d] 27)).heap.size := by simp
    have Z0 := hide (hz0)
    clear q0 hz0
    have C0 := hide c0
    generalize hw0 : w.alloc (.cells #[.int .i64 L.size, .slice A L.sgs.length c, .slice B L.nws.length d] 27) = w0 at *
    go_enter Tryz.func49, Tryz.ntmps49
    go_wp2_with fail
    (with_reducible refine (CS.out w.heap.size w0 Q0.out C0.out Z0.out).mono ?_)
    rintro e1 w1 ⟨rfl, q1⟩
    have Q1 := hide (below_next Q0.out Q0.out.size q1)
    have B1 := hide (heap_below B0.out q1)
    clear c0 c1 c2 CS hn4 hn5 q1 hw0 B0 C0 Z0
    obtain ⟨c0, c1, c2⟩ := three_cells B1.out
    have C1 := hide c0
    have Z1 := hide (heap_lt B1.out)
    cases b1 with
    | true =>
      go_wp2_with fail
      go_ret
      exact ⟨rfl, Q1.out⟩
    | false =>
      go_wp2_with fail
      (with_reducible refine (CI.out w.heap.size w1 Q1.out C1.out Z1.out).mono ?_)
      rintro e2 w2 ⟨rfl, q2⟩
      have Q2 := hide (below_next Q1.out Q1.out.size q2)
      have B2 := hide (heap_below B1.out q2)
      clear c0 c1 c2 CI q2 B1 C1 Z1
      obtain ⟨c0, c1, c2⟩ := three_cells B2.out
      cases b2 with
      | true =>
        go_wp2_with fail
        go_ret
        exact ⟨rfl, Q2.out⟩
      | false =>
        go_wp2_with fail
        (with_reducible refine (US.out w2 Q2.out).mono ?_)
        rintro e3 w3 ⟨rfl, q3⟩
        have Q3 := hide (below_next Q2.out Q2.out.size q3)
        have B3 := hide (heap_below B2.out q3)
        clear c0 c1 c2 q3 B2
        have A3 := hide (show ArB (w3.alloc (.cells (arL fun _ => 0).toArray 141)) w3.heap.size (fun _ => 0) from World.alloc_heap_new w3 _)
        have TH : Hid ((w3.alloc (.cells (arL fun _ => 0).toArray 141)).there w3.heap.size 0 (arL g).length) := by
          have := there_heap A3.out
          rw [arL_len] at this ⊢
          exact this
        go_wp2_with (refine wpList_store_hid (by rfl) 141 (.tmp 3) (.tmp 37) (by rfl) w3.heap.size 0 (arL g) (by rfl) (by rfl) (by exact TH.out) (by rw [arL_len]; kernel_rfl) (by exact arL_one _) ?_)
        intro w4 e4
        have qa : Below w3.heap.size w3 (w3.alloc (.cells (arL fun _ => 0).toArray 141)) := (Below.refl _ _).alloc (Nat.le_refl _) _
        have A4 : Hid (ArB w4 w3.heap.size g) := by
          have := whole_heap (arL g) A3.out (by rw [arL_len, arL_len])
          have e := e4.out
          unfold ArB
          rw [e]
          exact this
        have q4 : Below w3.heap.size w3 w4 := by
          rw [e4.out]
          exact qa.trans (below_setCells (g := w3.heap.size) _ 0 _ (Nat.le_refl _))
        have B4 := hide (heap_below B3.out q4)
        have Q4 := hide (below_next Q3.out Q3.out.size q4)
        have zb : w.heap.size < w3.heap.size := heap_lt B3.out
        clear e4 qa q4 TH A3 B3 Q3
        generalize w3.heap.size = ob at *
        go_wp2_with fail
        go_loopw [38] (fun vi W => ∃ k : Nat, k ≤ 64 ∧ vi = .int .i64 k ∧ Hid (ArB W ob (fun p => if p < k then min (g p) 1 else g p)) ∧ Hid (W.heap[w.heap.size]? = some (.cells #[.int .i64 L.size, .slice A L.sgs.length c, .slice B L.nws.length d] 27 (0, 0))) ∧ Hid (Below w.heap.size w W)) (fun vi _ => 64 - (intOf vi).toNat)
        case atStart => exact ⟨0, Nat.zero_le _, rfl, hide (A4.out.congr (fun p _ => by simp)), B4, Q4⟩
        case round =>
          obtain ⟨k, hk, rfl, hA, hB, hQ⟩ := hrel
          clear A4 B4 Q4
          by_cases hlt : k < 64
          · have hki : (k : Int) < 64 := by omega
            obtain ⟨e0, e1⟩ := hA.out.cell hlt
            have hgk : (if k < k then min (g k) 1 else g k) = g k := by rw [if_neg (by omega)]
            rw [hgk] at e0
            obtain ⟨m, em, hm⟩ := run_min (P := Tryz.prog) (g k : Int) 1
            have em2 : m = ((min (g k) 1 : Nat) : Int) := by omega
            have AN := hide ((hA.out.set k (min (g k) 1)).congr (h := fun p => if p < k + 1 then min (g p) 1 else g p) (fun p _ => by
              by_cases e : p = k
              · subst e; simp
              · rw [if_neg e]
                by_cases h : p < k
                · rw [if_pos h, if_pos (by omega)]
                · rw [if_neg h, if_neg (by omega)]))
            have BN : Hid ((wr.setCell ⟨ob, k, none⟩ (.int .i64 ((min (g k) 1 : Nat) : Int))).heap[w.heap.size]? = some (.cells #[.int .i64 L.size, .slice A L.sgs.length c, .slice B L.nws.length d] 27 (0, 0))) := by
              have := hB.out
              rw [← heap_setCell_other wr ⟨ob, k, none⟩ w.heap.size (.int .i64 ((min (g k) 1 : Nat) : Int)) (show w.heap.size ≠ ob by omega)] at this
              exact this
            have QN := hide (hQ.out.setCell (p := ⟨ob, k, none⟩) (show w.heap.size ≤ ob by omega) (.int .i64 ((min (g k) 1 : Nat) : Int)))
            rw [em2] at hm
            clear em em2 hgk hA hB hQ
            generalize ((min (g k) 1 : Nat) : Int) = m1 at *
            go_wp2_with fail
            go_roundw
            case rel => exact ⟨k + 1, by omega, by go_num, AN, BN, QN⟩
            case measure => simp [intOf]; omega
          · obtain rfl : k = 64 := by omega
            have AF := hide (hA.out.congr (h := fun p => min (g p) 1) (fun p hp => by rw [if_pos hp]))
            clear hA
            go_wp2_with fail
            refine wp_region_L [0, 1] [(0, fun W => ArB W ob (fun p => min (g p) 1)), (1, fun W => W.heap[w.heap.size]? = some (.cells #[.int .i64 L.size, .slice A L.sgs.length c, .slice B L.nws.length d] 27 (0, 0)))] (by kernel_rfl) ?_
            replace AF : Hid (ArB wr.drew ob (fun p => min (g p) 1)) := AF
            replace hB : Hid (wr.drew.heap[w.heap.size]? = some (.cells #[.int .i64 L.size, .slice A L.sgs.length c, .slice B L.nws.length d] 27 (0, 0))) := hB
            replace hQ : Hid (Below w.heap.size w wr.drew) := hide hQ.out.drew
            generalize wr.drew = wx at *
            have EQ := hide (fun W => run_equalIn_counts (P := Tryz.prog) W 9998 141 3 Tryz.underlying141 Tryz.underlying3 (fun W => by kernel_rfl) (fun p => min (g p) 1) g)
            have hEG : Tryz.prog.eqGuardType Tryz.prog.depth 141 = false := by kernel_rfl
            refine wpAnyL_load (i := 0) (v := .agg (arL (fun p => min (g p) 1)).toArray) rfl rfl (by kernel_rfl) (by kernel_rfl) (by kernel_rfl) (by kernel_rfl) (by kernel_rfl) (fun _ _ _ h => h) rfl (fun W h => exec_load W ob 0 141 (arL (fun p => min (g p) 1)) _ (range_heap h) Tryz.underlying141 rfl (by rw [arL_len]; kernel_rfl) _ _ (.tmp 3) (by rfl) (by rfl)) (AF.out) ?_
            refine wpAnyL_load (i := 1) (v := .agg #[.int .i64 L.size, .slice A L.sgs.length c, .slice B L.nws.length d]) rfl rfl (by kernel_rfl) (by kernel_rfl) (by kernel_rfl) (by kernel_rfl) (by kernel_rfl) (fun _ _ _ h => h) rfl (fun W h => exec_heap W w.heap.size 27 _ _ h Tryz.underlying27 rfl (by kernel_rfl) _ _ (.tmp 1) (by rfl) (by rfl)) (hB.out) ?_
            generalize hAL : (arL (fun p => min (g p) 1)).toArray = al at *
            go_simp
            refine wpAnyL_one (i := 2) (by kernel_rfl) ?_
            refine wpOp_do rfl rfl ?_
            go_simp
            go_at_call 85
            refine (US.out wx hQ.out).mono ?_
            rintro e5 w5 ⟨rfl, q5⟩
            have AF5 := heap_below AF.out q5
            have Q5 := hide (below_next hQ.out hQ.out.size q5)
            refine ⟨keepsL_mk (by kernel_rfl) (.cons AF5 (.past (by kernel_rfl) .nil)), ?_⟩
            have EQ5 := EQ.out w5
            simp only [Nat.reduceAdd] at EQ5
            generalize (arL g).toArray = ag at *
            clear AF5 q5 US
            go_simp
            refine wpAnyL_one (i := 3) (by kernel_rfl) ?_
            refine wpOp_do rfl rfl ?_
            go_simp
            refine ⟨keepsL_all (by kernel_rfl) (by kernel_rfl), ?_⟩
            go_simp
            refine wpAnyL_one (i := 4) (by kernel_rfl) ?_
            refine wpOp_do rfl rfl ?_
            go_simp
            refine ⟨keepsL_all (by kernel_rfl) (by kernel_rfl), ?_⟩
            go_simp
            refine wpAnyL_done (by kernel_rfl) ?_ _
            go_wp2_with fail
            go_ret
            exact ⟨rfl, Q5.out⟩
  · rw [right_no L hp]
    clear hA hB
    unfold lyV at *
    by_cases h1 : L.size < 0
    · clear hp
      go_enter Tryz.func49, Tryz.ntmps49
      go_wp2_with fail
      go_ret
      exact ⟨rfl, q0⟩
    by_cases h2 : 8 < L.size
    · clear hp
      go_enter Tryz.func49, Tryz.ntmps49
      go_wp2_with fail
      go_ret
      exact ⟨rfl, q0⟩
    by_cases h3 : 16 < (L.sgs.length : Int)
    · clear hp
      go_enter Tryz.func49, Tryz.ntmps49
      go_wp2_with fail
      go_ret
      exact ⟨rfl, q0⟩
    have h4 : ((L.nws.length : Int) == (L.sgs.length : Int)) = false := by rw [beq_eq_false_iff_ne]; intro e; exact hp ⟨by omega, by omega, by omega, by omega⟩
    have h5 : ((L.nws.length : Int) != (L.sgs.length : Int)) = true := by simp [bne, h4]
    clear hp
    go_enter Tryz.func49, Tryz.ntmps49
    go_wp2_with fail
    go_ret
    exact ⟨rfl, q0⟩
end Go.Proofs.YtnhegnneohpkaaaGreat
