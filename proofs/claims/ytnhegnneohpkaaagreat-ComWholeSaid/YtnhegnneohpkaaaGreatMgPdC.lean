/- The walk of pdu.Right. -/
import Derived.Test.YtnhegnneohpkaaaGreatMgPdB
import Derived.Ground.NamesProg
import Derived.Shelf.Strings.Repeat
import Derived.Test.YtnhegnneohpkaaaGreatChecked
import Derived.Test.YtnhegnneohpkaaaGreatMem
namespace Go.Proofs.YtnhegnneohpkaaaGreat
open Go.ChangeShapes Go.WideShapes Go.ChangeAt Go.RowKit
open SG PD

set_option maxRecDepth 100000 in
theorem right1_any (lb : Nat) (n : Int) (s : Sg) (w : World) (h : w.cell? ⟨lb, 0, none⟩ = some (.int .i64 n)) (hlb : lb < w.heap.size) :
    Calls Tryz.prog 81 #[.agg #[.int .i64 s.start, .int .i64 s.width, .bool s.big, .bool s.sgn], .pointer (some ⟨lb, 0, none⟩)] w fun e w' => e = .returned (.bool (!rightS s n)) ∧ Below w.heap.size w w' := by
  have R := hide (fun W => sigRight_any s n W)
  generalize rightS s n = x at *
  obtain ⟨st, wd, bg, sg⟩ := s
  dsimp only at *
  have q0 : Below w.heap.size w (w.alloc (.cells #[.int .i64 st, .int .i64 wd, .bool bg, .bool sg] 23)) := (Below.refl _ _).alloc (Nat.le_refl _) _
  have h2 := cellBelow q0 hlb h
  go_enter Tryz.func81, Tryz.ntmps81
  go_wp2_with fail
  (with_reducible refine (R.out _).mono ?_)
  rintro e1 w1 ⟨rfl, q1⟩
  have q := below_next q0 q0.size q1
  clear q0 q1 h2
  go_wp2_with fail
  go_ret
  exact ⟨rfl, q⟩
set_option maxRecDepth 100000 in
theorem right2_any (lb : Nat) (n : Int) (a : Int) (w : World) (h : w.cell? ⟨lb, 0, none⟩ = some (.int .i64 n)) (h0 : 0 ≤ n) (h8 : n ≤ 8) :
    Calls Tryz.prog 84 #[.int .i64 a, .pointer (some ⟨lb, 0, none⟩)] w fun e w' => e = .returned (.bool (!decide (-1 ≤ a ∧ a < 8 * n))) ∧ Below w.heap.size w w' := by
  by_cases h1 : a < -1
  · rw [decide_eq_false (by omega)]
    go_enter Tryz.func84, Tryz.ntmps84
    go_wp2_with fail
    go_ret
    exact ⟨rfl, Below.refl _ _⟩
  · by_cases h2 : a < 8 * n
    · rw [decide_eq_true (by omega)]
      go_enter Tryz.func84, Tryz.ntmps84
      go_wp2_with fail
      go_ret
      refine ⟨?_, Below.refl _ _⟩
      refine ret_bool ?_
      (simp <;> omega)
    · rw [decide_eq_false (by omega)]
      go_enter Tryz.func84, Tryz.ntmps84
      go_wp2_with fail
      go_ret
      refine ⟨?_, Below.refl _ _⟩
      refine ret_bool ?_
      (simp <;> omega)

theorem right_parts (L : Ly) (h1 : 0 ≤ L.size) (h2 : L.size ≤ 8) (h3 : L.sgs.length ≤ 16) (h4 : L.nws.length = L.sgs.length) :
    rightB L = (!(L.sgs.any fun s => !rightS s L.size) && (!(L.nws.any fun a => !decide (-1 ≤ a ∧ a < 8 * L.size)) && eqA (fun p => min (cntL L.sgs L.nws p) 1) (cntL L.sgs L.nws))) := by
  rw [Bool.eq_iff_iff, right_iff]
  simp only [Bool.and_eq_true, Bool.not_eq_true', List.any_eq_false, eqA_iff]
  constructor
  · rintro ⟨_, _, _, _, a, b, c⟩
    exact ⟨fun s hs => by simpa using a s hs, fun x hx => by simpa using b x hx, fun p hp => by have := c p hp; omega⟩
  · rintro ⟨a, b, c⟩
    exact ⟨h1, h2, h3, h4, fun s hs => by simpa using a s hs, fun x hx => by simpa using b x hx, fun p hp => by have := c p hp; omega⟩

theorem right_no (L : Ly) (h : ¬ (0 ≤ L.size ∧ L.size ≤ 8 ∧ L.sgs.length ≤ 16 ∧ L.nws.length = L.sgs.length)) : rightB L = false := by
  cases hr : rightB L with
  | false => rfl
  | true =>
    have := right_iff.1 hr
    exact absurd ⟨this.1, this.2.1, this.2.2.1, this.2.2.2.1⟩ h

set_option maxRecDepth 100000 in
set_option maxHeartbeats 4000000 in
theorem pduRight_any (L : Ly) (A : Option Addr) (c : Nat) (B : Option Addr) (d : Nat) (w : World) (hA : SgR w w.heap.size A L.sgs) (hB : InR w w.heap.size B L.nws) (hs : L.sgs.length ≤ 1000) (hn : L.nws.length ≤ 1000) (hc : L.sgs.length ≤ c) (hd : L.nws.length ≤ d) :
    Calls Tryz.prog 49 #[.agg (lyV L A c B d)] w fun e w' => e = .returned (.bool (rightB L)) ∧ Below w.heap.size w w' := by
  have q0 : Below w.heap.size w (w.alloc (.cells (lyV L A c B d) 27)) := (Below.refl _ _).alloc (Nat.le_refl _) _
  by_cases hp : 0 ≤ L.size ∧ L.size ≤ 8 ∧ L.sgs.length ≤ 16 ∧ L.nws.length = L.sgs.length
  · obtain ⟨h1, h2, h3, h4⟩ := hp
    rw [right_parts L h1 h2 h3 h4]
    have CS := hide (fun lb (W : World) (hb : Below w.heap.size w W) (hcell : W.cell? ⟨lb, 0, none⟩ = some (.int .i64 L.size)) (hlb : lb < W.heap.size) => containsSg_any 81 lb (fun s => !rightS s L.size) (fun _ _ => rfl) L.sgs A c W (Rd.next hA hb hb.size) hs (hide (fun s _ W2 hb2 => right1_any lb L.size s W2 (cellBelow hb2 hlb hcell) (Nat.lt_of_lt_of_le hlb hb2.size))))
    have CI := hide (fun lb (W : World) (hb : Below w.heap.size w W) (hcell : W.cell? ⟨lb, 0, none⟩ = some (.int .i64 L.size)) (hlb : lb < W.heap.size) => containsIn_any 84 lb (fun a => !decide (-1 ≤ a ∧ a < 8 * L.size)) (fun _ _ => rfl) L.nws B d W (Rd.next hB hb hb.size) hn (hide (fun a _ W2 hb2 => right2_any lb L.size a W2 (cellBelow hb2 hlb hcell) h1 h2)))
    have US := hide (fun (W : World) (hb : Below w.heap.size w W) => used_any L A c B d W (Rd.next hA hb hb.size) (Rd.next hB hb hb.size) hs hn hc hd)
    have B0 := hide (World.alloc_heap_new w (.cells (lyV L A c B d) 27))
    generalize (L.sgs.any fun s => !rightS s L.size) = b1 at *
    generalize (L.nws.any fun a => !decide (-1 ≤ a ∧ a < 8 * L.size)) = b2 at *
    generalize cntL L.sgs L.nws = g at *
    clear hA hB
    unfold lyV at *
    have hli : (L.sgs.length : Int) ≤ 16 := by omega
    have hn4 : ((L.nws.length : Int) == (L.sgs.length : Int)) = true := by rw [beq_iff_eq]; omega
    have hn5 : ((L.nws.length : Int) != (L.sgs.length : Int)) = false := by simp [bne, hn4]
    clear h4
    obtain ⟨c0, c1, c2⟩ := three_cells B0.out
    have Q0 := hide q0
    have hz0 : w.heap.size < (w.alloc (.cells #[.int .i64 L.size, .slice A L.sgs.length c, .slice B L.nws.length d] 27)).heap.size := by simp
    have Z0 := hide (hz0)
    clear q0 hz0
    have C0 := hide c0
    generalize hw0 : w.alloc (.cells #[.int .i64 L.size, .slice A L.sgs.length c, .slice B L.nws.length d] 27) = w0 at *
    go_enter Tryz.func49, Tryz.ntmps49
    go_wp2_with fail
    (with_reducible refine (CS.out w.heap.size w0 Q0.out C0.out Z0.out).mono ?_)
    rintro e1 w1 ⟨rfl, q1⟩
    have Q1 := hide (below_next Q0.out Q0.out.size q1)
    have B1 := hide (heap_below B0.out q1)
    clear c0 c1 c2 CS hn4 hn5 q1 hw0 B0 C0 Z0
    obtain ⟨c0, c1, c2⟩ := three_cells B1.out
    have C1 := hide c0
    have Z1 := hide (heap_lt B1.out)
    cases b1 with
    | true =>
      go_wp2_with fail
      go_ret
      exact ⟨rfl, Q1.out⟩
    | false =>
      go_wp2_with fail
      (with_reducible refine (CI.out w.heap.size w1 Q1.out C1.out Z1.out).mono ?_)
      rintro e2 w2 ⟨rfl, q2⟩
      have Q2 := hide (below_next Q1.out Q1.out.size q2)
      have B2 := hide (heap_below B1.out q2)
      clear c0 c1 c2 CI q2 B1 C1 Z1
      obtain ⟨c0, c1, c2⟩ := three_cells B2.out
      cases b2 with
      | true =>
        go_wp2_with fail
        go_ret
        exact ⟨rfl, Q2.out⟩
      | false =>
        go_wp2_with fail
        (with_reducible refine (US.out w2 Q2.out).mono ?_)
        rintro e3 w3 ⟨rfl, q3⟩
        have Q3 := hide (below_next Q2.out Q2.out.size q3)
        have B3 := hide (heap_below B2.out q3)
        clear c0 c1 c2 q3 B2
        have A3 := hide (show ArB (w3.alloc (.cells (arL fun _ => 0).toArray 141)) w3.heap.size (fun _ => 0) from World.alloc_heap_new w3 _)
        have TH : Hid ((w3.alloc (.cells (arL fun _ => 0).toArray 141)).there w3.heap.size 0 (arL g).length) := by
          have := there_heap A3.out
          rw [arL_len] at this ⊢
          exact this
        go_wp2_with (refine wpList_store_hid (by rfl) 141 (.tmp 3) (.tmp 37) (by rfl) w3.heap.size 0 (arL g) (by rfl) (by rfl) (by exact TH.out) (by rw [arL_len]; kernel_rfl) (by exact arL_one _) ?_)
        intro w4 e4
        have qa : Below w3.heap.size w3 (w3.alloc (.cells (arL fun _ => 0).toArray 141)) := (Below.refl _ _).alloc (Nat.le_refl _) _
        have A4 : Hid (ArB w4 w3.heap.size g) := by
          have := whole_heap (arL g) A3.out (by rw [arL_len, arL_len])
          have e := e4.out
          unfold ArB
          rw [e]
          exact this
        have q4 : Below w3.heap.size w3 w4 := by
          rw [e4.out]
          exact qa.trans (below_setCells (g := w3.heap.size) _ 0 _ (Nat.le_refl _))
        have B4 := hide (heap_below B3.out q4)
        have Q4 := hide (below_next Q3.out Q3.out.size q4)
        have zb : w.heap.size < w3.heap.size := heap_lt B3.out
        clear e4 qa q4 TH A3 B3 Q3
        generalize w3.heap.size = ob at *
        go_wp2_with fail
        go_loopw [38] (fun vi W => ∃ k : Nat, k ≤ 64 ∧ vi = .int .i64 k ∧ Hid (ArB W ob (fun p => if p < k then min (g p) 1 else g p)) ∧ Hid (W.heap[w.heap.size]? = some (.cells #[.int .i64 L.size, .slice A L.sgs.length c, .slice B L.nws.length d] 27 (0, 0))) ∧ Hid (Below w.heap.size w W)) (fun vi _ => 64 - (intOf vi).toNat)
        case atStart => exact ⟨0, Nat.zero_le _, rfl, hide (A4.out.congr (fun p _ => by simp)), B4, Q4⟩
        case round =>
          obtain ⟨k, hk, rfl, hA, hB, hQ⟩ := hrel
          clear A4 B4 Q4
          by_cases hlt : k < 64
          · have hki : (k : Int) < 64 := by omega
            obtain ⟨e0, e1⟩ := hA.out.cell hlt
            have hgk : (if k < k then min (g k) 1 else g k) = g k := by rw [if_neg (by omega)]
            rw [hgk] at e0
            obtain ⟨m, em, hm⟩ := run_min (P := Tryz.prog) (g k : Int) 1
            have em2 : m = ((min (g k) 1 : Nat) : Int) := by omega
            have AN := hide ((hA.out.set k (min (g k) 1)).congr (h := fun p => if p < k + 1 then min (g p) 1 else g p) (fun p _ => by
              by_cases e : p = k
              · subst e; simp
              · rw [if_neg e]
                by_cases h : p < k
                · rw [if_pos h, if_pos (by omega)]
                · rw [if_neg h, if_neg (by omega)]))
            have BN : Hid ((wr.setCell ⟨ob, k, none⟩ (.int .i64 ((min (g k) 1 : Nat) : Int))).heap[w.heap.size]? = some (.cells #[.int .i64 L.size, .slice A L.sgs.length c, .slice B L.nws.length d] 27 (0, 0))) := by
              have := hB.out
              rw [← heap_setCell_other wr ⟨ob, k, none⟩ w.heap.size (.int .i64 ((min (g k) 1 : Nat) : Int)) (show w.heap.size ≠ ob by omega)] at this
              exact this
            have QN := hide (hQ.out.setCell (p := ⟨ob, k, none⟩) (show w.heap.size ≤ ob by omega) (.int .i64 ((min (g k) 1 : Nat) : Int)))
            rw [em2] at hm
            clear em em2 hgk hA hB hQ
            generalize ((min (g k) 1 : Nat) : Int) = m1 at *
            go_wp2_with fail
            go_roundw
            case rel => exact ⟨k + 1, by omega, by go_num, AN, BN, QN⟩
            case measure => simp [intOf]; omega
          · obtain rfl : k = 64 := by omega
            have AF := hide (hA.out.congr (h := fun p => min (g p) 1) (fun p hp => by rw [if_pos hp]))
            clear hA
            go_wp2_with fail
            refine wp_region_L [0, 1] [(0, fun W => ArB W ob (fun p => min (g p) 1)), (1, fun W => W.heap[w.heap.size]? = some (.cells #[.int .i64 L.size, .slice A L.sgs.length c, .slice B L.nws.length d] 27 (0, 0)))] (by kernel_rfl) ?_
            replace AF : Hid (ArB wr.drew ob (fun p => min (g p) 1)) := AF
            replace hB : Hid (wr.drew.heap[w.heap.size]? = some (.cells #[.int .i64 L.size, .slice A L.sgs.length c, .slice B L.nws.length d] 27 (0, 0))) := hB
            replace hQ : Hid (Below w.heap.size w wr.drew) := hide hQ.out.drew
            generalize wr.drew = wx at *
            have EQ := hide (fun W => run_equalIn_counts (P := Tryz.prog) W 9998 141 3 Tryz.underlying141 Tryz.underlying3 (fun W => by kernel_rfl) (fun p => min (g p) 1) g)
            have hEG : Tryz.prog.eqGuardType Tryz.prog.depth 141 = false := by kernel_rfl
            refine wpAnyL_load (i := 0) (v := .agg (arL (fun p => min (g p) 1)).toArray) rfl rfl (by kernel_rfl) (by kernel_rfl) (by kernel_rfl) (by kernel_rfl) (by kernel_rfl) (fun _ _ _ h => h) rfl (fun W h => exec_load W ob 0 141 (arL (fun p => min (g p) 1)) _ (range_heap h) Tryz.underlying141 rfl (by rw [arL_len]; kernel_rfl) _ _ (.tmp 3) (by rfl) (by rfl)) (AF.out) ?_
            refine wpAnyL_load (i := 1) (v := .agg #[.int .i64 L.size, .slice A L.sgs.length c, .slice B L.nws.length d]) rfl rfl (by kernel_rfl) (by kernel_rfl) (by kernel_rfl) (by kernel_rfl) (by kernel_rfl) (fun _ _ _ h => h) rfl (fun W h => exec_heap W w.heap.size 27 _ _ h Tryz.underlying27 rfl (by kernel_rfl) _ _ (.tmp 1) (by rfl) (by rfl)) (hB.out) ?_
            generalize hAL : (arL (fun p => min (g p) 1)).toArray = al at *
            go_simp
            refine wpAnyL_one (i := 2) (by kernel_rfl) ?_
            refine wpOp_do rfl rfl ?_
            go_simp
            go_at_call 85
            refine (US.out wx hQ.out).mono ?_
            rintro e5 w5 ⟨rfl, q5⟩
            have AF5 := heap_below AF.out q5
            have Q5 := hide (below_next hQ.out hQ.out.size q5)
            refine ⟨keepsL_mk (by kernel_rfl) (.cons AF5 (.past (by kernel_rfl) .nil)), ?_⟩
            have EQ5 := EQ.out w5
            simp only [Nat.reduceAdd] at EQ5
            generalize (arL g).toArray = ag at *
            clear AF5 q5 US
            go_simp
            refine wpAnyL_one (i := 3) (by kernel_rfl) ?_
            refine wpOp_do rfl rfl ?_
            go_simp
            refine ⟨keepsL_all (by kernel_rfl) (by kernel_rfl), ?_⟩
            go_simp
            refine wpAnyL_one (i := 4) (by kernel_rfl) ?_
            refine wpOp_do rfl rfl ?_
            go_simp
            refine ⟨keepsL_all (by kernel_rfl) (by kernel_rfl), ?_⟩
            go_simp
            refine wpAnyL_done (by kernel_rfl) ?_ _
            go_wp2_with fail
            go_ret
            exact ⟨rfl, Q5.out⟩
  · rw [right_no L hp]
    clear hA hB
    unfold lyV at *
    by_cases h1 : L.size < 0
    · clear hp
      go_enter Tryz.func49, Tryz.ntmps49
      go_wp2_with fail
      go_ret
      exact ⟨rfl, q0⟩
    by_cases h2 : 8 < L.size
    · clear hp
      go_enter Tryz.func49, Tryz.ntmps49
      go_wp2_with fail
      go_ret
      exact ⟨rfl, q0⟩
    by_cases h3 : 16 < (L.sgs.length : Int)
    · clear hp
      go_enter Tryz.func49, Tryz.ntmps49
      go_wp2_with fail
      go_ret
      exact ⟨rfl, q0⟩
    have h4 : ((L.nws.length : Int) == (L.sgs.length : Int)) = false := by rw [beq_eq_false_iff_ne]; intro e; exact hp ⟨by omega, by omega, by omega, by omega⟩
    have h5 : ((L.nws.length : Int) != (L.sgs.length : Int)) = true := by simp [bne, h4]
    clear hp
    go_enter Tryz.func49, Tryz.ntmps49
    go_wp2_with fail
    go_ret
    exact ⟨rfl, q0⟩
end Go.Proofs.YtnhegnneohpkaaaGreat

/- The walk of pdu.mark. -/
namespace Go.Proofs.YtnhegnneohpkaaaGreat
open Go.ChangeShapes Go.WideShapes Go.ChangeAt Go.RowKit
open SG PD

/-- A single bit as a signal. -/
def oneS (p : Nat) : Sg := ⟨p, 1, false, false⟩
theorem oneS_pl {p : Nat} (h : p < 64) : plL (oneS p) = [p] := by
  have hr : rawL (oneS p) = [p] := by
    unfold rawL oneS
    simp [seqL, List.range_succ, atN]
  unfold plL
  rw [hr, if_pos]
  refine ⟨?_, by simpa using h⟩
  rw [may_iff]
  unfold oneS
  refine ⟨?_, ?_, ?_, ?_, ?_⟩ <;> simp <;> omega
theorem oneS_well {p n : Nat} (h : p < 8 * n) (hn : n ≤ 8) : wellF n (oneS p) = 0 := by
  have hp : plL (oneS p) = [p] := oneS_pl (by omega)
  have hr : rightS (oneS p) n = true := by
    rw [rightS_iff, hp]
    refine ⟨by simp, by omega, by omega, ?_⟩
    intro q hq
    rw [List.mem_singleton] at hq
    omega
  unfold wellF
  rw [if_neg (by rw [hp]; simp), if_neg]
  rintro (h1 | h1)
  · omega
  · rw [hr] at h1; cases h1
theorem oneS_put (l : List UInt8) {p : Nat} (h : p < 64) (v : Int) : putF l (plL (oneS p)) v = setB l p (vbit v 0) := by
  rw [oneS_pl h]
  rfl

set_option maxRecDepth 100000 in
theorem mark_any (d : ByteArray) (p : Nat) (b : Bool) (w : World) (hp : p < 8 * d.size) (hd : d.size ≤ 8) :
    Calls Tryz.prog 74 #[.string d, .int .i64 p, .bool b] w fun e w' => e = .returned (.string ⟨(setB d.data.toList p b).toArray⟩) ∧ Below w.heap.size w w' := by
  cases b with
  | true =>
    have PT := hide (fun W => put_ok d (oneS p) 1 W (by omega) (by omega) (by omega) (oneS_well hp hd) (by unfold fitsB oneS; simp))
    rw [oneS_put _ (by omega)] at PT
    have e1 : vbit 1 0 = true := by decide
    rw [e1] at PT
    unfold oneS at PT
    go_enter Tryz.func74, Tryz.ntmps74
    go_wp2_with fail
    (with_reducible refine (PT.out _).mono ?_)
    rintro e1 w1 ⟨rfl, q1⟩
    go_wp2_with fail
    go_ret
    exact ⟨rfl, q1⟩
  | false =>
    have PT := hide (fun W => put_ok d (oneS p) 0 W (by omega) (by omega) (by omega) (oneS_well hp hd) (by unfold fitsB oneS; simp))
    rw [oneS_put _ (by omega)] at PT
    have e1 : vbit 0 0 = false := by decide
    rw [e1] at PT
    unfold oneS at PT
    go_enter Tryz.func74, Tryz.ntmps74
    go_wp2_with fail
    (with_reducible refine (PT.out _).mono ?_)
    rintro e1 w1 ⟨rfl, q1⟩
    go_wp2_with fail
    go_ret
    exact ⟨rfl, q1⟩
end Go.Proofs.YtnhegnneohpkaaaGreat

/-
  DERIVED: THE SHELF's CONTRACTS AT THIS DUMP, IN PLAIN WORDS (tools/lay-plain.mjs out of 'TryzShelf.lean', which tools/lay-shelf.mjs wrote): THE SAME DECLARATIONS UNDER THE SAME NAMES: 'import', 'namespace', 'open', 'def', 'theorem' AND NOTHING ELSE: no command of the shelf's: FOR A HAND-IN. Each laying: the table of numbers ('.._ren') and one theorem, a field a fact of the dump's own or the kernel's comparison; each contract: ONE APPLICATION.
-/
namespace Go.Proofs
open Go.Shelf
def Tryz.lays105_ren : Go.Shelf.Ren := ⟨fun | 105 => 72 | 212 => 96 | 99 => 97 | 165 => 98 | 166 => 99 | 170 => 100 | 169 => 101 | 263 => 115 | 264 => 116 | 206 => 117 | 240 => 118 | 241 => 119 | 276 => 120 | 277 => 121 | n => n, fun | 9 => 9 | 3 => 3 | 4 => 4 | 20 => 20 | 0 => 0 | 46 => 154 | 109 => 155 | 5 => 5 | 72 => 160 | 76 => 164 | 51 => 175 | 146 => 176 | 53 => 169 | 148 => 178 | 70 => 158 | 37 => 132 | 75 => 163 | 127 => 180 | 164 => 181 | 80 => 167 | n => n, fun | n => n⟩
theorem Tryz.lays105 : Go.Proofs.Lays.n105 Tryz.prog Tryz.lays105_ren := {
  mixed := by kernel_rfl
  f99 := Tryz.func97.trans (congrArg some (by kernel_rfl))
  f105 := Tryz.func72.trans (congrArg some (by kernel_rfl))
  f165 := Tryz.func98.trans (congrArg some (by kernel_rfl))
  f166 := Tryz.func99.trans (congrArg some (by kernel_rfl))
  f169 := Tryz.func101.trans (congrArg some (by kernel_rfl))
  f170 := Tryz.func100.trans (congrArg some (by kernel_rfl))
  f206 := Tryz.func117.trans (congrArg some (by kernel_rfl))
  f212 := Tryz.func96.trans (congrArg some (by kernel_rfl))
  f240 := Tryz.func118.trans (congrArg some (by kernel_rfl))
  f241 := Tryz.func119.trans (congrArg some (by kernel_rfl))
  f263 := Tryz.func115.trans (congrArg some (by kernel_rfl))
  f264 := Tryz.func116.trans (congrArg some (by kernel_rfl))
  f276 := Tryz.func120.trans (congrArg some (by kernel_rfl))
  f277 := Tryz.func121.trans (congrArg some (by kernel_rfl))
  t0 := Tryz.underlying0
  a0 := Tryz.isAgg0
  z0 := Tryz.sizeOf0
  v0 := Tryz.zeroValue0
  t3 := Tryz.underlying3
  a3 := Tryz.isAgg3
  z3 := Tryz.sizeOf3
  v3 := Tryz.zeroValue3
  t4 := Tryz.underlying4
  a4 := Tryz.isAgg4
  z4 := Tryz.sizeOf4
  v4 := Tryz.zeroValue4
  t5 := Tryz.underlying5
  a5 := Tryz.isAgg5
  z5 := Tryz.sizeOf5
  v5 := Tryz.zeroValue5
  t9 := Tryz.underlying9
  a9 := Tryz.isAgg9
  z9 := Tryz.sizeOf9
  v9 := Tryz.zeroValue9
  t20 := Tryz.underlying20
  a20 := Tryz.isAgg20
  z20 := Tryz.sizeOf20
  v20 := Tryz.zeroValue20
  t37 := Tryz.underlying132
  a37 := Tryz.isAgg132
  z37 := Tryz.sizeOf132
  v37 := Tryz.zeroValue132
  t46 := Tryz.underlying154
  a46 := Tryz.isAgg154
  z46 := Tryz.sizeOf154
  v46 := Tryz.zeroValue154
  t51 := Tryz.underlying175
  a51 := Tryz.isAgg175
  z51 := Tryz.sizeOf175
  v51 := Tryz.zeroValue175
  t53 := Tryz.underlying169
  a53 := Tryz.isAgg169
  z53 := Tryz.sizeOf169
  v53 := Tryz.zeroValue169
  t70 := Tryz.underlying158
  a70 := Tryz.isAgg158
  z70 := Tryz.sizeOf158
  v70 := Tryz.zeroValue158
  t72 := Tryz.underlying160
  a72 := Tryz.isAgg160
  z72 := Tryz.sizeOf160
  v72 := Tryz.zeroValue160
  t75 := Tryz.underlying163
  a75 := Tryz.isAgg163
  z75 := Tryz.sizeOf163
  v75 := Tryz.zeroValue163
  t76 := Tryz.underlying164
  a76 := Tryz.isAgg164
  z76 := Tryz.sizeOf164
  v76 := Tryz.zeroValue164
  t109 := Tryz.underlying155
  a109 := Tryz.isAgg155
  z109 := Tryz.sizeOf155
  v109 := Tryz.zeroValue155
  t127 := Tryz.underlying180
  a127 := Tryz.isAgg180
  z127 := Tryz.sizeOf180
  v127 := Tryz.zeroValue180
  t146 := Tryz.underlying176
  a146 := Tryz.isAgg176
  z146 := Tryz.sizeOf176
  v146 := Tryz.zeroValue176
  t148 := Tryz.underlying178
  a148 := Tryz.isAgg178
  z148 := Tryz.sizeOf178
  v148 := Tryz.zeroValue178
  t164 := Tryz.underlying181
  a164 := Tryz.isAgg181
  z164 := Tryz.sizeOf181
  v164 := Tryz.zeroValue181 }
theorem Tryz.Builder_Extra_105 : Builder.Extra Tryz.prog Tryz.lays105_ren := {
  sizeBuilder := by kernel_rfl
  liesBuilder := by kernel_rfl
  t5 := Tryz.underlying5
  a5 := Tryz.isAgg5
  z5 := Tryz.sizeOf5
  v5 := Tryz.zeroValue5
  infoByte := by kernel_rfl
  cellsByte := by kernel_rfl
  sizeByte := by kernel_rfl
  neB5 := by decide }
end Go.Proofs

/- strings.Repeat of one byte. -/
namespace Go.Proofs.YtnhegnneohpkaaaGreat
open Go.ChangeShapes Go.WideShapes Go.ChangeAt Go.RowKit

theorem repeat_one (c : UInt8) (n : Nat) : Lib.repeatL [c] n = List.replicate n c := by
  induction n with
  | zero => rfl
  | succ n ih => rw [Lib.repeatL, ih, List.replicate_succ]; rfl

theorem repeat_any (c : UInt8) (n : Nat) (w : World) (hn : n ≤ 1000) :
    Calls Tryz.prog 72 #[.string ⟨#[c]⟩, .int .i64 n] w fun e w' => e = .returned (.string ⟨(List.replicate n c).toArray⟩) ∧ Below w.heap.size w w' := by
  have h := Any.strings_Repeat Tryz.lays105 Tryz.Builder_Extra_105 ⟨#[c]⟩ n w (by omega) (by show 1 * n ≤ 140737488355328; omega)
  have e : Lib.repeatL (⟨#[c]⟩ : ByteArray).data.toList n = List.replicate n c := repeat_one c n
  rw [e] at h
  exact h
end Go.Proofs.YtnhegnneohpkaaaGreat
