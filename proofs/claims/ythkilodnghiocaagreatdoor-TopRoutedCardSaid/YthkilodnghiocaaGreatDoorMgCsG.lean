/- The walk of a machine's echo (a dominant bit). -/
import Derived.Test.YthkilodnghiocaaGreatDoorCsQ
namespace Go.Proofs.YthkilodnghiocaaGreatDoor
open Go.ChangeShapes Go.WideShapes Go.ChangeAt Go.RowKit
open FP (Fr bodyF bitsF)

theorem count_n (c : Cl) (what : Int) : (c.count what).n = c.n := by unfold Cl.count; split <;> rfl

set_option maxRecDepth 100000 in
set_option maxHeartbeats 8000000 in
theorem mcEcho_low (c : Cl) (ev : List Value) (b : Nat) (t : TypeId) (w : World) (h : Hid (w.heap[b]? = some (.cells (mcL c ev).toArray t (0, 0)))) (h0 : 0 ≤ c.n) (h9 : c.n ≤ 1000000000) (hoff : c.off = false) (hrs : c.rs = 0) (hc : cntB c.tc c.rc false 0 = true) :
    Calls Tryz.prog 82 #[.pointer (some ⟨b, 0, none⟩), .int .u8 48] w fun e w' => (∃ v, e = .returned v) ∧ w'.heap[b]? = some (.cells (mcL c.echo0 ev).toArray t (0, 0)) ∧ Below b w w' := by
  obtain ⟨-, ⟨-, c5, c6, -, -⟩, -⟩ := mc_cells h.out
  have f5 := cl_froz h.out 5
  obtain ⟨m, em, hmin⟩ := run_min (P := Tryz.prog) (c.n + 1) 1000000000
  have hd : c.echoN = { c with n := m } := by unfold Cl.echoN; rw [em]
  have B1 := hide (show (w.setCell ⟨b, 5, none⟩ (.int .i64 m)).heap[b]? = some (.cells (mcL c.echoN ev).toArray t (0, 0)) by
    have := mc_set h.out 5 (.int .i64 m)
    rw [hd]
    simpa [mcL, Cl.cs] using this)
  have Q1 := hide (below_set (Below.refl b w) 5 (.int .i64 m))
  obtain ⟨d, hdd⟩ : ∃ d, d = c.echoN := ⟨_, rfl⟩
  have dn : d.n = m := by rw [hdd, hd]
  have dw : d.was = c.was := by rw [hdd, hd]
  have CO := hide (fun what (hw : 1 ≤ what ∧ what ≤ 7) W hh => mcCounts_on d ev what b t W hh (by rw [hdd, hd]; exact hoff) (by rw [hdd, hd]; exact hrs) (by rw [hdd, hd]; exact hc) hw)
  have HE := hide (show c.echo0 = if d.echoC.off = true then d.echoC.to 8 else d.echoC by rw [hdd]; rfl)
  have HC := hide (show d.echoC = if d.n = 1 ∧ d.was = false then d.count 6 else if d.n % 8 = 0 then d.count (if d.was = true then 5 else 6) else d from rfl)
  have DOFF := hide (show d.off = false by rw [hdd, hd]; exact hoff)
  rw [← hdd] at B1
  obtain ⟨fe, hfe⟩ : ∃ fe, fe = c.echo0 := ⟨_, rfl⟩
  rw [← hfe] at HE ⊢
  have hm : 1 ≤ m ∧ m ≤ 1000000000 := by omega
  have hm1 : (1 : Int) ≤ m := hm.1
  have hm2 : m ≤ 1000000000 := hm.2
  rw [← dn] at hm1 hm2 Q1
  have EM := hide em
  have hmin' := hmin
  rw [← dn] at hmin'
  rw [← dn] at B1
  clear hd hfe hdd h em hmin hoff hrs hc hm
  have TO := hide (fun (x : Cl) W (hh : Hid (W.heap[b]? = some (.cells (mcL x ev).toArray t (0, 0)))) => mcTo_any x ev 8 b t W hh)
  have hk : d.n = 1 ∧ d.was = false ∨ d.n = 1 ∧ d.was = true ∨ (d.n == 1) = false ∧ d.n % 8 = 0 ∨ (d.n == 1) = false ∧ (d.n % 8 == 0) = false := by
    by_cases e : d.n = 1
    · cases d.was
      · exact .inl ⟨e, rfl⟩
      · exact .inr (.inl ⟨e, rfl⟩)
    · by_cases e8 : d.n % 8 = 0
      · exact .inr (.inr (.inl ⟨by simpa using e, e8⟩))
      · exact .inr (.inr (.inr ⟨by simpa using e, by simpa using e8⟩))
  rcases hk with ⟨e1, e2⟩ | ⟨e1, e2⟩ | ⟨e1, e8⟩ | ⟨e1, e8⟩
  · have HC2 := hide (show d.echoC = d.count 6 by rw [HC.out, if_pos ⟨e1, e2⟩])
    rw [HC2.out] at HE
    have C1 := hide (CO.out 6 (by decide) _ B1)
    have HDN := hide (show (d.count 6).n = 1 from (count_n d 6).trans e1)
    rw [e1] at C1 Q1 hmin'
    rw [← dw, e2] at c6
    clear HC HC2 CO hm1 hm2 EM DOFF dn dw e1 e2 B1
    generalize hdc : d.count 6 = dc at *
    have SO := hide (show stOf dc.tc dc.rc dc.off = 3 ↔ dc.off = true from stOf_off)
    clear hdc
    go_enter Tryz.func82, Tryz.ntmps82
    go_wp2_with fail
    (with_reducible refine (C1.out).mono ?_)
    rintro e3 w3 ⟨rfl, hB, q3⟩
    have B3 := hide hB
    have Q3 := hide (Q1.out.trans q3)
    obtain ⟨-, ⟨-, d5, -⟩, -⟩ := mc_cells hB
    rw [HDN.out] at d5
    clear hB q3 C1 Q1 HDN
    generalize stOf dc.tc dc.rc dc.off = s at *
    by_cases h3 : s = 3
    · have E2 := hide (show fe = dc.to 8 by rw [HE.out, if_pos (SO.out.1 h3)])
      have T8 := hide (TO.out dc w3 B3)
      subst h3
      clear HE SO TO
      go_wp2_with fail
      (with_reducible refine (T8.out).mono ?_)
      rintro e4 w4 ⟨⟨v, rfl⟩, hB, q4⟩
      go_wp2_with fail
      go_end0
      exact ⟨⟨_, rfl⟩, by rw [E2.out]; exact hB, Q3.out.trans q4⟩
    · have E2 := hide (show fe = dc by rw [HE.out, if_neg (fun e => h3 (SO.out.2 e))])
      have hs3 : (s == 3) = false := by simpa using h3
      clear HE SO TO
      go_wp2_with fail
      go_end0
      exact ⟨⟨_, rfl⟩, by rw [E2.out]; exact B3.out, Q3.out⟩
  · have E5 : d.echoC = d := by
      rw [HC.out, if_neg (show ¬ (d.n = 1 ∧ d.was = false) from fun h => by rw [e2] at h; exact absurd h.2 (by decide)), if_neg (show ¬ d.n % 8 = 0 by rw [e1]; decide)]
    have E2 := hide (show fe = d by rw [HE.out, E5, DOFF.out]; rfl)
    clear E5
    rw [e1] at B1 Q1 hmin'
    rw [← dw, e2] at c6
    clear HE HC CO hm1 hm2 EM DOFF dn dw e1 e2 TO
    go_enter Tryz.func82, Tryz.ntmps82
    go_wp2_with fail
    go_end0
    exact ⟨⟨_, rfl⟩, by rw [E2.out]; exact B1.out, Q1.out⟩
  · have hne : ¬ (d.n = 1 ∧ d.was = false) := fun h => by rw [h.1] at e1; exact absurd e1 (by decide)
    have HC2 := hide (show d.echoC = d.count (if d.was = true then 5 else 6) by rw [HC.out, if_neg hne, if_pos (e8)])
    rw [HC2.out] at HE
    have W3 := hide (show (w.setCell ⟨b, 5, none⟩ (.int .i64 d.n)).cell? ⟨b, 3, none⟩ = (w.setCell ⟨b, 5, none⟩ (.int .i64 d.n)).cell? ⟨b, 3, none⟩ from rfl)
    rcases Bool.eq_false_or_eq_true d.was with e2 | e2
    · rw [e2, show (if (true = true) then (5 : Int) else 6) = 5 from rfl] at HE
      have C1 := hide (CO.out 5 (by decide) _ B1)
      rw [← dw, e2] at c6
      clear HC HC2 CO EM DOFF dw e2 B1 hne W3 dn
      generalize hdc : d.count 5 = dc at *
      have SO := hide (show stOf dc.tc dc.rc dc.off = 3 ↔ dc.off = true from stOf_off)
      clear hdc
      generalize d.n = m' at *
      go_enter Tryz.func82, Tryz.ntmps82
      go_wp2_with fail
      (with_reducible refine (C1.out).mono ?_)
      rintro e3 w3 ⟨rfl, hB, q3⟩
      have B3 := hide hB
      have Q3 := hide (Q1.out.trans q3)
      clear hB q3 C1 Q1
      generalize stOf dc.tc dc.rc dc.off = s at *
      by_cases h3 : s = 3
      · have E2 := hide (show fe = dc.to 8 by rw [HE.out, if_pos (SO.out.1 h3)])
        have T8 := hide (TO.out dc w3 B3)
        subst h3
        clear HE SO TO
        go_wp2_with fail
        (with_reducible refine (T8.out).mono ?_)
        rintro e4 w4 ⟨⟨v, rfl⟩, hB, q4⟩
        go_wp2_with fail
        go_end0
        exact ⟨⟨_, rfl⟩, by rw [E2.out]; exact hB, Q3.out.trans q4⟩
      · have E2 := hide (show fe = dc by rw [HE.out, if_neg (fun e => h3 (SO.out.2 e))])
        have hs3 : (s == 3) = false := by simpa using h3
        clear HE SO TO
        go_wp2_with fail
        go_end0
        exact ⟨⟨_, rfl⟩, by rw [E2.out]; exact B3.out, Q3.out⟩
    · rw [e2, show (if (false = true) then (5 : Int) else 6) = 6 from rfl] at HE
      have C1 := hide (CO.out 6 (by decide) _ B1)
      rw [← dw, e2] at c6
      clear HC HC2 CO EM DOFF dw e2 B1 hne W3 dn
      generalize hdc : d.count 6 = dc at *
      have SO := hide (show stOf dc.tc dc.rc dc.off = 3 ↔ dc.off = true from stOf_off)
      clear hdc
      generalize d.n = m' at *
      go_enter Tryz.func82, Tryz.ntmps82
      go_wp2_with fail
      (with_reducible refine (C1.out).mono ?_)
      rintro e3 w3 ⟨rfl, hB, q3⟩
      have B3 := hide hB
      have Q3 := hide (Q1.out.trans q3)
      clear hB q3 C1 Q1
      generalize stOf dc.tc dc.rc dc.off = s at *
      by_cases h3 : s = 3
      · have E2 := hide (show fe = dc.to 8 by rw [HE.out, if_pos (SO.out.1 h3)])
        have T8 := hide (TO.out dc w3 B3)
        subst h3
        clear HE SO TO
        go_wp2_with fail
        (with_reducible refine (T8.out).mono ?_)
        rintro e4 w4 ⟨⟨v, rfl⟩, hB, q4⟩
        go_wp2_with fail
        go_end0
        exact ⟨⟨_, rfl⟩, by rw [E2.out]; exact hB, Q3.out.trans q4⟩
      · have E2 := hide (show fe = dc by rw [HE.out, if_neg (fun e => h3 (SO.out.2 e))])
        have hs3 : (s == 3) = false := by simpa using h3
        clear HE SO TO
        go_wp2_with fail
        go_end0
        exact ⟨⟨_, rfl⟩, by rw [E2.out]; exact B3.out, Q3.out⟩
  · have hne : ¬ (d.n = 1 ∧ d.was = false) := fun h => by rw [h.1] at e1; exact absurd e1 (by decide)
    have E5 : d.echoC = d := by rw [HC.out, if_neg hne, if_neg (show ¬ d.n % 8 = 0 from fun h => by rw [h] at e8; exact absurd e8 (by decide))]
    have E2 := hide (show fe = d by rw [HE.out, E5, DOFF.out]; rfl)
    clear E5
    clear HE HC CO EM DOFF dw TO hne dn
    generalize d.n = m' at *
    go_enter Tryz.func82, Tryz.ntmps82
    go_wp2_with fail
    go_end0
    exact ⟨⟨_, rfl⟩, by rw [E2.out]; exact B1.out, Q1.out⟩
end Go.Proofs.YthkilodnghiocaaGreatDoor

/- Walks of prio.Field, of a machine's lost. -/
namespace Go.Proofs.YthkilodnghiocaaGreatDoor
open Go.ChangeShapes Go.WideShapes Go.ChangeAt Go.RowKit
open FP (Fr bodyF bitsF)

set_option maxRecDepth 100000 in
set_option maxHeartbeats 2000000 in
theorem prioField_any (f : Fr) (w : World) (hr : FP.rightB f = true) : Calls Tryz.prog 112 #[.agg #[.int .u32 f.id, .bool f.ext, .bool f.rem, .int .i64 f.dlc, .string f.data]] w fun e w' => e = .returned (.tuple #[.string ⟨(fieldF f).toArray⟩, .int .i64 0]) ∧ Below w.heap.size w w' := by
  have RT := hide (fun W => hr ▸ frRight_any f W (right_id hr))
  have FL := hide (fun W => field_any f W hr)
  have q0 : Below w.heap.size w (w.alloc (.cells #[.int .u32 f.id, .bool f.ext, .bool f.rem, .int .i64 f.dlc, .string f.data] 45)) := (Below.refl _ _).alloc (Nat.le_refl _) _
  have B0 := hide (World.alloc_heap_new w (.cells #[.int .u32 f.id, .bool f.ext, .bool f.rem, .int .i64 f.dlc, .string f.data] 45))
  clear hr
  go_enter Tryz.func112, Tryz.ntmps112
  go_wp2_with fail
  (with_reducible refine (RT.out _).mono ?_)
  rintro e1 w1 ⟨rfl, q1⟩
  have B1 := hide (heap_below B0.out q1)
  have Q1 := hide (below_next q0 q0.size q1)
  obtain ⟨c0, c1, c2, c3, c4⟩ := frCells B1.out
  clear q0 q1 B0 RT
  go_wp2_with fail
  (with_reducible refine (FL.out _).mono ?_)
  rintro e2 w2 ⟨rfl, q2⟩
  have Q2 := hide (below_next Q1.out Q1.out.size q2)
  clear q2 Q1
  go_wp2_with fail
  go_ret2
  exact ⟨rfl, Q2.out⟩

set_option maxRecDepth 100000 in
set_option maxHeartbeats 4000000 in
theorem mcLost_any (c : Cl) (ev : List Value) (b : Nat) (t : TypeId) (bus : UInt8) (hbus : bus = 48 ∨ bus = 49) (w : World) (h : Hid (w.heap[b]? = some (.cells (mcL c ev).toArray t (0, 0)))) (hr : FP.rightB c.f = true) (hN : c.sn = (c.N : Int)) :
    Calls Tryz.prog 108 #[.pointer (some ⟨b, 0, none⟩), .int .u8 bus.toNat] w fun e w' => e = .returned (.bool (c.lostB bus)) ∧ Below w.heap.size w w' := by
  have FL := hide (fun W => prioField_any c.f W hr)
  have hsz : c.g.length = c.got.size := Array.length_toList
  have hfs : (⟨(fieldF c.f).toArray⟩ : ByteArray).size = (fieldF c.f).length := size_of _
  obtain ⟨r, hR⟩ : ∃ r, r = c.lostB bus := ⟨_, rfl⟩
  rw [← hR]
  unfold Cl.lostB at hR
  rw [hsz, ← hfs] at hR
  generalize (⟨(fieldF c.f).toArray⟩ : ByteArray) = fs at *
  have HR := hide hR
  have HN := hide hN
  obtain ⟨c9, c10, c11, c12, c13⟩ := mc_fr h.out
  have H := h
  clear h hr hR hN hsz hfs
  generalize c.N = N at *
  rcases hbus with rfl | rfl
  · by_cases h1 : c.got.size ≤ fs.size
    · by_cases h2 : N < 5
      · have hrt : r = true := by rw [HR.out, decide_eq_true h1, decide_eq_true h2]; rfl
        subst hrt
        have h1' : (c.got.size : Int) ≤ fs.size := by omega
        have h2' : (N : Int) < 5 := by omega
        clear HR
        go_enter Tryz.func108, Tryz.ntmps108
        go_wp2_with fail
        (with_reducible refine (FL.out _).mono ?_)
        rintro e1 w1 ⟨rfl, q1⟩
        obtain ⟨-, -, ⟨-, -, -, -, d18, d19, -, -, -⟩⟩ := mc_cells (heap_below H.out q1)
        rw [HN.out] at d18
        clear c9 c10 c11 c12 c13 FL
        have Q1 := hide q1
        clear q1
        go_wp2_with fail
        go_ret
        exact ⟨rfl, Q1.out⟩
      · have hrt : r = false := by rw [HR.out, decide_eq_true h1, decide_eq_false h2]; rfl
        subst hrt
        have h1' : (c.got.size : Int) ≤ fs.size := by omega
        have h2' : decide ((N : Int) < 5) = false := decide_eq_false (by omega)
        clear HR h2
        go_enter Tryz.func108, Tryz.ntmps108
        go_wp2_with fail
        (with_reducible refine (FL.out _).mono ?_)
        rintro e1 w1 ⟨rfl, q1⟩
        obtain ⟨-, -, ⟨-, -, -, -, d18, d19, -, -, -⟩⟩ := mc_cells (heap_below H.out q1)
        rw [HN.out] at d18
        clear c9 c10 c11 c12 c13 FL
        have Q1 := hide q1
        clear q1
        go_wp2_with fail
        go_ret
        exact ⟨rfl, Q1.out⟩
    · have hrt : r = false := by rw [HR.out, decide_eq_false h1]; rfl
      subst hrt
      have h1' : decide ((c.got.size : Int) ≤ fs.size) = false := decide_eq_false (by omega)
      have h1'' : fs.size < c.got.size := by omega
      clear HR
      go_enter Tryz.func108, Tryz.ntmps108
      go_wp2_with fail
      (with_reducible refine (FL.out _).mono ?_)
      rintro e1 w1 ⟨rfl, q1⟩
      obtain ⟨-, -, ⟨-, -, -, -, d18, d19, -, -, -⟩⟩ := mc_cells (heap_below H.out q1)
      rw [HN.out] at d18
      clear c9 c10 c11 c12 c13 FL
      have Q1 := hide q1
      clear q1
      go_wp2_with fail
      go_ret
      exact ⟨rfl, Q1.out⟩
  · have hrt : r = false := HR.out
    subst hrt
    clear HR
    go_enter Tryz.func108, Tryz.ntmps108
    go_wp2_with fail
    (with_reducible refine (FL.out _).mono ?_)
    rintro e1 w1 ⟨rfl, q1⟩
    clear c9 c10 c11 c12 c13 FL
    have Q1 := hide q1
    clear q1
    go_wp2_with fail
    go_ret
    exact ⟨rfl, Q1.out⟩
end Go.Proofs.YthkilodnghiocaaGreatDoor
