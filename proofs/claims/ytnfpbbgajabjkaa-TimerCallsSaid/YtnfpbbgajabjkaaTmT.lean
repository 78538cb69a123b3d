/- TimerCalls. -/
import Derived.Test.YtnfpbbgajabjkaaTmQ
namespace Go.Proofs.Ytnfpbbgajabjkaa
open Go.ChangeShapes Go.WideShapes Go.ChangeAt Go.RowKit

theorem two_boxq {W W' : World} {B : Nat} {a b : Value} {t : TypeId} (h : W.heap[B]? = some (.cells #[a, b] t (0, 0))) (q : Below W.heap.size W W') : W'.heap[B]? = some (.cells #[a, b] t (0, 0)) := heap_below h q

set_option maxRecDepth 100000 in
set_option maxHeartbeats 4000000 in
theorem calls_walk (now : Int) (l0 : List Tm) (A : Option Addr) (c : Nat) (id after : Int) (w : World) (hr0 : TmR w w.heap.size A l0) (hc0 : l0.length ≤ c) (hcm : c ≤ maxLen) (hd0 : ∀ x ∈ l0, x.due ≤ 9223372036854775807) :
    Calls Try.prog 3 #[.agg #[.int .i64 now, .slice A l0.length c], .int .i64 id, .int .i64 after] w fun e w' => e = .returned (.bool true) ∧ Below w.heap.size w w' := by
  obtain ⟨l, hl⟩ : ∃ l, l = l0.take 40 := ⟨_, rfl⟩
  have hlen : l.length = min l0.length 40 := by rw [hl, List.length_take]; omega
  have hr : TmR w w.heap.size A l := by rw [hl]; exact TmR.take hr0 40
  have hdue : ∀ x ∈ l, x.due ≤ 9223372036854775807 := fun x hx => hd0 x (by rw [hl] at hx; exact List.mem_of_mem_take hx)
  obtain ⟨mn, em, hmn⟩ := run_min (P := Try.prog) (l0.length : Int) 40
  obtain ⟨m, hm⟩ : ∃ m, m = l.length := ⟨_, rfl⟩
  have hmm : mn = m := by omega
  subst hmm
  have hm40 : m ≤ 40 := by omega
  have hml : m ≤ l0.length := by omega
  have hmc : m ≤ c := by omega
  have HM := hide hm
  have HR := hide hr
  have HD := hide hdue
  unfold maxLen at hcm
  clear hl hlen hr hdue hr0 hd0 hm em
  have hto := run_to (P := Try.prog) 22 40 Try.underlying22 2 (fun W => by kernel_rfl) A l0.length c m m rfl hmc
  obtain ⟨⟨nS, lS, eS⟩, hS⟩ : ∃ s, s = setF now l id after := ⟨_, rfl⟩
  obtain ⟨⟨nP, lP, bP, eP⟩, hP⟩ : ∃ s, s = stopF now l id := ⟨_, rfl⟩
  obtain ⟨⟨nT, lT, oT, eT⟩, hT⟩ : ∃ s, s = tickF now l := ⟨_, rfl⟩
  have SU := hide (fun W (q : Below w.heap.size w W) => by have := setU now l A c W id after (HR.out.next q q.size) (by have := HM.out; omega) (by have := HM.out; omega) HD.out nS lS eS hS; rw [← HM.out] at this; exact this)
  have PU := hide (fun W (q : Below w.heap.size w W) => by have := stopU now l A c W id (HR.out.next q q.size) (by have := HM.out; omega) (by have := HM.out; omega) HD.out nP lP bP eP hP; rw [← HM.out] at this; exact this)
  have TU := hide (fun W (q : Below w.heap.size w W) => by have := tickU now l A c W (HR.out.next q q.size) (by have := HM.out; omega) (by have := HM.out; omega) HD.out nT lT oT eT hT; rw [← HM.out] at this; exact this)
  have RI := hide (fun W (q : Below w.heap.size w W) => by have := tmRight_any now l A c W (HR.out.next q q.size) (by have := HM.out; omega) (by have := HM.out; omega) HD.out; rw [← HM.out] at this; exact this)
  have RF := hide (fun W (q : Below w.heap.size w W) => by have := refRight13_any now l A c W (HR.out.next q q.size) (by have := HM.out; omega); rw [← HM.out] at this; exact this)
  have AL := hide (fun W => alive13_any W)
  have HS := hide hS
  have HP := hide hP
  have HT := hide hT
  clear hS hP hT
  obtain ⟨nSl, hnSl⟩ : ∃ k, k = lS.length := ⟨_, rfl⟩
  obtain ⟨nPl, hnPl⟩ : ∃ k, k = lP.length := ⟨_, rfl⟩
  obtain ⟨nTl, hnTl⟩ : ∃ k, k = lT.length := ⟨_, rfl⟩
  obtain ⟨dT, hdT⟩ : ∃ k, k = oT.length := ⟨_, rfl⟩
  rw [← hnSl] at SU
  rw [← hnPl] at PU
  rw [← hnTl, ← hdT] at TU
  have HNS := hide hnSl
  have HNP := hide hnPl
  have HNT := hide hnTl
  have HDT := hide hdT
  clear hnSl hnPl hnTl hdT
  have qc : Below w.heap.size w (w.alloc (.cells #[.int .i64 now, .slice A m c] 24)) := (Below.refl _ _).alloc (Nat.le_refl _) _
  have B3 := hide (World.alloc_heap_new w (.cells #[.int .i64 now, .slice A m c] 24))
  rcases hR : rightTm now l with _ | _
  · have e1 : nS = 0 ∧ lS = [] ∧ eS = 1 := by have := HS.out; unfold setF at this; rw [if_pos (.inl hR)] at this; simpa using this
    have e2 : nP = 0 ∧ lP = [] ∧ bP = false ∧ eP = 1 := by have := HP.out; unfold stopF at this; rw [if_pos hR] at this; simpa using this
    have e3 : nT = 0 ∧ lT = [] ∧ oT = [] ∧ eT = 1 := by have := HT.out; unfold tickF at this; rw [if_pos (.inl hR)] at this; simpa using this
    have LU := hide (fun W (q : Below w.heap.size w W) => by have := left_bad now l A c id W (HR.out.next q q.size) (by have := HM.out; omega) (by have := HM.out; omega) HD.out hR; rw [← HM.out] at this; exact this)
    obtain ⟨rfl, rfl, rfl⟩ := e1
    obtain ⟨rfl, rfl, rfl, rfl⟩ := e2
    obtain ⟨rfl, rfl, rfl, rfl⟩ := e3
    obtain rfl : nSl = 0 := HNS.out
    obtain rfl : nPl = 0 := HNP.out
    obtain rfl : nTl = 0 := HNT.out
    obtain rfl : dT = 0 := HDT.out
    rw [hR] at RI RF
    have IS := hide (fun W A c => is13_any 0 [] 0 A c none 0 W rfl Rd.nil Rd.nil (by simp))
    clear hR
    go_enter Try.func3, Try.ntmps3
    go_wp2_with fail
    (with_reducible refine (SU.out _ qc).mono ?_)
    rintro e1 w1 ⟨A1, c1, rfl, r1, q1⟩
    have Q1 := below_next qc qc.size q1
    have X3 := hide (heap_below B3.out q1)
    have z1 : w.heap.size < w1.heap.size := heap_lt X3.out
    obtain ⟨x0, x1, _, _⟩ := two_box X3.out
    have qa1 : Below w1.heap.size w1 (w1.alloc (.cells #[.int .i64 0, .slice A1 0 c1] 24)) := (Below.refl _ _).alloc (Nat.le_refl _) _
    have Q1a := below_next Q1 Q1.size qa1
    go_wp2_with fail
    (with_reducible refine (PU.out _ Q1a).mono ?_)
    rintro e2 w2 ⟨A2, c2, rfl, r2, q2⟩
    have Q2 := below_next Q1a Q1a.size q2
    have Y3 := hide (heap_below (heap_below X3.out qa1) q2)
    have Y7 := hide (heap_below (World.alloc_heap_new w1 (.cells #[.int .i64 0, .slice A1 0 c1] 24)) q2)
    have RS := hide ((TmR.next r1 qa1 qa1.size).next q2 q2.size)
    clear x0 x1 X3 r1 qa1 Q1a q1 q2
    obtain ⟨x0, x1, _, _⟩ := two_box Y3.out
    have z2 : w.heap.size < w2.heap.size := heap_lt Y3.out
    have qa2 : Below w2.heap.size w2 (w2.alloc (.cells #[.int .i64 0, .slice A2 0 c2] 24)) := (Below.refl _ _).alloc (Nat.le_refl _) _
    have Q2a := below_next Q2 Q2.size qa2
    go_wp2_with fail
    (with_reducible refine (LU.out _ Q2a).mono ?_)
    rintro e3 w3 ⟨rfl, q3⟩
    have Q3 := below_next Q2a Q2a.size q3
    have Z3 := hide (heap_below (heap_below Y3.out qa2) q3)
    have Z7 := hide (heap_below (heap_below Y7.out qa2) q3)
    have Z9 := hide (heap_below (World.alloc_heap_new w2 (.cells #[.int .i64 0, .slice A2 0 c2] 24)) q3)
    have RS3 := hide ((TmR.next RS.out qa2 qa2.size).next q3 q3.size)
    have RP3 := hide ((TmR.next r2 qa2 qa2.size).next q3 q3.size)
    clear x0 x1 Y3 Y7 r2 qa2 Q2a q3 RS
    obtain ⟨x0, x1, _, _⟩ := two_box Z3.out
    have z3 : w.heap.size < w3.heap.size := heap_lt Z3.out
    go_wp2_with fail
    (with_reducible refine (TU.out _ Q3).mono ?_)
    rintro e4 w4 ⟨A4, c4, Ao, co, rfl, r4, ro, q4⟩
    have Q4 := below_next Q3 Q3.size q4
    have qa4 : Below w4.heap.size w4 (w4.alloc (.cells #[.int .i64 0, .slice A4 0 c4] 24)) := (Below.refl _ _).alloc (Nat.le_refl _) _
    have q4a : Below w3.heap.size w3 (w4.alloc (.cells #[.int .i64 0, .slice A4 0 c4] 24)) := below_next q4 q4.size qa4
    have G3 := hide (heap_below Z3.out q4a)
    have G7 := hide (heap_below Z7.out q4a)
    have G9 := hide (heap_below Z9.out q4a)
    have G14 := hide (World.alloc_heap_new w4 (.cells #[.int .i64 0, .slice A4 0 c4] 24))
    have RS4 := hide (TmR.next RS3.out q4a q4a.size)
    have RP4 := hide (TmR.next RP3.out q4a q4a.size)
    have RT4 := hide (TmR.next r4 qa4 qa4.size)
    have RO4 := hide (Rd.next ro qa4 qa4.size)
    have QW := below_next Q4 Q4.size qa4
    clear x0 x1 Z3 Z7 Z9 r4 ro qa4 q4a q4 RS3 RP3
    go_wp2_with fail
    generalize w4.alloc (.cells #[.int .i64 0, .slice A4 0 c4] 24) = W5 at *
    have m3 := fun s : InW W5 => (⟨cell_heap (j := 0) G3.out s.h rfl, cell_heap (j := 1) G3.out s.h rfl⟩ : s.W.cell? ⟨w.heap.size, 0, none⟩ = some (.int .i64 now) ∧ s.W.cell? ⟨w.heap.size, 1, none⟩ = some (.slice A m c))
    have RIs := hide (fun s : InW W5 => RI.out s.W (QW.trans (s.h.mono QW.size)))
    have RFs := hide (fun s : InW W5 => RF.out s.W (QW.trans (s.h.mono QW.size)))
    refine wp_region_tame (by kernel_rfl) (by kernel_rfl) ?_
    repeat (go_big_quiet_step (first | (go_at_call 17; exact tame_of (RIs.out _)) | (go_at_call 18; exact tame_of (RFs.out _)) | (go_at_call 19; exact tame_of (AL.out _))))
    refine wpQuiet_nil ?_
    rintro _ ⟨s, rfl⟩
    obtain ⟨W6, q6⟩ := s
    dsimp only
    have Q6 := QW.trans (q6.mono QW.size)
    have H3 := hide (heap_below G3.out q6)
    have H7 := hide (heap_below G7.out q6)
    have H9 := hide (heap_below G9.out q6)
    have H14 := hide (heap_below G14.out q6)
    have RS6 := hide (TmR.next RS4.out q6 q6.size)
    have RP6 := hide (TmR.next RP4.out q6 q6.size)
    have RT6 := hide (TmR.next RT4.out q6 q6.size)
    have RO6 := hide (Rd.next RO4.out q6 q6.size)
    clear m3 G3 G7 G9 G14 RS4 RP4 RT4 RO4 RIs RFs q6 QW
    obtain ⟨x0, x1, _, _⟩ := two_box H3.out
    go_wp2_with fail
    (with_reducible refine (RF.out _ Q6).mono ?_)
    rintro e7 w7 ⟨rfl, q7⟩
    have Q7 := below_next Q6 Q6.size q7
    have I3 := hide (heap_below H3.out q7)
    have I7 := hide (heap_below H7.out q7)
    have I9 := hide (heap_below H9.out q7)
    have I14 := hide (heap_below H14.out q7)
    have RS7 := hide (TmR.next RS6.out q7 q7.size)
    have RP7 := hide (TmR.next RP6.out q7 q7.size)
    have RT7 := hide (TmR.next RT6.out q7 q7.size)
    have RO7 := hide (Rd.next RO6.out q7 q7.size)
    clear x0 x1 H3 H7 H9 H14 RS6 RP6 RT6 RO6 q7 Q6
    obtain ⟨y0, y1, _, _⟩ := two_box I7.out
    go_wp2_with fail
    (with_reducible refine (IS.out _ A1 c1).mono ?_)
    rintro e8 w8 ⟨rfl, q8⟩
    have J9 := hide (heap_below I9.out q8)
    have J14 := hide (heap_below I14.out q8)
    have Q8 := below_next Q7 Q7.size q8
    clear y0 y1 q8
    obtain ⟨y0, y1, _, _⟩ := two_box J9.out
    go_wp2_with fail
    (with_reducible refine (IS.out _ A2 c2).mono ?_)
    rintro e9 w9 ⟨rfl, q9⟩
    have K14 := hide (heap_below J14.out q9)
    have Q9 := below_next Q8 Q8.size q9
    clear y0 y1 q9
    obtain ⟨y0, y1, _, _⟩ := two_box K14.out
    go_wp2_with fail
    (with_reducible refine (IS.out _ A4 c4).mono ?_)
    rintro e10 w10 ⟨rfl, q10⟩
    have Q10 := below_next Q9 Q9.size q10
    go_wp2
    go_ret
    exact ⟨rfl, Q10⟩
  · have hn1 : nP = now ∧ lP = withoutTm id l ∧ bP = decide ((withoutTm id l).length < l.length) ∧ eP = 0 := by have := HP.out; unfold stopF at this; rw [if_neg (by rw [hR]; simp)] at this; simpa using this
    obtain ⟨h1, h2, h3, h4⟩ := hn1
    rw [h1, h4] at PU
    have HLP := hide h2
    have hbP : bP = decide (nPl < m) := by rw [h3, HNP.out, HLP.out, HM.out]
    rw [hbP] at PU
    have hPl : nPl ≤ m := by rw [HNP.out, HLP.out, HM.out]; exact List.length_filter_le _ _
    clear h1 h2 h3 h4 hbP
    obtain ⟨g1, g2, g3, g4⟩ := right_due hR
    have hm32 : m ≤ 32 := by rw [HM.out]; exact g3
    have G4 := hide g4
    obtain ⟨⟨d, g⟩, hW⟩ : ∃ s, s = wantF now l id l.length := ⟨_, rfl⟩
    have LU := hide (fun W (q : Below w.heap.size w W) => by have := leftU now l A c W id (HR.out.next q q.size) (by have := HM.out; omega) hR d g hW; rw [← HM.out] at this; exact this)
    have HW := hide hW
    have HRT := hide hR
    have SPP := hide (show srtP lP by rw [HLP.out]; exact (srtP_of (rightTm_iff.1 hR).2.2.2.1).sublist List.filter_sublist)
    rw [hR] at RI RF
    clear g3 g4 hW hR
    go_enter Try.func3, Try.ntmps3
    go_wp2_with fail
    (with_reducible refine (SU.out _ qc).mono ?_)
    rintro e1 w1 ⟨A1, c1, rfl, r1, q1⟩
    have Q1 := below_next qc qc.size q1
    have X3 := hide (heap_below B3.out q1)
    have z1 : w.heap.size < w1.heap.size := heap_lt X3.out
    obtain ⟨x0, x1, _, _⟩ := two_box X3.out
    have qa1 : Below w1.heap.size w1 (w1.alloc (.cells #[.int .i64 nS, .slice A1 nSl c1] 24)) := (Below.refl _ _).alloc (Nat.le_refl _) _
    have Q1a := below_next Q1 Q1.size qa1
    go_wp2_with fail
    (with_reducible refine (PU.out _ Q1a).mono ?_)
    rintro e2 w2 ⟨A2, c2, rfl, r2, q2⟩
    have Q2 := below_next Q1a Q1a.size q2
    have Y3 := hide (heap_below (heap_below X3.out qa1) q2)
    have Y7 := hide (heap_below (World.alloc_heap_new w1 (.cells #[.int .i64 nS, .slice A1 nSl c1] 24)) q2)
    have RS := hide ((TmR.next r1 qa1 qa1.size).next q2 q2.size)
    clear x0 x1 X3 r1 qa1 Q1a q1 q2
    obtain ⟨x0, x1, _, _⟩ := two_box Y3.out
    have z2 : w.heap.size < w2.heap.size := heap_lt Y3.out
    have qa2 : Below w2.heap.size w2 (w2.alloc (.cells #[.int .i64 now, .slice A2 nPl c2] 24)) := (Below.refl _ _).alloc (Nat.le_refl _) _
    have Q2a := below_next Q2 Q2.size qa2
    go_wp2_with fail
    (with_reducible refine (LU.out _ Q2a).mono ?_)
    rintro e3 w3 ⟨rfl, q3⟩
    have Q3 := below_next Q2a Q2a.size q3
    have Z3 := hide (heap_below (heap_below Y3.out qa2) q3)
    have Z7 := hide (heap_below (heap_below Y7.out qa2) q3)
    have Z9 := hide (heap_below (World.alloc_heap_new w2 (.cells #[.int .i64 now, .slice A2 nPl c2] 24)) q3)
    have RS3 := hide ((TmR.next RS.out qa2 qa2.size).next q3 q3.size)
    have RP3 := hide ((TmR.next r2 qa2 qa2.size).next q3 q3.size)
    clear x0 x1 Y3 Y7 r2 qa2 Q2a q3 RS
    obtain ⟨x0, x1, _, _⟩ := two_box Z3.out
    have z3 : w.heap.size < w3.heap.size := heap_lt Z3.out
    go_wp2_with fail
    (with_reducible refine (TU.out _ Q3).mono ?_)
    rintro e4 w4 ⟨A4, c4, Ao, co, rfl, r4, ro, q4⟩
    have Q4 := below_next Q3 Q3.size q4
    have qa4 : Below w4.heap.size w4 (w4.alloc (.cells #[.int .i64 nT, .slice A4 nTl c4] 24)) := (Below.refl _ _).alloc (Nat.le_refl _) _
    have q4a : Below w3.heap.size w3 (w4.alloc (.cells #[.int .i64 nT, .slice A4 nTl c4] 24)) := below_next q4 q4.size qa4
    have G3 := hide (heap_below Z3.out q4a)
    have G7 := hide (heap_below Z7.out q4a)
    have G9 := hide (heap_below Z9.out q4a)
    have G14 := hide (World.alloc_heap_new w4 (.cells #[.int .i64 nT, .slice A4 nTl c4] 24))
    have RS4 := hide (TmR.next RS3.out q4a q4a.size)
    have RP4 := hide (TmR.next RP3.out q4a q4a.size)
    have RT4 := hide (TmR.next r4 qa4 qa4.size)
    have RO4 := hide (Rd.next ro qa4 qa4.size)
    have QW := below_next Q4 Q4.size qa4
    clear x0 x1 Z3 Z7 Z9 r4 ro qa4 q4a q4 RS3 RP3
    go_wp2_with fail
    generalize w4.alloc (.cells #[.int .i64 nT, .slice A4 nTl c4] 24) = W5 at *
    have m3 := fun s : InW W5 => (⟨cell_heap (j := 0) G3.out s.h rfl, cell_heap (j := 1) G3.out s.h rfl⟩ : s.W.cell? ⟨w.heap.size, 0, none⟩ = some (.int .i64 now) ∧ s.W.cell? ⟨w.heap.size, 1, none⟩ = some (.slice A m c))
    have RIs := hide (fun s : InW W5 => RI.out s.W (QW.trans (s.h.mono QW.size)))
    have RFs := hide (fun s : InW W5 => RF.out s.W (QW.trans (s.h.mono QW.size)))
    refine wp_region_tame (by kernel_rfl) (by kernel_rfl) ?_
    repeat (go_big_quiet_step (first | (go_at_call 17; exact tame_of (RIs.out _)) | (go_at_call 18; exact tame_of (RFs.out _)) | (go_at_call 19; exact tame_of (AL.out _))))
    refine wpQuiet_nil ?_
    rintro _ ⟨s, rfl⟩
    obtain ⟨W6, q6⟩ := s
    dsimp only
    have Q6 := QW.trans (q6.mono QW.size)
    have H3 := hide (heap_below G3.out q6)
    have H7 := hide (heap_below G7.out q6)
    have H9 := hide (heap_below G9.out q6)
    have H14 := hide (heap_below G14.out q6)
    have RS6 := hide (TmR.next RS4.out q6 q6.size)
    have RP6 := hide (TmR.next RP4.out q6 q6.size)
    have RT6 := hide (TmR.next RT4.out q6 q6.size)
    have RO6 := hide (Rd.next RO4.out q6 q6.size)
    clear m3 G3 G7 G9 G14 RS4 RP4 RT4 RO4 RIs RFs q6 QW
    obtain ⟨x0, x1, _, _⟩ := two_box H3.out
    go_wp2_with fail
    (with_reducible refine (RF.out _ Q6).mono ?_)
    rintro e7 w7 ⟨rfl, q7⟩
    have Q7 := below_next Q6 Q6.size q7
    have I3 := hide (heap_below H3.out q7)
    have I7 := hide (heap_below H7.out q7)
    have I9 := hide (heap_below H9.out q7)
    have I14 := hide (heap_below H14.out q7)
    have RS7 := hide (TmR.next RS6.out q7 q7.size)
    have RP7 := hide (TmR.next RP6.out q7 q7.size)
    have RT7 := hide (TmR.next RT6.out q7 q7.size)
    have RO7 := hide (Rd.next RO6.out q7 q7.size)
    clear x0 x1 H3 H7 H9 H14 RS6 RP6 RT6 RO6 q7 Q6
    have WU := hide (fun W (q : Below w.heap.size w W) => by have := refWithout_any l A c id W (HR.out.next q q.size) (by have := HM.out; omega); rw [← HM.out, ← HLP.out] at this; exact this)
    obtain ⟨x0, x1, _, _⟩ := two_box I3.out
    go_wp2_with fail
    (with_reducible refine (WU.out _ Q7).mono ?_)
    rintro e8 w8 ⟨A8, c8, rfl, r8, hc8, q8⟩
    rw [← HNP.out] at hc8 ⊢
    have RL8 := hide r8
    have Q8 := below_next Q7 Q7.size q8
    have J3 := hide (heap_below I3.out q8)
    have J7 := hide (heap_below I7.out q8)
    have J9 := hide (heap_below I9.out q8)
    have J14 := hide (heap_below I14.out q8)
    have RS8 := hide (TmR.next RS7.out q8 q8.size)
    have RP8 := hide (TmR.next RP7.out q8 q8.size)
    have RT8 := hide (TmR.next RT7.out q8 q8.size)
    have RO8 := hide (Rd.next RO7.out q8 q8.size)
    clear I3 I7 I9 I14 RS7 RP7 RT7 RO7
    clear x0 x1 q8 r8
    obtain ⟨x0, x1, _, _⟩ := two_box J3.out
    obtain ⟨y0, y1, _, _⟩ := two_box J9.out
    have IS1 := hide (is13_any now lP nPl A2 c2 A8 c8 w8 HNP.out RP8.out RL8.out (by have := HNP.out; omega))
    go_wp2_with fail
    (with_reducible refine IS1.out.mono ?_)
    rintro e9 w9 ⟨rfl, q9⟩
    have Q9 := below_next Q8 Q8.size q9
    have RL9 := hide (TmR.next RL8.out q9 q9.size)
    have K3 := hide (heap_below J3.out q9)
    have K7 := hide (heap_below J7.out q9)
    have K9 := hide (heap_below J9.out q9)
    have K14 := hide (heap_below J14.out q9)
    have RS9 := hide (TmR.next RS8.out q9 q9.size)
    have RP9 := hide (TmR.next RP8.out q9 q9.size)
    have RT9 := hide (TmR.next RT8.out q9 q9.size)
    have RO9 := hide (Rd.next RO8.out q9 q9.size)
    clear J3 J7 J9 J14 RS8 RP8 RT8 RO8
    clear x0 x1 y0 y1 IS1 RL8 q9
    obtain ⟨x0, x1, _, _⟩ := two_box K3.out
    go_wp2
    clear x0 x1
    go_loopw [141, 19, 20] (fun vi vw vy W => ∃ (k : Nat) (d' g' : Int), k ≤ m ∧ vi = .int .i64 k ∧ vw = .int .i64 d' ∧ vy = .int .i64 g' ∧ Hid ((d', g') = wantF now l id k) ∧ Below w9.heap.size w9 W) (fun vi _ _ _ => m - (intOf vi).toNat)
    case atStart => exact ⟨0, 0, 21, Nat.zero_le _, rfl, rfl, rfl, hide rfl, Below.refl _ _⟩
    case round =>
      obtain ⟨k, d', g', hk, rfl, rfl, rfl, hwk, qr⟩ := hrel
      have Qr := below_next Q9 Q9.size qr
      have L3 := hide (heap_below K3.out qr)
      have zl : w.heap.size < wr.heap.size := heap_lt L3.out
      obtain ⟨x0, x1, _, _⟩ := two_box L3.out
      by_cases hlt : k < m
      · have hkl : k < l.length := by have := HM.out; omega
        obtain ⟨b, off, hAb, hbs, c0', c1'⟩ := (TmR.next HR.out Qr Qr.size).at_ hkl
        subst hAb
        have SW := hide (wantF_succ (now := now) (id := id) hkl)
        have gx := G4.out _ (List.getElem_mem hkl)
        have hwr : IntKind.i64.wrap (l[k].due - now) = l[k].due - now := IntWalk.i64_in _ (by omega)
        have hki : (k : Int) < (m : Int) := by omega
        rcases hb : l[k].id == id with _ | _
        · rw [hb] at SW
          have NW : Hid ((d', g') = wantF now l id (k + 1)) := hide (by rw [SW.out, if_neg (by simp)]; exact hwk.out)
          have qn : Below w9.heap.size w9 (wr.alloc (.cells #[.int .i64 l[k].id, .int .i64 l[k].due] 40)) := qr.alloc qr.size _
          clear SW gx
          go_wp2
          go_roundw
          case rel => exact ⟨k + 1, d', g', by omega, by go_num, rfl, rfl, NW, qn⟩
          case measure => simp [intOf]; omega
        · rw [hb] at SW
          have NW : Hid ((l[k].due - now, (0 : Int)) = wantF now l id (k + 1)) := hide (by rw [SW.out]; simp)
          have qn : Below w9.heap.size w9 (wr.alloc (.cells #[.int .i64 l[k].id, .int .i64 l[k].due] 40)) := qr.alloc qr.size _
          clear SW gx
          go_wp2
          go_roundw
          case rel => exact ⟨k + 1, l[k].due - now, 0, by omega, by go_num, rfl, rfl, NW, qn⟩
          case measure => simp [intOf]; omega
      · obtain rfl : m = k := by omega
        obtain ⟨rfl, rfl⟩ : d' = d ∧ g' = g := by
          have h1 := hwk.out
          have h2 := HW.out
          rw [← HM.out] at h2
          rw [← h2] at h1
          simpa using h1
        have L7 := hide (heap_below K7.out qr)
        have L14 := hide (heap_below K14.out qr)
        have RS10 := hide (TmR.next RS9.out qr qr.size)
        have RT10 := hide (TmR.next RT9.out qr qr.size)
        have RL10 := hide (TmR.next RL9.out qr qr.size)
        have RO10 := hide (Rd.next RO9.out qr qr.size)
        clear K3 K7 K9 K14 RS9 RP9 RT9 RL9 RO9 qr hwk HW
        have DU := hide (by have := refDue_any l A c (now + 1) wr (HR.out.next Qr Qr.size) (by have := HM.out; omega); rw [← HM.out] at this; exact this)
        have hwn : IntKind.i64.wrap (now + 1) = now + 1 := IntWalk.i64_in _ (by omega)
        go_wp2_with fail
        (with_reducible refine DU.out.mono ?_)
        rintro e11 w11 ⟨Ad, cd, Ae, ce, rfl, rd11, re11, _, q11⟩
        have Q11 := below_next Qr Qr.size q11
        have M3 := hide (heap_below L3.out q11)
        have M7 := hide (heap_below L7.out q11)
        have M14 := hide (heap_below L14.out q11)
        have RS11 := hide (TmR.next RS10.out q11 q11.size)
        have RT11 := hide (TmR.next RT10.out q11 q11.size)
        have RL11 := hide (TmR.next RL10.out q11 q11.size)
        have RO11 := hide (Rd.next RO10.out q11 q11.size)
        clear L3 L7 L14 RS10 RT10 RL10 RO10
        clear x0 x1 q11
        obtain ⟨x0, x1, _, _⟩ := two_box M3.out
        by_cases hmax : 1099511627776 ≤ now
        · have e3 : nT = 0 ∧ lT = [] ∧ oT = [] ∧ eT = 1 := by have := HT.out; unfold tickF at this; rw [if_pos (.inr hmax)] at this; simpa using this
          obtain ⟨rfl, rfl, rfl, rfl⟩ := e3
          obtain rfl : nTl = 0 := HNT.out
          obtain rfl : dT = 0 := HDT.out
          obtain ⟨y0, y1, _, _⟩ := two_box M7.out
          by_cases hbad : id < 0 ∨ 1000000 < id ∨ after < 1 ∨ 1000000 < after
          · have e1 : nS = 0 ∧ lS = [] ∧ eS = 1 := by have := HS.out; unfold setF at this; rw [if_pos (.inr hbad)] at this; simpa using this
            obtain ⟨rfl, rfl, rfl⟩ := e1
            obtain rfl : nSl = 0 := HNS.out
            have IS0 := hide (fun W => is13_any 0 [] 0 A1 c1 none 0 W rfl Rd.nil Rd.nil (by simp))
            have hx : id < 0 ∨ 0 ≤ id ∧ (1000000 < id ∨ id ≤ 1000000 ∧ (after < 1 ∨ 1 ≤ after ∧ 1000000 < after)) := by omega
            clear hbad
            rcases hx with h | ⟨p1, h | ⟨p2, h | ⟨p3, h⟩⟩⟩
            all_goals
              go_wp2_with fail
              (with_reducible refine (IS0.out _).mono ?_)
              rintro e20 w20 ⟨rfl, q20⟩
              have Q20 := below_next Q11 Q11.size q20
              go_wp2
              go_ret
              exact ⟨rfl, Q20⟩
          · have p1 : 0 ≤ id := by omega
            have p2 : id ≤ 1000000 := by omega
            have p3 : 1 ≤ after := by omega
            have p4 : after ≤ 1000000 := by omega
            by_cases hbusy : 32 ≤ nPl
            · have e1 : nS = 0 ∧ lS = [] ∧ eS = 20 := by have := HS.out; unfold setF at this; rw [if_neg (by rw [HRT.out]; simp; omega), if_pos (by rw [← HLP.out, ← HNP.out]; exact hbusy)] at this; simpa using this
              obtain ⟨rfl, rfl, rfl⟩ := e1
              obtain rfl : nSl = 0 := HNS.out
              have IS0 := hide (fun W => is13_any 0 [] 0 A1 c1 none 0 W rfl Rd.nil Rd.nil (by simp))
              have hbi : (32 : Int) ≤ (nPl : Int) := by omega
              clear hbad
              go_wp2_with fail
              (with_reducible refine (IS0.out _).mono ?_)
              rintro e20 w20 ⟨rfl, q20⟩
              have Q20 := below_next Q11 Q11.size q20
              go_wp2
              go_ret
              exact ⟨rfl, Q20⟩
            · have e1 : nS = now ∧ lS = insT lP ⟨id, now + after⟩ ∧ eS = 0 := by have := HS.out; unfold setF at this; rw [if_neg (by rw [HRT.out]; simp; omega), if_neg (by rw [← HLP.out, ← HNP.out]; exact hbusy), ← HLP.out] at this; simpa using this
              obtain ⟨e11, e12, rfl⟩ := e1
              obtain rfl := e11.symm
              have hbi : ¬ (32 : Int) ≤ (nPl : Int) := by omega
              have hwa : IntKind.i64.wrap (now + after) = now + after := IntWalk.i64_in _ (by omega)
              have EL := hide e12
              have ELN : Hid (lS.length ≤ 1000) := hide (by rw [e12]; unfold insT; have := HNP.out; simp; omega)
              clear hbad e12
              go_wp2_with fail
              clear x0 x1 y0 y1
              refine wp_region_L [0, 1, 2, 3, 4, 5, 6, 7, 8, 9, 10, 11, 12] [(3, fun W => W.heap[w1.heap.size]? = some (.cells #[.int .i64 now, .slice A1 nSl c1] 24 (0, 0))), (5, fun W => W.heap[w.heap.size]? = some (.cells #[.int .i64 now, .slice A m c] 24 (0, 0))), (9, fun W => W.heap[w.heap.size]? = some (.cells #[.int .i64 now, .slice A m c] 24 (0, 0)))] (by kernel_rfl) ?_
              have Z3 : Hid (w11.drew.heap[w.heap.size]? = some (.cells #[.int .i64 now, .slice A m c] 24 (0, 0))) := M3
              have Z7 : Hid (w11.drew.heap[w1.heap.size]? = some (.cells #[.int .i64 now, .slice A1 nSl c1] 24 (0, 0))) := M7
              have YS : Hid (TmR w11.drew w11.drew.heap.size A1 lS) := RS11
              have YL : Hid (TmR w11.drew w11.drew.heap.size A8 lP) := RL11
              have YQ : Below w.heap.size w w11.drew := Q11.drew
              generalize w11.drew = wz at *
              refine wpAnyL_pure (i := 0) (v := .int .i64 0) rfl rfl (by kernel_rfl) (by kernel_rfl) (by kernel_rfl) (by kernel_rfl) (by kernel_rfl) (fun _ _ _ h => h) rfl (fun W => by go_simp) ?_
              go_simp
              refine wpAnyL_pure (i := 1) (v := .bool true) rfl rfl (by kernel_rfl) (by kernel_rfl) (by kernel_rfl) (by kernel_rfl) (by kernel_rfl) (fun _ _ _ h => h) rfl (fun W => by go_simp) ?_
              go_simp
              refine wpAnyL_pure (i := 2) (v := .bool true) rfl rfl (by kernel_rfl) (by kernel_rfl) (by kernel_rfl) (by kernel_rfl) (by kernel_rfl) (fun _ _ _ h => h) rfl (fun W => by go_simp) ?_
              go_simp
              refine wpAnyL_loadG (i := 3) (v := .agg #[.int .i64 now, .slice A1 nSl c1]) rfl rfl (by kernel_rfl) (by kernel_rfl) (by kernel_rfl) (by kernel_rfl) (by kernel_rfl) (fun _ _ _ h => h) (by kernel_rfl) (fun W h => by (have hc0 : W.cell? ⟨w1.heap.size, 0, none⟩ = some (.int .i64 now) := by simp [World.cell?, h]); (have hc1 : W.cell? ⟨w1.heap.size, 1, none⟩ = some (.slice A1 nSl c1) := by simp [World.cell?, h]); clear h; go_simp) (Z7.out) ?_
              go_simp
              refine wpAnyL_pureG (i := 4) (v := .pointer (some ⟨w.heap.size, 0, none⟩)) rfl rfl (by kernel_rfl) (by kernel_rfl) (by kernel_rfl) (by kernel_rfl) (by kernel_rfl) (fun _ _ _ h => h) (by kernel_rfl) (fun W => by go_simp) ?_
              go_simp
              refine wpAnyL_loadG (i := 5) (v := .int .i64 now) rfl rfl (by kernel_rfl) (by kernel_rfl) (by kernel_rfl) (by kernel_rfl) (by kernel_rfl) (fun _ _ _ h => h) (by kernel_rfl) (fun W h => by (have hc0 : W.cell? ⟨w.heap.size, 0, none⟩ = some (.int .i64 now) := by simp [World.cell?, h]); clear h; go_simp) (Z3.out) ?_
              go_simp
              refine wpAnyL_pureG (i := 6) (v := .slice A8 nPl c8) rfl rfl (by kernel_rfl) (by kernel_rfl) (by kernel_rfl) (by kernel_rfl) (by kernel_rfl) (fun _ _ _ h => h) (by kernel_rfl) (fun W => by go_simp) ?_
              go_simp
              refine wpAnyL_pureG (i := 7) (v := .int .i64 id) rfl rfl (by kernel_rfl) (by kernel_rfl) (by kernel_rfl) (by kernel_rfl) (by kernel_rfl) (fun _ _ _ h => h) (by kernel_rfl) (fun W => by go_simp) ?_
              go_simp
              refine wpAnyL_pureG (i := 8) (v := .pointer (some ⟨w.heap.size, 0, none⟩)) rfl rfl (by kernel_rfl) (by kernel_rfl) (by kernel_rfl) (by kernel_rfl) (by kernel_rfl) (fun _ _ _ h => h) (by kernel_rfl) (fun W => by go_simp) ?_
              go_simp
              refine wpAnyL_loadG (i := 9) (v := .int .i64 now) rfl rfl (by kernel_rfl) (by kernel_rfl) (by kernel_rfl) (by kernel_rfl) (by kernel_rfl) (fun _ _ _ h => h) (by kernel_rfl) (fun W h => by (have hc0 : W.cell? ⟨w.heap.size, 0, none⟩ = some (.int .i64 now) := by simp [World.cell?, h]); clear h; go_simp) (Z3.out) ?_
              go_simp
              refine wpAnyL_pureG (i := 10) (v := .int .i64 after) rfl rfl (by kernel_rfl) (by kernel_rfl) (by kernel_rfl) (by kernel_rfl) (by kernel_rfl) (fun _ _ _ h => h) (by kernel_rfl) (fun W => by go_simp) ?_
              go_simp
              refine wpAnyL_pureG (i := 11) (v := .int .i64 (now + after)) rfl rfl (by kernel_rfl) (by kernel_rfl) (by kernel_rfl) (by kernel_rfl) (by kernel_rfl) (fun _ _ _ h => h) (by kernel_rfl) (fun W => by go_simp) ?_
              go_simp
              refine wpAnyL_pureG (i := 12) (v := .agg #[.int .i64 id, .int .i64 (now + after)]) rfl rfl (by kernel_rfl) (by kernel_rfl) (by kernel_rfl) (by kernel_rfl) (by kernel_rfl) (fun _ _ _ h => h) (by kernel_rfl) (fun W => by go_simp) ?_
              go_simp
              refine wpAnyL_one (i := 13) (by kernel_rfl) ?_
              refine wpOp_guard rfl (by kernel_rfl) ?_
              go_simp
              have WH := hide (fun W h => by have := refWith_any lP A8 c8 ⟨id, now + after⟩ W h (by have := HNP.out; omega) (by rw [← HNP.out]; exact hc8) SPP.out; rw [← HNP.out, ← EL.out] at this; exact this)
              (with_reducible refine (WH.out _ YL.out).mono ?_)
              rintro e20 w20 ⟨A9, c9, rfl, r9, _, q20⟩
              rw [← HNS.out]
              have Q20 := below_next YQ YQ.size q20
              have V3 := hide (heap_below Z3.out q20)
              have V7 := hide (heap_below Z7.out q20)
              have RS20 := hide (TmR.next YS.out q20 q20.size)
              have R9 := hide r9
              clear q20 r9 WH
              go_simp
              refine ⟨keepsL_mk (by kernel_rfl) (.cons V7.out (.cons V3.out (.cons V3.out .nil))), ?_⟩
              go_simp
              refine wpAnyL_one (i := 14) (by kernel_rfl) ?_
              refine wpOp_guard rfl (by kernel_rfl) ?_
              go_simp
              have IS3 := hide (is13_any now lS nSl A1 c1 A9 c9 w20 HNS.out RS20.out R9.out ELN.out)
              (with_reducible refine IS3.out.mono ?_)
              rintro e21 w21 ⟨rfl, q21⟩
              have Q21 := below_next Q20 Q20.size q21
              go_simp
              refine ⟨keepsL_all (by kernel_rfl) (by kernel_rfl), ?_⟩
              refine wpAnyL_one (i := 15) (by kernel_rfl) ?_
              refine wpOp_do rfl rfl ?_
              go_simp
              refine ⟨keepsL_all (by kernel_rfl) (by kernel_rfl), ?_⟩
              refine wpAnyL_one (i := 16) (by kernel_rfl) ?_
              refine wpOp_do rfl rfl ?_
              go_simp
              refine ⟨keepsL_all (by kernel_rfl) (by kernel_rfl), ?_⟩
              refine wpAnyL_done (by kernel_rfl) ?_ _
              go_wp2
              go_ret
              exact ⟨rfl, Q21⟩
        · have e3 : nT = now + 1 ∧ lT = l.drop (dueN (now + 1) l) ∧ oT = l.take (dueN (now + 1) l) ∧ eT = 0 := by have := HT.out; unfold tickF at this; rw [if_neg (by rw [HRT.out]; simp; omega)] at this; simpa using this
          obtain ⟨e31, e32, e33, rfl⟩ := e3
          obtain ⟨f1, f2⟩ := due_take HRT.out
          have go1 := e33.trans f1
          have gl1 := e32.trans f2
          rw [← go1] at rd11 ⊢
          rw [← gl1] at re11 ⊢
          rw [← HDT.out, ← HNT.out]
          have SI := hide (by have := sameInts13 oT Ao co Ad cd w11 RO11.out rd11 (by rw [go1]; exact Nat.le_trans (List.length_filter_le _ _) (by have := HM.out; omega)); rw [← HDT.out] at this; exact this)
          have RE11 := hide re11
          have HL32 := hide (show lT.length ≤ 1000 by rw [gl1]; exact Nat.le_trans (List.length_filter_le _ _) (by have := HM.out; omega))
          subst e31
          clear e32 e33 f1 f2 go1 gl1 rd11 re11
          go_wp2_with fail
          (with_reducible refine SI.out.mono ?_)
          rintro e12 w12 ⟨rfl, q12⟩
          have Q12 := below_next Q11 Q11.size q12
          have RE12 := hide (TmR.next RE11.out q12 q12.size)
          have N3 := hide (heap_below M3.out q12)
          have N7 := hide (heap_below M7.out q12)
          have N14 := hide (heap_below M14.out q12)
          have RS12 := hide (TmR.next RS11.out q12 q12.size)
          have RT12 := hide (TmR.next RT11.out q12 q12.size)
          have RL12 := hide (TmR.next RL11.out q12 q12.size)
          have RO12 := hide (Rd.next RO11.out q12 q12.size)
          clear M3 M7 M14 RS11 RT11 RL11 RO11
          clear x0 x1 q12 SI RE11
          obtain ⟨x0, x1, _, _⟩ := two_box N3.out
          obtain ⟨y0, y1, _, _⟩ := two_box N14.out
          have IS2 := hide (is13_any (now + 1) lT nTl A4 c4 Ae ce w12 HNT.out RT12.out RE12.out HL32.out)
          go_wp2_with fail
          (with_reducible refine IS2.out.mono ?_)
          rintro e13 w13 ⟨rfl, q13⟩
          have Q13 := below_next Q12 Q12.size q13
          have O3 := hide (heap_below N3.out q13)
          have O7 := hide (heap_below N7.out q13)
          have RS13 := hide (TmR.next RS12.out q13 q13.size)
          have RL13 := hide (TmR.next RL12.out q13 q13.size)
          clear N3 N7 RS12 RL12
          clear x0 x1 y0 y1 IS2 RE12 q13
          obtain ⟨x0, x1, _, _⟩ := two_box O3.out
          obtain ⟨y0, y1, _, _⟩ := two_box O7.out
          by_cases hbad : id < 0 ∨ 1000000 < id ∨ after < 1 ∨ 1000000 < after
          · have e1 : nS = 0 ∧ lS = [] ∧ eS = 1 := by have := HS.out; unfold setF at this; rw [if_pos (.inr hbad)] at this; simpa using this
            obtain ⟨rfl, rfl, rfl⟩ := e1
            obtain rfl : nSl = 0 := HNS.out
            have IS0 := hide (fun W => is13_any 0 [] 0 A1 c1 none 0 W rfl Rd.nil Rd.nil (by simp))
            have hx : id < 0 ∨ 0 ≤ id ∧ (1000000 < id ∨ id ≤ 1000000 ∧ (after < 1 ∨ 1 ≤ after ∧ 1000000 < after)) := by omega
            clear hbad
            rcases hx with h | ⟨p1, h | ⟨p2, h | ⟨p3, h⟩⟩⟩
            all_goals
              go_wp2_with fail
              (with_reducible refine (IS0.out _).mono ?_)
              rintro e20 w20 ⟨rfl, q20⟩
              have Q20 := below_next Q13 Q13.size q20
              go_wp2
              go_ret
              exact ⟨rfl, Q20⟩
          · have p1 : 0 ≤ id := by omega
            have p2 : id ≤ 1000000 := by omega
            have p3 : 1 ≤ after := by omega
            have p4 : after ≤ 1000000 := by omega
            by_cases hbusy : 32 ≤ nPl
            · have e1 : nS = 0 ∧ lS = [] ∧ eS = 20 := by have := HS.out; unfold setF at this; rw [if_neg (by rw [HRT.out]; simp; omega), if_pos (by rw [← HLP.out, ← HNP.out]; exact hbusy)] at this; simpa using this
              obtain ⟨rfl, rfl, rfl⟩ := e1
              obtain rfl : nSl = 0 := HNS.out
              have IS0 := hide (fun W => is13_any 0 [] 0 A1 c1 none 0 W rfl Rd.nil Rd.nil (by simp))
              have hbi : (32 : Int) ≤ (nPl : Int) := by omega
              clear hbad
              go_wp2_with fail
              (with_reducible refine (IS0.out _).mono ?_)
              rintro e20 w20 ⟨rfl, q20⟩
              have Q20 := below_next Q13 Q13.size q20
              go_wp2
              go_ret
              exact ⟨rfl, Q20⟩
            · have e1 : nS = now ∧ lS = insT lP ⟨id, now + after⟩ ∧ eS = 0 := by have := HS.out; unfold setF at this; rw [if_neg (by rw [HRT.out]; simp; omega), if_neg (by rw [← HLP.out, ← HNP.out]; exact hbusy), ← HLP.out] at this; simpa using this
              obtain ⟨e11, e12, rfl⟩ := e1
              obtain rfl := e11.symm
              have hbi : ¬ (32 : Int) ≤ (nPl : Int) := by omega
              have hwa : IntKind.i64.wrap (now + after) = now + after := IntWalk.i64_in _ (by omega)
              have EL := hide e12
              have ELN : Hid (lS.length ≤ 1000) := hide (by rw [e12]; unfold insT; have := HNP.out; simp; omega)
              clear hbad e12
              go_wp2_with fail
              clear x0 x1 y0 y1
              refine wp_region_L [0, 1, 2, 3, 4, 5, 6, 7, 8, 9, 10, 11, 12] [(3, fun W => W.heap[w1.heap.size]? = some (.cells #[.int .i64 now, .slice A1 nSl c1] 24 (0, 0))), (5, fun W => W.heap[w.heap.size]? = some (.cells #[.int .i64 now, .slice A m c] 24 (0, 0))), (9, fun W => W.heap[w.heap.size]? = some (.cells #[.int .i64 now, .slice A m c] 24 (0, 0)))] (by kernel_rfl) ?_
              have Z3 : Hid (w13.drew.heap[w.heap.size]? = some (.cells #[.int .i64 now, .slice A m c] 24 (0, 0))) := O3
              have Z7 : Hid (w13.drew.heap[w1.heap.size]? = some (.cells #[.int .i64 now, .slice A1 nSl c1] 24 (0, 0))) := O7
              have YS : Hid (TmR w13.drew w13.drew.heap.size A1 lS) := RS13
              have YL : Hid (TmR w13.drew w13.drew.heap.size A8 lP) := RL13
              have YQ : Below w.heap.size w w13.drew := Q13.drew
              generalize w13.drew = wz at *
              refine wpAnyL_pure (i := 0) (v := .int .i64 0) rfl rfl (by kernel_rfl) (by kernel_rfl) (by kernel_rfl) (by kernel_rfl) (by kernel_rfl) (fun _ _ _ h => h) rfl (fun W => by go_simp) ?_
              go_simp
              refine wpAnyL_pure (i := 1) (v := .bool true) rfl rfl (by kernel_rfl) (by kernel_rfl) (by kernel_rfl) (by kernel_rfl) (by kernel_rfl) (fun _ _ _ h => h) rfl (fun W => by go_simp) ?_
              go_simp
              refine wpAnyL_pure (i := 2) (v := .bool true) rfl rfl (by kernel_rfl) (by kernel_rfl) (by kernel_rfl) (by kernel_rfl) (by kernel_rfl) (fun _ _ _ h => h) rfl (fun W => by go_simp) ?_
              go_simp
              refine wpAnyL_loadG (i := 3) (v := .agg #[.int .i64 now, .slice A1 nSl c1]) rfl rfl (by kernel_rfl) (by kernel_rfl) (by kernel_rfl) (by kernel_rfl) (by kernel_rfl) (fun _ _ _ h => h) (by kernel_rfl) (fun W h => by (have hc0 : W.cell? ⟨w1.heap.size, 0, none⟩ = some (.int .i64 now) := by simp [World.cell?, h]); (have hc1 : W.cell? ⟨w1.heap.size, 1, none⟩ = some (.slice A1 nSl c1) := by simp [World.cell?, h]); clear h; go_simp) (Z7.out) ?_
              go_simp
              refine wpAnyL_pureG (i := 4) (v := .pointer (some ⟨w.heap.size, 0, none⟩)) rfl rfl (by kernel_rfl) (by kernel_rfl) (by kernel_rfl) (by kernel_rfl) (by kernel_rfl) (fun _ _ _ h => h) (by kernel_rfl) (fun W => by go_simp) ?_
              go_simp
              refine wpAnyL_loadG (i := 5) (v := .int .i64 now) rfl rfl (by kernel_rfl) (by kernel_rfl) (by kernel_rfl) (by kernel_rfl) (by kernel_rfl) (fun _ _ _ h => h) (by kernel_rfl) (fun W h => by (have hc0 : W.cell? ⟨w.heap.size, 0, none⟩ = some (.int .i64 now) := by simp [World.cell?, h]); clear h; go_simp) (Z3.out) ?_
              go_simp
              refine wpAnyL_pureG (i := 6) (v := .slice A8 nPl c8) rfl rfl (by kernel_rfl) (by kernel_rfl) (by kernel_rfl) (by kernel_rfl) (by kernel_rfl) (fun _ _ _ h => h) (by kernel_rfl) (fun W => by go_simp) ?_
              go_simp
              refine wpAnyL_pureG (i := 7) (v := .int .i64 id) rfl rfl (by kernel_rfl) (by kernel_rfl) (by kernel_rfl) (by kernel_rfl) (by kernel_rfl) (fun _ _ _ h => h) (by kernel_rfl) (fun W => by go_simp) ?_
              go_simp
              refine wpAnyL_pureG (i := 8) (v := .pointer (some ⟨w.heap.size, 0, none⟩)) rfl rfl (by kernel_rfl) (by kernel_rfl) (by kernel_rfl) (by kernel_rfl) (by kernel_rfl) (fun _ _ _ h => h) (by kernel_rfl) (fun W => by go_simp) ?_
              go_simp
              refine wpAnyL_loadG (i := 9) (v := .int .i64 now) rfl rfl (by kernel_rfl) (by kernel_rfl) (by kernel_rfl) (by kernel_rfl) (by kernel_rfl) (fun _ _ _ h => h) (by kernel_rfl) (fun W h => by (have hc0 : W.cell? ⟨w.heap.size, 0, none⟩ = some (.int .i64 now) := by simp [World.cell?, h]); clear h; go_simp) (Z3.out) ?_
              go_simp
              refine wpAnyL_pureG (i := 10) (v := .int .i64 after) rfl rfl (by kernel_rfl) (by kernel_rfl) (by kernel_rfl) (by kernel_rfl) (by kernel_rfl) (fun _ _ _ h => h) (by kernel_rfl) (fun W => by go_simp) ?_
              go_simp
              refine wpAnyL_pureG (i := 11) (v := .int .i64 (now + after)) rfl rfl (by kernel_rfl) (by kernel_rfl) (by kernel_rfl) (by kernel_rfl) (by kernel_rfl) (fun _ _ _ h => h) (by kernel_rfl) (fun W => by go_simp) ?_
              go_simp
              refine wpAnyL_pureG (i := 12) (v := .agg #[.int .i64 id, .int .i64 (now + after)]) rfl rfl (by kernel_rfl) (by kernel_rfl) (by kernel_rfl) (by kernel_rfl) (by kernel_rfl) (fun _ _ _ h => h) (by kernel_rfl) (fun W => by go_simp) ?_
              go_simp
              refine wpAnyL_one (i := 13) (by kernel_rfl) ?_
              refine wpOp_guard rfl (by kernel_rfl) ?_
              go_simp
              have WH := hide (fun W h => by have := refWith_any lP A8 c8 ⟨id, now + after⟩ W h (by have := HNP.out; omega) (by rw [← HNP.out]; exact hc8) SPP.out; rw [← HNP.out, ← EL.out] at this; exact this)
              (with_reducible refine (WH.out _ YL.out).mono ?_)
              rintro e20 w20 ⟨A9, c9, rfl, r9, _, q20⟩
              rw [← HNS.out]
              have Q20 := below_next YQ YQ.size q20
              have V3 := hide (heap_below Z3.out q20)
              have V7 := hide (heap_below Z7.out q20)
              have RS20 := hide (TmR.next YS.out q20 q20.size)
              have R9 := hide r9
              clear q20 r9 WH
              go_simp
              refine ⟨keepsL_mk (by kernel_rfl) (.cons V7.out (.cons V3.out (.cons V3.out .nil))), ?_⟩
              go_simp
              refine wpAnyL_one (i := 14) (by kernel_rfl) ?_
              refine wpOp_guard rfl (by kernel_rfl) ?_
              go_simp
              have IS3 := hide (is13_any now lS nSl A1 c1 A9 c9 w20 HNS.out RS20.out R9.out ELN.out)
              (with_reducible refine IS3.out.mono ?_)
              rintro e21 w21 ⟨rfl, q21⟩
              have Q21 := below_next Q20 Q20.size q21
              go_simp
              refine ⟨keepsL_all (by kernel_rfl) (by kernel_rfl), ?_⟩
              refine wpAnyL_one (i := 15) (by kernel_rfl) ?_
              refine wpOp_do rfl rfl ?_
              go_simp
              refine ⟨keepsL_all (by kernel_rfl) (by kernel_rfl), ?_⟩
              refine wpAnyL_one (i := 16) (by kernel_rfl) ?_
              refine wpOp_do rfl rfl ?_
              go_simp
              refine ⟨keepsL_all (by kernel_rfl) (by kernel_rfl), ?_⟩
              refine wpAnyL_done (by kernel_rfl) ?_ _
              go_wp2
              go_ret
              exact ⟨rfl, Q21⟩
end Go.Proofs.Ytnfpbbgajabjkaa
