/- Parts of structs in memory; com.Start, Read of such as may be. -/
import Derived.Test.YtnhegnneohpkaaaGreatMgCmG
import Derived.Test.YtnhegnneohpkaaaGreatCmF
import Derived.Test.YtnhegnneohpkaaaGreatRvB
import Derived.Test.YtnhegnneohpkaaaGreatSnG
namespace Go.Proofs.YtnhegnneohpkaaaGreat
open Go.ChangeShapes Go.WideShapes Go.ChangeAt Go.RowKit
open CM PD SG

theorem sub_range {W : World} {b : Nat} {cs vs : List Value} {t : TypeId} {fz : Nat × Nat} (h : W.heap[b]? = some (.cells cs.toArray t fz)) (o : Nat) (e : (cs.drop o).take vs.length = vs) : W.rangeAt b o vs := fun j v hv => by
  have h1 : cs[o + j]? = some v := by
    rw [← e, List.getElem?_take] at hv
    split at hv
    · rw [List.getElem?_drop] at hv; exact hv
    · cases hv
  simpa [World.cell?, h] using h1
theorem sub_there {W : World} {b : Nat} {cs : List Value} {t : TypeId} (h : W.heap[b]? = some (.cells cs.toArray t (0, 0))) (o n : Nat) (hl : o + n ≤ cs.length) : W.there b o n := by
  have := there_of (sub_range (vs := (cs.drop o).take n) h o (by rw [List.length_take, List.length_drop]; congr 1; omega)) (fun j => by simp [World.frozen?, h])
  rwa [List.length_take, List.length_drop, Nat.min_eq_left (by omega)] at this
theorem rightOut_l (o : Ou) (w : World) (ho : o.Ok w) (h : o.right = true) : Calls Tryz.prog 25 #[.agg o.cs.toArray] w fun e w' => e = .returned (.bool true) ∧ Below w.heap.size w w' := by
  have := rightOut_any o w ho
  rwa [h] at this
theorem rightIn_l (o : Inn) (w : World) (ho : o.Ok w) (h : o.right = true) : Calls Tryz.prog 23 #[.agg o.cs.toArray] w fun e w' => e = .returned (.bool true) ∧ Below w.heap.size w w' := by
  have := rightIn_any o w ho
  rwa [h] at this
theorem ou_free {W : World} {B : Nat} {o : Ou} {t : TypeId} (h : W.heap[B]? = some (.cells o.cs.toArray t (0, 0))) (j : Nat) : W.frozen? ⟨B, j, none⟩ = false := by simp [World.frozen?, h]
theorem in_free {W : World} {B : Nat} {o : Inn} {t : TypeId} (h : W.heap[B]? = some (.cells o.cs.toArray t (0, 0))) (j : Nat) : W.frozen? ⟨B, j, none⟩ = false := by simp [World.frozen?, h]
structure ComR (L : Ly) (fl : List Flt) (sv gv : List Int) (times : Int) : Prop where
  right : rightB L = true
  n0 : 1 ≤ L.sgs.length
  n : L.sgs.length ≤ 16
  len : fl.length = L.sgs.length
  gr : grB sv.length gv.length times = true
  lg : gv.length = L.sgs.length
  ls : sv.length = L.sgs.length
  may : ∀ f ∈ fl, fltB f = true ∧ f.count < 1099511627776
  fg : fitA L gv = true
  fs : fitA L sv = true
theorem comB_parts {L : Ly} {fl : List Flt} {sv gv : List Int} {times : Int} (h : comB L fl sv gv times = true) : ComR L fl sv gv times := by
  unfold comB at h
  simp only [Bool.and_eq_true, decide_eq_true_eq] at h
  obtain ⟨h1, h2, h3, h4, h5, h6, h7, h8⟩ := h
  have hg := grB_iff.1 h4
  refine ⟨h1, by omega, (right_iff.1 h1).2.2.1, h3, h4, h5, by omega, fun f hf => ?_, h7, h8⟩
  have := allW_iff.1 h6
  obtain ⟨i, hi, rfl⟩ := List.mem_iff_getElem.1 hf
  have := this i hi
  unfold fltMay at this
  simpa using this
theorem Ou.parts {o : Ou} (h : o.right = true) : ComR o.ly.L o.fl.l o.S.l o.G.l o.times ∧ o.news.l.length = o.ly.L.sgs.length ∧ sndB o.snd = true := by
  unfold Ou.right at h
  simp only [Bool.and_eq_true, decide_eq_true_eq] at h
  exact ⟨comB_parts h.1, h.2.1, h.2.2⟩
theorem Inn.parts {o : Inn} (h : o.right = true) : ComR o.ly.L o.fl.l o.S.l o.G.l o.times ∧ fitA o.ly.L o.subs.l = true ∧ wtB o.w = true := by
  unfold Inn.right at h
  simp only [Bool.and_eq_true] at h
  exact ⟨comB_parts h.1, h.2.1, h.2.2⟩

set_option maxRecDepth 100000 in
set_option maxHeartbeats 16000000 in
theorem comRead_ok (i : Inn) (k : Nat) (w : World) (ho : i.Ok w) (hr : i.right = true) (hk : k < i.G.l.length) :
    Calls Tryz.prog 12 #[.agg i.cs.toArray, .int .i64 k] w fun e w' => e = .returned (.tuple #[.int .i64 i.G.l[k], .int .i64 0]) ∧ Below w.heap.size w w' := by
  obtain ⟨w0, hw0⟩ : ∃ w0, w0 = w.alloc (.cells i.cs.toArray 47) := ⟨_, rfl⟩
  have B := hide (World.alloc_heap_new w (.cells i.cs.toArray 47))
  have Q : Hid (Below w.heap.size w w0) := by rw [hw0]; exact hide ((Below.refl w.heap.size w).alloc (Nat.le_refl _) (.cells i.cs.toArray 47))
  rw [← hw0] at B
  have RT := hide (fun W (q : Below w.heap.size w W) => rightIn_l i W (ho.next q) hr)
  have GT := hide (fun W (q : Below w.heap.size w W) => grGet_ok i.S i.G i.times k W (Inn.parts hr).1.gr (ho.next q).G.r hk)
  obtain ⟨gk, hgk⟩ : ∃ gk, gk = i.G.l[k] := ⟨_, rfl⟩
  rw [← hgk] at GT ⊢
  clear ho hr hgk
  go_enter Tryz.func12, Tryz.ntmps12
  go_upto_region 1 with fail
  change Code.wp _ _ _ _ (w.alloc (.cells i.cs.toArray 47))
  rw [← hw0]
  clear hw0
  have R1 := hide (RT.out _ Q.out)
  clear RT
  go_wp2_with (refine wpList_load_row rfl 47 (.tmp 2) (by rfl) w.heap.size (by rfl) 47 i.cs.toArray (0, 0) _ (by exact B.out) Tryz.underlying47 (by rfl) (by kernel_rfl) ?_)
  (with_reducible refine (R1.out).mono ?_)
  rintro ew1' w1' ⟨rfl, qw1'⟩
  replace B := hide (heap_below B.out qw1')
  replace Q := hide (below_next Q.out Q.out.size qw1')
  clear qw1'
  clear R1
  have G1 := hide (GT.out _ Q.out)
  clear GT
  go_wp2_with (refine wpList_load_mid rfl 35 (.tmp 9) (by rfl) w.heap.size 4 (by rfl) (grI i.S i.G i.times) _ (by exact sub_range B.out 4 rfl) Tryz.underlying35 (by rfl) (by kernel_rfl) ?_)
  (with_reducible refine (G1.out).mono ?_)
  rintro ew2' w2' ⟨rfl, qw2'⟩
  replace B := hide (heap_below B.out qw2')
  replace Q := hide (below_next Q.out Q.out.size qw2')
  clear qw2'
  clear G1
  go_wp2_with fail
  exact bodyPost_ret (results_tmp2 rfl _ _ _) rfl ⟨rfl, Q.out⟩

set_option maxRecDepth 100000 in
set_option maxHeartbeats 16000000 in
theorem comStart_ok (i : Inn) (w : World) (ho : i.Ok w) (hr : i.right = true) :
    Calls Tryz.prog 7 #[.agg i.cs.toArray] w fun e w' => e = .returned (.tuple #[.agg ({ i with w := i.w.start } : Inn).cs.toArray, .int .i64 0]) ∧ Below w.heap.size w w' := by
  obtain ⟨w0, hw0⟩ : ∃ w0, w0 = (w.alloc (.cells i.cs.toArray 47)).alloc (.cells Inn.zero.cs.toArray 47) := ⟨_, rfl⟩
  have B := hide (heap_below (World.alloc_heap_new w (.cells i.cs.toArray 47)) ((Below.refl _ (w.alloc (.cells i.cs.toArray 47))).alloc (Nat.le_refl _) (.cells Inn.zero.cs.toArray 47)))
  have R := hide (World.alloc_heap_new (w.alloc (.cells i.cs.toArray 47)) (.cells Inn.zero.cs.toArray 47))
  have Q : Hid (Below w.heap.size w w0) := by rw [hw0]; exact hide (((Below.refl w.heap.size w).alloc (Nat.le_refl _) (.cells i.cs.toArray 47)).alloc (by simp; try omega) (.cells Inn.zero.cs.toArray 47))
  rw [← hw0] at B R
  simp only [World.size_alloc] at R
  have RT := hide (fun W (q : Below w.heap.size w W) => rightIn_l i W (ho.next q) hr)
  have ST := hide (fun W => recvStart_ok i.w W (Inn.parts hr).2.2)
  clear ho hr
  go_enter Tryz.func7, Tryz.ntmps7
  go_upto_region 1 with fail
  change Code.wp _ _ _ _ ((w.alloc (.cells i.cs.toArray 47)).alloc (.cells Inn.zero.cs.toArray 47))
  rw [← hw0]
  clear hw0
  have S1 := hide (ST.out w0)
  clear ST
  go_wp2_with (refine wpList_load_mid rfl 45 (.tmp 7) (by rfl) w.heap.size 8 (by rfl) (wtcL i.w) _ (by exact sub_range B.out 8 rfl) Tryz.underlying45 (by rfl) (by kernel_rfl) ?_)
  (with_reducible refine (S1.out).mono ?_)
  rintro ew1' w1' ⟨rfl, qw1'⟩
  replace B := hide (heap_below B.out qw1')
  replace R := hide (heap_below R.out qw1')
  replace Q := hide (below_next Q.out Q.out.size qw1')
  clear qw1'
  clear S1
  have X := World.alloc_heap_new w1' (.cells (wtcL zWt).toArray 45)
  have zBx : w.heap.size < w1'.heap.size := heap_lt B.out
  have zRx : w.heap.size + 1 < w1'.heap.size := heap_lt R.out
  have zQx : w.heap.size ≤ w1'.heap.size := Q.out.size
  obtain ⟨w3', hw3'⟩ : ∃ wx, wx = w1'.alloc (.cells (wtcL zWt).toArray 45) := ⟨_, rfl⟩
  have q2' := hide (show Below w1'.heap.size w1' w3' by rw [hw3']; exact (Below.refl _ _).alloc (Nat.le_refl _) _)
  rw [← hw3'] at X
  replace X := hide X
  have Tw4' := hide (show (w1'.alloc (.cells (wtcL zWt).toArray 45)).there w1'.heap.size 0 5 by rw [← hw3']; exact there_heap (cs := wtcL zWt) X.out)
  go_wp2_with (refine wpList_store_hid (by rfl) 45 (.tmp 4) (.tmp 10) (by rfl) w1'.heap.size 0 (wtcL i.w.start) (by rfl) (by rfl) (by exact Tw4'.out) (by kernel_rfl) (by simp [Value.oneCell', wtcL]) ?_)
  intro w4' ew4'
  replace ew4' : Hid (w4' = w3'.setCells w1'.heap.size 0 (wtcL i.w.start)) := by rw [hw3']; exact ew4'
  replace X := hide (show w4'.heap[w1'.heap.size]? = some (.cells (wtcL i.w.start).toArray 45 (0, 0)) by rw [ew4'.out]; exact whole_heap (wtcL i.w.start) (xs := wtcL zWt) X.out rfl)
  replace q2' := hide (show Below w1'.heap.size w1' w4' by rw [ew4'.out]; exact q2'.out.trans (below_setCells _ _ _ (by omega)))
  clear ew4' Tw4' hw3'
  replace B := hide (heap_below B.out q2'.out)
  replace R := hide (heap_below R.out q2'.out)
  replace Q := hide (below_next Q.out Q.out.size q2'.out)
  clear q2'
  generalize w1'.heap.size = x at *
  have R1 := hide (RT.out _ Q.out)
  clear RT
  have zx := heap_lt X.out
  go_wp2_with (refine wpList_load_row rfl 47 (.tmp 1) (by rfl) w.heap.size (by rfl) 47 i.cs.toArray (0, 0) _ (by exact B.out) Tryz.underlying47 (by rfl) (by kernel_rfl) ?_)
  (with_reducible refine (R1.out).mono ?_)
  rintro ew5' w5' ⟨rfl, qw5'⟩
  replace B := hide (heap_below B.out qw5')
  replace R := hide (heap_below R.out qw5')
  replace X := hide (heap_below X.out qw5')
  replace Q := hide (below_next Q.out Q.out.size qw5')
  clear qw5'
  clear R1
  have zB := heap_lt B.out
  have zR := heap_lt R.out
  have zX := heap_lt X.out
  have zQ := Q.out.size
  have Tw6' := hide (show World.there _ w.heap.size 8 5 from sub_there (cs := i.cs) B.out 8 5 (by simp [Inn.cs, Fv.v, Iv.v]))
  go_wp2_with (first | (refine wpList_load_row rfl 45 (.tmp 4) (by rfl) x (by rfl) 45 (wtcL i.w.start).toArray (0, 0) _ (by exact X.out) Tryz.underlying45 (by rfl) (by kernel_rfl) ?_) | (refine wpList_store_hid (by rfl) 45 (.tmp 21) (.tmp 20) (by rfl) w.heap.size 8 (wtcL i.w.start) (by rfl) (by rfl) (by exact Tw6'.out) (by kernel_rfl) (by simp [Value.oneCell', wtcL]) ?_))
  intro w6' ew6'
  replace R := hide (show w6'.heap[w.heap.size + 1]? = some (.cells Inn.zero.cs.toArray 47 (0, 0)) by rw [ew6'.out]; exact other_heap (by omega) _ _ _ R.out)
  replace X := hide (show w6'.heap[x]? = some (.cells (wtcL i.w.start).toArray 45 (0, 0)) by rw [ew6'.out]; exact other_heap (by omega) _ _ _ X.out)
  replace Q := hide (show Below w.heap.size w w6' by rw [ew6'.out]; exact Q.out.trans (below_setCells _ _ _ (by have := Q.out.size; omega)))
  replace B := hide (show w6'.heap[w.heap.size]? = some (.cells (({ i with w := i.w.start } : Inn).cs).toArray 47 (0, 0)) by rw [ew6'.out]; exact set_heap (wtcL i.w.start) (i.cs) 8 _ B.out)
  clear ew6' Tw6'
  have Tw7' := hide (show World.there _ (w.heap.size + 1) 0 13 from there_heap (cs := Inn.zero.cs) R.out)
  go_wp2_with (first | (refine wpList_load_row rfl 47 (.tmp 1) (by rfl) w.heap.size (by rfl) 47 (({ i with w := i.w.start } : Inn).cs).toArray (0, 0) _ (by exact B.out) Tryz.underlying47 (by rfl) (by kernel_rfl) ?_) | (refine wpList_store_hid (by rfl) 47 (.tmp 2) (.tmp 22) (by rfl) (w.heap.size + 1) 0 (({ i with w := i.w.start } : Inn).cs) (by rfl) (by rfl) (by exact Tw7'.out) (by kernel_rfl) (by simp [Value.oneCell', Inn.cs, Fv.v, Iv.v]) ?_))
  intro w7' ew7'
  replace B := hide (show w7'.heap[w.heap.size]? = some (.cells (({ i with w := i.w.start } : Inn).cs).toArray 47 (0, 0)) by rw [ew7'.out]; exact other_heap (by omega) _ _ _ B.out)
  replace X := hide (show w7'.heap[x]? = some (.cells (wtcL i.w.start).toArray 45 (0, 0)) by rw [ew7'.out]; exact other_heap (by omega) _ _ _ X.out)
  replace Q := hide (show Below w.heap.size w w7' by rw [ew7'.out]; exact Q.out.trans (below_setCells _ _ _ (by have := Q.out.size; omega)))
  replace R := hide (show w7'.heap[w.heap.size + 1]? = some (.cells (({ i with w := i.w.start } : Inn).cs).toArray 47 (0, 0)) by rw [ew7'.out]; exact whole_heap (({ i with w := i.w.start } : Inn).cs) (xs := Inn.zero.cs) R.out rfl)
  clear ew7' Tw7'
  go_wp2_with fail
  refine bodyPost_ret (results_cell_tmp (by rfl) _ w7' (w.heap.size + 1) 47 (({ i with w := i.w.start } : Inn).cs).toArray (0, 0) _ (.int .i64 0) (by rfl) (by rfl) R.out Tryz.underlying47 (by rfl) (by kernel_rfl)) rfl (⟨rfl, Q.out⟩)
end Go.Proofs.YtnhegnneohpkaaaGreat

/- com.Write of bytes to be sent that may be. -/
namespace Go.Proofs.YtnhegnneohpkaaaGreat
open Go.ChangeShapes Go.WideShapes Go.ChangeAt Go.RowKit
open CM PD SG

/-- What Write answers. -/
structure Ou.Wr (o : Ou) (k : Nat) (v : Int) (N : Nat) (V : Ou) : Prop where
  ly : V.ly = o.ly
  fill : V.fill = o.fill
  fl : V.fl = o.fl
  S : V.S.l = o.S.l.set k v
  G : V.G = o.G
  times : V.times = o.times
  news : V.news.l = o.news.l.set k true
  snd : V.snd = o.snd
  fs : Fresh N V.S.a
  fn : Fresh N V.news.a
/-- A row's block lies below. -/
def RowLt (A : Option Addr) (n x : Nat) : Prop := n = 0 ∨ ∀ g off, A = some ⟨g, off, none⟩ → g < x
theorem rowLt {w : World} {B : Nat} {A : Option Addr} {sz : Nat} {R : List (List Value)} (h : Rd w B A sz R) : RowLt A R.length B := by
  by_cases hn : 0 < R.length
  · obtain ⟨g, off, e, hb, _⟩ := h hn
    refine .inr fun g2 off2 e2 => ?_
    rw [e] at e2
    cases e2
    exact hb
  · exact .inl (by omega)
theorem off_fresh2 {A : Option Addr} {n x g : Nat} (h : RowLt A n x) (hg : x ≤ g) : Off A n g := h.elim .inl fun k => .inr fun g2 off e => by have := k g2 off e; omega
theorem lim_set {l : List Int} {k : Nat} {v : Int} (h : ∀ x ∈ l, lim x) (hv : lim v) : ∀ x ∈ l.set k v, lim x := fun x hx => by
  rcases List.mem_or_eq_of_mem_set hx with h1 | h1
  · exact h x h1
  · rw [h1]; exact hv

set_option maxRecDepth 100000 in
set_option maxHeartbeats 16000000 in
theorem comWrite_ok (o : Ou) (k : Nat) (v : Int) (w : World) (ho : o.Ok w) (hr : o.right = true) (hk : k < o.ly.L.sgs.length) (hv : lim v) (hf : fitsB o.ly.L.sgs[k] v = true) :
    Calls Tryz.prog 8 #[.agg o.cs.toArray, .int .i64 k, .int .i64 v] w fun e w' => ∃ V : Ou, e = .returned (.tuple #[.agg V.cs.toArray, .int .i64 0]) ∧ V.Ok w' ∧ o.Wr k v w.heap.size V ∧ Below w.heap.size w w' := by
  obtain ⟨w0, hw0⟩ : ∃ w0, w0 = (w.alloc (.cells o.cs.toArray 40)).alloc (.cells Ou.zero.cs.toArray 40) := ⟨_, rfl⟩
  have B := hide (heap_below (World.alloc_heap_new w (.cells o.cs.toArray 40)) ((Below.refl _ (w.alloc (.cells o.cs.toArray 40))).alloc (Nat.le_refl _) (.cells Ou.zero.cs.toArray 40)))
  have R := hide (World.alloc_heap_new (w.alloc (.cells o.cs.toArray 40)) (.cells Ou.zero.cs.toArray 40))
  have Q : Hid (Below w.heap.size w w0) := by rw [hw0]; exact hide (((Below.refl w.heap.size w).alloc (Nat.le_refl _) (.cells o.cs.toArray 40)).alloc (by simp; try omega) (.cells Ou.zero.cs.toArray 40))
  rw [← hw0] at B R
  simp only [World.size_alloc] at R
  obtain ⟨P, hnl, hsd⟩ := Ou.parts hr
  have RT := hide (fun W (q : Below w.heap.size w W) => rightOut_l o W (ho.next q) hr)
  have hs := rightS_iff.1 ((right_iff.1 P.right).2.2.2.2.1 _ (List.getElem_mem hk))
  have FT := hide (fun W => show Calls Tryz.prog 26 #[.agg #[.int .i64 o.ly.L.sgs[k].start, .int .i64 o.ly.L.sgs[k].width, .bool o.ly.L.sgs[k].big, .bool o.ly.L.sgs[k].sgn], .int .i64 v] W fun e w' => e = .returned (.bool true) ∧ Below W.heap.size W w' from by
    have := fits_any o.ly.L.sgs[k] v W hv.1 hv.2 hs.1
    rwa [hf] at this)
  have GS := hide (fun W (q : Below w.heap.size w W) => grSet_ok o.S o.G o.times k v W P.gr (ho.next q).S.r (by have := P.ls; omega))
  have CB := hide (fun W (q : Below w.heap.size w W) => cloneBo_any o.news.l o.news.a o.news.c W (ho.next q).news.r (by have := P.n0; omega) (by have := P.n; omega))
  have HO := hide ho
  have HK := hide hk
  have HP := hide P
  have HN := hide hnl
  have HV := hide hv
  have hk0 : ¬ (k : Int) < 0 := by omega
  have hk1 : ¬ (o.news.l.length : Int) ≤ (k : Int) := by omega
  have hk2 : (k : Int) < (o.news.l.length : Int) := by omega
  have hk3 : (k : Int) < (o.ly.L.sgs.length : Int) := by omega
  obtain ⟨ab, ao, hA, hab, s0, s1, s2, s3⟩ := SgR.at_ ho.ly.a hk
  clear ho hr P hnl hsd hs hf hv
  go_enter Tryz.func8, Tryz.ntmps8
  go_upto_region 1 with fail
  change Code.wp _ _ _ _ ((w.alloc (.cells o.cs.toArray 40)).alloc (.cells Ou.zero.cs.toArray 40))
  rw [← hw0]
  clear hw0
  have R1 := hide (RT.out _ Q.out)
  clear RT
  go_wp2_with (refine wpList_load_row rfl 40 (.tmp 3) (by rfl) w.heap.size (by rfl) 40 o.cs.toArray (0, 0) _ (by exact B.out) Tryz.underlying40 (by rfl) (by kernel_rfl) ?_)
  (with_reducible refine (R1.out).mono ?_)
  rintro ew1' w1' ⟨rfl, qw1'⟩
  replace B := hide (heap_below B.out qw1')
  replace R := hide (heap_below R.out qw1')
  replace Q := hide (below_next Q.out Q.out.size qw1')
  clear qw1'
  clear R1
  obtain ⟨⟨-, c1, -, -, -, -, -, -, c8⟩, -⟩ := ou_cells B.out
  unfold Bv.v at c8
  rw [hA] at c1
  have Y0 := cellBelow Q.out hab s0
  have Y1 := cellBelow Q.out hab s1
  have Y2 := cellBelow Q.out hab s2
  have Y3 := cellBelow Q.out hab s3
  go_wp2_with fail
  (with_reducible refine (FT.out _).mono ?_)
  rintro ew2' w2' ⟨rfl, qw2'⟩
  replace B := hide (heap_below B.out qw2')
  replace R := hide (heap_below R.out qw2')
  replace Q := hide (below_next Q.out Q.out.size qw2')
  clear qw2'
  clear FT
  clear c1 c8 Y0 Y1 Y2 Y3 s0 s1 s2 s3 hA hab hk0 hk1 hk3
  have G1 := hide (GS.out _ Q.out)
  clear GS
  go_wp2_with (refine wpList_load_mid rfl 35 (.tmp 36) (by rfl) w.heap.size 5 (by rfl) (grI o.S o.G o.times) _ (by exact sub_range B.out 5 rfl) Tryz.underlying35 (by rfl) (by kernel_rfl) ?_)
  have zQ0 := Q.out.size
  (with_reducible refine (G1.out).mono ?_)
  rintro ew3' w3' ⟨A, rfl, ⟨eA, RA, FRA⟩, qw3'⟩
  have O_RA_B := hide (show Off A.a (inRow (o.S.l.set k v)).length w.heap.size from off_fresh FRA (heap_lt B.out))
  have O_RA_R := hide (show Off A.a (inRow (o.S.l.set k v)).length (w.heap.size + 1) from off_fresh FRA (heap_lt R.out))
  replace B := hide (heap_below B.out qw3')
  replace R := hide (heap_below R.out qw3')
  replace Q := hide (below_next Q.out Q.out.size qw3')
  clear qw3'
  replace RA := hide (show Rd w3' w3'.heap.size A.a 1 (inRow (o.S.l.set k v)) from RA)
  replace FRA := hide FRA
  clear G1
  have zB := heap_lt B.out
  have zR := heap_lt R.out
  have zQ := Q.out.size
  have Tw4' := hide (show World.there _ w.heap.size 5 3 from sub_there (cs := o.cs) B.out 5 3 (by simp [Ou.cs, Fv.v, Iv.v, Bv.v]))
  go_wp2_with (refine wpList_store_hid (by rfl) 35 (.tmp 43) (.tmp 41) (by rfl) w.heap.size 5 (grI A o.G o.times) (by rfl) (by rfl) (by exact Tw4'.out) (by kernel_rfl) (by simp [Value.oneCell', grI, Iv.v]) ?_)
  intro w4' ew4'
  replace R := hide (show w4'.heap[w.heap.size + 1]? = some (.cells Ou.zero.cs.toArray 40 (0, 0)) by rw [ew4'.out]; exact other_heap (by omega) _ _ _ R.out)
  replace RA := hide (show Rd w4' w4'.heap.size A.a 1 (inRow (o.S.l.set k v)) by rw [ew4'.out]; exact off_set RA.out O_RA_B.out _ _)
  replace Q := hide (show Below w.heap.size w w4' by rw [ew4'.out]; exact Q.out.trans (below_setCells _ _ _ (by have := Q.out.size; omega)))
  replace B := hide (show w4'.heap[w.heap.size]? = some (.cells (({ o with S := A } : Ou).cs).toArray 40 (0, 0)) by rw [ew4'.out]; exact set_heap (grI A o.G o.times) (o.cs) 5 _ B.out)
  clear ew4' Tw4'
  have C1 := hide (CB.out _ Q.out)
  clear CB
  obtain ⟨⟨-, -, -, -, -, -, -, -, c8⟩, -⟩ := ou_cells B.out
  unfold Bv.v at c8
  have zB2 := heap_lt B.out
  have zR2 := heap_lt R.out
  have zQ2 := Q.out.size
  obtain ⟨nb, hnb⟩ : ∃ nb, nb = w4'.heap.size := ⟨_, rfl⟩
  have ORA := hide (show RowLt A.a (inRow (o.S.l.set k v)).length nb by rw [hnb]; exact rowLt RA.out)
  go_wp2_with fail
  clear c8
  (with_reducible refine (C1.out).mono ?_)
  rintro ew5' w5' ⟨⟨g, c', rfl, ow⟩, qw5'⟩
  replace B := hide (heap_below B.out qw5')
  replace R := hide (heap_below R.out qw5')
  replace RA := hide (Rd.next RA.out qw5' qw5'.size)
  replace Q := hide (below_next Q.out Q.out.size qw5')
  clear qw5'
  clear C1
  rw [← hnb] at ow zB2 zR2 zQ2
  have hg := own_blk ow g 0 rfl
  have OA := hide (off_fresh2 ORA.out hg)
  have OB := hide ow
  clear ow
  have f8 := ou_free B.out 8
  obtain ⟨⟨-, -, -, -, -, -, -, -, c8⟩, -⟩ := ou_cells B.out
  go_upto_region 7 with fail
  clear c8 f8
  obtain ⟨w6', ew6'⟩ : ∃ wq, wq = w5'.setCell ⟨w.heap.size, 8, none⟩ (.slice (some ⟨g, 0, none⟩) o.news.l.length c') := ⟨_, rfl⟩
  rw [← ew6']
  replace R := hide (show w6'.heap[w.heap.size + 1]? = some (.cells Ou.zero.cs.toArray 40 (0, 0)) by rw [ew6']; exact other_heap (by omega) ([.slice (some ⟨g, 0, none⟩) o.news.l.length c']) 8 _ R.out)
  replace RA := hide (show Rd w6' w6'.heap.size A.a 1 (inRow (o.S.l.set k v)) by rw [ew6']; exact off_set RA.out O_RA_B.out ([.slice (some ⟨g, 0, none⟩) o.news.l.length c']) 8)
  replace OB := hide (show Own w6' nb 4 1 (some ⟨g, 0, none⟩) c' (boRow o.news.l) by rw [ew6']; exact own_setCells (by omega) ([.slice (some ⟨g, 0, none⟩) o.news.l.length c']) 8 _ OB.out)
  replace Q := hide (show Below w.heap.size w w6' by rw [ew6']; exact Q.out.trans (below_setCells ([.slice (some ⟨g, 0, none⟩) o.news.l.length c']) 8 _ (by omega)))
  replace B := hide (show w6'.heap[w.heap.size]? = some (.cells (({ o with S := A, news := ⟨o.news.l, some ⟨g, 0, none⟩, c'⟩ } : Ou).cs).toArray 40 (0, 0)) by rw [ew6']; exact set_heap ([.slice (some ⟨g, 0, none⟩) o.news.l.length c']) (({ o with S := A } : Ou).cs) 8 _ B.out)
  clear ew6'
  obtain ⟨⟨-, -, -, -, -, -, -, -, c8⟩, -⟩ := ou_cells B.out
  unfold Bv.v at c8
  obtain ⟨y0, y1⟩ := own_boc OB.out (k := k) (by have := HN.out; have := HK.out; omega)
  go_upto_region 8 with fail
  clear c8 y0 y1
  obtain ⟨w7', ey⟩ : ∃ wq, wq = w6'.setCell ⟨g, k, none⟩ (.bool true) := ⟨_, rfl⟩
  rw [← ey]
  replace B := hide (show w7'.heap[w.heap.size]? = some (.cells (({ o with S := A, news := ⟨o.news.l, some ⟨g, 0, none⟩, c'⟩ } : Ou).cs).toArray 40 (0, 0)) by rw [ey]; exact other_heap (by omega) [.bool true] k _ B.out)
  replace R := hide (show w7'.heap[w.heap.size + 1]? = some (.cells Ou.zero.cs.toArray 40 (0, 0)) by rw [ey]; exact other_heap (by omega) [.bool true] k _ R.out)
  have O_RA_g := hide (show Off A.a (inRow (o.S.l.set k v)).length g from OA.out)
  replace RA := hide (show Rd w7' w7'.heap.size A.a 1 (inRow (o.S.l.set k v)) by rw [ey]; exact off_set RA.out O_RA_g.out [.bool true] k)
  replace OB := hide (show Own w7' nb 4 1 (some ⟨g, 0, none⟩) c' (boRow (o.news.l.set k true)) by rw [ey]; exact own_boo OB.out (by have := HN.out; have := HK.out; omega))
  replace Q := hide (show Below w.heap.size w w7' by rw [ey]; exact Q.out.trans (below_setCells [.bool true] k _ (by omega)))
  clear ey
  have zB3 := heap_lt B.out
  have zR3 := heap_lt R.out
  have zQ3 := Q.out.size
  have Tw8' := hide (show World.there _ (w.heap.size + 1) 0 26 from there_heap (cs := Ou.zero.cs) R.out)
  go_wp2_with (first | (refine wpList_load_row rfl 40 (.tmp 3) (by rfl) w.heap.size (by rfl) 40 (({ o with S := A, news := ⟨o.news.l, some ⟨g, 0, none⟩, c'⟩ } : Ou).cs).toArray (0, 0) _ (by exact B.out) Tryz.underlying40 (by rfl) (by kernel_rfl) ?_) | (refine wpList_store_hid (by rfl) 40 (.tmp 6) (.tmp 52) (by rfl) (w.heap.size + 1) 0 (({ o with S := A, news := ⟨o.news.l, some ⟨g, 0, none⟩, c'⟩ } : Ou).cs) (by rfl) (by rfl) (by exact Tw8'.out) (by kernel_rfl) (by simp [Value.oneCell', Ou.cs, Fv.v, Iv.v, Bv.v]) ?_))
  intro w8' ew8'
  replace B := hide (show w8'.heap[w.heap.size]? = some (.cells (({ o with S := A, news := ⟨o.news.l, some ⟨g, 0, none⟩, c'⟩ } : Ou).cs).toArray 40 (0, 0)) by rw [ew8'.out]; exact other_heap (by omega) _ _ _ B.out)
  replace RA := hide (show Rd w8' w8'.heap.size A.a 1 (inRow (o.S.l.set k v)) by rw [ew8'.out]; exact off_set RA.out O_RA_R.out _ _)
  replace OB := hide (show Own w8' nb 4 1 (some ⟨g, 0, none⟩) c' (boRow (o.news.l.set k true)) by rw [ew8'.out]; exact own_setCells (by omega) _ _ _ OB.out)
  replace Q := hide (show Below w.heap.size w w8' by rw [ew8'.out]; exact Q.out.trans (below_setCells _ _ _ (by have := Q.out.size; omega)))
  replace R := hide (show w8'.heap[w.heap.size + 1]? = some (.cells (({ o with S := A, news := ⟨o.news.l, some ⟨g, 0, none⟩, c'⟩ } : Ou).cs).toArray 40 (0, 0)) by rw [ew8'.out]; exact whole_heap (({ o with S := A, news := ⟨o.news.l, some ⟨g, 0, none⟩, c'⟩ } : Ou).cs) (xs := Ou.zero.cs) R.out rfl)
  clear ew8' Tw8'
  go_wp2_with fail
  have eV : ({ o with S := A, news := ⟨o.news.l.set k true, some ⟨g, 0, none⟩, c'⟩ } : Ou).cs = ({ o with S := A, news := ⟨o.news.l, some ⟨g, 0, none⟩, c'⟩ } : Ou).cs := by simp [Ou.cs, Bv.v, List.length_set]
  rw [← eV] at R
  have ok := HO.out.next Q.out
  refine bodyPost_ret (results_cell_tmp (by rfl) _ w8' (w.heap.size + 1) 40 (({ o with S := A, news := ⟨o.news.l.set k true, some ⟨g, 0, none⟩, c'⟩ } : Ou).cs).toArray (0, 0) _ (.int .i64 0) (by rfl) (by rfl) R.out Tryz.underlying40 (by rfl) (by kernel_rfl)) rfl ⟨_, rfl, ⟨ok.ly, ok.fl, NewIv.ok ⟨eA, RA.out, FRA.out⟩ (lim_set ok.S.m HV.out) (by rw [List.length_set]; exact ok.S.n), ok.G, ⟨boOwn_rd OB.out, by rw [List.length_set]; exact ok.news.n⟩⟩, ⟨rfl, rfl, rfl, eA, rfl, rfl, rfl, rfl, Fresh.mono FRA.out (by omega), fun g1 off h => by cases h; omega⟩, Q.out⟩
end Go.Proofs.YtnhegnneohpkaaaGreat
