import Derived.Test.YtkmddjbialpppaaGreatDoorMgNdG
namespace Go.Proofs.YtkmddjbialpppaaGreatDoor
open Go.ChangeShapes Go.WideShapes Go.ChangeAt Go.RowKit
open CM PD SG ND
theorem outs_at {c : Cf} {k : Nat} {V : Ou} {E : Int} (hb : cF c = true) (hk : k < c.l.length) (h : COutV c k V E) : E = 0 ∧ OutIs c.l[k] V := by
  rcases h with ⟨j, hj, e, _, hN⟩ | ⟨h1, _⟩
  · have e2 : k = j := by omega
    subst e2
    have ho := (confB_all hb hk).2.1
    unfold outB at ho
    rcases hN with h | ⟨h0, _⟩
    · exact ⟨h.2.1, by obtain ⟨a, e, r⟩ := h; exact .inl ⟨a, rfl, r⟩⟩
    · rw [h0] at ho; cases ho
  · rw [hb, Bool.and_true] at h1
    unfold cK at h1
    have := of_decide_eq_false h1
    omega
theorem ins_at {c : Cf} {k : Nat} {V : Inn} {E : Int} (hb : cF c = true) (hk : k < c.l.length) (h : CInV c k V E) : E = 0 ∧ InIs c.l[k] V := by
  rcases h with ⟨j, hj, e, _, hN⟩ | ⟨h1, _⟩
  · have e2 : k = j := by omega
    subst e2
    have ho := (confB_all hb hk).2.2
    rcases hN with h | ⟨h0, _⟩
    · exact ⟨h.2.1, by obtain ⟨a, e, r⟩ := h; exact .inl ⟨a, rfl, r⟩⟩
    · rw [h0] at ho; cases ho
  · rw [hb, Bool.and_true] at h1
    unfold cK at h1
    have := of_decide_eq_false h1
    omega
theorem tvB_iff {t : Tv} : tvB t = true ↔ tvP t := by unfold tvB; exact decide_eq_true_iff
theorem offS_of_off {A : Option Addr} {n x : Nat} (h : dZ A n x) : OffS (fun k => k = x) A n := h.elim .inl fun f => .inr fun g off e t => f g off e t
theorem right_emptyN {n : Int} (h1 : 1 ≤ n) (h8 : n ≤ 8) : fI [] 0 n = true := fE.2 ⟨h1, h8, by simp; omega, by omega, by omega, by simp, List.Pairwise.nil, fun i h0 hi => absurd hi (by simp)⟩
theorem newFi_okpN {n : Int} (h1 : 1 ≤ n) (h8 : n ≤ 8) : (eT n).Okp := ⟨Nat.le_refl _, by simp [eT], right_emptyN h1 h8, ⟨Int.le_refl _, by show (-1 : Int) ≤ 1000000; decide⟩, ⟨Int.le_refl _, by show (0 : Int) ≤ 1099511627776; decide⟩, ⟨Int.le_refl _, by show (0 : Int) ≤ 1099511627776; decide⟩, fun _ => ⟨rfl, rfl⟩⟩
theorem newFi8_okp : (eT 8).Okp := newFi_okpN (by decide) (by decide)
def GoV (t t' : Tv) (E : Int) : Prop := (tvB t = true ∧ t' = t.go 3 ∧ E = 0) ∨ (tvB t = false ∧ t' = eX ∧ E = 1)
theorem tvGo3 (t : Tv) (w : World) : Calls Tryz.prog 27 #[.agg (bD t).toArray, .int .i64 3] w fun e w' => ∃ t' E, e = .returned (.tuple #[.agg (bD t').toArray, .int .i64 E]) ∧ GoV t t' E ∧ Below w.heap.size w w' := by
  cases h : tvB t
  · exact (tvGo_bad t 3 w h).mono fun _ _ ⟨a, b⟩ => ⟨_, _, a, .inr ⟨h, rfl, rfl⟩, b⟩
  · exact (tvGo_ok t 3 w h rfl).mono fun _ _ ⟨a, b⟩ => ⟨_, _, a, .inl ⟨h, rfl, rfl⟩, b⟩
theorem newNd_rt {c : Cf} {id mem : Int} {t : Tv} {os : List Ou} {oA : Option Addr} {oc : Nat} {is : List Inn} {iA : Option Addr} {ic : Nat} (hb : cF c = true) (h0 : 0 ≤ id) (h1 : id < c.nodes) (ht : tvB t = true) (hm : 0 ≤ mem ∧ mem < 65536)
    (ho : os.length = (cY c.l (sendP id) c.l.length).length) (hi : is.length = (cY c.l (iT id) c.l.length).length)
    (hO : ∀ i (hi : i < os.length), ∃ p, c.l[(cY c.l (sendP id) c.l.length).getD i 0]? = some p ∧ OutIs p os[i]) (hI : ∀ i (hi : i < is.length), ∃ p, c.l[(cY c.l (iT id) c.l.length).getD i 0]? = some p ∧ InIs p is[i]) :
    (eD c id os oA oc is iA ic (t.go 3) mem).Rt := by
  have hn := gS (eZ hb)
  refine ⟨hb, Nd.shape_iff.2 ⟨⟨hn.1, h0, h1⟩, ho, hi⟩, ⟨Int.le_refl _, by show (0 : Int) ≤ 1099511627776; decide⟩, fun i h => ?_, fun i h => ?_, zCl_ok, ?_, cfB_pn hb hm, cfB_nm hb, rfl, ⟨rfl, rfl, rfl, rfl⟩, ⟨rfl, rfl, rfl⟩, rfl, ?_, rfl, rfl⟩
  · obtain ⟨p, h2, h3⟩ := hO i h
    refine ⟨h3.right, fun q hq => ?_⟩
    have e : some p = some q := h2.symm.trans hq
    cases e
    exact (congrArg Lv.L h3.ly).symm
  · obtain ⟨p, h2, h3⟩ := hI i h
    refine ⟨h3.right, fun q hq => ?_, ?_⟩
    · have e : some p = some q := h2.symm.trans hq
      cases e
      exact (congrArg Lv.L h3.ly).symm
    · show is[i].w.on = _
      rw [h3.w]
      rfl
  · show tvB (t.go 3) = true
    unfold Tv.go
    split
    · exact ht
    · have ht2 := tvB_iff.1 ht
      refine tvB_iff.2 ?_
      unfold tvP at ht2 ⊢
      obtain ⟨⟨a1, a2, a3, a4, a5, a6⟩, a7, a8, a9⟩ := ht2
      exact ⟨⟨a1, a2, a3, a4, a5, by dsimp only; omega⟩, rfl, .inr ⟨rfl, rfl, rfl⟩, .inl (by dsimp only; omega)⟩
  · show ((t.go 3).mode == 1) = false
    unfold Tv.go
    split
    · rename_i h
      have : t.mode = 3 := by simpa using h
      rw [this]; rfl
    · rfl
set_option maxRecDepth 100000 in
set_option maxHeartbeats 64000000 in
theorem ndNew_in (c : Cf) (id : Int) (t : Tv) (mem : Int) (w : World) (ho : c.Ok w) (hb : cF c = true) (hi0 : 0 ≤ id) (hi1 : id < c.nodes) (hm : 0 ≤ mem ∧ mem < 65536) :
    Calls Tryz.prog 6 #[.agg c.cs.toArray, .int .i64 id, .agg (bD t).toArray, .int .u16 mem] w fun e w' => (∃ E, (tvB t = false ∧ E = 1 ∧ e = .returned (.tuple #[.agg zNd.cs.toArray, .int .i64 1])) ∨ (tvB t = true ∧ E = 0 ∧ ∃ os oA oc is iA ic, e = .returned (.tuple #[.agg (eD c id os oA oc is iA ic (t.go 3) mem).cs.toArray, .int .i64 0]) ∧ (eD c id os oA oc is iA ic (t.go 3) mem).Ok w' ∧ (eD c id os oA oc is iA ic (t.go 3) mem).Rt ∧ (∀ i (hi : i < os.length), ∃ p, c.l[(cY c.l (sendP id) c.l.length).getD i 0]? = some p ∧ OutIs p os[i]) ∧ (∀ i (hi : i < is.length), ∃ p, c.l[(cY c.l (iT id) c.l.length).getD i 0]? = some p ∧ InIs p is[i]))) ∧ Below w.heap.size w w' := by
  obtain ⟨w0, hw0⟩ : ∃ w0, w0 = ((w.alloc (.cells c.cs.toArray 25)).alloc (.cells (bD t).toArray 27)).alloc (.cells zNd.cs.toArray 53) := ⟨_, rfl⟩
  have C := aA (aB (aB (World.alloc_heap_new w (.cells c.cs.toArray 25)) ((Below.refl _ (w.alloc (.cells c.cs.toArray 25))).alloc (Nat.le_refl _) (.cells (bD t).toArray 27))) ((Below.refl _ ((w.alloc (.cells c.cs.toArray 25)).alloc (.cells (bD t).toArray 27))).alloc (Nat.le_refl _) (.cells zNd.cs.toArray 53)))
  have T := aA (aB (World.alloc_heap_new (w.alloc (.cells c.cs.toArray 25)) (.cells (bD t).toArray 27)) ((Below.refl _ ((w.alloc (.cells c.cs.toArray 25)).alloc (.cells (bD t).toArray 27))).alloc (Nat.le_refl _) (.cells zNd.cs.toArray 53)))
  have R := aA (World.alloc_heap_new ((w.alloc (.cells c.cs.toArray 25)).alloc (.cells (bD t).toArray 27)) (.cells zNd.cs.toArray 53))
  have Q : Hid (Below w.heap.size w w0) := by rw [hw0]; exact aA ((((Below.refl w.heap.size w).alloc (Nat.le_refl _) (.cells c.cs.toArray 25)).alloc (by simp; try omega) (.cells (bD t).toArray 27)).alloc (by simp; try omega) (.cells zNd.cs.toArray 53))
  rw [← hw0] at C T R
  simp only [World.size_alloc] at T R
  replace R := aA (show w0.heap[w.heap.size + 2]? = some (.cells zNd.cs.toArray 53 (0, 0)) from R.out)
  have HO := aA ho
  have HBC := aA hb
  have HID := aA (show 0 ≤ id ∧ id < c.nodes from ⟨hi0, hi1⟩)
  have HM := aA hm
  have CR := aA (fun W (q : Below w.heap.size w W) => show Calls Tryz.prog 7 #[.agg c.cs.toArray] W fun e w' => e = .returned (.bool true) ∧ Below W.heap.size W w' from by
    have k := cD c W (ho.next q)
    rwa [hb] at k)
  obtain ⟨S, hS⟩ : ∃ S, S = cY c.l (sendP id) c.l.length := ⟨_, rfl⟩
  obtain ⟨H, hH⟩ : ∃ H, H = cY c.l (iT id) c.l.length := ⟨_, rfl⟩
  have SE := aA (fun W (q : Below w.heap.size w W) => show Calls Tryz.prog 23 #[.agg c.cs.toArray, .int .i64 id] W fun e w' => ∃ A cc, e = .returned (.slice A S.length cc) ∧ Rd w' w'.heap.size A 1 (aX S) ∧ Fresh W.heap.size A ∧ Below W.heap.size W w' from by
    have k := confSent_any c id W (ho.next q)
    rw [show dE c (kL id) = S by rw [hS]; unfold dE; rw [if_pos hb]; rfl] at k
    exact k.mono fun _ _ ⟨⟨A, cc, a, b, d⟩, e⟩ => ⟨A, cc, a, b, d, e⟩)
  have HE := aA (fun W (q : Below w.heap.size w W) => show Calls Tryz.prog 25 #[.agg c.cs.toArray, .int .i64 id] W fun e w' => ∃ A cc, e = .returned (.slice A H.length cc) ∧ Rd w' w'.heap.size A 1 (aX H) ∧ Fresh W.heap.size A ∧ Below W.heap.size W w' from by
    have k := confHeard_any c id W (ho.next q)
    rw [show dE c (fT c id) = H by rw [hH, ← hear_congr hi0 hi1]; unfold dE; rw [if_pos hb]] at k
    exact k.mono fun _ _ ⟨⟨A, cc, a, b, d⟩, e⟩ => ⟨A, cc, a, b, d, e⟩)
  have CO := aA (fun W (q : Below w.heap.size w W) (k : Nat) (hk : k < c.l.length) => show Calls Tryz.prog 24 #[.agg c.cs.toArray, .int .i64 k] W fun e w' => ∃ V : Ou, e = .returned (.tuple #[.agg V.cs.toArray, .int .i64 0]) ∧ V.Ok w' ∧ V.New W.heap.size ∧ OutIs c.l[k] V ∧ Below W.heap.size W w' from
    (confOutN_any c k W (ho.next q)).mono fun _ _ ⟨⟨V, E, a, b, d, e⟩, f⟩ => by
      obtain ⟨rfl, g⟩ := outs_at hb hk e
      exact ⟨V, a, b, d, g, f⟩)
  have CI := aA (fun W (q : Below w.heap.size w W) (k : Nat) (hk : k < c.l.length) => show Calls Tryz.prog 26 #[.agg c.cs.toArray, .int .i64 k] W fun e w' => ∃ V : Inn, e = .returned (.tuple #[.agg V.cs.toArray, .int .i64 0]) ∧ V.Ok w' ∧ V.New W.heap.size ∧ InIs c.l[k] V ∧ Below W.heap.size W w' from
    (confInN_any c k W (ho.next q)).mono fun _ _ ⟨⟨V, E, a, b, d, e⟩, f⟩ => by
      obtain ⟨rfl, g⟩ := ins_at hb hk e
      exact ⟨V, a, b, d, g, f⟩)
  have HAW := aA (fun (k : Nat) (hk : k < c.l.length) => show c.l[k].ly.Away (fun j => w.heap.size ≤ j) ∧ OffS (fun j => w.heap.size ≤ j) c.l[k].fl.a c.l[k].fl.l.length ∧ OffS (fun j => w.heap.size ≤ j) c.l[k].subs.a c.l[k].subs.l.length from
    have h := ho.p _ (List.getElem_mem hk)
    ⟨h.ly.away, h.fl.away, h.subs.away⟩)
  have HSL := aA (fun (k : Nat) (hk : k < S.length) => show S[k] < c.l.length ∧ S.getD k 0 = S[k] from ⟨by subst hS; exact wh_at hk, by rw [List.getD_eq_getElem?_getD, List.getElem?_eq_getElem hk, Option.getD_some]⟩)
  have HHL := aA (fun (k : Nat) (hk : k < H.length) => show H[k] < c.l.length ∧ H.getD k 0 = H[k] from ⟨by subst hH; exact wh_at hk, by rw [List.getD_eq_getElem?_getD, List.getElem?_eq_getElem hk, Option.getD_some]⟩)
  have hsl : S.length ≤ 1000 := by rw [hS]; exact Nat.le_trans (eW _ _ _) ho.n
  have hhl : H.length ≤ 1000 := by rw [hH]; exact Nat.le_trans (eW _ _ _) ho.n
  have HSS := aA hS
  have HHH := aA hH
  clear ho hb hm hS hH
  go_enter Tryz.func6, Tryz.ntmps6
  go_upto_region 1 with fail
  change Code.wp _ _ _ _ (((w.alloc (.cells c.cs.toArray 25)).alloc (.cells (bD t).toArray 27)).alloc (.cells zNd.cs.toArray 53))
  rw [← hw0]
  clear hw0
  have NW := aA (fun W => kG W)
  go_cut [10] (fun v10 W => ∃ b, v10 = .pointer (some ⟨b, 0, none⟩) ∧ w.heap.size + 2 < b ∧ Hid (W.heap[b]? = some (.cells (n0 c id).cs.toArray 53 (0, 0))) ∧ Hid (W.heap[w.heap.size]? = some (.cells c.cs.toArray 25 (0, 0))) ∧ Hid (W.heap[w.heap.size + 1]? = some (.cells (bD t).toArray 27 (0, 0))) ∧ Hid (W.heap[w.heap.size + 2]? = some (.cells zNd.cs.toArray 53 (0, 0))) ∧ Hid (Below w.heap.size w W))
  case first =>
    refine bB [0, 1, 3] [(0, fun W => W.heap[w.heap.size]? = some (.cells c.cs.toArray 25 (0, 0)))] (by kernel_rfl) ?_
    replace C := aA (show w0.drew.heap[w.heap.size]? = some (.cells c.cs.toArray 25 (0, 0)) from C.out)
    replace T := aA (show w0.drew.heap[w.heap.size + 1]? = some (.cells (bD t).toArray 27 (0, 0)) from T.out)
    replace R := aA (show w0.drew.heap[w.heap.size + 2]? = some (.cells zNd.cs.toArray 53 (0, 0)) from R.out)
    replace Q := aA (show Below w.heap.size w w0.drew from Q.out.drew)
    generalize w0.drew = w1' at *
    refine aQ (i := 0) (v := .agg #[.int .i64 c.nodes, .slice c.a c.l.length c.c, .int .u32 c.base, .int .i64 c.rep, .int .i64 c.cycle, .int .i64 c.heard, .int .i64 c.wait, .int .i64 c.rate]) rfl rfl (by kernel_rfl) (by kernel_rfl) (by kernel_rfl) (by kernel_rfl) (by kernel_rfl) (fun _ _ _ h => h) rfl (fun W h => bZ W w.heap.size 25 c.cs _ h Tryz.underlying25 rfl (by kernel_rfl) _ _ (.tmp 4) (by rfl) (by rfl)) (C.out) ?_
    go_simp
    refine aD (i := 1) (v := .int .i64 id) rfl rfl (by kernel_rfl) (by kernel_rfl) (by kernel_rfl) (by kernel_rfl) (by kernel_rfl) (fun _ _ _ h => h) rfl (fun W => by go_simp) ?_
    go_simp
    refine cB (i := 2) (k := 4) (by kernel_rfl) ?_ ?_
    · refine aM rfl rfl ?_
      go_simp
      (with_reducible refine (NW.out _).mono ?_)
      rintro ew2' w2' ⟨rfl, qw2'⟩
      replace C := aA (aB C.out qw2')
      replace T := aA (aB T.out qw2')
      replace R := aA (aB R.out qw2')
      replace Q := aA (aC Q.out Q.out.size qw2')
      clear qw2'
      go_simp
      refine ⟨aO (by kernel_rfl) (.cons C.out .nil), ?_⟩
      go_simp
      refine aD (i := 3) (v := .agg (n0 c id).cs.toArray) rfl rfl (by kernel_rfl) (by kernel_rfl) (by kernel_rfl) (by kernel_rfl) (by kernel_rfl) (fun _ _ _ h => h) rfl (fun W => by kernel_rfl) ?_
      go_simp
      refine aI (i := 4) (by kernel_rfl) ?_
      refine aM rfl rfl ?_
      go_simp
      have B := aA (World.alloc_heap_new w2' (.cells zNd.cs.toArray 53))
      have zCb : w.heap.size < w2'.heap.size := aH C.out
      have zTb : w.heap.size + 1 < w2'.heap.size := aH T.out
      have zRb : w.heap.size + 2 < w2'.heap.size := aH R.out
      have zQb : w.heap.size ≤ w2'.heap.size := Q.out.size
      have q4' : Below w2'.heap.size w2' (w2'.alloc (.cells zNd.cs.toArray 53)) := (Below.refl _ _).alloc (Nat.le_refl _) _
      replace C := aA (aB C.out q4')
      replace T := aA (aB T.out q4')
      replace R := aA (aB R.out q4')
      replace Q := aA (aC Q.out Q.out.size q4')
      clear q4'
      refine ⟨aO (by kernel_rfl) (.cons C.out .nil), ?_⟩
      change bN _ _ _ _ _ _ _ _ _ (w2'.alloc (.cells zNd.cs.toArray 53))
      generalize w2'.alloc (.cells zNd.cs.toArray 53) = w3' at *
      generalize w2'.heap.size = b at *
      go_simp
      refine aI (i := 5) (by kernel_rfl) ?_
      refine aM rfl rfl ?_
      have Tw5' := aA (show World.there _ b 0 91 from aK (cs := zNd.cs) B.out)
      refine bP 53 (.tmp 10) (.tmp 23) rfl b 0 ((n0 c id).cs) (by rfl) (by rfl) (by exact Tw5'.out) (by kernel_rfl) (by exact dB _) ?_
      intro w5' ew5'
      replace C := aA (show w5'.heap[w.heap.size]? = some (.cells c.cs.toArray 25 (0, 0)) by rw [ew5']; exact aG (by omega) _ _ _ C.out)
      replace T := aA (show w5'.heap[w.heap.size + 1]? = some (.cells (bD t).toArray 27 (0, 0)) by rw [ew5']; exact aG (by omega) _ _ _ T.out)
      replace R := aA (show w5'.heap[w.heap.size + 2]? = some (.cells zNd.cs.toArray 53 (0, 0)) by rw [ew5']; exact aG (by omega) _ _ _ R.out)
      replace Q := aA (show Below w.heap.size w w5' by rw [ew5']; exact Q.out.trans (aE _ _ _ (by have := Q.out.size; omega)))
      replace B := aA (show w5'.heap[b]? = some (.cells ((n0 c id).cs).toArray 53 (0, 0)) by rw [ew5']; exact aJ ((n0 c id).cs) (xs := zNd.cs) B.out rfl)
      clear ew5' Tw5'
      refine ⟨aN (by kernel_rfl) (by kernel_rfl), ?_⟩
      go_simp
      refine aS (by kernel_rfl) ?_ _
      go_wp2_with fail
      go_meet
      exact ⟨b, rfl, by omega, B, C, T, R, Q⟩
    · refine aM rfl rfl ?_
      go_simp
      have B := aA (World.alloc_heap_new w1' (.cells zNd.cs.toArray 53))
      have zCb : w.heap.size < w1'.heap.size := aH C.out
      have zTb : w.heap.size + 1 < w1'.heap.size := aH T.out
      have zRb : w.heap.size + 2 < w1'.heap.size := aH R.out
      have zQb : w.heap.size ≤ w1'.heap.size := Q.out.size
      have q7' : Below w1'.heap.size w1' (w1'.alloc (.cells zNd.cs.toArray 53)) := (Below.refl _ _).alloc (Nat.le_refl _) _
      replace C := aA (aB C.out q7')
      replace T := aA (aB T.out q7')
      replace R := aA (aB R.out q7')
      replace Q := aA (aC Q.out Q.out.size q7')
      clear q7'
      refine ⟨aO (by kernel_rfl) (.cons C.out .nil), ?_⟩
      change bN _ _ _ _ _ _ _ _ _ (w1'.alloc (.cells zNd.cs.toArray 53))
      generalize w1'.alloc (.cells zNd.cs.toArray 53) = w6' at *
      generalize w1'.heap.size = b at *
      go_simp
      refine aI (i := 2) (by kernel_rfl) ?_
      refine aM rfl rfl ?_
      go_simp
      (with_reducible refine (NW.out _).mono ?_)
      rintro ew8' w8' ⟨rfl, qw8'⟩
      replace C := aA (aB C.out qw8')
      replace T := aA (aB T.out qw8')
      replace R := aA (aB R.out qw8')
      replace B := aA (aB B.out qw8')
      replace Q := aA (aC Q.out Q.out.size qw8')
      clear qw8'
      go_simp
      refine ⟨aO (by kernel_rfl) (.cons C.out .nil), ?_⟩
      go_simp
      refine aD (i := 3) (v := .agg (n0 c id).cs.toArray) rfl rfl (by kernel_rfl) (by kernel_rfl) (by kernel_rfl) (by kernel_rfl) (by kernel_rfl) (fun _ _ _ h => h) rfl (fun W => by kernel_rfl) ?_
      go_simp
      refine aI (i := 5) (by kernel_rfl) ?_
      refine aM rfl rfl ?_
      have Tw9' := aA (show World.there _ b 0 91 from aK (cs := zNd.cs) B.out)
      refine bP 53 (.tmp 10) (.tmp 23) rfl b 0 ((n0 c id).cs) (by rfl) (by rfl) (by exact Tw9'.out) (by kernel_rfl) (by exact dB _) ?_
      intro w9' ew9'
      replace C := aA (show w9'.heap[w.heap.size]? = some (.cells c.cs.toArray 25 (0, 0)) by rw [ew9']; exact aG (by omega) _ _ _ C.out)
      replace T := aA (show w9'.heap[w.heap.size + 1]? = some (.cells (bD t).toArray 27 (0, 0)) by rw [ew9']; exact aG (by omega) _ _ _ T.out)
      replace R := aA (show w9'.heap[w.heap.size + 2]? = some (.cells zNd.cs.toArray 53 (0, 0)) by rw [ew9']; exact aG (by omega) _ _ _ R.out)
      replace Q := aA (show Below w.heap.size w w9' by rw [ew9']; exact Q.out.trans (aE _ _ _ (by have := Q.out.size; omega)))
      replace B := aA (show w9'.heap[b]? = some (.cells ((n0 c id).cs).toArray 53 (0, 0)) by rw [ew9']; exact aJ ((n0 c id).cs) (xs := zNd.cs) B.out rfl)
      clear ew9' Tw9'
      refine ⟨aN (by kernel_rfl) (by kernel_rfl), ?_⟩
      go_simp
      refine aS (by kernel_rfl) ?_ _
      go_wp2_with fail
      go_meet
      exact ⟨b, rfl, by omega, B, C, T, R, Q⟩
  case rest =>
  clear C T R Q NW
  obtain ⟨b, rfl, zb, B, C, T, R, Q⟩ := hcut
  have zbl := aH B.out
  go_wp2_with (refine wpList_load_row rfl 25 (.tmp 4) (by rfl) w.heap.size (by rfl) 25 c.cs.toArray (0, 0) _ (by exact C.out) Tryz.underlying25 (by rfl) (by kernel_rfl) ?_)
  (with_reducible refine (CR.out wc Q.out).mono ?_)
  rintro ew10' w10' ⟨rfl, qw10'⟩
  replace C := aA (aB C.out qw10')
  replace T := aA (aB T.out qw10')
  replace R := aA (aB R.out qw10')
  replace B := aA (aB B.out qw10')
  replace Q := aA (aC Q.out Q.out.size qw10')
  clear qw10'
  clear CR
  clear hi0 hi1 zbl
  obtain ⟨hi0, hi1⟩ := HID.out
  obtain ⟨d0, _⟩ := bL C.out
  go_upto_region 4 with fail
  clear d0 hi0 hi1
  go_wp2_with (refine wpList_load_row rfl 25 (.tmp 4) (by rfl) w.heap.size (by rfl) 25 c.cs.toArray (0, 0) _ (by exact C.out) Tryz.underlying25 (by rfl) (by kernel_rfl) ?_)
  (with_reducible refine (SE.out w10' Q.out).mono ?_)
  rintro ew11' w11' ⟨SA, sc, rfl, RA, FRA, qw11'⟩
  have O_RA_C := aA (show dZ SA (aX S).length w.heap.size from aW FRA (aH C.out))
  have O_RA_T := aA (show dZ SA (aX S).length (w.heap.size + 1) from aW FRA (aH T.out))
  have O_RA_R := aA (show dZ SA (aX S).length (w.heap.size + 2) from aW FRA (aH R.out))
  have O_RA_B := aA (show dZ SA (aX S).length b from aW FRA (aH B.out))
  replace C := aA (aB C.out qw11')
  replace T := aA (aB T.out qw11')
  replace R := aA (aB R.out qw11')
  replace B := aA (aB B.out qw11')
  replace Q := aA (aC Q.out Q.out.size qw11')
  clear qw11'
  replace RA := aA (show Rd w11' w11'.heap.size SA 1 (aX S) from RA)
  replace FRA := aA FRA
  clear SE
  clear FRA
  go_wp2_with fail
  generalize w11' = v12' at *
  have HX := aA (show ∀ j, (fun j => w.heap.size ≤ j ∧ j ≤ b) j → j < v12'.heap.size from fun j hj => Nat.lt_of_le_of_lt hj.2 (aH B.out))
  have HRA := aA (show OffS (fun j => j = b ∨ v12'.heap.size ≤ j) SA (aX S).length from by
    have h1 := fJ RA.out
    have h2 : OffS (fun j => j = b) SA (aX S).length := offS_of_off O_RA_B.out
    exact h2.or h1)
  have B5 := B
  have zB5 : b < v12'.heap.size := aH B.out
  have C5 := C
  have zC5 : w.heap.size < v12'.heap.size := aH C.out
  have T5 := T
  have zT5 : w.heap.size + 1 < v12'.heap.size := aH T.out
  have R5 := R
  have zR5 : w.heap.size + 2 < v12'.heap.size := aH R.out
  have Q5 := Q
  have RA5 := RA
  go_loopw [42] (fun vi W => ∃ (k : Nat) (xs : List Ou) (A : Option Addr) (cc : Nat), k ≤ S.length ∧ vi = .int .i64 k ∧ Hid (xs.length = k) ∧ Hid (W.heap[b]? = some (.cells (((⟨c, id, xs, A, cc, [], none, 0, zCl, zFi, eX, fK, fZ, g8, 0⟩ : Nd)).cs).toArray 53 (0, 0))) ∧ Hid (OutsR (fun j => w.heap.size ≤ j ∧ j ≤ b) W v12'.heap.size A cc c.l S xs) ∧ Hid (Kp (fun j => j = b ∨ v12'.heap.size ≤ j) v12' W)) (fun vi _ => S.length - (intOf vi).toNat)
  case atStart => exact ⟨0, [], none, 0, Nat.zero_le _, rfl, aA rfl, B5, aA (OutsR.nil _ _ _ _ _), aA Kp.refl⟩
  case round =>
    clear B C T R Q RA
    obtain ⟨k, xs, A, cc, hk, rfl, hlen, B, HOR, HK⟩ := hrel
    have Q := aA (Q5.out.trans (HK.out.below (B := w.heap.size) (fun j hj => by rcases hj with hj | hj <;> omega) Q5.out.size))
    have C := aA (HK.out.heap C5.out (by omega))
    have T := aA (HK.out.heap T5.out (by omega))
    have R := aA (HK.out.heap R5.out (by omega))
    have RA := aA (HK.out.rd RA5.out HRA.out)
    by_cases hlt : k < S.length
    ·
      obtain ⟨hkl, hgd⟩ := HSL.out k hlt
      obtain ⟨sb, so, rfl, hsb, c0⟩ := NR.at_ RA.out hlt
      have hki : (k : Int) < (S.length : Int) := by omega
      have HP := aA (show c.l[S.getD k 0]? = some c.l[S[k]] from by rw [hgd]; exact List.getElem?_eq_getElem hkl)
      have CV := aA (CO.out wr Q.out _ hkl)
      have AW := aA (HAW.out _ hkl)
      generalize hpp : c.l[S[k]] = p at HP CV AW
      clear hpp hgd hkl T R
      generalize S[k] = j at *
      have QG := Q
      clear Q
      have Q := aA (Below.refl wr.heap.size wr)
      have HLT := aA (HOR.out.lt HX.out (by have := HK.out.size; omega))
      have zN : v12'.heap.size ≤ wr.heap.size := HK.out.size
      go_wp2_with (refine wpList_load_row rfl 25 (.tmp 4) (by rfl) w.heap.size (by rfl) 25 c.cs.toArray (0, 0) _ (by exact C.out) Tryz.underlying25 (by rfl) (by kernel_rfl) ?_)
      (with_reducible refine (CV.out).mono ?_)
      rintro ew113' w113' ⟨ov, rfl, hV, hVN, hVI, qw113'⟩
      have HV := aA hV
      have HVI := aA hVI
      have HVA := aA (show ov.Away (ZR (fun j => w.heap.size ≤ j ∧ j ≤ b) A) from hVI.away hVN (AW.out.1.mono (HOR.out.low (fun j hj => hj.1) (by have := Q5.out.size; omega))) (AW.out.2.1.mono (HOR.out.low (fun j hj => hj.1) (by have := Q5.out.size; omega))) HLT.out)
      clear hV hVN hVI CV c0
      replace C := aA (aB C.out qw113')
      replace B := aA (aB B.out qw113')
      replace HOR := aA (HOR.out.below qw113')
      replace Q := aA (aC Q.out Q.out.size qw113')
      clear qw113'
      have V := World.alloc_heap_new w113' (.cells zOu.toArray 77)
      have zCv : w.heap.size < w113'.heap.size := aH C.out
      have zBv : b < w113'.heap.size := aH B.out
      have zQv : wr.heap.size ≤ w113'.heap.size := Q.out.size
      obtain ⟨w115', hw115'⟩ : ∃ wx, wx = w113'.alloc (.cells zOu.toArray 77) := ⟨_, rfl⟩
      have q114' := aA (show Below w113'.heap.size w113' w115' by rw [hw115']; exact (Below.refl _ _).alloc (Nat.le_refl _) _)
      rw [← hw115'] at V
      replace V := aA V
      have Tw116' := aA (show (w113'.alloc (.cells zOu.toArray 77)).there w113'.heap.size 0 26 by rw [← hw115']; exact aK (cs := zOu) V.out)
      go_wp2_with (refine aF (by rfl) 77 (.tmp 13) (.tmp 50) (by rfl) w113'.heap.size 0 ov.cs (by rfl) (by rfl) (by exact Tw116'.out) (by kernel_rfl) (by simp [Value.oneCell', Ou.cs, Fv.v, Iv.v, Bv.v]) ?_)
      intro w116' ew116'
      replace ew116' : Hid (w116' = w115'.setCells w113'.heap.size 0 ov.cs) := by rw [hw115']; exact ew116'
      replace V := aA (show w116'.heap[w113'.heap.size]? = some (.cells ov.cs.toArray 77 (0, 0)) by rw [ew116'.out]; exact aJ ov.cs (xs := zOu) V.out rfl)
      replace q114' := aA (show Below w113'.heap.size w113' w116' by rw [ew116'.out]; exact q114'.out.trans (aE _ _ _ (by omega)))
      clear ew116' Tw116' hw115'
      replace C := aA (aB C.out q114'.out)
      replace B := aA (aB B.out q114'.out)
      replace HOR := aA (HOR.out.below q114'.out)
      replace HV := aA (HV.out.next q114'.out)
      replace Q := aA (aC Q.out Q.out.size q114'.out)
      clear q114'
      generalize w113'.heap.size = v at *
      have cb := aZ B.out 9 (v := .slice A xs.length cc) rfl
      have zV := aH V.out
      have zQ := Q.out.size
      have hln : xs.length ≤ 1000 := by rw [hlen.out]; omega
      have hov : ov.cs.length = 26 := rfl
      go_wp2_with (first | (refine wpList_load_row rfl 77 (.tmp 13) (by rfl) v (by rfl) 77 ov.cs.toArray (0, 0) _ (by exact V.out) Tryz.underlying77 (by rfl) (by kernel_rfl) ?_) | (at_builtin; refine dM w116' _ ov.cs (by exact splat_any _ _ (by rfl)) rfl _ _ 30 rfl slOutN (by decide) rfl (by simp [Ou.cs, Iv.v, Fv.v, Bv.v, Value.oneCell']) v12'.heap.size _ _ _ (xs.map Ou.cs) (by rfl) (by exact HOR.out.own) 1 (by rfl) (by rw [List.length_map]; omega) (by omega) (by rw [List.length_map]) ?_))
      intro A2 c2 w4 P4 L4
      have B4 := aA (P4.heap B.out (by decide))
      have O4 := aA (HOR.out.app P4 L4 HV.out HVA.out (by rw [hlen.out]; exact HP.out) HVI.out)
      have K4 := aA (show Kp (fun j => j = b ∨ v12'.heap.size ≤ j) v12' w4 from ((HK.out.trans (Kp.of Q.out)).trans (Kp.of ((Below.refl _ _).alloc (Nat.le_refl _) (.cells ov.cs.toArray 77)))).trans ((iD P4.grown).mono fun j _ hj => by obtain ⟨a, ha, rfl⟩ := hj; exact .inr (fH HOR.out.own ha).1))
      clear P4 L4 cb B V Q C HOR HV
      have cb := aZ B4.out 9 (v := .slice A xs.length cc) rfl
      have fb : w4.frozen? ⟨b, 9, none⟩ = false := by simp [World.frozen?, B4.out]
      go_wp2_with fail
      obtain ⟨w6, e6⟩ : ∃ wq, wq = w4.setCell ⟨b, 9, none⟩ (.slice A2 (xs.length + 1) c2) := ⟨_, rfl⟩
      rw [← e6]
      have B6 := aA (show w6.heap[b]? = some (.cells (((⟨c, id, xs ++ [ov], A2, c2, [], none, 0, zCl, zFi, eX, fK, fZ, g8, 0⟩ : Nd)).cs).toArray 53 (0, 0)) by
        rw [e6]
        have k6 := nd_set_outs (xs ++ [ov]) A2 c2 B4.out
        rw [List.length_append] at k6
        exact k6)
      have O6 := aA (show OutsR (fun j => w.heap.size ≤ j ∧ j ≤ b) w6 v12'.heap.size A2 c2 c.l S (xs ++ [ov]) by rw [e6]; exact O4.out.set HX.out (b := b) ⟨by omega, Nat.le_refl _⟩ 9 [.slice A2 (xs.length + 1) c2])
      have K6 := aA (show Kp (fun j => j = b ∨ v12'.heap.size ≤ j) v12' w6 by rw [e6]; exact K4.out.trans (Kp.setC _ _ _ _ (.inl rfl)))
      clear e6 B4 O4 K4 cb fb
      go_roundw
      case rel => exact ⟨k + 1, xs ++ [ov], A2, c2, by omega, by go_num, aA (by rw [List.length_append, hlen.out]; rfl), B6, O6, K6⟩
      case measure => simp [intOf]; omega
    obtain rfl : k = S.length := by omega
    have hnl : ¬ (S.length : Int) < (S.length : Int) := by omega
    have HRO := aA (HOR.out.rows HX.out (Nat.le_refl wr.heap.size))
    have HOI := aA HOR.out.is
    have HOL := hlen
    clear hlt hk HOR HK HX HRA RA RA5 B5 C5 T5 R5 Q5 zB5 zC5 zT5 zR5 hlen CO HSL
    generalize A = oA at *
    generalize cc = oc at *
    generalize xs = os at *
    generalize hM : wr.heap.size = M at *
    replace hM := aA hM
    generalize wr = v117' at *
    have hML := aA (show M ≤ v117'.heap.size by rw [hM.out]; exact Nat.le_refl _)
    clear hM
    go_wp2_with (refine wpList_load_row rfl 25 (.tmp 4) (by rfl) w.heap.size (by rfl) 25 c.cs.toArray (0, 0) _ (by exact C.out) Tryz.underlying25 (by rfl) (by kernel_rfl) ?_)
    (with_reducible refine (HE.out v117' Q.out).mono ?_)
    rintro ew118' w118' ⟨SA, sc, rfl, RA, FRA, qw118'⟩
    have O_RA_C := aA (show dZ SA (aX H).length w.heap.size from aW FRA (aH C.out))
    have O_RA_T := aA (show dZ SA (aX H).length (w.heap.size + 1) from aW FRA (aH T.out))
    have O_RA_R := aA (show dZ SA (aX H).length (w.heap.size + 2) from aW FRA (aH R.out))
    have O_RA_B := aA (show dZ SA (aX H).length b from aW FRA (aH B.out))
    replace C := aA (aB C.out qw118')
    replace T := aA (aB T.out qw118')
    replace R := aA (aB R.out qw118')
    replace B := aA (aB B.out qw118')
    replace HRO := aA (HRO.out.below qw118')
    replace hML := aA (Nat.le_trans hML.out qw118'.size)
    replace Q := aA (aC Q.out Q.out.size qw118')
    clear qw118'
    replace RA := aA (show Rd w118' w118'.heap.size SA 1 (aX H) from RA)
    replace FRA := aA FRA
    clear HE
    clear FRA
    go_wp2_with fail
    generalize w118' = v119' at *
    have HX := aA (show ∀ j, (fun j => w.heap.size ≤ j ∧ j ≤ b) j → j < v119'.heap.size from fun j hj => Nat.lt_of_le_of_lt hj.2 (aH B.out))
    have HRA := aA (show OffS (fun j => j = b ∨ v119'.heap.size ≤ j) SA (aX H).length from by
      have h1 := fJ RA.out
      have h2 : OffS (fun j => j = b) SA (aX H).length := offS_of_off O_RA_B.out
      exact h2.or h1)
    have B5 := B
    have zB5 : b < v119'.heap.size := aH B.out
    have C5 := C
    have zC5 : w.heap.size < v119'.heap.size := aH C.out
    have T5 := T
    have zT5 : w.heap.size + 1 < v119'.heap.size := aH T.out
    have R5 := R
    have zR5 : w.heap.size + 2 < v119'.heap.size := aH R.out
    have Q5 := Q
    have RA5 := RA
    go_loopw [63] (fun vi W => ∃ (k : Nat) (xs : List Inn) (A : Option Addr) (cc : Nat), k ≤ H.length ∧ vi = .int .i64 k ∧ Hid (xs.length = k) ∧ Hid (W.heap[b]? = some (.cells (((⟨c, id, os, oA, oc, xs, A, cc, zCl, zFi, eX, fK, fZ, g8, 0⟩ : Nd)).cs).toArray 53 (0, 0))) ∧ Hid (InsR (fun j => w.heap.size ≤ j ∧ j ≤ b) W v119'.heap.size A cc c.l H xs) ∧ Hid (Kp (fun j => j = b ∨ v119'.heap.size ≤ j) v119' W) ∧ Hid (RowsO (fun j => w.heap.size ≤ j ∧ j ≤ b) M W oA os)) (fun vi _ => H.length - (intOf vi).toNat)
    case atStart => exact ⟨0, [], none, 0, Nat.zero_le _, rfl, aA rfl, B5, aA (InsR.nil _ _ _ _ _), aA Kp.refl, HRO⟩
    case round =>
      clear B C T R Q RA HRO
      obtain ⟨k, xs, A, cc, hk, rfl, hlen, B, HOR, HK, HRO⟩ := hrel
      have Q := aA (Q5.out.trans (HK.out.below (B := w.heap.size) (fun j hj => by rcases hj with hj | hj <;> omega) Q5.out.size))
      have C := aA (HK.out.heap C5.out (by omega))
      have T := aA (HK.out.heap T5.out (by omega))
      have R := aA (HK.out.heap R5.out (by omega))
      have RA := aA (HK.out.rd RA5.out HRA.out)
      by_cases hlt : k < H.length
      ·
        obtain ⟨hkl, hgd⟩ := HHL.out k hlt
        obtain ⟨sb, so, rfl, hsb, c0⟩ := NR.at_ RA.out hlt
        have hki : (k : Int) < (H.length : Int) := by omega
        have HP := aA (show c.l[H.getD k 0]? = some c.l[H[k]] from by rw [hgd]; exact List.getElem?_eq_getElem hkl)
        have CV := aA (CI.out wr Q.out _ hkl)
        have AW := aA (HAW.out _ hkl)
        generalize hpp : c.l[H[k]] = p at HP CV AW
        clear hpp hgd hkl T R
        generalize H[k] = j at *
        have QG := Q
        clear Q
        have Q := aA (Below.refl wr.heap.size wr)
        have HLT := aA (HOR.out.lt HX.out (by have := HK.out.size; omega))
        have zN : v119'.heap.size ≤ wr.heap.size := HK.out.size
        go_wp2_with (refine wpList_load_row rfl 25 (.tmp 4) (by rfl) w.heap.size (by rfl) 25 c.cs.toArray (0, 0) _ (by exact C.out) Tryz.underlying25 (by rfl) (by kernel_rfl) ?_)
        (with_reducible refine (CV.out).mono ?_)
        rintro ew220' w220' ⟨ov, rfl, hV, hVN, hVI, qw220'⟩
        have HV := aA hV
        have HVI := aA hVI
        have HVA := aA (show ov.Away (ZR (fun j => w.heap.size ≤ j ∧ j ≤ b) A) from hVI.away hVN (AW.out.1.mono (HOR.out.low (fun j hj => hj.1) (by have := Q5.out.size; omega))) (AW.out.2.1.mono (HOR.out.low (fun j hj => hj.1) (by have := Q5.out.size; omega))) (AW.out.2.2.mono (HOR.out.low (fun j hj => hj.1) (by have := Q5.out.size; omega))) HLT.out)
        clear hV hVN hVI CV c0
        replace C := aA (aB C.out qw220')
        replace B := aA (aB B.out qw220')
        replace HOR := aA (HOR.out.below qw220')
        replace Q := aA (aC Q.out Q.out.size qw220')
        clear qw220'
        have V := World.alloc_heap_new w220' (.cells zIn.toArray 102)
        have zCv : w.heap.size < w220'.heap.size := aH C.out
        have zBv : b < w220'.heap.size := aH B.out
        have zQv : wr.heap.size ≤ w220'.heap.size := Q.out.size
        obtain ⟨w222', hw222'⟩ : ∃ wx, wx = w220'.alloc (.cells zIn.toArray 102) := ⟨_, rfl⟩
        have q221' := aA (show Below w220'.heap.size w220' w222' by rw [hw222']; exact (Below.refl _ _).alloc (Nat.le_refl _) _)
        rw [← hw222'] at V
        replace V := aA V
        have Tw223' := aA (show (w220'.alloc (.cells zIn.toArray 102)).there w220'.heap.size 0 13 by rw [← hw222']; exact aK (cs := zIn) V.out)
        go_wp2_with (refine aF (by rfl) 102 (.tmp 17) (.tmp 71) (by rfl) w220'.heap.size 0 ov.cs (by rfl) (by rfl) (by exact Tw223'.out) (by kernel_rfl) (by simp [Value.oneCell', Inn.cs, Fv.v, Iv.v]) ?_)
        intro w223' ew223'
        replace ew223' : Hid (w223' = w222'.setCells w220'.heap.size 0 ov.cs) := by rw [hw222']; exact ew223'
        replace V := aA (show w223'.heap[w220'.heap.size]? = some (.cells ov.cs.toArray 102 (0, 0)) by rw [ew223'.out]; exact aJ ov.cs (xs := zIn) V.out rfl)
        replace q221' := aA (show Below w220'.heap.size w220' w223' by rw [ew223'.out]; exact q221'.out.trans (aE _ _ _ (by omega)))
        clear ew223' Tw223' hw222'
        replace C := aA (aB C.out q221'.out)
        replace B := aA (aB B.out q221'.out)
        replace HOR := aA (HOR.out.below q221'.out)
        replace HV := aA (HV.out.next q221'.out)
        replace Q := aA (aC Q.out Q.out.size q221'.out)
        clear q221'
        generalize w220'.heap.size = v at *
        have cb := aZ B.out 10 (v := .slice A xs.length cc) rfl
        have zV := aH V.out
        have zQ := Q.out.size
        have hln : xs.length ≤ 1000 := by rw [hlen.out]; omega
        have hov : ov.cs.length = 13 := rfl
        go_wp2_with (first | (refine wpList_load_row rfl 102 (.tmp 17) (by rfl) v (by rfl) 102 ov.cs.toArray (0, 0) _ (by exact V.out) Tryz.underlying102 (by rfl) (by kernel_rfl) ?_) | (at_builtin; refine dM w223' _ ov.cs (by exact splat_any _ _ (by rfl)) rfl _ _ 31 rfl slInN (by decide) rfl (by simp [Inn.cs, Fv.v, Iv.v, Value.oneCell']) v119'.heap.size _ _ _ (xs.map Inn.cs) (by rfl) (by exact HOR.out.own) 1 (by rfl) (by rw [List.length_map]; omega) (by omega) (by rw [List.length_map]) ?_))
        intro A2 c2 w4 P4 L4
        have B4 := aA (P4.heap B.out (by decide))
        have O4 := aA (HOR.out.app P4 L4 HV.out HVA.out (by rw [hlen.out]; exact HP.out) HVI.out)
        have QW := Q
        have KW := aA (show Kp (fun j => j = b ∨ v119'.heap.size ≤ j) _ w4 from (Kp.of ((Below.refl _ _).alloc (Nat.le_refl _) (.cells ov.cs.toArray 102))).trans ((iD P4.grown).mono fun j _ hj => by obtain ⟨a, ha, rfl⟩ := hj; exact .inr (fH HOR.out.own ha).1))
        have K4 := aA (show Kp (fun j => j = b ∨ v119'.heap.size ≤ j) v119' w4 from ((HK.out.trans (Kp.of Q.out)).trans (Kp.of ((Below.refl _ _).alloc (Nat.le_refl _) (.cells ov.cs.toArray 102)))).trans ((iD P4.grown).mono fun j _ hj => by obtain ⟨a, ha, rfl⟩ := hj; exact .inr (fH HOR.out.own ha).1))
        clear P4 L4 cb B V Q C HOR HV
        have cb := aZ B4.out 10 (v := .slice A xs.length cc) rfl
        have fb : w4.frozen? ⟨b, 10, none⟩ = false := by simp [World.frozen?, B4.out]
        go_wp2_with fail
        obtain ⟨w6, e6⟩ : ∃ wq, wq = w4.setCell ⟨b, 10, none⟩ (.slice A2 (xs.length + 1) c2) := ⟨_, rfl⟩
        rw [← e6]
        have B6 := aA (show w6.heap[b]? = some (.cells (((⟨c, id, os, oA, oc, xs ++ [ov], A2, c2, zCl, zFi, eX, fK, fZ, g8, 0⟩ : Nd)).cs).toArray 53 (0, 0)) by
          rw [e6]
          have k6 := nd_set_ins (xs ++ [ov]) A2 c2 B4.out
          rw [List.length_append] at k6
          exact k6)
        have O6 := aA (show InsR (fun j => w.heap.size ≤ j ∧ j ≤ b) w6 v119'.heap.size A2 c2 c.l H (xs ++ [ov]) by rw [e6]; exact O4.out.set HX.out (b := b) ⟨by omega, Nat.le_refl _⟩ 10 [.slice A2 (xs.length + 1) c2])
        have K6 := aA (show Kp (fun j => j = b ∨ v119'.heap.size ≤ j) v119' w6 by rw [e6]; exact K4.out.trans (Kp.setC _ _ _ _ (.inl rfl)))
        have hml := hML.out
        have HRO6 := aA (HRO.out.kp ((show Kp (fun j => j = b ∨ v119'.heap.size ≤ j) wr w6 by rw [e6]; exact ((Kp.of QW.out).trans KW.out).trans (Kp.setC _ _ _ _ (.inl rfl))).mono fun j _ hj => by rcases hj with hj | hj; exact .inl ⟨by omega, by omega⟩; exact .inr (by omega)))
        clear e6 B4 O4 K4 cb fb
        go_roundw
        case rel => exact ⟨k + 1, xs ++ [ov], A2, c2, by omega, by go_num, aA (by rw [List.length_append, hlen.out]; rfl), B6, O6, K6, HRO6⟩
        case measure => simp [intOf]; omega
      obtain rfl : k = H.length := by omega
      have hnl : ¬ (H.length : Int) < (H.length : Int) := by omega
      have HRI := aA (HOR.out.rows HX.out (Nat.le_refl wr.heap.size))
      have HII := aA HOR.out.is
      have HIL := hlen
      clear hlt hk HOR HK HX HRA RA RA5 B5 C5 T5 R5 Q5 zB5 zC5 zT5 zR5 hlen CI HHL
      generalize A = iA at *
      generalize cc = ic at *
      generalize xs = is at *
      generalize hM : wr.heap.size = M2 at *
      replace hM := aA hM
      generalize wr = v224' at *
      clear hM hML
      go_wp2_with (refine wpList_load_row rfl 27 (.tmp 6) (by rfl) (w.heap.size + 1) (by rfl) 27 (bD t).toArray (0, 0) _ (by exact T.out) Tryz.underlying27 (by rfl) (by kernel_rfl) ?_)
      (with_reducible refine (tvGo3 t v224').mono ?_)
      rintro ew225' w225' ⟨t', E, rfl, hGo, qw225'⟩
      have HGO := aA hGo
      clear hGo
      replace C := aA (aB C.out qw225')
      replace T := aA (aB T.out qw225')
      replace R := aA (aB R.out qw225')
      replace B := aA (aB B.out qw225')
      replace HRO := aA (HRO.out.below qw225')
      replace HRI := aA (HRI.out.below qw225')
      replace Q := aA (aC Q.out Q.out.size qw225')
      clear qw225'
      have zbw : b < w225'.heap.size := aH B.out
      have Tw226' := aA (show World.there _ (w.heap.size + 1) 0 13 from aK (cs := bD t) T.out)
      go_wp2_with (refine aF (by rfl) 27 (.tmp 6) (.tmp 83) (by rfl) (w.heap.size + 1) 0 (bD t') (by rfl) (by rfl) (by exact Tw226'.out) (by kernel_rfl) (by simp [Value.oneCell', bD]) ?_)
      intro w226' ew226'
      replace C := aA (show w226'.heap[w.heap.size]? = some (.cells c.cs.toArray 25 (0, 0)) by rw [ew226'.out]; exact aG (by omega) _ _ _ C.out)
      replace R := aA (show w226'.heap[w.heap.size + 2]? = some (.cells zNd.cs.toArray 53 (0, 0)) by rw [ew226'.out]; exact aG (by omega) _ _ _ R.out)
      replace B := aA (show w226'.heap[b]? = some (.cells (((⟨c, id, os, oA, oc, is, iA, ic, zCl, zFi, eX, fK, fZ, g8, 0⟩ : Nd)).cs).toArray 53 (0, 0)) by rw [ew226'.out]; exact aG (by omega) _ _ _ B.out)
      replace HRO := aA (show RowsO (fun j => w.heap.size ≤ j ∧ j ≤ b) M w226' oA os by rw [ew226'.out]; exact HRO.out.set (b := _) ⟨by omega, by omega⟩ _ _)
      replace HRI := aA (show RowsI (fun j => w.heap.size ≤ j ∧ j ≤ b) M2 w226' iA is by rw [ew226'.out]; exact HRI.out.set (b := _) ⟨by omega, by omega⟩ _ _)
      replace Q := aA (show Below w.heap.size w w226' by rw [ew226'.out]; exact Q.out.trans (aE _ _ _ (by have := Q.out.size; omega)))
      replace T := aA (show w226'.heap[w.heap.size + 1]? = some (.cells (bD t').toArray 27 (0, 0)) by rw [ew226'.out]; exact aJ (bD t') (xs := bD t) T.out rfl)
      clear ew226' Tw226'
      have Tw227' := aA (show World.there _ b 41 13 from dF (cs := ((⟨c, id, os, oA, oc, is, iA, ic, zCl, zFi, eX, fK, fZ, g8, 0⟩ : Nd)).cs) B.out 41 13 (by show _ ≤ 91; decide))
      go_wp2_with (first | (refine wpList_load_row rfl 27 (.tmp 6) (by rfl) (w.heap.size + 1) (by rfl) 27 (bD t').toArray (0, 0) _ (by exact T.out) Tryz.underlying27 (by rfl) (by kernel_rfl) ?_) | (refine aF (by rfl) 27 (.tmp 86) (.tmp 85) (by rfl) b 41 (bD t') (by rfl) (by rfl) (by exact Tw227'.out) (by kernel_rfl) (by simp [Value.oneCell', bD]) ?_))
      intro w227' ew227'
      replace C := aA (show w227'.heap[w.heap.size]? = some (.cells c.cs.toArray 25 (0, 0)) by rw [ew227'.out]; exact aG (by omega) _ _ _ C.out)
      replace T := aA (show w227'.heap[w.heap.size + 1]? = some (.cells (bD t').toArray 27 (0, 0)) by rw [ew227'.out]; exact aG (by omega) _ _ _ T.out)
      replace R := aA (show w227'.heap[w.heap.size + 2]? = some (.cells zNd.cs.toArray 53 (0, 0)) by rw [ew227'.out]; exact aG (by omega) _ _ _ R.out)
      replace HRO := aA (show RowsO (fun j => w.heap.size ≤ j ∧ j ≤ b) M w227' oA os by rw [ew227'.out]; exact HRO.out.set (b := _) ⟨by omega, by omega⟩ _ _)
      replace HRI := aA (show RowsI (fun j => w.heap.size ≤ j ∧ j ≤ b) M2 w227' iA is by rw [ew227'.out]; exact HRI.out.set (b := _) ⟨by omega, by omega⟩ _ _)
      replace Q := aA (show Below w.heap.size w w227' by rw [ew227'.out]; exact Q.out.trans (aE _ _ _ (by have := Q.out.size; omega)))
      replace B := aA (show w227'.heap[b]? = some (.cells ((⟨c, id, os, oA, oc, is, iA, ic, zCl, zFi, t', fK, fZ, g8, 0⟩ : Nd).cs).toArray 53 (0, 0)) by rw [ew227'.out]; exact nd_set_tv t' B.out)
      clear ew227' Tw227'
      go_wp2_with fail
      (with_reducible refine (cnNew_ok 8 (by decide) (by decide) w227').mono ?_)
      rintro ew228' w228' ⟨rfl, qw228'⟩
      replace C := aA (aB C.out qw228')
      replace T := aA (aB T.out qw228')
      replace R := aA (aB R.out qw228')
      replace B := aA (aB B.out qw228')
      replace HRO := aA (HRO.out.below qw228')
      replace HRI := aA (HRI.out.below qw228')
      replace Q := aA (aC Q.out Q.out.size qw228')
      clear qw228'
      have Tw229' := aA (show World.there _ b 34 7 from dF (cs := (⟨c, id, os, oA, oc, is, iA, ic, zCl, zFi, t', fK, fZ, g8, 0⟩ : Nd).cs) B.out 34 7 (by show _ ≤ 91; decide))
      go_wp2_with (refine aF (by rfl) 44 (.tmp 91) (.tmp 89) (by rfl) b 34 ((eT 8).cs) (by rfl) (by rfl) (by exact Tw229'.out) (by kernel_rfl) (by simp [Value.oneCell', Fi.cs]) ?_)
      intro w229' ew229'
      replace C := aA (show w229'.heap[w.heap.size]? = some (.cells c.cs.toArray 25 (0, 0)) by rw [ew229'.out]; exact aG (by omega) _ _ _ C.out)
      replace T := aA (show w229'.heap[w.heap.size + 1]? = some (.cells (bD t').toArray 27 (0, 0)) by rw [ew229'.out]; exact aG (by omega) _ _ _ T.out)
      replace R := aA (show w229'.heap[w.heap.size + 2]? = some (.cells zNd.cs.toArray 53 (0, 0)) by rw [ew229'.out]; exact aG (by omega) _ _ _ R.out)
      replace HRO := aA (show RowsO (fun j => w.heap.size ≤ j ∧ j ≤ b) M w229' oA os by rw [ew229'.out]; exact HRO.out.set (b := _) ⟨by omega, by omega⟩ _ _)
      replace HRI := aA (show RowsI (fun j => w.heap.size ≤ j ∧ j ≤ b) M2 w229' iA is by rw [ew229'.out]; exact HRI.out.set (b := _) ⟨by omega, by omega⟩ _ _)
      replace Q := aA (show Below w.heap.size w w229' by rw [ew229'.out]; exact Q.out.trans (aE _ _ _ (by have := Q.out.size; omega)))
      replace B := aA (show w229'.heap[b]? = some (.cells ((⟨c, id, os, oA, oc, is, iA, ic, zCl, eT 8, t', fK, fZ, g8, 0⟩ : Nd).cs).toArray 53 (0, 0)) by rw [ew229'.out]; exact nd_set_fi (eT 8) B.out)
      clear ew229' Tw229'
      obtain ⟨_, _, _, d3, d4, d5, d6, _⟩ := bL C.out
      go_wp2_with fail
      clear d3 d4 d5 d6
      (with_reducible refine (pnNew_ok mem c.heard w229' (cfB_pn HBC.out HM.out)).mono ?_)
      rintro ew230' w230' ⟨rfl, qw230'⟩
      replace C := aA (aB C.out qw230')
      replace T := aA (aB T.out qw230')
      replace R := aA (aB R.out qw230')
      replace B := aA (aB B.out qw230')
      replace HRO := aA (HRO.out.below qw230')
      replace HRI := aA (HRI.out.below qw230')
      replace Q := aA (aC Q.out Q.out.size qw230')
      clear qw230'
      have Tw231' := aA (show World.there _ b 54 19 from dF (cs := (⟨c, id, os, oA, oc, is, iA, ic, zCl, eT 8, t', fK, fZ, g8, 0⟩ : Nd).cs) B.out 54 19 (by show _ ≤ 91; decide))
      go_wp2_with (refine aF (by rfl) 47 (.tmp 99) (.tmp 97) (by rfl) b 54 (bO ⟨mem, 0, fun _ => 0, c.heard⟩) (by rfl) (by rfl) (by exact Tw231'.out) (by kernel_rfl) (by simp [Value.oneCell', bO]) ?_)
      intro w231' ew231'
      replace C := aA (show w231'.heap[w.heap.size]? = some (.cells c.cs.toArray 25 (0, 0)) by rw [ew231'.out]; exact aG (by omega) _ _ _ C.out)
      replace T := aA (show w231'.heap[w.heap.size + 1]? = some (.cells (bD t').toArray 27 (0, 0)) by rw [ew231'.out]; exact aG (by omega) _ _ _ T.out)
      replace R := aA (show w231'.heap[w.heap.size + 2]? = some (.cells zNd.cs.toArray 53 (0, 0)) by rw [ew231'.out]; exact aG (by omega) _ _ _ R.out)
      replace HRO := aA (show RowsO (fun j => w.heap.size ≤ j ∧ j ≤ b) M w231' oA os by rw [ew231'.out]; exact HRO.out.set (b := _) ⟨by omega, by omega⟩ _ _)
      replace HRI := aA (show RowsI (fun j => w.heap.size ≤ j ∧ j ≤ b) M2 w231' iA is by rw [ew231'.out]; exact HRI.out.set (b := _) ⟨by omega, by omega⟩ _ _)
      replace Q := aA (show Below w.heap.size w w231' by rw [ew231'.out]; exact Q.out.trans (aE _ _ _ (by have := Q.out.size; omega)))
      replace B := aA (show w231'.heap[b]? = some (.cells ((⟨c, id, os, oA, oc, is, iA, ic, zCl, eT 8, t', ⟨mem, 0, fun _ => 0, c.heard⟩, fZ, g8, 0⟩ : Nd).cs).toArray 53 (0, 0)) by rw [ew231'.out]; exact nd_set_pn ⟨mem, 0, fun _ => 0, c.heard⟩ B.out)
      clear ew231' Tw231'
      obtain ⟨_, _, _, d3, d4, d5, d6, _⟩ := bL C.out
      go_wp2_with fail
      clear d3 d4 d5 d6
      (with_reducible refine (nmNew_ok c.rep c.cycle c.heard c.wait w231' (cfB_nm HBC.out)).mono ?_)
      rintro ew232' w232' ⟨rfl, qw232'⟩
      replace C := aA (aB C.out qw232')
      replace T := aA (aB T.out qw232')
      replace R := aA (aB R.out qw232')
      replace B := aA (aB B.out qw232')
      replace HRO := aA (HRO.out.below qw232')
      replace HRI := aA (HRI.out.below qw232')
      replace Q := aA (aC Q.out Q.out.size qw232')
      clear qw232'
      have Tw233' := aA (show World.there _ b 73 10 from dF (cs := (⟨c, id, os, oA, oc, is, iA, ic, zCl, eT 8, t', ⟨mem, 0, fun _ => 0, c.heard⟩, fZ, g8, 0⟩ : Nd).cs) B.out 73 10 (by show _ ≤ 91; decide))
      go_wp2_with (refine aF (by rfl) 49 (.tmp 112) (.tmp 110) (by rfl) b 73 (bR ⟨0, false, 0, 0, 0, 0, c.rep, c.cycle, c.heard, c.wait⟩) (by rfl) (by rfl) (by exact Tw233'.out) (by kernel_rfl) (by simp [Value.oneCell', bR]) ?_)
      intro w233' ew233'
      replace C := aA (show w233'.heap[w.heap.size]? = some (.cells c.cs.toArray 25 (0, 0)) by rw [ew233'.out]; exact aG (by omega) _ _ _ C.out)
      replace T := aA (show w233'.heap[w.heap.size + 1]? = some (.cells (bD t').toArray 27 (0, 0)) by rw [ew233'.out]; exact aG (by omega) _ _ _ T.out)
      replace R := aA (show w233'.heap[w.heap.size + 2]? = some (.cells zNd.cs.toArray 53 (0, 0)) by rw [ew233'.out]; exact aG (by omega) _ _ _ R.out)
      replace HRO := aA (show RowsO (fun j => w.heap.size ≤ j ∧ j ≤ b) M w233' oA os by rw [ew233'.out]; exact HRO.out.set (b := _) ⟨by omega, by omega⟩ _ _)
      replace HRI := aA (show RowsI (fun j => w.heap.size ≤ j ∧ j ≤ b) M2 w233' iA is by rw [ew233'.out]; exact HRI.out.set (b := _) ⟨by omega, by omega⟩ _ _)
      replace Q := aA (show Below w.heap.size w w233' by rw [ew233'.out]; exact Q.out.trans (aE _ _ _ (by have := Q.out.size; omega)))
      replace B := aA (show w233'.heap[b]? = some (.cells ((⟨c, id, os, oA, oc, is, iA, ic, zCl, eT 8, t', ⟨mem, 0, fun _ => 0, c.heard⟩, ⟨0, false, 0, 0, 0, 0, c.rep, c.cycle, c.heard, c.wait⟩, g8, 0⟩ : Nd).cs).toArray 53 (0, 0)) by rw [ew233'.out]; exact nd_set_nm ⟨0, false, 0, 0, 0, 0, c.rep, c.cycle, c.heard, c.wait⟩ B.out)
      clear ew233' Tw233'
      go_wp2_with fail
      (with_reducible refine (smNew_ok 5 3 20 w233' rfl).mono ?_)
      rintro ew234' w234' ⟨rfl, qw234'⟩
      replace C := aA (aB C.out qw234')
      replace T := aA (aB T.out qw234')
      replace R := aA (aB R.out qw234')
      replace B := aA (aB B.out qw234')
      replace HRO := aA (HRO.out.below qw234')
      replace HRI := aA (HRI.out.below qw234')
      replace Q := aA (aC Q.out Q.out.size qw234')
      clear qw234'
      have Tw235' := aA (show World.there _ b 83 7 from dF (cs := (⟨c, id, os, oA, oc, is, iA, ic, zCl, eT 8, t', ⟨mem, 0, fun _ => 0, c.heard⟩, ⟨0, false, 0, 0, 0, 0, c.rep, c.cycle, c.heard, c.wait⟩, g8, 0⟩ : Nd).cs) B.out 83 7 (by show _ ≤ 91; decide))
      go_wp2_with (refine aF (by rfl) 51 (.tmp 117) (.tmp 115) (by rfl) b 83 (bW ⟨0, false, 0, 0, 5, 3, 20⟩) (by rfl) (by rfl) (by exact Tw235'.out) (by kernel_rfl) (by simp [Value.oneCell', bW]) ?_)
      intro w235' ew235'
      replace C := aA (show w235'.heap[w.heap.size]? = some (.cells c.cs.toArray 25 (0, 0)) by rw [ew235'.out]; exact aG (by omega) _ _ _ C.out)
      replace T := aA (show w235'.heap[w.heap.size + 1]? = some (.cells (bD t').toArray 27 (0, 0)) by rw [ew235'.out]; exact aG (by omega) _ _ _ T.out)
      replace R := aA (show w235'.heap[w.heap.size + 2]? = some (.cells zNd.cs.toArray 53 (0, 0)) by rw [ew235'.out]; exact aG (by omega) _ _ _ R.out)
      replace HRO := aA (show RowsO (fun j => w.heap.size ≤ j ∧ j ≤ b) M w235' oA os by rw [ew235'.out]; exact HRO.out.set (b := _) ⟨by omega, by omega⟩ _ _)
      replace HRI := aA (show RowsI (fun j => w.heap.size ≤ j ∧ j ≤ b) M2 w235' iA is by rw [ew235'.out]; exact HRI.out.set (b := _) ⟨by omega, by omega⟩ _ _)
      replace Q := aA (show Below w.heap.size w w235' by rw [ew235'.out]; exact Q.out.trans (aE _ _ _ (by have := Q.out.size; omega)))
      replace B := aA (show w235'.heap[b]? = some (.cells ((⟨c, id, os, oA, oc, is, iA, ic, zCl, eT 8, t', ⟨mem, 0, fun _ => 0, c.heard⟩, ⟨0, false, 0, 0, 0, 0, c.rep, c.cycle, c.heard, c.wait⟩, ⟨0, false, 0, 0, 5, 3, 20⟩, 0⟩ : Nd).cs).toArray 53 (0, 0)) by rw [ew235'.out]; exact nd_set_sm ⟨0, false, 0, 0, 5, 3, 20⟩ B.out)
      clear ew235' Tw235'
      replace B := aA (show w235'.heap[b]? = some (.cells ((eD c id os oA oc is iA ic t' mem).cs).toArray 53 (0, 0)) from B.out)
      rcases HGO.out with ⟨ht, rfl, rfl⟩ | ⟨ht, rfl, rfl⟩
      ·
        have HT := aA ht
        clear ht HGO
        have HRT := aA (newNd_rt (oA := oA) (oc := oc) (iA := iA) (ic := ic) (t := t) (mem := mem) HBC.out HID.out.1 HID.out.2 HT.out HM.out (by rw [HOL.out, HSS.out]) (by rw [HIL.out, HHH.out]) (by rw [← HSS.out]; exact HOI.out) (by rw [← HHH.out]; exact HII.out))
        have hos : os.length ≤ 1000 := by rw [HOL.out]; exact hsl
        have his : is.length ≤ 1000 := by rw [HIL.out]; exact hhl
        have HOK := aA (⟨HO.out.next Q.out, HRO.out.rd, HRI.out.rd, HRO.out.ok, HRI.out.ok, hos, his, newFi8_okp.at_ Rd.nil⟩ : (eD c id os oA oc is iA ic (t.go 3) mem).Ok w235')
        go_wp2_with (refine bU (by kernel_rfl) 53 (.tmp 10) (by rfl) b (by rfl) 53 ((eD c id os oA oc is iA ic (t.go 3) mem).cs).toArray (0, 0) _ (by exact B.out) Tryz.underlying53 (by rfl) (by kernel_rfl) ?_)
        (with_reducible refine (j0 _ w235' HOK.out HRT.out).mono ?_)
        rintro ew236' w236' ⟨rfl, qw236'⟩
        replace C := aA (aB C.out qw236')
        replace T := aA (aB T.out qw236')
        replace R := aA (aB R.out qw236')
        replace B := aA (aB B.out qw236')
        replace HRO := aA (HRO.out.below qw236')
        replace HRI := aA (HRI.out.below qw236')
        replace Q := aA (aC Q.out Q.out.size qw236')
        clear qw236'
        clear HOK
        have Tw237' := aA (show World.there _ (w.heap.size + 2) 0 91 from aK (cs := zNd.cs) R.out)
        go_wp2_with (first | (refine wpList_load_row rfl 53 (.tmp 10) (by rfl) b (by rfl) 53 ((eD c id os oA oc is iA ic (t.go 3) mem).cs).toArray (0, 0) _ (by exact B.out) Tryz.underlying53 (by rfl) (by kernel_rfl) ?_) | (refine aF (by rfl) 53 (.tmp 8) (.tmp 126) (by rfl) (w.heap.size + 2) 0 ((eD c id os oA oc is iA ic (t.go 3) mem).cs) (by rfl) (by rfl) (by exact Tw237'.out) (by kernel_rfl) (by exact dB _) ?_))
        intro w237' ew237'
        replace C := aA (show w237'.heap[w.heap.size]? = some (.cells c.cs.toArray 25 (0, 0)) by rw [ew237'.out]; exact aG (by omega) _ _ _ C.out)
        replace T := aA (show w237'.heap[w.heap.size + 1]? = some (.cells (bD (t.go 3)).toArray 27 (0, 0)) by rw [ew237'.out]; exact aG (by omega) _ _ _ T.out)
        replace B := aA (show w237'.heap[b]? = some (.cells ((eD c id os oA oc is iA ic (t.go 3) mem).cs).toArray 53 (0, 0)) by rw [ew237'.out]; exact aG (by omega) _ _ _ B.out)
        replace HRO := aA (show RowsO (fun j => w.heap.size ≤ j ∧ j ≤ b) M w237' oA os by rw [ew237'.out]; exact HRO.out.set (b := _) ⟨by omega, by omega⟩ _ _)
        replace HRI := aA (show RowsI (fun j => w.heap.size ≤ j ∧ j ≤ b) M2 w237' iA is by rw [ew237'.out]; exact HRI.out.set (b := _) ⟨by omega, by omega⟩ _ _)
        replace Q := aA (show Below w.heap.size w w237' by rw [ew237'.out]; exact Q.out.trans (aE _ _ _ (by have := Q.out.size; omega)))
        replace R := aA (show w237'.heap[w.heap.size + 2]? = some (.cells ((eD c id os oA oc is iA ic (t.go 3) mem).cs).toArray 53 (0, 0)) by rw [ew237'.out]; exact aJ ((eD c id os oA oc is iA ic (t.go 3) mem).cs) (xs := zNd.cs) R.out rfl)
        clear ew237' Tw237'
        have HOK := aA (⟨HO.out.next Q.out, HRO.out.rd, HRI.out.rd, HRO.out.ok, HRI.out.ok, hos, his, newFi8_okp.at_ Rd.nil⟩ : (eD c id os oA oc is iA ic (t.go 3) mem).Ok w237')
        go_wp2_with fail
        refine bodyPost_ret (aP (by rfl) _ w237' (w.heap.size + 2) 53 ((eD c id os oA oc is iA ic (t.go 3) mem).cs).toArray (0, 0) _ (.int .i64 0) (by rfl) (by rfl) R.out Tryz.underlying53 (by rfl) (by kernel_rfl)) rfl ⟨⟨0, .inr ⟨HT.out, rfl, os, oA, oc, is, iA, ic, rfl, HOK.out, HRT.out, by rw [← HSS.out]; exact HOI.out, by rw [← HHH.out]; exact HII.out⟩⟩, Q.out⟩
      have HT := aA ht
      clear ht HGO
      have Tw238' := aA (show World.there _ (w.heap.size + 2) 0 91 from aK (cs := zNd.cs) R.out)
      go_wp2_with (refine aF (by rfl) 53 (.tmp 8) (.tmp 125) (by rfl) (w.heap.size + 2) 0 zNd.cs (by rfl) (by rfl) (by exact Tw238'.out) (by kernel_rfl) (by exact dB _) ?_)
      intro w238' ew238'
      replace C := aA (show w238'.heap[w.heap.size]? = some (.cells c.cs.toArray 25 (0, 0)) by rw [ew238'.out]; exact aG (by omega) _ _ _ C.out)
      replace T := aA (show w238'.heap[w.heap.size + 1]? = some (.cells (bD eX).toArray 27 (0, 0)) by rw [ew238'.out]; exact aG (by omega) _ _ _ T.out)
      replace B := aA (show w238'.heap[b]? = some (.cells ((eD c id os oA oc is iA ic eX mem).cs).toArray 53 (0, 0)) by rw [ew238'.out]; exact aG (by omega) _ _ _ B.out)
      replace HRO := aA (show RowsO (fun j => w.heap.size ≤ j ∧ j ≤ b) M w238' oA os by rw [ew238'.out]; exact HRO.out.set (b := _) ⟨by omega, by omega⟩ _ _)
      replace HRI := aA (show RowsI (fun j => w.heap.size ≤ j ∧ j ≤ b) M2 w238' iA is by rw [ew238'.out]; exact HRI.out.set (b := _) ⟨by omega, by omega⟩ _ _)
      replace Q := aA (show Below w.heap.size w w238' by rw [ew238'.out]; exact Q.out.trans (aE _ _ _ (by have := Q.out.size; omega)))
      replace R := aA (show w238'.heap[w.heap.size + 2]? = some (.cells zNd.cs.toArray 53 (0, 0)) by rw [ew238'.out]; exact aJ zNd.cs (xs := zNd.cs) R.out rfl)
      clear ew238' Tw238'
      go_wp2_with fail
      refine bodyPost_ret (aP (by rfl) _ w238' (w.heap.size + 2) 53 (zNd.cs).toArray (0, 0) _ (.int .i64 1) (by rfl) (by rfl) R.out Tryz.underlying53 (by rfl) (by kernel_rfl)) rfl ⟨⟨1, .inl ⟨HT.out, rfl, rfl⟩⟩, Q.out⟩
end Go.Proofs.YtkmddjbialpppaaGreatDoor
