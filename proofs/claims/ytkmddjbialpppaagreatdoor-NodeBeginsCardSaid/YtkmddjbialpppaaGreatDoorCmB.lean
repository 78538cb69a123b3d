import Derived.Test.YtkmddjbialpppaaGreatDoorMgPdG
namespace Go.Proofs.YtkmddjbialpppaaGreatDoor
open Go.ChangeShapes Go.WideShapes Go.ChangeAt Go.RowKit
open CM PD SG
def lim (v : Int) : Prop := -9223372036854775808 ≤ v ∧ v < 9223372036854775808
set_option maxRecDepth 100000 in
theorem fit1_any (L : Ly) (A : Option Addr) (c : Nat) (B : Option Addr) (d b : Nat) (t : TypeId) (i : Nat) (v : Int) (w : World) (hb : Hid (w.heap[b]? = some (.cells (lyV L A c B d) t (0, 0)))) (hA : SgR w w.heap.size A L.sgs) (hi : i < L.sgs.length) (hne : eG L.sgs[i] ≠ []) (hv : lim v) :
    Calls Tryz.prog 132 #[.int .i64 i, .int .i64 v, .pointer (some ⟨b, 0, none⟩)] w fun e w' => e = .returned (.bool (fU L.sgs[i] v)) ∧ Below w.heap.size w w' := by
  have FT := aA (fun W => fits_any L.sgs[i] v W hv.1 hv.2 hne)
  obtain ⟨c0, c1, c2⟩ := bK hb.out
  obtain ⟨ab, ao, rfl, hab, s0, s1, s2, s3⟩ := SgR.at_ hA hi
  have hii : (i : Int) < (L.sgs.length : Int) := by omega
  generalize fU L.sgs[i] v = r at *
  generalize L.sgs[i] = S at *
  clear hb hA hne hv
  go_enter Tryz.func132, Tryz.ntmps132
  go_wp2_with fail
  (with_reducible refine (FT.out _).mono ?_)
  rintro e1 w1 ⟨rfl, q1⟩
  go_wp2_with fail
  go_ret
  exact ⟨rfl, q1⟩
def fitA (L : Ly) (vs : List Int) : Bool := decide (vs.length = L.sgs.length) && iJ (fun i v => fU (L.sgs.getD i dflt) v) vs 0
set_option maxRecDepth 100000 in
set_option maxHeartbeats 4000000 in
theorem fit_any (L : Ly) (A : Option Addr) (c : Nat) (B : Option Addr) (d : Nat) (vs : List Int) (VA : Option Addr) (vc : Nat) (w : World) (hA : SgR w w.heap.size A L.sgs) (hV : InR w w.heap.size VA vs) (hvs : ∀ v ∈ vs, lim v) (hr : rightB L = true) :
    Calls Tryz.prog 82 #[.agg (lyV L A c B d), .slice VA vs.length vc] w fun e w' => e = .returned (.bool (fitA L vs)) ∧ Below w.heap.size w w' := by
  obtain ⟨r, hr2⟩ : ∃ r, r = fitA L vs := ⟨_, rfl⟩
  rw [← hr2]
  unfold fitA at hr2
  have HR := aA hr2
  have hl16 := (fE.1 hr).2.2.1
  have q0 : Below w.heap.size w (w.alloc (.cells (lyV L A c B d) 66)) := (Below.refl _ _).alloc (Nat.le_refl _) _
  have B0 := aA (World.alloc_heap_new w (.cells (lyV L A c B d) 66))
  have Q0 := aA q0
  clear hr2 q0
  by_cases hl : vs.length = L.sgs.length
  · have AL := allInt_any 132 w.heap.size (fun i v => fU (L.sgs.getD i dflt) v) (fun args W => by kernel_rfl) vs VA vc (w.alloc (.cells (lyV L A c B d) 66)) (Rd.next hV Q0.out Q0.out.size) (by omega)
      (aA (fun i hi w' hb => by
        have hi2 : i < L.sgs.length := by omega
        have hrs := rightS_iff.1 ((fE.1 hr).2.2.2.2.1 _ (List.getElem_mem hi2))
        have := fit1_any L A c B d w.heap.size 66 i vs[i] w' (aA (aB B0.out hb)) (Rd.next hA (Q0.out.trans (hb.mono Q0.out.size)) (Nat.le_trans Q0.out.size hb.size)) hi2 hrs.1 (hvs _ (List.getElem_mem hi))
        rw [getDx _ hi2]
        exact this))
    have E := aA (show r = iJ (fun i v => fU (L.sgs.getD i dflt) v) vs 0 by rw [HR.out, decide_eq_true hl, Bool.true_and])
    have ALH := aA AL
    have e1 : ((vs.length : Int) == (L.sgs.length : Int)) = true := by rw [beq_iff_eq]; omega
    clear HR hl AL hA hV hvs hr
    rw [← E.out] at ALH
    clear E
    unfold lyV at *
    obtain ⟨c0, c1, c2⟩ := bK B0.out
    go_enter Tryz.func82, Tryz.ntmps82
    go_wp2_with fail
    (with_reducible refine (ALH.out).mono ?_)
    rintro e2 w2 ⟨rfl, q2⟩
    have Q := aA (aC Q0.out Q0.out.size q2)
    clear q2 ALH c0 c1 c2
    go_wp2_with fail
    go_ret
    exact ⟨rfl, Q.out⟩
  · have E := aA (show r = false by rw [HR.out, decide_eq_false hl, Bool.false_and])
    have e1 : ((vs.length : Int) == (L.sgs.length : Int)) = false := by rw [beq_eq_false_iff_ne]; omega
    clear HR hl hA hV hvs hr
    unfold lyV at *
    obtain ⟨c0, c1, c2⟩ := bK B0.out
    go_enter Tryz.func82, Tryz.ntmps82
    go_wp2_with fail
    go_ret
    exact ⟨by rw [E.out]; rfl, Q0.out⟩
def fltMay (f : Flt) : Bool := fltB f && decide (f.count < 1099511627776)
set_option maxRecDepth 100000 in
theorem common1_any (i : Int) (f : Flt) (w : World) : Calls Tryz.prog 97 #[.int .i64 i, .agg #[.int .i64 f.kind, .int .i64 f.mask, .int .i64 f.x, .int .i64 f.mn, .int .i64 f.mx, .int .i64 f.every, .int .i64 f.frm, .int .i64 f.old, .int .i64 f.count]] w fun e w' => e = .returned (.bool (fltMay f)) ∧ Below w.heap.size w w' := by
  obtain ⟨r, hr⟩ : ∃ r, r = fltMay f := ⟨_, rfl⟩
  rw [← hr]
  unfold fltMay at hr
  have HR := aA hr
  have RT := aA (fun W => show Calls Tryz.prog 98 #[.agg (fC f).toArray] W fun e w' => e = .returned (.bool (fltB f)) ∧ Below W.heap.size W w' from iI f W)
  have q0 : Below w.heap.size w (w.alloc (.cells (fC f).toArray 138)) := (Below.refl _ _).alloc (Nat.le_refl _) _
  have B0 := aA (World.alloc_heap_new w (.cells (fC f).toArray 138))
  generalize fltB f = y at *
  clear hr
  go_enter Tryz.func97, Tryz.ntmps97
  go_wp2_with (refine wpList_load_row rfl 138 (.tmp 3) (by rfl) w.heap.size (by rfl) 138 (fC f).toArray (0, 0) _ (by exact B0.out) Tryz.underlying138 (by rfl) (by kernel_rfl) ?_)
  (with_reducible refine (RT.out _).mono ?_)
  rintro e1 w1 ⟨rfl, q1⟩
  have B1 := aA (aB B0.out q1)
  have Q1 := aA (aC q0 q0.size q1)
  clear q0 q1 RT B0
  obtain ⟨c0, c1, c2, c3, c4, c5, c6, c7, c8⟩ := iF (f := f) B1.out
  generalize f.count = n at *
  cases y with
  | false =>
    have E := aA (show r = false by rw [HR.out]; rfl)
    clear HR
    go_wp2_with fail
    go_ret
    exact ⟨by rw [E.out]; rfl, Q1.out⟩
  | true =>
    by_cases h : n < 1099511627776
    · have E := aA (show r = true by rw [HR.out, decide_eq_true h]; rfl)
      clear HR
      go_wp2_with fail
      go_ret
      exact ⟨by rw [E.out]; simp [h], Q1.out⟩
    · have E := aA (show r = false by rw [HR.out, decide_eq_false h]; rfl)
      clear HR
      go_wp2_with fail
      go_ret
      exact ⟨by rw [E.out]; simp; omega, Q1.out⟩
def iX (f : Flt) (v : Int) : Bool := fltB f && gX f v
def passE (f : Flt) : Int := if fltB f = true then 0 else 1
theorem passes_any (f : Flt) (v : Int) (w : World) : Calls Tryz.prog 205 #[.agg #[.int .i64 f.kind, .int .i64 f.mask, .int .i64 f.x, .int .i64 f.mn, .int .i64 f.mx, .int .i64 f.every, .int .i64 f.frm, .int .i64 f.old, .int .i64 f.count], .int .i64 v] w fun e w' => e = .returned (.tuple #[.bool (iX f v), .int .i64 (passE f)]) ∧ Below w.heap.size w w' := by
  cases h : fltB f with
  | true =>
    rw [show iX f v = gX f v by unfold iX; rw [h]; rfl, show passE f = 0 by unfold passE; rw [h]; rfl]
    exact passes_ok f v w h
  | false =>
    rw [show iX f v = false by unfold iX; rw [h]; rfl, show passE f = 1 by unfold passE; rw [h]; rfl]
    exact passes_bad f v w h
set_option maxRecDepth 100000 in
set_option maxHeartbeats 4000000 in
theorem passes1_any (vs : List Int) (VA : Option Addr) (vc b : Nat) (t : TypeId) (i : Nat) (f : Flt) (w : World) (hb : Hid (w.heap[b]? = some (.cells #[.slice VA vs.length vc] t (0, 0)))) (hV : InR w w.heap.size VA vs) (hi : i < vs.length) :
    Calls Tryz.prog 204 #[.int .i64 i, .agg #[.int .i64 f.kind, .int .i64 f.mask, .int .i64 f.x, .int .i64 f.mn, .int .i64 f.mx, .int .i64 f.every, .int .i64 f.frm, .int .i64 f.old, .int .i64 f.count], .pointer (some ⟨b, 0, none⟩)] w fun e w' => e = .returned (.bool (!iX f vs[i])) ∧ Below w.heap.size w w' := by
  have PS := aA (fun W => passes_any f vs[i] W)
  have q0 : Below w.heap.size w (w.alloc (.cells (fC f).toArray 138)) := (Below.refl _ _).alloc (Nat.le_refl _) _
  have B0 := World.alloc_heap_new w (.cells (fC f).toArray 138)
  have b0 := aB hb.out q0
  have s0 : (w.alloc (.cells (fC f).toArray 138)).cell? ⟨b, 0, none⟩ = some (.slice VA vs.length vc) := by simp [World.cell?, b0]
  obtain ⟨ab, ao, rfl, hab, v0⟩ := InR.at_ (Rd.next hV q0 q0.size) hi
  obtain ⟨c0, c1, c2, c3, c4, c5, c6, c7, c8⟩ := iF (f := f) B0
  have hii : (i : Int) < (vs.length : Int) := by omega
  have zb : b < (w.alloc (.cells (fC f).toArray 138)).heap.size := aH b0
  have zf : w.heap.size < (w.alloc (.cells (fC f).toArray 138)).heap.size := aH B0
  generalize iX f vs[i] = r at *
  generalize passE f = pe at *
  generalize vs[i] = v at *
  clear hb hV B0 b0
  have Q0 := aA q0
  clear q0
  obtain ⟨kind, mask, x, mn, mx, every, frm, old, count⟩ := f
  dsimp only [fC] at *
  generalize hw0 : w.alloc (.cells #[.int .i64 kind, .int .i64 mask, .int .i64 x, .int .i64 mn, .int .i64 mx, .int .i64 every, .int .i64 frm, .int .i64 old, .int .i64 count] 138) = w0 at *
  go_enter Tryz.func204, Tryz.ntmps204
  go_wp2_with fail
  have f0 := fun s : InW w0 => s.cell zf c0
  have f1 := fun s : InW w0 => s.cell zf c1
  have f2 := fun s : InW w0 => s.cell zf c2
  have f3 := fun s : InW w0 => s.cell zf c3
  have f4 := fun s : InW w0 => s.cell zf c4
  have f5 := fun s : InW w0 => s.cell zf c5
  have f6 := fun s : InW w0 => s.cell zf c6
  have f7 := fun s : InW w0 => s.cell zf c7
  have f8 := fun s : InW w0 => s.cell zf c8
  have fs := fun s : InW w0 => s.cell zb s0
  have fv := fun s : InW w0 => s.cell hab v0
  clear c0 c1 c2 c3 c4 c5 c6 c7 c8 s0 v0
  refine bF (by kernel_rfl) (by kernel_rfl) ?_
  repeat (go_big_quiet_step ((go_at_call 205; exact cO (PS.out _))))
  refine wpQuiet_nil ?_
  rintro _ ⟨sw, rfl⟩
  have Q := aA (aC Q0.out Q0.out.size sw.h)
  clear f0 f1 f2 f3 f4 f5 f6 f7 f8 fs fv
  go_wp2_with fail
  go_ret
  exact ⟨rfl, Q.out⟩
def zFlt : Flt := ⟨0, 0, 0, 0, 0, 0, 0, 0, 0⟩
def passA (fl : List Flt) (vs : List Int) : Bool := !iJ (fun i f => !iX f (vs.getD i 0)) fl zFlt
set_option maxRecDepth 100000 in
set_option maxHeartbeats 4000000 in
theorem passesA_any (fl : List Flt) (FA : Option Addr) (fc : Nat) (vs : List Int) (VA : Option Addr) (vc : Nat) (w : World) (hF : FlR w w.heap.size FA fl) (hV : InR w w.heap.size VA vs) (hl : fl.length ≤ 9223372036854775807) (hlv : fl.length ≤ vs.length) :
    Calls Tryz.prog 168 #[.slice FA fl.length fc, .slice VA vs.length vc] w fun e w' => e = .returned (.bool (passA fl vs)) ∧ Below w.heap.size w w' := by
  have q0 : Below w.heap.size w (w.alloc (.cells #[.slice VA vs.length vc] 68)) := (Below.refl _ _).alloc (Nat.le_refl _) _
  have B0 := World.alloc_heap_new w (.cells #[.slice VA vs.length vc] 68)
  have AL := allFlt1_any 204 w.heap.size (fun i f => !iX f (vs.getD i 0)) (fun args W => by kernel_rfl) fl FA fc zFlt (w.alloc (.cells #[.slice VA vs.length vc] 68)) (Rd.next hF q0 q0.size) hl
    (aA (fun i hi w' hb => by
      have hi2 : i < vs.length := by omega
      rw [getDx _ hi2]
      exact passes1_any vs VA vc w.heap.size 68 i fl[i] w' (aA (aB B0 hb)) (Rd.next hV (q0.trans (hb.mono q0.size)) (Nat.le_trans q0.size hb.size)) hi2))
  have E := aA (show passA fl vs = !iJ (fun i f => !iX f (vs.getD i 0)) fl zFlt from rfl)
  rw [E.out]
  have ALH := aA AL
  generalize iJ (fun i f => !iX f (vs.getD i 0)) fl zFlt = r at *
  clear AL hF hV hl hlv E B0
  go_enter Tryz.func168, Tryz.ntmps168
  go_wp2_with fail
  (with_reducible refine (ALH.out).mono ?_)
  rintro e2 w2 ⟨rfl, q2⟩
  have Q := aA (aC q0 q0.size q2)
  clear q2 ALH q0
  go_wp2_with fail
  go_ret
  exact ⟨rfl, Q.out⟩
def jX (L : Ly) (fl : List Flt) (sv gv : List Int) (times : Int) : Bool :=
  rightB L && (decide (L.sgs.length ≠ 0) && (decide (fl.length = L.sgs.length) && (grB sv.length gv.length times && (decide (gv.length = L.sgs.length) && (iJ (fun _ f => fltMay f) fl zFlt && (fitA L gv && fitA L sv))))))
def grV (S : Option Addr) (n c : Nat) (G : Option Addr) (m d : Nat) (times : Int) : Array Value := #[.slice S n c, .slice G m d, .int .i64 times]
set_option maxRecDepth 100000 in
set_option maxHeartbeats 8000000 in
theorem j5 (L : Ly) (A : Option Addr) (c : Nat) (B : Option Addr) (d : Nat) (fl : List Flt) (FA : Option Addr) (fc : Nat) (sv gv : List Int) (S : Option Addr) (sc : Nat) (G : Option Addr) (gc : Nat) (times : Int) (w : World)
    (hA : SgR w w.heap.size A L.sgs) (hB : InR w w.heap.size B L.nws) (hs : L.sgs.length ≤ 9223372036854775807) (hn : L.nws.length ≤ 9223372036854775807) (hc : L.sgs.length ≤ c) (hd : L.nws.length ≤ d) (hF : FlR w w.heap.size FA fl) (hfl : fl.length ≤ 9223372036854775807) (hS : InR w w.heap.size S sv) (hG : InR w w.heap.size G gv) (hsv : ∀ v ∈ sv, lim v) (hgv : ∀ v ∈ gv, lim v) :
    Calls Tryz.prog 51 #[.agg (lyV L A c B d), .slice FA fl.length fc, .agg (grV S sv.length sc G gv.length gc times)] w fun e w' => e = .returned (.bool (jX L fl sv gv times)) ∧ Below w.heap.size w w' := by
  obtain ⟨r, hr2⟩ : ∃ r, r = jX L fl sv gv times := ⟨_, rfl⟩
  rw [← hr2]
  unfold jX at hr2
  have HR := aA hr2
  clear hr2
  have RT := aA (fun (W : World) (hb : Below w.heap.size w W) => pduRight_any L A c B d W (Rd.next hA hb hb.size) (Rd.next hB hb hb.size) hs hn hc hd)
  have GT := aA (fun (W : World) => grRight_any S G sv.length sc gv.length gc times W)
  have FT := aA (fun (W : World) (hb : Below w.heap.size w W) => allFlt0_any 97 (fun _ f => fltMay f) (fun args W => by kernel_rfl) fl FA fc zFlt W (Rd.next hF hb hb.size) (by omega) (aA (fun i hi w' _ => common1_any i fl[i] w')))
  have FG := aA (fun (W : World) (hb : Below w.heap.size w W) (hr : rightB L = true) => fit_any L A c B d gv G gc W (Rd.next hA hb hb.size) (Rd.next hG hb hb.size) hgv hr)
  have FS := aA (fun (W : World) (hb : Below w.heap.size w W) (hr : rightB L = true) => fit_any L A c B d sv S sc W (Rd.next hA hb hb.size) (Rd.next hS hb hb.size) hsv hr)
  clear hA hB hF hS hG hsv hgv
  generalize rightB L = R at *
  generalize grB sv.length gv.length times = gb at *
  generalize iJ (fun _ f => fltMay f) fl zFlt = ab at *
  generalize fitA L gv = fg at *
  generalize fitA L sv = fs at *
  unfold lyV grV at *
  obtain ⟨w0, hw0⟩ : ∃ w0, w0 = (w.alloc (.cells #[.int .i64 L.size, .slice A L.sgs.length c, .slice B L.nws.length d] 66)).alloc (.cells #[.slice S sv.length sc, .slice G gv.length gc, .int .i64 times] 70) := ⟨_, rfl⟩
  have a1 := (Below.refl _ _).alloc (Nat.le_refl w.heap.size) (.cells #[.int .i64 L.size, .slice A L.sgs.length c, .slice B L.nws.length d] 66)
  have b1 := World.alloc_heap_new w (.cells #[.int .i64 L.size, .slice A L.sgs.length c, .slice B L.nws.length d] 66)
  have z1 : (w.alloc (.cells #[.int .i64 L.size, .slice A L.sgs.length c, .slice B L.nws.length d] 66)).heap.size = w.heap.size + 1 := by simp
  have a2 := (Below.refl _ (w.alloc (.cells #[.int .i64 L.size, .slice A L.sgs.length c, .slice B L.nws.length d] 66))).alloc (Nat.le_refl _) (.cells #[.slice S sv.length sc, .slice G gv.length gc, .int .i64 times] 70)
  have b2 := World.alloc_heap_new (w.alloc (.cells #[.int .i64 L.size, .slice A L.sgs.length c, .slice B L.nws.length d] 66)) (.cells #[.slice S sv.length sc, .slice G gv.length gc, .int .i64 times] 70)
  have A0 := aA (aB b1 a2)
  have B0 := aA b2
  have Q0 := aA (aC a1 a1.size a2)
  rw [← hw0] at A0 B0 Q0
  rw [z1] at B0
  clear a1 a2 b1 b2 z1
  obtain ⟨c0, c1, c2⟩ := bK A0.out
  obtain ⟨d0, d1, d2⟩ := bK B0.out
  go_enter Tryz.func51, Tryz.ntmps51
  go_upto_region 1 with fail
  rw [← hw0]
  clear hw0
  go_wp2_with fail
  (with_reducible refine (RT.out _ Q0.out).mono ?_)
  rintro e1 w1 ⟨rfl, q1⟩
  have A1 := aA (aB A0.out q1)
  have B1 := aA (aB B0.out q1)
  have Q1 := aA (aC Q0.out Q0.out.size q1)
  clear q1 A0 B0 Q0 RT c0 c1 c2 d0 d1 d2
  obtain ⟨c0, c1, c2⟩ := bK A1.out
  obtain ⟨d0, d1, d2⟩ := bK B1.out
  cases R with
  | false =>
    have E := aA (show r = false by rw [HR.out]; rfl)
    clear HR GT FT FG FS
    go_wp2_with fail
    go_ret
    exact ⟨by rw [E.out]; rfl, Q1.out⟩
  | true =>
  by_cases h0 : L.sgs.length = 0
  · have e0 : ((L.sgs.length : Int) == 0) = true := by rw [beq_iff_eq]; omega
    have E := aA (show r = false by rw [HR.out, decide_eq_false (by simp [h0])]; rfl)
    clear HR GT FT FG FS h0
    go_wp2_with fail
    go_ret
    exact ⟨by rw [E.out]; rfl, Q1.out⟩
  have e0 : ((L.sgs.length : Int) == 0) = false := by rw [beq_eq_false_iff_ne]; omega
  have d0' : decide (L.sgs.length ≠ 0) = true := decide_eq_true h0
  by_cases h1 : fl.length = L.sgs.length
  case neg =>
    have e1 : ((fl.length : Int) == (L.sgs.length : Int)) = false := by rw [beq_eq_false_iff_ne]; omega
    have e2 : ((fl.length : Int) != (L.sgs.length : Int)) = true := by simp [bne, e1]
    have E := aA (show r = false by rw [HR.out, d0', decide_eq_false h1]; rfl)
    clear HR GT FT FG FS h0 d0' h1
    go_wp2_with fail
    go_ret
    exact ⟨by rw [E.out]; rfl, Q1.out⟩
  have e1 : ((fl.length : Int) == (L.sgs.length : Int)) = true := by rw [beq_iff_eq]; omega
  have e2 : ((fl.length : Int) != (L.sgs.length : Int)) = false := by simp [bne, e1]
  have H1 := aA (decide_eq_true h1)
  have H0 := aA d0'
  clear h0 h1 d0'
  go_wp2_with fail
  (with_reducible refine (GT.out _).mono ?_)
  rintro e3 w2 ⟨rfl, q2⟩
  have A2 := aA (aB A1.out q2)
  have B2 := aA (aB B1.out q2)
  have Q2 := aA (aC Q1.out Q1.out.size q2)
  clear q2 A1 B1 Q1 GT c0 c1 c2 d0 d1 d2
  obtain ⟨c0, c1, c2⟩ := bK A2.out
  obtain ⟨d0, d1, d2⟩ := bK B2.out
  cases gb with
  | false =>
    have E := aA (show r = false by rw [HR.out, H0.out, H1.out]; rfl)
    clear HR FT FG FS
    go_wp2_with fail
    go_ret
    exact ⟨by rw [E.out]; rfl, Q2.out⟩
  | true =>
  by_cases h2 : gv.length = L.sgs.length
  case neg =>
    have e3 : ((gv.length : Int) == (L.sgs.length : Int)) = false := by rw [beq_eq_false_iff_ne]; omega
    have e4 : ((gv.length : Int) != (L.sgs.length : Int)) = true := by simp [bne, e3]
    have E := aA (show r = false by rw [HR.out, H0.out, H1.out, decide_eq_false h2]; rfl)
    clear HR FT FG FS h2
    go_wp2_with fail
    go_ret
    exact ⟨by rw [E.out]; rfl, Q2.out⟩
  have e3 : ((gv.length : Int) == (L.sgs.length : Int)) = true := by rw [beq_iff_eq]; omega
  have e4 : ((gv.length : Int) != (L.sgs.length : Int)) = false := by simp [bne, e3]
  have H2 := aA (decide_eq_true h2)
  clear h2
  go_wp2_with fail
  (with_reducible refine (FT.out _ Q2.out).mono ?_)
  rintro e5 w3 ⟨rfl, q3⟩
  have A3 := aA (aB A2.out q3)
  have B3 := aA (aB B2.out q3)
  have Q3 := aA (aC Q2.out Q2.out.size q3)
  clear q3 A2 B2 Q2 FT c0 c1 c2 d0 d1 d2
  obtain ⟨c0, c1, c2⟩ := bK A3.out
  obtain ⟨d0, d1, d2⟩ := bK B3.out
  cases ab with
  | false =>
    have E := aA (show r = false by rw [HR.out, H0.out, H1.out, H2.out]; rfl)
    clear HR FG FS
    go_wp2_with fail
    go_ret
    exact ⟨by rw [E.out]; rfl, Q3.out⟩
  | true =>
  have FG2 := aA (FG.out _ Q3.out trivial)
  clear FG
  go_wp2_with fail
  (with_reducible refine (FG2.out).mono ?_)
  rintro e6 w4 ⟨rfl, q4⟩
  have A4 := aA (aB A3.out q4)
  have B4 := aA (aB B3.out q4)
  have Q4 := aA (aC Q3.out Q3.out.size q4)
  clear q4 A3 B3 Q3 FG2 c0 c1 c2 d0 d1 d2
  obtain ⟨c0, c1, c2⟩ := bK A4.out
  obtain ⟨d0, d1, d2⟩ := bK B4.out
  cases fg with
  | false =>
    have E := aA (show r = false by rw [HR.out, H0.out, H1.out, H2.out]; rfl)
    clear HR FS
    go_wp2_with fail
    go_ret
    exact ⟨by rw [E.out]; rfl, Q4.out⟩
  | true =>
  have FS2 := aA (FS.out _ Q4.out trivial)
  have E := aA (show r = fs by rw [HR.out, H0.out, H1.out, H2.out]; rfl)
  clear FS HR
  go_wp2_with fail
  (with_reducible refine (FS2.out).mono ?_)
  rintro e7 w5 ⟨rfl, q5⟩
  have Q5 := aA (aC Q4.out Q4.out.size q5)
  clear q5 A4 B4 Q4 FS2 c0 c1 c2 d0 d1 d2
  go_wp2_with fail
  go_ret
  exact ⟨by rw [E.out]; rfl, Q5.out⟩
end Go.Proofs.YtkmddjbialpppaaGreatDoor
