/- Walks of com.fit, common, passes. -/
import Derived.Test.YtnhegnneohpkaaaGreatCmA
namespace Go.Proofs.YtnhegnneohpkaaaGreat
open Go.ChangeShapes Go.WideShapes Go.ChangeAt Go.RowKit
open CM PD SG

def lim (v : Int) : Prop := -9223372036854775808 ≤ v ∧ v < 9223372036854775808
set_option maxRecDepth 100000 in
theorem fit1_any (L : Ly) (A : Option Addr) (c : Nat) (B : Option Addr) (d b : Nat) (t : TypeId) (i : Nat) (v : Int) (w : World) (hb : Hid (w.heap[b]? = some (.cells (lyV L A c B d) t (0, 0)))) (hA : SgR w w.heap.size A L.sgs) (hi : i < L.sgs.length) (hne : plL L.sgs[i] ≠ []) (hv : lim v) :
    Calls Tryz.prog 87 #[.int .i64 i, .int .i64 v, .pointer (some ⟨b, 0, none⟩)] w fun e w' => e = .returned (.bool (fitsB L.sgs[i] v)) ∧ Below w.heap.size w w' := by
  have FT := hide (fun W => fits_any L.sgs[i] v W hv.1 hv.2 hne)
  obtain ⟨c0, c1, c2⟩ := three_cells hb.out
  obtain ⟨ab, ao, rfl, hab, s0, s1, s2, s3⟩ := SgR.at_ hA hi
  have hii : (i : Int) < (L.sgs.length : Int) := by omega
  generalize fitsB L.sgs[i] v = r at *
  generalize L.sgs[i] = S at *
  clear hb hA hne hv
  go_enter Tryz.func87, Tryz.ntmps87
  go_wp2_with fail
  (with_reducible refine (FT.out _).mono ?_)
  rintro e1 w1 ⟨rfl, q1⟩
  go_wp2_with fail
  go_ret
  exact ⟨rfl, q1⟩

def fitA (L : Ly) (vs : List Int) : Bool := decide (vs.length = L.sgs.length) && allW (fun i v => fitsB (L.sgs.getD i dflt) v) vs 0
set_option maxRecDepth 100000 in
set_option maxHeartbeats 4000000 in
theorem fit_any (L : Ly) (A : Option Addr) (c : Nat) (B : Option Addr) (d : Nat) (vs : List Int) (VA : Option Addr) (vc : Nat) (w : World) (hA : SgR w w.heap.size A L.sgs) (hV : InR w w.heap.size VA vs) (hvs : ∀ v ∈ vs, lim v) (hr : rightB L = true) :
    Calls Tryz.prog 54 #[.agg (lyV L A c B d), .slice VA vs.length vc] w fun e w' => e = .returned (.bool (fitA L vs)) ∧ Below w.heap.size w w' := by
  obtain ⟨r, hr2⟩ : ∃ r, r = fitA L vs := ⟨_, rfl⟩
  rw [← hr2]
  unfold fitA at hr2
  have HR := hide hr2
  have hl16 := (right_iff.1 hr).2.2.1
  have q0 : Below w.heap.size w (w.alloc (.cells (lyV L A c B d) 27)) := (Below.refl _ _).alloc (Nat.le_refl _) _
  have B0 := hide (World.alloc_heap_new w (.cells (lyV L A c B d) 27))
  have Q0 := hide q0
  clear hr2 q0
  by_cases hl : vs.length = L.sgs.length
  · have AL := allInt_any 87 w.heap.size (fun i v => fitsB (L.sgs.getD i dflt) v) (fun args W => by kernel_rfl) vs VA vc (w.alloc (.cells (lyV L A c B d) 27)) (Rd.next hV Q0.out Q0.out.size) (by omega)
      (hide (fun i hi w' hb => by
        have hi2 : i < L.sgs.length := by omega
        have hrs := rightS_iff.1 ((right_iff.1 hr).2.2.2.2.1 _ (List.getElem_mem hi2))
        have := fit1_any L A c B d w.heap.size 27 i vs[i] w' (hide (heap_below B0.out hb)) (Rd.next hA (Q0.out.trans (hb.mono Q0.out.size)) (Nat.le_trans Q0.out.size hb.size)) hi2 hrs.1 (hvs _ (List.getElem_mem hi))
        rw [getDx _ hi2]
        exact this))
    have E := hide (show r = allW (fun i v => fitsB (L.sgs.getD i dflt) v) vs 0 by rw [HR.out, decide_eq_true hl, Bool.true_and])
    have ALH := hide AL
    have e1 : ((vs.length : Int) == (L.sgs.length : Int)) = true := by rw [beq_iff_eq]; omega
    clear HR hl AL hA hV hvs hr
    rw [← E.out] at ALH
    clear E
    unfold lyV at *
    obtain ⟨c0, c1, c2⟩ := three_cells B0.out
    go_enter Tryz.func54, Tryz.ntmps54
    go_wp2_with fail
    (with_reducible refine (ALH.out).mono ?_)
    rintro e2 w2 ⟨rfl, q2⟩
    have Q := hide (below_next Q0.out Q0.out.size q2)
    clear q2 ALH c0 c1 c2
    go_wp2_with fail
    go_ret
    exact ⟨rfl, Q.out⟩
  · have E := hide (show r = false by rw [HR.out, decide_eq_false hl, Bool.false_and])
    have e1 : ((vs.length : Int) == (L.sgs.length : Int)) = false := by rw [beq_eq_false_iff_ne]; omega
    clear HR hl hA hV hvs hr
    unfold lyV at *
    obtain ⟨c0, c1, c2⟩ := three_cells B0.out
    go_enter Tryz.func54, Tryz.ntmps54
    go_wp2_with fail
    go_ret
    exact ⟨by rw [E.out]; rfl, Q0.out⟩

def fltMay (f : Flt) : Bool := fltB f && decide (f.count < 1099511627776)
set_option maxRecDepth 100000 in
theorem common1_any (i : Int) (f : Flt) (w : World) : Calls Tryz.prog 51 #[.int .i64 i, .agg #[.int .i64 f.kind, .int .i64 f.mask, .int .i64 f.x, .int .i64 f.mn, .int .i64 f.mx, .int .i64 f.every, .int .i64 f.frm, .int .i64 f.old, .int .i64 f.count]] w fun e w' => e = .returned (.bool (fltMay f)) ∧ Below w.heap.size w w' := by
  obtain ⟨r, hr⟩ : ∃ r, r = fltMay f := ⟨_, rfl⟩
  rw [← hr]
  unfold fltMay at hr
  have HR := hide hr
  have RT := hide (fun W => show Calls Tryz.prog 52 #[.agg (flcL f).toArray] W fun e w' => e = .returned (.bool (fltB f)) ∧ Below W.heap.size W w' from fltRight_any f W)
  have q0 : Below w.heap.size w (w.alloc (.cells (flcL f).toArray 29)) := (Below.refl _ _).alloc (Nat.le_refl _) _
  have B0 := hide (World.alloc_heap_new w (.cells (flcL f).toArray 29))
  generalize fltB f = y at *
  clear hr
  go_enter Tryz.func51, Tryz.ntmps51
  go_wp2_with (refine wpList_load_row rfl 29 (.tmp 3) (by rfl) w.heap.size (by rfl) 29 (flcL f).toArray (0, 0) _ (by exact B0.out) Tryz.underlying29 (by rfl) (by kernel_rfl) ?_)
  (with_reducible refine (RT.out _).mono ?_)
  rintro e1 w1 ⟨rfl, q1⟩
  have B1 := hide (heap_below B0.out q1)
  have Q1 := hide (below_next q0 q0.size q1)
  clear q0 q1 RT B0
  obtain ⟨c0, c1, c2, c3, c4, c5, c6, c7, c8⟩ := fl_cells (f := f) B1.out
  generalize f.count = n at *
  cases y with
  | false =>
    have E := hide (show r = false by rw [HR.out]; rfl)
    clear HR
    go_wp2_with fail
    go_ret
    exact ⟨by rw [E.out]; rfl, Q1.out⟩
  | true =>
    by_cases h : n < 1099511627776
    · have E := hide (show r = true by rw [HR.out, decide_eq_true h]; rfl)
      clear HR
      go_wp2_with fail
      go_ret
      exact ⟨by rw [E.out]; simp [h], Q1.out⟩
    · have E := hide (show r = false by rw [HR.out, decide_eq_false h]; rfl)
      clear HR
      go_wp2_with fail
      go_ret
      exact ⟨by rw [E.out]; simp; omega, Q1.out⟩

/-- Does a value pass a filter that may be? -/
def passV (f : Flt) (v : Int) : Bool := fltB f && fltP f v
def passE (f : Flt) : Int := if fltB f = true then 0 else 1
theorem passes_any (f : Flt) (v : Int) (w : World) : Calls Tryz.prog 59 #[.agg #[.int .i64 f.kind, .int .i64 f.mask, .int .i64 f.x, .int .i64 f.mn, .int .i64 f.mx, .int .i64 f.every, .int .i64 f.frm, .int .i64 f.old, .int .i64 f.count], .int .i64 v] w fun e w' => e = .returned (.tuple #[.bool (passV f v), .int .i64 (passE f)]) ∧ Below w.heap.size w w' := by
  cases h : fltB f with
  | true =>
    rw [show passV f v = fltP f v by unfold passV; rw [h]; rfl, show passE f = 0 by unfold passE; rw [h]; rfl]
    exact passes_ok f v w h
  | false =>
    rw [show passV f v = false by unfold passV; rw [h]; rfl, show passE f = 1 by unfold passE; rw [h]; rfl]
    exact passes_bad f v w h
set_option maxRecDepth 100000 in
set_option maxHeartbeats 4000000 in
theorem passes1_any (vs : List Int) (VA : Option Addr) (vc b : Nat) (t : TypeId) (i : Nat) (f : Flt) (w : World) (hb : Hid (w.heap[b]? = some (.cells #[.slice VA vs.length vc] t (0, 0)))) (hV : InR w w.heap.size VA vs) (hi : i < vs.length) :
    Calls Tryz.prog 58 #[.int .i64 i, .agg #[.int .i64 f.kind, .int .i64 f.mask, .int .i64 f.x, .int .i64 f.mn, .int .i64 f.mx, .int .i64 f.every, .int .i64 f.frm, .int .i64 f.old, .int .i64 f.count], .pointer (some ⟨b, 0, none⟩)] w fun e w' => e = .returned (.bool (!passV f vs[i])) ∧ Below w.heap.size w w' := by
  have PS := hide (fun W => passes_any f vs[i] W)
  have q0 : Below w.heap.size w (w.alloc (.cells (flcL f).toArray 29)) := (Below.refl _ _).alloc (Nat.le_refl _) _
  have B0 := World.alloc_heap_new w (.cells (flcL f).toArray 29)
  have b0 := heap_below hb.out q0
  have s0 : (w.alloc (.cells (flcL f).toArray 29)).cell? ⟨b, 0, none⟩ = some (.slice VA vs.length vc) := by simp [World.cell?, b0]
  obtain ⟨ab, ao, rfl, hab, v0⟩ := InR.at_ (Rd.next hV q0 q0.size) hi
  obtain ⟨c0, c1, c2, c3, c4, c5, c6, c7, c8⟩ := fl_cells (f := f) B0
  have hii : (i : Int) < (vs.length : Int) := by omega
  have zb : b < (w.alloc (.cells (flcL f).toArray 29)).heap.size := heap_lt b0
  have zf : w.heap.size < (w.alloc (.cells (flcL f).toArray 29)).heap.size := heap_lt B0
  generalize passV f vs[i] = r at *
  generalize passE f = pe at *
  generalize vs[i] = v at *
  clear hb hV B0 b0
  have Q0 := hide q0
  clear q0
  obtain ⟨kind, mask, x, mn, mx, every, frm, old, count⟩ := f
  dsimp only [flcL] at *
  generalize hw0 : w.alloc (.cells #[.int .i64 kind, .int .i64 mask, .int .i64 x, .int .i64 mn, .int .i64 mx, .int .i64 every, .int .i64 frm, .int .i64 old, .int .i64 count] 29) = w0 at *
  go_enter Tryz.func58, Tryz.ntmps58
  go_wp2_with fail
  have f0 := fun s : InW w0 => s.cell zf c0
  have f1 := fun s : InW w0 => s.cell zf c1
  have f2 := fun s : InW w0 => s.cell zf c2
  have f3 := fun s : InW w0 => s.cell zf c3
  have f4 := fun s : InW w0 => s.cell zf c4
  have f5 := fun s : InW w0 => s.cell zf c5
  have f6 := fun s : InW w0 => s.cell zf c6
  have f7 := fun s : InW w0 => s.cell zf c7
  have f8 := fun s : InW w0 => s.cell zf c8
  have fs := fun s : InW w0 => s.cell zb s0
  have fv := fun s : InW w0 => s.cell hab v0
  clear c0 c1 c2 c3 c4 c5 c6 c7 c8 s0 v0
  refine wp_region_tame (by kernel_rfl) (by kernel_rfl) ?_
  repeat (go_big_quiet_step ((go_at_call 59; exact tame_of (PS.out _))))
  refine wpQuiet_nil ?_
  rintro _ ⟨sw, rfl⟩
  have Q := hide (below_next Q0.out Q0.out.size sw.h)
  clear f0 f1 f2 f3 f4 f5 f6 f7 f8 fs fv
  go_wp2_with fail
  go_ret
  exact ⟨rfl, Q.out⟩

def zFlt : Flt := ⟨0, 0, 0, 0, 0, 0, 0, 0, 0⟩
/-- Does one of some values pass its filter? -/
def passA (fl : List Flt) (vs : List Int) : Bool := !allW (fun i f => !passV f (vs.getD i 0)) fl zFlt
set_option maxRecDepth 100000 in
set_option maxHeartbeats 4000000 in
theorem passesA_any (fl : List Flt) (FA : Option Addr) (fc : Nat) (vs : List Int) (VA : Option Addr) (vc : Nat) (w : World) (hF : FlR w w.heap.size FA fl) (hV : InR w w.heap.size VA vs) (hl : fl.length ≤ 1000000) (hlv : fl.length ≤ vs.length) :
    Calls Tryz.prog 22 #[.slice FA fl.length fc, .slice VA vs.length vc] w fun e w' => e = .returned (.bool (passA fl vs)) ∧ Below w.heap.size w w' := by
  have q0 : Below w.heap.size w (w.alloc (.cells #[.slice VA vs.length vc] 33)) := (Below.refl _ _).alloc (Nat.le_refl _) _
  have B0 := World.alloc_heap_new w (.cells #[.slice VA vs.length vc] 33)
  have AL := allFlt1_any 58 w.heap.size (fun i f => !passV f (vs.getD i 0)) (fun args W => by kernel_rfl) fl FA fc zFlt (w.alloc (.cells #[.slice VA vs.length vc] 33)) (Rd.next hF q0 q0.size) hl
    (hide (fun i hi w' hb => by
      have hi2 : i < vs.length := by omega
      rw [getDx _ hi2]
      exact passes1_any vs VA vc w.heap.size 33 i fl[i] w' (hide (heap_below B0 hb)) (Rd.next hV (q0.trans (hb.mono q0.size)) (Nat.le_trans q0.size hb.size)) hi2))
  have E := hide (show passA fl vs = !allW (fun i f => !passV f (vs.getD i 0)) fl zFlt from rfl)
  rw [E.out]
  have ALH := hide AL
  generalize allW (fun i f => !passV f (vs.getD i 0)) fl zFlt = r at *
  clear AL hF hV hl hlv E B0
  go_enter Tryz.func22, Tryz.ntmps22
  go_wp2_with fail
  (with_reducible refine (ALH.out).mono ?_)
  rintro e2 w2 ⟨rfl, q2⟩
  have Q := hide (below_next q0 q0.size q2)
  clear q2 ALH q0
  go_wp2_with fail
  go_ret
  exact ⟨rfl, Q.out⟩

/-- What bytes that are sent and such as come have of both may be. -/
def comB (L : Ly) (fl : List Flt) (sv gv : List Int) (times : Int) : Bool :=
  rightB L && (decide (L.sgs.length ≠ 0) && (decide (fl.length = L.sgs.length) && (grB sv.length gv.length times && (decide (gv.length = L.sgs.length) && (allW (fun _ f => fltMay f) fl zFlt && (fitA L gv && fitA L sv))))))
def grV (S : Option Addr) (n c : Nat) (G : Option Addr) (m d : Nat) (times : Int) : Array Value := #[.slice S n c, .slice G m d, .int .i64 times]

set_option maxRecDepth 100000 in
set_option maxHeartbeats 8000000 in
theorem common_any (L : Ly) (A : Option Addr) (c : Nat) (B : Option Addr) (d : Nat) (fl : List Flt) (FA : Option Addr) (fc : Nat) (sv gv : List Int) (S : Option Addr) (sc : Nat) (G : Option Addr) (gc : Nat) (times : Int) (w : World)
    (hA : SgR w w.heap.size A L.sgs) (hB : InR w w.heap.size B L.nws) (hs : L.sgs.length ≤ 1000) (hn : L.nws.length ≤ 1000) (hc : L.sgs.length ≤ c) (hd : L.nws.length ≤ d) (hF : FlR w w.heap.size FA fl) (hfl : fl.length ≤ 1000) (hS : InR w w.heap.size S sv) (hG : InR w w.heap.size G gv) (hsv : ∀ v ∈ sv, lim v) (hgv : ∀ v ∈ gv, lim v) :
    Calls Tryz.prog 20 #[.agg (lyV L A c B d), .slice FA fl.length fc, .agg (grV S sv.length sc G gv.length gc times)] w fun e w' => e = .returned (.bool (comB L fl sv gv times)) ∧ Below w.heap.size w w' := by
  obtain ⟨r, hr2⟩ : ∃ r, r = comB L fl sv gv times := ⟨_, rfl⟩
  rw [← hr2]
  unfold comB at hr2
  have HR := hide hr2
  clear hr2
  have RT := hide (fun (W : World) (hb : Below w.heap.size w W) => pduRight_any L A c B d W (Rd.next hA hb hb.size) (Rd.next hB hb hb.size) hs hn hc hd)
  have GT := hide (fun (W : World) => grRight_any S G sv.length sc gv.length gc times W)
  have FT := hide (fun (W : World) (hb : Below w.heap.size w W) => allFlt0_any 51 (fun _ f => fltMay f) (fun args W => by kernel_rfl) fl FA fc zFlt W (Rd.next hF hb hb.size) (by omega) (hide (fun i hi w' _ => common1_any i fl[i] w')))
  have FG := hide (fun (W : World) (hb : Below w.heap.size w W) (hr : rightB L = true) => fit_any L A c B d gv G gc W (Rd.next hA hb hb.size) (Rd.next hG hb hb.size) hgv hr)
  have FS := hide (fun (W : World) (hb : Below w.heap.size w W) (hr : rightB L = true) => fit_any L A c B d sv S sc W (Rd.next hA hb hb.size) (Rd.next hS hb hb.size) hsv hr)
  clear hA hB hF hS hG hsv hgv
  generalize rightB L = R at *
  generalize grB sv.length gv.length times = gb at *
  generalize allW (fun _ f => fltMay f) fl zFlt = ab at *
  generalize fitA L gv = fg at *
  generalize fitA L sv = fs at *
  unfold lyV grV at *
  obtain ⟨w0, hw0⟩ : ∃ w0, w0 = (w.alloc (.cells #[.int .i64 L.size, .slice A L.sgs.length c, .slice B L.nws.length d] 27)).alloc (.cells #[.slice S sv.length sc, .slice G gv.length gc, .int .i64 times] 35) := ⟨_, rfl⟩
  have a1 := (Below.refl _ _).alloc (Nat.le_refl w.heap.size) (.cells #[.int .i64 L.size, .slice A L.sgs.length c, .slice B L.nws.length d] 27)
  have b1 := World.alloc_heap_new w (.cells #[.int .i64 L.size, .slice A L.sgs.length c, .slice B L.nws.length d] 27)
  have z1 : (w.alloc (.cells #[.int .i64 L.size, .slice A L.sgs.length c, .slice B L.nws.length d] 27)).heap.size = w.heap.size + 1 := by simp
  have a2 := (Below.refl _ (w.alloc (.cells #[.int .i64 L.size, .slice A L.sgs.length c, .slice B L.nws.length d] 27))).alloc (Nat.le_refl _) (.cells #[.slice S sv.length sc, .slice G gv.length gc, .int .i64 times] 35)
  have b2 := World.alloc_heap_new (w.alloc (.cells #[.int .i64 L.size, .slice A L.sgs.length c, .slice B L.nws.length d] 27)) (.cells #[.slice S sv.length sc, .slice G gv.length gc, .int .i64 times] 35)
  have A0 := hide (heap_below b1 a2)
  have B0 := hide b2
  have Q0 := hide (below_next a1 a1.size a2)
  rw [← hw0] at A0 B0 Q0
  rw [z1] at B0
  clear a1 a2 b1 b2 z1
  obtain ⟨c0, c1, c2⟩ := three_cells A0.out
  obtain ⟨d0, d1, d2⟩ := three_cells B0.out
  go_enter Tryz.func20, Tryz.ntmps20
  go_upto_region 1 with fail
  rw [← hw0]
  clear hw0
  go_wp2_with fail
  (with_reducible refine (RT.out _ Q0.out).mono ?_)
  rintro e1 w1 ⟨rfl, q1⟩
  have A1 := hide (heap_below A0.out q1)
  have B1 := hide (heap_below B0.out q1)
  have Q1 := hide (below_next Q0.out Q0.out.size q1)
  clear q1 A0 B0 Q0 RT c0 c1 c2 d0 d1 d2
  obtain ⟨c0, c1, c2⟩ := three_cells A1.out
  obtain ⟨d0, d1, d2⟩ := three_cells B1.out
  cases R with
  | false =>
    have E := hide (show r = false by rw [HR.out]; rfl)
    clear HR GT FT FG FS
    go_wp2_with fail
    go_ret
    exact ⟨by rw [E.out]; rfl, Q1.out⟩
  | true =>
  by_cases h0 : L.sgs.length = 0
  · have e0 : ((L.sgs.length : Int) == 0) = true := by rw [beq_iff_eq]; omega
    have E := hide (show r = false by rw [HR.out, decide_eq_false (by simp [h0])]; rfl)
    clear HR GT FT FG FS h0
    go_wp2_with fail
    go_ret
    exact ⟨by rw [E.out]; rfl, Q1.out⟩
  have e0 : ((L.sgs.length : Int) == 0) = false := by rw [beq_eq_false_iff_ne]; omega
  have d0' : decide (L.sgs.length ≠ 0) = true := decide_eq_true h0
  by_cases h1 : fl.length = L.sgs.length
  case neg =>
    have e1 : ((fl.length : Int) == (L.sgs.length : Int)) = false := by rw [beq_eq_false_iff_ne]; omega
    have e2 : ((fl.length : Int) != (L.sgs.length : Int)) = true := by simp [bne, e1]
    have E := hide (show r = false by rw [HR.out, d0', decide_eq_false h1]; rfl)
    clear HR GT FT FG FS h0 d0' h1
    go_wp2_with fail
    go_ret
    exact ⟨by rw [E.out]; rfl, Q1.out⟩
  have e1 : ((fl.length : Int) == (L.sgs.length : Int)) = true := by rw [beq_iff_eq]; omega
  have e2 : ((fl.length : Int) != (L.sgs.length : Int)) = false := by simp [bne, e1]
  have H1 := hide (decide_eq_true h1)
  have H0 := hide d0'
  clear h0 h1 d0'
  go_wp2_with fail
  (with_reducible refine (GT.out _).mono ?_)
  rintro e3 w2 ⟨rfl, q2⟩
  have A2 := hide (heap_below A1.out q2)
  have B2 := hide (heap_below B1.out q2)
  have Q2 := hide (below_next Q1.out Q1.out.size q2)
  clear q2 A1 B1 Q1 GT c0 c1 c2 d0 d1 d2
  obtain ⟨c0, c1, c2⟩ := three_cells A2.out
  obtain ⟨d0, d1, d2⟩ := three_cells B2.out
  cases gb with
  | false =>
    have E := hide (show r = false by rw [HR.out, H0.out, H1.out]; rfl)
    clear HR FT FG FS
    go_wp2_with fail
    go_ret
    exact ⟨by rw [E.out]; rfl, Q2.out⟩
  | true =>
  by_cases h2 : gv.length = L.sgs.length
  case neg =>
    have e3 : ((gv.length : Int) == (L.sgs.length : Int)) = false := by rw [beq_eq_false_iff_ne]; omega
    have e4 : ((gv.length : Int) != (L.sgs.length : Int)) = true := by simp [bne, e3]
    have E := hide (show r = false by rw [HR.out, H0.out, H1.out, decide_eq_false h2]; rfl)
    clear HR FT FG FS h2
    go_wp2_with fail
    go_ret
    exact ⟨by rw [E.out]; rfl, Q2.out⟩
  have e3 : ((gv.length : Int) == (L.sgs.length : Int)) = true := by rw [beq_iff_eq]; omega
  have e4 : ((gv.length : Int) != (L.sgs.length : Int)) = false := by simp [bne, e3]
  have H2 := hide (decide_eq_true h2)
  clear h2
  go_wp2_with fail
  (with_reducible refine (FT.out _ Q2.out).mono ?_)
  rintro e5 w3 ⟨rfl, q3⟩
  have A3 := hide (heap_below A2.out q3)
  have B3 := hide (heap_below B2.out q3)
  have Q3 := hide (below_next Q2.out Q2.out.size q3)
  clear q3 A2 B2 Q2 FT c0 c1 c2 d0 d1 d2
  obtain ⟨c0, c1, c2⟩ := three_cells A3.out
  obtain ⟨d0, d1, d2⟩ := three_cells B3.out
  cases ab with
  | false =>
    have E := hide (show r = false by rw [HR.out, H0.out, H1.out, H2.out]; rfl)
    clear HR FG FS
    go_wp2_with fail
    go_ret
    exact ⟨by rw [E.out]; rfl, Q3.out⟩
  | true =>
  have FG2 := hide (FG.out _ Q3.out trivial)
  clear FG
  go_wp2_with fail
  (with_reducible refine (FG2.out).mono ?_)
  rintro e6 w4 ⟨rfl, q4⟩
  have A4 := hide (heap_below A3.out q4)
  have B4 := hide (heap_below B3.out q4)
  have Q4 := hide (below_next Q3.out Q3.out.size q4)
  clear q4 A3 B3 Q3 FG2 c0 c1 c2 d0 d1 d2
  obtain ⟨c0, c1, c2⟩ := three_cells A4.out
  obtain ⟨d0, d1, d2⟩ := three_cells B4.out
  cases fg with
  | false =>
    have E := hide (show r = false by rw [HR.out, H0.out, H1.out, H2.out]; rfl)
    clear HR FS
    go_wp2_with fail
    go_ret
    exact ⟨by rw [E.out]; rfl, Q4.out⟩
  | true =>
  have FS2 := hide (FS.out _ Q4.out trivial)
  have E := hide (show r = fs by rw [HR.out, H0.out, H1.out, H2.out]; rfl)
  clear FS HR
  go_wp2_with fail
  (with_reducible refine (FS2.out).mono ?_)
  rintro e7 w5 ⟨rfl, q5⟩
  have Q5 := hide (below_next Q4.out Q4.out.size q5)
  clear q5 A4 B4 Q4 FS2 c0 c1 c2 d0 d1 d2
  go_wp2_with fail
  go_ret
  exact ⟨by rw [E.out]; rfl, Q5.out⟩
end Go.Proofs.YtnhegnneohpkaaaGreat
