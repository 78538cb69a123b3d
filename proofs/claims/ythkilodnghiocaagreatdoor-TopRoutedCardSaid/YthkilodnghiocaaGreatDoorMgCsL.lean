/- ctl.Sample, of any controller that may be: what it is and what happens. -/
import Derived.Test.YthkilodnghiocaaGreatDoorCsK
import Derived.Test.YthkilodnghiocaaGreatDoorMgCtF
import Derived.Test.YthkilodnghiocaaGreatDoorMgCsR
namespace Go.Proofs.YthkilodnghiocaaGreatDoor
open Go.ChangeShapes Go.WideShapes Go.ChangeAt Go.RowKit
open FP (Fr uN uK doneB sizeE sizeV bitsF bodyF)

set_option maxRecDepth 100000 in
set_option maxHeartbeats 16000000 in
theorem mcBody_bit (c : Cl) (b : Nat) (t : TypeId) (bus : UInt8) (hbus : bus = 48 ∨ bus = 49) (w : World) (h : Hid (w.heap[b]? = some (.cells (mcL c (evL 0 zFr 0)).toArray t (0, 0))))
    (hs : c.sends = true) (j : Nat) (hj : j < c.out.size) (ej : c.at_ = (j : Int)) (ex : ((c.out[j].toNat : Int) != (bus.toNat : Int)) = true) (hl : c.lostB bus = false)
    (hr : FP.rightB c.f = true) (hN : c.sn = (c.N : Int)) (hoff : c.off = false) (hrs : c.rs = 0) (hc : cntB c.tc c.rc false 0 = true) :
    Calls Tryz.prog 99 #[.pointer (some ⟨b, 0, none⟩), .int .u8 bus.toNat] w fun e w' => (∃ v, e = .returned v) ∧ w'.heap[b]? = some (.cells (mcL (c.fail 13) (evL 3 zFr 13)).toArray t (0, 0)) ∧ Below b w w' := by
  have LO := hide (fun W (hh : Hid (W.heap[b]? = some (.cells (mcL c (evL 0 zFr 0)).toArray t (0, 0)))) => hl ▸ mcLost_any c (evL 0 zFr 0) b t bus hbus W hh hr hN)
  have FA := hide (fun W hh => mcFails_on c (evL 0 zFr 0) 13 b t W hh rfl hoff hrs hc)
  have zb : b < w.heap.size := heap_lt h.out
  obtain ⟨-, -, ⟨d14, d15, d16, -⟩⟩ := mc_cells h.out
  rw [hs] at d14
  rw [ej] at d16
  have m14 := fun s : InW w => s.cell zb d14
  have m15 := fun s : InW w => s.cell zb d15
  have m16 := fun s : InW w => s.cell zb d16
  have hj1 : (j : Int) < (c.out.size : Int) := by omega
  have hj0 : (0 : Int) ≤ (j : Int) := by omega
  clear hs ej hl hr hN hoff hrs hc d14 d15 d16
  go_enter Tryz.func99, Tryz.ntmps99
  go_upto_region 0 with fail
  refine wp_region_tame (by kernel_rfl) (by kernel_rfl) ?_
  repeat (go_big_quiet_step (fail))
  refine wpQuiet_nil ?_
  rintro _ ⟨sw, rfl⟩
  have B1 := hide (heap_below h.out sw.h)
  have Q1 := hide (sw.h.mono (Nat.le_of_lt zb))
  have L1 := hide (LO.out sw.W B1)
  clear m14 m15 m16 LO
  go_wp2_with fail
  (with_reducible refine (L1.out).mono ?_)
  rintro e2 w2 ⟨rfl, q2⟩
  have B2 := hide (heap_below B1.out q2)
  have Q2 := hide (Q1.out.trans (q2.mono (Nat.le_of_lt (heap_lt B1.out))))
  have F2 := hide (FA.out w2 B2)
  clear q2 L1 B1 Q1 FA
  go_wp2_with fail
  (with_reducible refine (F2.out).mono ?_)
  rintro e3 w3 ⟨⟨v, rfl⟩, hB3, q3⟩
  go_wp2_with fail
  refine bodyPost_ret (results_none (by rfl) _ _ _) rfl ⟨⟨_, rfl⟩, hB3, Q2.out.trans q3⟩

theorem tk_le {c : Cl} (hi : c.In) (he : c.en = false) (b : UInt8) : uK c.L c.N b ≠ 3 → ¬ (uK c.L c.N b = 1 ∧ sizeE (c.tk b).g = 12) → sizeE (c.tk b).g = 0 → (c.tk b).g.length ≤ sizeV (c.tk b).g + 15 := by
  intro _ _
  rw [tk_g]
  by_cases h1 : uK c.L c.N b = 1
  · rw [if_pos h1]
    exact FP.le_snoc hi.size hi.le (by rw [← hi.en]; exact he) (FP.uK1_lt hi.stk.le h1)
  · rw [if_neg h1]
    exact hi.le
theorem got_one {c : Cl} (hi : c.In) : 1 ≤ c.g.length := by
  have := hi.first
  cases hg : c.g with
  | nil => rw [hg] at this; cases this
  | cons a b => simp

theorem mcBody_ok (c : Cl) (b : Nat) (t : TypeId) (bus : UInt8) (hbus : bus = 48 ∨ bus = 49) (w : World) (h : c.Ok) (h2 : c.st = 2) (he : c.en = false) (hB : Hid (w.heap[b]? = some (.cells (mcL c (evL 0 zFr 0)).toArray t (0, 0)))) :
    Calls Tryz.prog 99 #[.pointer (some ⟨b, 0, none⟩), .int .u8 bus.toNat] w fun e w' => (∃ v, e = .returned v) ∧ w'.heap[b]? = some (.cells (mcL (c.body bus).c (evL (c.body bus).kind (c.body bus).ef (c.body bus).bad)).toArray t (0, 0)) ∧ Below b w w' := by
  have hi := h.inn h2
  have hr : c.sends = true → FP.rightB c.f = true := fun e => h.has (hi.yes e).1
  have hoff := h.on (by omega)
  obtain ⟨hrs, hcn, _⟩ := cnt_on h.cnt hoff
  rcases Bool.eq_false_or_eq_true c.sends with hs | hs
  · obtain ⟨j, hj, ej, _, _⟩ := drv_out h h2 hs
    have hoa : c.outAt = some (c.out[j]'hj) := by
      unfold Cl.outAt
      rw [ej, Int.toNat_natCast]
      exact get_some c.out j hj
    by_cases hx : c.out[j] = bus
    · have E : c.body bus = c.take 0 bus := by unfold Cl.body; rw [if_neg (by rw [hoa, hx]; exact fun e => e.2 rfl)]
      rw [E]
      exact mcBody_go c c 0 b t bus hbus false w hB (.inr ⟨hs, j, hj, ej, by rw [hx]; simp⟩) (.inl ⟨rfl, rfl, rfl⟩) hr hi.sn (h.bd h2 he) (got_one hi) (h.at_bd h2) (tk_le hi he bus)
    · have hne : ((c.out[j].toNat : Int) != (bus.toNat : Int)) = true := by
        rw [bne_iff_ne]
        intro e
        exact hx (UInt8.toNat_inj.1 (by omega))
      have hc1 : c.sends = true ∧ c.outAt ≠ some bus := ⟨hs, by rw [hoa]; exact fun e => hx (Option.some.inj e)⟩
      cases hl : c.lostB bus
      · have E : c.body bus = ⟨c.fail 13, 3, zFr, 13⟩ := by unfold Cl.body; rw [if_pos hc1, if_neg (by rw [hl]; decide)]
        rw [E]
        exact mcBody_bit c b t bus hbus w hB hs j hj ej hne hl (hr hs) hi.sn hoff hrs hcn
      · have E : c.body bus = c.drop.take 4 bus := by unfold Cl.body; rw [if_pos hc1, if_pos hl]
        rw [E]
        have hd := ok_drop h h2
        exact mcBody_go c c.drop 4 b t bus hbus true w hB (.inr ⟨hs, j, hj, ej, hne⟩) (.inr ⟨rfl, hl, rfl, rfl⟩) hr hi.sn (hd.bd h2 he) (got_one (hd.inn h2)) (hd.at_bd h2) (tk_le (hd.inn h2) he bus)
  · have E : c.body bus = c.take 0 bus := by unfold Cl.body; rw [if_neg (by rw [hs]; exact fun e => by cases e.1)]
    rw [E]
    exact mcBody_go c c 0 b t bus hbus false w hB (.inl ⟨hs, rfl⟩) (.inl ⟨rfl, rfl, rfl⟩) hr hi.sn (h.bd h2 he) (got_one hi) (h.at_bd h2) (tk_le hi he bus)

set_option maxRecDepth 100000 in
set_option maxHeartbeats 4000000 in
theorem mcFrame_ok (c : Cl) (b : Nat) (t : TypeId) (bus : UInt8) (hbus : bus = 48 ∨ bus = 49) (w : World) (h : c.Ok) (h2 : c.st = 2) (hB : Hid (w.heap[b]? = some (.cells (mcL c (evL 0 zFr 0)).toArray t (0, 0)))) :
    Calls Tryz.prog 80 #[.pointer (some ⟨b, 0, none⟩), .int .u8 bus.toNat] w fun e w' => (∃ v, e = .returned v) ∧ w'.heap[b]? = some (.cells (mcL (c.frame bus).c (evL (c.frame bus).kind (c.frame bus).ef (c.frame bus).bad)).toArray t (0, 0)) ∧ Below b w w' := by
  obtain ⟨-, -, ⟨-, -, -, -, -, -, d20, -⟩⟩ := mc_cells hB.out
  rcases Bool.eq_false_or_eq_true c.en with he | he
  · have E : c.frame bus = c.behind bus := by unfold Cl.frame; rw [if_pos he]
    have BH := hide (mcBehind_ok c b t bus hbus w h h2 he hB)
    rw [E]
    rw [he] at d20
    generalize c.behind bus = M at *
    clear h h2 hB he E hbus
    go_enter Tryz.func80, Tryz.ntmps80
    go_wp2_with fail
    (with_reducible refine (BH.out).mono ?_)
    rintro e3 w3 ⟨⟨v, rfl⟩, hB3, q3⟩
    go_wp2_with fail
    go_end0
    exact ⟨⟨_, rfl⟩, hB3, q3⟩
  · have E : c.frame bus = c.body bus := by unfold Cl.frame; rw [if_neg (by rw [he]; decide)]
    have BH := hide (mcBody_ok c b t bus hbus w h h2 he hB)
    rw [E]
    rw [he] at d20
    generalize c.body bus = M at *
    clear h h2 hB he E hbus
    go_enter Tryz.func80, Tryz.ntmps80
    go_wp2_with fail
    (with_reducible refine (BH.out).mono ?_)
    rintro e3 w3 ⟨⟨v, rfl⟩, hB3, q3⟩
    go_wp2_with fail
    go_end0
    exact ⟨⟨_, rfl⟩, hB3, q3⟩

set_option maxRecDepth 100000 in
theorem ctlSample_ok (c : Cl) (bus : UInt8) (hbus : bus = 48 ∨ bus = 49) (w : World) (h : c.Ok) :
    Calls Tryz.prog 37 #[.agg c.cs.toArray, .int .u8 bus.toNat] w fun e w' => e = .returned (.tuple #[.agg (c.samp bus).c.cs.toArray, .agg (evL (c.samp bus).kind (c.samp bus).ef (c.samp bus).bad).toArray, .int .i64 0]) ∧ Below w.heap.size w w' := by
  have n0 := h.n0
  have n9 := h.n9
  have hs : c.st = 0 ∨ c.st = 1 ∨ c.st = 2 ∨ c.st = 3 ∨ c.st = 4 ∨ c.st = 5 ∨ c.st = 6 ∨ c.st = 7 ∨ c.st = 8 := by have := h.s0; have := h.s8; omega
  rcases hs with hs | hs | hs | hs | hs | hs | hs | hs | hs
  · rw [hs] at n9
    have n9 : c.n ≤ 10 := n9
    rcases hbus with rfl | rfl
    · have E : c.samp 48 = ev0 { c with n := 0 } := by unfold Cl.samp; rw [if_pos hs, if_pos rfl]
      rw [E]
      exact ctlSample_by48 c _ 0 zFr 0 0 78 w h hs (by decide) rfl (fun _ _ => rfl) (hide fun b W hh => mcJoin_low c _ b _ W hh n0 n9)
    · have E : c.samp 49 = ev0 c.join1 := by unfold Cl.samp; rw [if_pos hs, if_neg (by decide)]
      rw [E]
      exact ctlSample_by49 c _ 0 zFr 0 0 78 w h hs (by decide) rfl (fun _ _ => rfl) (hide fun b W hh => mcJoin_one c _ b _ W hh n0 n9)
  · rcases hbus with rfl | rfl
    · have E : c.samp 48 = ev0 (if c.has = true then c.begin1 else c.begin0) := by unfold Cl.samp; rw [if_neg (by omega), if_pos hs, if_pos rfl]
      rw [E]
      exact ctlSample_by48 c _ 0 zFr 0 1 79 w h hs (by decide) rfl (fun _ _ => rfl) (hide fun b W hh => mcIdle_low c _ b _ W hh h.has)
    · have E : c.samp 49 = ev0 c := by unfold Cl.samp; rw [if_neg (by omega), if_pos hs, if_neg (by decide)]
      rw [E]
      exact ctlSample_by49 c _ 0 zFr 0 1 79 w h hs (by decide) rfl (fun _ _ => rfl) (hide fun b W hh => (mcIdle_one b W).mono fun e w' ⟨a, q⟩ => ⟨a, by rw [q]; exact hh.out, by rw [q]; exact Below.refl _ _⟩)
  · have E : c.samp bus = c.frame bus := by unfold Cl.samp; rw [if_neg (by omega), if_neg (by omega), if_pos hs]
    rw [E]
    rcases hbus with rfl | rfl
    · exact ctlSample_by48 c _ _ _ _ 2 80 w h hs (by decide) rfl (fun _ _ => rfl) (hide fun b W hh => mcFrame_ok c b _ 48 (.inl rfl) W h hs hh)
    · exact ctlSample_by49 c _ _ _ _ 2 80 w h hs (by decide) rfl (fun _ _ => rfl) (hide fun b W hh => mcFrame_ok c b _ 49 (.inr rfl) W h hs hh)
  · rw [hs] at n9
    have n9 : c.n ≤ 5 := n9
    have E : c.samp bus = ev0 c.flag1 := by unfold Cl.samp; rw [if_neg (by omega), if_neg (by omega), if_neg (by omega), if_pos hs]
    rw [E]
    rcases hbus with rfl | rfl
    · exact ctlSample_by48 c _ 0 zFr 0 3 81 w h hs (by decide) rfl (fun _ _ => rfl) (hide fun b W hh => mcFlag_any c _ b _ 48 W hh n0 n9)
    · exact ctlSample_by49 c _ 0 zFr 0 3 81 w h hs (by decide) rfl (fun _ _ => rfl) (hide fun b W hh => mcFlag_any c _ b _ 49 W hh n0 n9)
  · rw [hs] at n9
    have n9 : c.n ≤ 1000000000 := n9
    have hoff := h.on (by omega)
    obtain ⟨hrs, hcn, _⟩ := cnt_on h.cnt hoff
    rcases hbus with rfl | rfl
    · have E : c.samp 48 = ev0 c.echo0 := by unfold Cl.samp; rw [if_neg (by omega), if_neg (by omega), if_neg (by omega), if_neg (by omega), if_pos hs, if_pos rfl]
      rw [E]
      exact ctlSample_by48 c _ 0 zFr 0 4 82 w h hs (by decide) rfl (fun _ _ => rfl) (hide fun b W hh => mcEcho_low c _ b _ W hh n0 n9 hoff hrs hcn)
    · have E : c.samp 49 = ev0 { c.to 5 with n := 1 } := by unfold Cl.samp; rw [if_neg (by omega), if_neg (by omega), if_neg (by omega), if_neg (by omega), if_pos hs, if_neg (by decide)]
      rw [E]
      exact ctlSample_by49 c _ 0 zFr 0 4 82 w h hs (by decide) rfl (fun _ _ => rfl) (hide fun b W hh => mcEcho_high c _ b _ W hh)
  · rw [hs] at n9
    have n9 : c.n ≤ 7 := n9
    have E : c.samp bus = ev0 (c.delim1 (decide (bus = 48))) := by unfold Cl.samp; rw [if_neg (by omega), if_neg (by omega), if_neg (by omega), if_neg (by omega), if_neg (by omega), if_pos hs]
    rw [E]
    rcases hbus with rfl | rfl
    · exact ctlSample_by48 c _ 0 zFr 0 5 83 w h hs (by decide) rfl (fun _ _ => rfl) (hide fun b W hh => mcDelim_low c _ b _ W hh n0 n9)
    · exact ctlSample_by49 c _ 0 zFr 0 5 83 w h hs (by decide) rfl (fun _ _ => rfl) (hide fun b W hh => mcDelim_high c _ b _ W hh n0 n9)
  · rw [hs] at n9
    have n9 : c.n ≤ 2 := n9
    rcases hbus with rfl | rfl
    · have E : c.samp 48 = ev0 (if c.n = 2 then c.begin0 else { c.to 3 with hard := true }) := by unfold Cl.samp; rw [if_neg (by omega), if_neg (by omega), if_neg (by omega), if_neg (by omega), if_neg (by omega), if_neg (by omega), if_pos hs, if_pos rfl]
      rw [E]
      exact ctlSample_by48 c _ 0 zFr 0 6 84 w h hs (by decide) rfl (fun _ _ => rfl) (hide fun b W hh => mcGap_low c _ b _ W hh n0 n9)
    · have E : c.samp 49 = ev0 c.gap1 := by unfold Cl.samp; rw [if_neg (by omega), if_neg (by omega), if_neg (by omega), if_neg (by omega), if_neg (by omega), if_neg (by omega), if_pos hs, if_neg (by decide)]
      rw [E]
      exact ctlSample_by49 c _ 0 zFr 0 6 84 w h hs (by decide) rfl (fun _ _ => rfl) (hide fun b W hh => mcGap_high c _ b _ W hh n0 n9 h.cnt)
  · rw [hs] at n9
    have n9 : c.n ≤ 7 := n9
    rcases hbus with rfl | rfl
    · have E : c.samp 48 = ev0 c.begin0 := by unfold Cl.samp; rw [if_neg (by omega), if_neg (by omega), if_neg (by omega), if_neg (by omega), if_neg (by omega), if_neg (by omega), if_neg (by omega), if_pos hs, if_pos rfl]
      rw [E]
      exact ctlSample_by48 c _ 0 zFr 0 7 85 w h hs (by decide) rfl (fun _ _ => rfl) (hide fun b W hh => mcHold_low c _ b _ W hh n0 n9)
    · have E : c.samp 49 = ev0 c.hold1 := by unfold Cl.samp; rw [if_neg (by omega), if_neg (by omega), if_neg (by omega), if_neg (by omega), if_neg (by omega), if_neg (by omega), if_neg (by omega), if_pos hs, if_neg (by decide)]
      rw [E]
      exact ctlSample_by49 c _ 0 zFr 0 7 85 w h hs (by decide) rfl (fun _ _ => rfl) (hide fun b W hh => mcHold_high c _ b _ W hh n0 n9)
  · rw [hs] at n9
    have n9 : c.n ≤ 10 := n9
    have hoff : c.off = true := by rw [h.offs, hs]; rfl
    obtain ⟨z1, z2, z3, z4⟩ := cnt_off h.cnt hoff
    rcases hbus with rfl | rfl
    · have E : c.samp 48 = ev0 { c with n := 0 } := by unfold Cl.samp; rw [if_neg (by omega), if_neg (by omega), if_neg (by omega), if_neg (by omega), if_neg (by omega), if_neg (by omega), if_neg (by omega), if_neg (by omega), if_pos rfl]
      rw [E]
      exact ctlSample_by48 c _ 0 zFr 0 8 86 w h hs (by decide) rfl (fun _ _ => rfl) (hide fun b W hh => mcOff_low c _ b _ W hh n0 n9)
    · have E : c.samp 49 = ev0 c.off1 := by unfold Cl.samp; rw [if_neg (by omega), if_neg (by omega), if_neg (by omega), if_neg (by omega), if_neg (by omega), if_neg (by omega), if_neg (by omega), if_neg (by omega), if_neg (by decide)]
      rw [E]
      exact ctlSample_by49 c _ 0 zFr 0 8 86 w h hs (by decide) rfl (fun _ _ => rfl) (hide fun b W hh => mcOff_high c _ b _ W hh n0 n9 hoff z1 z2 z3 z4)
end Go.Proofs.YthkilodnghiocaaGreatDoor

/- campanilelaw07.feed of any bits; ready. -/
namespace Go.Proofs.YthkilodnghiocaaGreatDoor
open Go.ChangeShapes Go.WideShapes Go.ChangeAt Go.RowKit
open FP (Fr)

/-- What bits make of a controller. -/
def Cl.run (c : Cl) (l : List UInt8) : Cl := l.foldl (fun c b => (c.samp b).c) c
theorem run_snoc (c : Cl) (l : List UInt8) (b : UInt8) : c.run (l ++ [b]) = ((c.run l).samp b).c := by simp [Cl.run]
theorem Cl.Ok.run {c : Cl} (h : c.Ok) : ∀ {l : List UInt8}, (∀ b ∈ l, b = 48 ∨ b = 49) → (c.run l).Ok := by
  intro l
  induction l generalizing c with
  | nil => exact fun _ => h
  | cons a l ih => exact fun hl => ih (h.samp a (hl a (by simp))) (fun b hb => hl b (by simp [hb]))
/-- One that has joined. -/
def idleC : Cl := { zCl with st := 1 }
theorem run_ready : zCl.run [49, 49, 49, 49, 49, 49, 49, 49, 49, 49, 49] = idleC := by rfl
theorem idle_ok : idleC.Ok := by rw [← run_ready]; exact zCl_ok.run (by decide)

end Go.Proofs.YthkilodnghiocaaGreatDoor

/- Plain: another one's frame comes, and is told to have come. -/
namespace Go.Proofs.YthkilodnghiocaaGreatDoor
open Go.ChangeShapes Go.WideShapes Go.ChangeAt Go.RowKit
open FP (Fr bitsF bodyF tenF)

/-- The receiver behind i bits. -/
def rcvS (c : Cl) (f : Fr) (i : Nat) : Cl :=
  if i = 0 then c else if i ≤ (bodyF f).length + 8 then mid c false f i else if i = (bodyF f).length + 9 then mid (c.count 2) false f i else (mid (c.count 2) false f ((bodyF f).length + 9)).to 6
theorem rcv_step {c : Cl} {f : Fr} (hr : FP.rightB f = true) (h1 : c.st = 1) (hh : c.has = false) {i : Nat} (hi : i < (bitsF f).length) {b : UInt8} (hb : (bitsF f)[i]? = some b) :
    (rcvS c f i).drv = (if i = (bodyF f).length + 1 then 48 else 49) ∧ (rcvS c f i).samp (busB f i b) = ⟨rcvS c f (i + 1), if i = (bodyF f).length + 8 then 2 else 0, if i = (bodyF f).length + 8 then f else zFr, 0⟩ := by
  have hl := FP.body_len f
  have hge := FP.body_ge hr
  by_cases h0 : i = 0
  · subst h0
    have hb0 : b = 48 := by rw [bits_zero] at hb; exact (Option.some.inj hb).symm
    subst hb0
    have e0 : rcvS c f 0 = c := if_pos rfl
    have e1 : rcvS c f 1 = mid c false f 1 := by unfold rcvS; rw [if_neg (by decide), if_pos (by omega)]
    have eb : busB f 0 48 = 48 := by unfold busB; split <;> rfl
    rw [e0, eb, if_neg (by omega), if_neg (by omega), if_neg (by omega)]
    refine ⟨by unfold Cl.drv; rw [if_pos h1, if_neg (by rw [hh]; decide)], ?_⟩
    show _ = (⟨rcvS c f 1, 0, zFr, 0⟩ : Mc)
    unfold Cl.samp
    rw [if_neg (by omega), if_pos h1, if_pos rfl, if_neg (by rw [hh]; decide), e1, mid_begin0 c f]
    rfl
  · by_cases h9 : i = (bodyF f).length + 9
    · have hb1 : b = 49 := by rw [bits_tail f (by omega) hi] at hb; exact (Option.some.inj hb).symm
      have eb : busB f i b = 49 := by unfold busB; rw [if_neg (by omega)]; exact hb1
      have e0 : rcvS c f i = mid (c.count 2) false f i := by unfold rcvS; rw [if_neg h0, if_neg (by omega), if_pos h9]
      have e1 : rcvS c f (i + 1) = (mid (c.count 2) false f i).to 6 := by unfold rcvS; rw [if_neg (by omega), if_neg (by omega), if_neg (by omega), h9]
      rw [e0, eb, e1, if_neg (by omega), if_neg (by omega), if_neg (by omega)]
      refine ⟨by rw [mid_drvR, if_neg (by omega)], ?_⟩
      rw [mid_endR h9 (by decide)]; rfl
    · have e0 : rcvS c f i = mid c false f i := by unfold rcvS; rw [if_neg h0, if_pos (by omega)]
      rw [e0]
      refine ⟨mid_drvR, ?_⟩
      by_cases h8 : i = (bodyF f).length + 8
      · have hb1 : b = 49 := by rw [bits_tail f (by omega) hi] at hb; exact (Option.some.inj hb).symm
        have eb : busB f i b = 49 := by unfold busB; rw [if_neg (by omega)]; exact hb1
        have e1 : rcvS c f (i + 1) = mid (c.count 2) false f (i + 1) := by unfold rcvS; rw [if_neg (by omega), if_neg (by omega), if_pos (by omega)]
        rw [eb, e1, if_pos h8, if_pos h8]
        exact mid_came hr h8 (by decide)
      · have e1 : rcvS c f (i + 1) = mid c false f (i + 1) := by unfold rcvS; rw [if_neg (by omega), if_pos (by omega)]
        rw [e1, if_neg h8, if_neg h8]
        by_cases hlt : i < (bodyF f).length
        · have eb : busB f i b = b := by unfold busB; rw [if_neg (by omega)]
          rw [eb]
          exact mid_step hr hlt (by rw [← FP.body_get f i hlt]; exact hb)
        · have hb1 : b = 49 := by rw [bits_tail f (by omega) hi] at hb; exact (Option.some.inj hb).symm
          refine mid_next (by omega) (by omega) (fun _ => h8) ?_
          by_cases h1 : i = (bodyF f).length + 1
          · rw [if_pos h1]; intro _; unfold busB; rw [if_pos h1]
          · rw [if_neg h1]; unfold busB; rw [if_neg h1, hb1]; decide
theorem rcv_ok {c : Cl} {f : Fr} (hg : c.Ok) (hr : FP.rightB f = true) (h1 : c.st = 1) (hh : c.has = false) : ∀ i, i ≤ (bitsF f).length → (rcvS c f i).Ok
  | 0, _ => by rw [show rcvS c f 0 = c from if_pos rfl]; exact hg
  | i + 1, hi => by
    obtain ⟨b, hb, hbit⟩ := bits_some f (i := i) (by omega)
    have h := rcv_step hr h1 hh (i := i) (by omega) hb
    have := (rcv_ok hg hr h1 hh i (by omega)).samp (busB f i b) (busB_bit hbit)
    rw [h.2] at this
    exact this
theorem rcv_end (f : Fr) : rcvS idleC f (bitsF f).length = (mid (idleC.count 2) false f ((bodyF f).length + 9)).to 6 := by
  have hl := FP.body_len f
  unfold rcvS; rw [if_neg (by omega), if_neg (by omega), if_neg (by omega)]
theorem rcv_idle (f : Fr) (i : Nat) : ((mid (idleC.count 2) false f i).to 6).run [49, 49, 49] = idleC := by rfl

/-- The bits on the bus, where one is told that they came. -/
def toldF (f : Fr) : List UInt8 := (bitsF f).take ((bitsF f).length - 9) ++ 48 :: (bitsF f).drop ((bitsF f).length - 8)
theorem told_len (f : Fr) : (toldF f).length = (bitsF f).length := by
  have := FP.body_len f
  unfold toldF
  rw [List.length_append, List.length_take, List.length_cons, List.length_drop]
  omega
theorem told_at (f : Fr) {i : Nat} {b : UInt8} (hb : (bitsF f)[i]? = some b) : (toldF f)[i]? = some (busB f i b) := by
  have hl := FP.body_len f
  have hi : i < (bitsF f).length := (List.getElem?_eq_some_iff.1 hb).1
  have ht : ((bitsF f).take ((bitsF f).length - 9)).length = (bodyF f).length + 1 := by rw [List.length_take]; omega
  unfold toldF busB
  by_cases h1 : i < (bodyF f).length + 1
  · rw [List.getElem?_append_left (by omega), if_neg (by omega), List.getElem?_take_of_lt (by omega)]; exact hb
  · rw [List.getElem?_append_right (by omega), ht]
    by_cases h2 : i = (bodyF f).length + 1
    · rw [if_pos h2, h2, Nat.sub_self]; rfl
    · rw [if_neg h2, show i - ((bodyF f).length + 1) = (i - ((bodyF f).length + 2)) + 1 by omega, List.getElem?_cons_succ, List.getElem?_drop, show (bitsF f).length - 8 + (i - ((bodyF f).length + 2)) = i by omega]
      exact hb
end Go.Proofs.YthkilodnghiocaaGreatDoor
