/- BoxDrops. -/
import Derived.Test.YtbdgifngldipcaaBxS
import Derived.Test.YtbdgifngldipcaaHpU
namespace Go.Proofs.Ytbdgifngldipcaa
open Go.ChangeShapes Go.WideShapes Go.ChangeAt Go.RowKit
open FP (Fr)
open HP (kB at' Hp)
open OP (atF bestTo orderF)

/-- What lies when k frames have been gone through. -/
structure BdR (l : List Fr) (q : Int) (w1 : World) (k : Nat) (Ai : Option Addr) (ci : Nat) (Am : Option Addr) (cm : Nat) (m : List Bx) (W : World) : Prop where
  box : W.heap[w1.heap.size]? = some (.cells #[.slice Am m.length cm, .int .i64 (dsK l k).length, .int .i64 8] 65 (0, 0))
  ownI : Own W (w1.heap.size + 1) 39 5 Ai ci ((stay q (dsK l k)).map fun x => frc x.f)
  ownM : Own W (w1.heap.size + 1) 70 7 Am cm (m.map bxc)
  q : Below w1.heap.size w1 W
  p : m.Perm (dsK l k)
  h : Hp m 0 m.length
theorem BdR.below {l : List Fr} {q : Int} {w1 : World} {k : Nat} {Ai : Option Addr} {ci : Nat} {Am : Option Addr} {cm : Nat} {m : List Bx} {W W' : World} (h : BdR l q w1 k Ai ci Am cm m W) (hb : Below W.heap.size W W') : BdR l q w1 k Ai ci Am cm m W' :=
  ⟨heap_below h.box hb, h.ownI.grown hb, h.ownM.grown hb, below_next h.q h.q.size hb, h.p, h.h⟩
theorem BdR.skip {l : List Fr} {q : Int} {w1 : World} {k : Nat} {Ai : Option Addr} {ci : Nat} {Am : Option Addr} {cm : Nat} {m : List Bx} {W W' : World} (h : BdR l q w1 k Ai ci Am cm m W) (hb : Below W.heap.size W W') (e : dsK l (k + 1) = dsK l k) : BdR l q w1 (k + 1) Ai ci Am cm m W' := by
  obtain ⟨h1, h2, h3, h4, h5, h6⟩ := h.below hb
  refine ⟨?_, ?_, h3, h4, ?_, h6⟩
  · rw [e]; exact h1
  · rw [e]; exact h2
  · rw [e]; exact h5

/-- What lies when the boxes have been dropped. -/
structure BoTd (l : List Fr) (wq : Int) (w1 : World) (sq n : Nat) (Ad : Option Addr) (cd : Nat) (md bs : List Bx) (Ai : Option Addr) (ci : Nat) (W : World) : Prop where
  box : W.heap[w1.heap.size]? = some (.cells #[.slice Ad md.length cd, .int .i64 sq, .int .i64 8] 65 (0, 0))
  own : Own W (w1.heap.size + 1) 70 7 Ad cd (md.map bxc)
  ownI : Own W (w1.heap.size + 1) 39 5 Ai ci (bs.map fun x => frc x.f)
  q : Below w1.heap.size w1 W
  t : TkP (fun x => (x.h == wq) = false) (bs.map (·.f)) sq 0 (-1) md bs
theorem BoTd.below {l : List Fr} {wq : Int} {w1 : World} {sq n : Nat} {Ad : Option Addr} {cd : Nat} {md bs : List Bx} {Ai : Option Addr} {ci : Nat} {W W' : World} (h : BoTd l wq w1 sq n Ad cd md bs Ai ci W) (hb : Below W.heap.size W W') : BoTd l wq w1 sq n Ad cd md bs Ai ci W' :=
  ⟨heap_below h.box hb, h.own.grown hb, h.ownI.grown hb, below_next h.q h.q.size hb, h.t⟩

set_option maxRecDepth 100000 in
set_option maxHeartbeats 4000000 in
theorem boxDrops_walk (l : List Fr) (A : Option Addr) (c : Nat) (wh : Int) (w : World) (hr : FrR w w.heap.size A l) (hc : l.length ≤ c) (hcm : c ≤ maxLen) (hf : ∀ f ∈ l, f.id < 4294967296 ∧ f.data.size ≤ maxLen) :
    Calls Try.prog 13 #[.slice A l.length c, .int .i64 wh] w fun e w' => e = .returned (.bool true) ∧ Below w.heap.size w w' := by
  have hid : ∀ k, (atF l k).id < 4294967296 := fun k => by
    unfold atF
    rcases h : l[k]? with _ | x
    · simp
    · exact (hf x (List.mem_of_getElem? h)).1
  have HID := hide hid
  have HF := hide hf
  have HR := hide hr
  unfold maxLen at hcm
  have hw1 : -3 < wh.tmod 3 := Int.lt_tmod_of_pos _ (by decide)
  have hw2 : wh.tmod 3 < 3 := Int.tmod_lt_of_pos _ (by decide)
  clear hid hf hr
  go_enter Try.func13, Try.ntmps13
  go_wp2_with fail
  (with_reducible refine (bxNew_ok 8 (by decide) _).mono ?_)
  rintro e1 w1 ⟨rfl, q1⟩
  go_wp2
  generalize (wh.tmod 3 + 3) % 3 = wq at *
  clear hw1 hw2
  go_loopw [30, 7, 8] (fun vi vin vg W => ∃ (k : Nat) (Ai : Option Addr) (ci : Nat) (Am : Option Addr) (cm : Nat) (m : List Bx), k ≤ l.length ∧ vi = .int .i64 k ∧ vin = .slice Ai (stay wq (dsK l k)).length ci ∧ vg = .int .i64 (goes wq (dsK l k)).length ∧ Hid (BdR l wq w1 k Ai ci Am cm m W)) (fun vi _ _ _ => l.length - (intOf vi).toNat)
  case atStart => exact ⟨0, none, 0, none, 0, [], Nat.zero_le _, rfl, rfl, rfl, hide ⟨World.alloc_heap_new w1 _, Own.nil, Own.nil, (Below.refl _ _).alloc (Nat.le_refl _) _, List.Perm.refl _, fun k _ h _ => absurd h (by simp)⟩⟩
  case round =>
    obtain ⟨k, Ai, ci, Am, cm, m, hk, rfl, rfl, rfl, hR⟩ := hrel
    by_cases hlt : k < l.length
    · have qw : Below w.heap.size w wr := q1.trans (hR.out.q.mono q1.size)
      obtain ⟨b, off, rfl, hbs, c0, c1, c2, c3, c4⟩ := (FrR.next HR.out qw qw.size).at_ hlt
      have hat := hide (OP.atF_lt hlt)
      have hfk := hide (HF.out _ (List.getElem_mem hlt))
      have hsz : l[k].data.size ≤ 9223372036854775807 := by have := hfk.out.2; unfold maxLen at this; omega
      have RR := hide (fun W => refRight04_any (cutF l[k]) W hfk.out.1)
      obtain ⟨mn, em, hmn⟩ := run_min (P := Try.prog) (l[k].data.size : Int) 12
      obtain ⟨k2, hk2⟩ : ∃ k2 : Nat, k2 = min l[k].data.size 12 := ⟨_, rfl⟩
      have hmk : mn = k2 := by omega
      subst hmk
      have hkl : k2 ≤ l[k].data.size := by omega
      have hcut : cutF l[k] = ⟨l[k].id, l[k].ext, l[k].rem, l[k].dlc, l[k].data.extract 0 k2⟩ := by unfold cutF; rw [hk2]
      have HCUT := hide hcut
      rw [hcut] at RR
      clear hk2 em hcut
      by_cases h8 : k < 8
      · rcases hRt : FP.rightB (⟨l[k].id, l[k].ext, l[k].rem, l[k].dlc, l[k].data.extract 0 k2⟩ : Fr) with _ | _
        · rw [hRt] at RR
          have E := hide (show dsK l (k + 1) = dsK l k by
            rw [dsK_succ, if_neg (by rw [hat.out, HCUT.out, hRt]; simp)])
          clear hRt
          go_wp2_with fail
          (with_reducible refine (RR.out _).mono ?_)
          rintro e2 w2 ⟨rfl, q2⟩
          have N := hide (hR.out.skip (((Below.refl _ _).alloc (Nat.le_refl _) _).trans (q2.mono (by simp))) E.out)
          go_wp2
          go_roundw
          case rel => exact ⟨k + 1, Ai, ci, Am, cm, m, by omega, by go_num, by rw [E.out], by rw [E.out], N⟩
          case measure => simp [intOf]; omega
        · rw [hRt] at RR
          go_wp2_with fail
          (with_reducible refine (RR.out _).mono ?_)
          rintro e2 w2 ⟨rfl, q2⟩
          have b2 : Below wr.heap.size wr w2 := ((Below.refl _ _).alloc (Nat.le_refl _) _).trans (q2.mono (by simp))
          have R2 := hide (hR.out.below b2)
          obtain ⟨x0, x1, x2⟩ := three_cells R2.out.box
          obtain ⟨hc2, hz2⟩ := bcell q2
          have z2 : wr.heap.size < w2.heap.size := by simp at hz2; omega
          have hbl := dsK_len l k
          have hml := R2.out.p.length_eq
          have hsg := stay_goes wq (dsK l k)
          have PU := hide (fun W (q : Below w2.heap.size w2 W) => put_ok m Am cm (dsK l k).length 8 ((k : Int) % 3) ⟨l[k].id, l[k].ext, l[k].rem, l[k].dlc, l[k].data.extract 0 k2⟩ W (R2.out.ownM.grown q |>.rd (bxc_rows m)) (by have := R2.out.ownM.le; simpa using this)
            (fun x hx => (dsK_mem l HID.out k x (R2.out.p.mem_iff.1 hx)).2) hfk.out.1 (dsK_right HID.out R2.out.p R2.out.h) (by omega) (by omega) hRt (by omega) (by omega))
          have HRT := hide hRt
          have hk3 : ((k : Int) % 3 : Int) < 3 := by omega
          clear hRt hml
          go_wp2_with fail
          (with_reducible refine (PU.out _ (Below.refl _ _)).mono ?_)
          rintro e3 w3 ⟨A3, k3, m3, rfl, o3, p3, h3, q3⟩
          have F7 := World.alloc_heap_new wr (.cells #[.int .u32 l[k].id, .bool l[k].ext, .bool l[k].rem, .int .i64 l[k].dlc, .string (l[k].data.extract 0 k2)] 39)
          have G7 := hide (heap_below (heap_below F7 q2) q3)
          have BX3 := heap_below R2.out.box q3
          have OI3 := hide (R2.out.ownI.grown q3)
          have qq3 := hide (below_next R2.out.q R2.out.q.size q3)
          have zz : w1.heap.size < w2.heap.size := heap_lt R2.out.box
          have zzr : w1.heap.size < wr.heap.size := heap_lt hR.out.box
          have zz3 : w2.heap.size ≤ w3.heap.size := q3.size
          replace o3 := hide (o3.mono (show w1.heap.size + 1 ≤ w2.heap.size by omega))
          have TH := hide (fun o => three_free (heap_below BX3 ((Below.refl _ w3).alloc (Nat.le_refl _) o)))
          have EB := hide (show dsK l (k + 1) = dsK l k ++ [⟨(k : Int) % 3, ⟨l[k].id, l[k].ext, l[k].rem, l[k].dlc, l[k].data.extract 0 k2⟩, (dsK l k).length⟩] by
            rw [dsK_succ, hat.out, HCUT.out, if_pos ⟨h8, HRT.out⟩])
          replace BX3 := hide BX3
          replace p3 := hide (p3.trans (List.Perm.append_right _ R2.out.p))
          clear F7 hc2 hz2 x0 x1 x2 q3 q2 b2 R2 hR c0 c1 c2 c3 c4
          go_wp2_with (refine wpList_store_hid (by rfl) 65 (.tmp 5) (.tmp 60) (by rfl) w1.heap.size 0 [.slice A3 m3.length k3, .int .i64 (((dsK l k).length : Int) + 1), .int .i64 8] (by rfl) (by rfl) ?_ (by kernel_rfl) ?_ ?_)
          · exact TH.out _
          · simp [Value.oneCell']
          intro W5 e5
          replace e5 := e5.out
          have qx : Below w3.heap.size w3 (w3.alloc (.cells #[.slice A3 m3.length k3, .int .i64 (((dsK l k).length : Int) + 1), .int .i64 8] 65)) := (Below.refl _ _).alloc (Nat.le_refl _) _
          have zz7 := heap_lt G7.out
          have BX5 := whole_heap [.slice A3 m3.length k3, .int .i64 (((dsK l k).length : Int) + 1), .int .i64 8] (xs := [_, _, _]) (heap_below BX3.out qx) rfl
          have G5 := other_heap (b := w1.heap.size) (x := wr.heap.size) (by omega) [.slice A3 m3.length k3, .int .i64 (((dsK l k).length : Int) + 1), .int .i64 8] 0 _ (heap_below G7.out qx)
          have o5 := own_setCells (x := w1.heap.size) (by omega) [.slice A3 m3.length k3, .int .i64 (((dsK l k).length : Int) + 1), .int .i64 8] 0 _ (o3.out.grown qx)
          have i5 := own_setCells (x := w1.heap.size) (by omega) [.slice A3 m3.length k3, .int .i64 (((dsK l k).length : Int) + 1), .int .i64 8] 0 _ (OI3.out.grown qx)
          have q5 := (below_next qq3.out qq3.out.size qx).trans (below_setCells (g := w1.heap.size) [.slice A3 m3.length k3, .int .i64 (((dsK l k).length : Int) + 1), .int .i64 8] 0 _ (Nat.le_refl _))
          rw [← e5] at BX5 G5 o5 i5 q5
          replace e5 := hide e5
          have hlw5 : w3.heap.size ≤ W5.heap.size := by have h1 := e5.out; rw [h1, setCells_size]; simp
          replace BX5 := hide BX5
          replace G5 := hide G5
          replace o5 := hide o5
          replace i5 := hide i5
          replace q5 := hide q5
          have NL : Hid ((((dsK l k).length : Int) + 1) = ((dsK l (k + 1)).length : Int)) := by
            refine hide ?_
            rw [EB.out, List.length_append, List.length_singleton]; omega
          clear BX3 OI3 qq3 o3 G7 qx TH
          rcases hbe : ((k : Int) % 3 == wq) with _ | _
          · have hbne : ((k : Int) % 3 != wq) = true := by simp only [bne, hbe]; rfl
            have ES := hide (stay_no (q := wq) (l := dsK l k) (x := ⟨(k : Int) % 3, ⟨l[k].id, l[k].ext, l[k].rem, l[k].dlc, l[k].data.extract 0 k2⟩, (dsK l k).length⟩) hbe)
            have EG := hide (goes_no (q := wq) (l := dsK l k) (x := ⟨(k : Int) % 3, ⟨l[k].id, l[k].ext, l[k].rem, l[k].dlc, l[k].data.extract 0 k2⟩, (dsK l k).length⟩) hbe)
            obtain ⟨y0, y1, y2, y3, y4⟩ := fr_cells (f := ⟨l[k].id, l[k].ext, l[k].rem, l[k].dlc, l[k].data.extract 0 k2⟩) G5.out
            have zz8 := heap_lt G5.out
            have zz9 := heap_lt BX5.out
            have hsl : (stay wq (dsK l k)).length ≤ 8 := by omega
            have R6 := hide (fun t => rd_row (cs := [.int .u32 l[k].id, .bool l[k].ext, .bool l[k].rem, .int .i64 l[k].dlc, .string (l[k].data.extract 0 k2)]) (World.alloc_heap_new W5 (.cells #[.int .u32 l[k].id, .bool l[k].ext, .bool l[k].rem, .int .i64 l[k].dlc, .string (l[k].data.extract 0 k2)] t)))
            have E1 := hide (show (((stay wq (dsK l k)).map fun x => frc x.f).length + [([.int .u32 l[k].id, .bool l[k].ext, .bool l[k].rem, .int .i64 l[k].dlc, .string (l[k].data.extract 0 k2)] : List Value)].length) * 32 ≤ 140737488355328 by simp; omega)
            have E2 := hide (show ((stay wq (dsK l k)).map fun x => frc x.f).length + [([.int .u32 l[k].id, .bool l[k].ext, .bool l[k].rem, .int .i64 l[k].dlc, .string (l[k].data.extract 0 k2)] : List Value)].length ≤ maxLen by simp [maxLen]; omega)
            have E3 := hide (show (stay wq (dsK l k)).length = ((stay wq (dsK l k)).map fun x => frc x.f).length by simp)
            go_wp2_with (at_builtin; refine wpList_append_rows _ rfl _ _ 50 rfl slFrame (w1.heap.size + 1) _ _ _ ((stay wq (dsK l k)).map fun x => frc x.f) (by rfl) (by exact i5.out.alloc _) _ _ _ [[.int .u32 l[k].id, .bool l[k].ext, .bool l[k].rem, .int .i64 l[k].dlc, .string (l[k].data.extract 0 k2)]] (by rfl) (by exact R6.out _) (by simp) (by simp [Value.oneCell']) (by exact E1.out) (by exact E2.out) (by simp; omega) (by exact E3.out) (by rfl) ?_)
            intro A6 c6 W6 o6 g6
            have NEXT := hide (show BdR l wq w1 (k + 1) A6 c6 A3 k3 m3 W6 from by
              refine ⟨?_, ?_, ?_, ?_, ?_, h3⟩
              · have h1 := heap_grown (heap_below BX5.out ((Below.refl _ _).alloc (Nat.le_refl _) _)) (by decide) (i5.out.alloc _) g6
                rw [← NL.out]; exact h1
              · rw [EB.out, ES.out, List.map_append]; exact o6
              · exact own_apartT (o5.out.alloc _) (i5.out.alloc _) (by decide) g6
              · exact below_append (q5.out.alloc q5.out.size _) g6 (i5.out.alloc _) (by omega) (by have := q5.out.size; simp; omega)
              · rw [EB.out]; exact p3.out)
            have NS := hide (show (stay wq (dsK l k)).length + 1 = (stay wq (dsK l (k + 1))).length by rw [EB.out, ES.out]; simp)
            have NG := hide (show (goes wq (dsK l k)).length = (goes wq (dsK l (k + 1))).length by rw [EB.out, EG.out])
            clear o6 g6 BX5 G5 o5 i5 q5 y0 y1 y2 y3 y4 p3 h3 R6 EB ES EG
            go_wp2
            go_roundw
            case rel => exact ⟨k + 1, A6, c6, A3, k3, m3, by omega, by go_num, by rw [NS.out], by rw [NG.out], NEXT⟩
            case measure => simp [intOf]; omega
          · have hbne : ((k : Int) % 3 != wq) = false := by simp only [bne, hbe]; rfl
            have ES := hide (stay_yes (q := wq) (l := dsK l k) (x := ⟨(k : Int) % 3, ⟨l[k].id, l[k].ext, l[k].rem, l[k].dlc, l[k].data.extract 0 k2⟩, (dsK l k).length⟩) hbe)
            have EG := hide (goes_yes (q := wq) (l := dsK l k) (x := ⟨(k : Int) % 3, ⟨l[k].id, l[k].ext, l[k].rem, l[k].dlc, l[k].data.extract 0 k2⟩, (dsK l k).length⟩) hbe)
            have NEXT := hide (show BdR l wq w1 (k + 1) Ai ci A3 k3 m3 W5 from by
              refine ⟨?_, ?_, o5.out, q5.out, ?_, h3⟩
              · rw [← NL.out]; exact BX5.out
              · rw [EB.out, ES.out]; exact i5.out
              · rw [EB.out]; exact p3.out)
            have NS := hide (show (stay wq (dsK l k)).length = (stay wq (dsK l (k + 1))).length by rw [EB.out, ES.out])
            have NG := hide (show ((goes wq (dsK l k)).length : Int) + 1 = ((goes wq (dsK l (k + 1))).length : Int) by rw [EB.out, EG.out]; omega)
            clear BX5 G5 o5 i5 q5 p3 h3 EB ES EG
            have hgl : (goes wq (dsK l k)).length ≤ 8 := by omega
            go_wp2
            go_roundw
            case rel => exact ⟨k + 1, Ai, ci, A3, k3, m3, by omega, by go_num, by rw [NS.out], by rw [NG.out], NEXT⟩
            case measure => simp [intOf]; omega
      · have E := hide (show dsK l (k + 1) = dsK l k by
          rw [dsK_succ, if_neg (by omega)])
        have h8' : (8 : Int) ≤ (k : Int) := by omega
        clear RR HCUT hat hfk
        go_wp2_with fail
        go_roundw
        case rel => exact ⟨k + 1, Ai, ci, Am, cm, m, by omega, by go_num, by rw [E.out], by rw [E.out], hide (hR.out.skip ((Below.refl _ _).alloc (Nat.le_refl _) _) E.out)⟩
        case measure => simp [intOf]; omega
    · obtain rfl : k = l.length := by omega
      obtain ⟨bs, hbs⟩ : ∃ bs, bs = stay wq (dsK l l.length) := ⟨_, rfl⟩
      obtain ⟨sq, hsq⟩ : ∃ sq, sq = (dsK l l.length).length := ⟨_, rfl⟩
      have hbl := dsK_len l l.length
      have hsg := stay_goes wq (dsK l l.length)
      have hml := hR.out.p.length_eq
      have HRR := dsK_right HID.out hR.out.p hR.out.h
      have hids : ∀ x ∈ m, x.f.id < 4294967296 := fun x hx => (dsK_mem l HID.out _ x (hR.out.p.mem_iff.1 hx)).2
      obtain ⟨n, hn⟩ : ∃ n, n = bs.length := ⟨_, rfl⟩
      obtain ⟨gn, hgn⟩ : ∃ gn, gn = (goes wq (dsK l l.length)).length := ⟨_, rfl⟩
      have HST := hide (fun (m' : List Bx) (hm : m'.Perm (stay wq m)) hh => stay_start HID.out (q := wq) hR.out.p hm hh)
      have HPM := hide (fun (m' : List Bx) (hm : m'.Perm (stay wq m)) => (hm.trans (hR.out.p.filter _)).length_eq)
      rw [← hbs] at HST
      rw [← hsq] at HST HRR
      have HI := hide hR.out.ownI
      rw [← hbs] at HI
      have HB := hR.out.box
      rw [← hsq] at HB
      have HQ1 := hR.out.q
      have hsm := hR.out.ownM
      have DR := hide (fun W (q : Below wr.heap.size wr W) => drop_ok m Am cm sq 8 wq W ((hsm.grown q).rd (bxc_rows m)) (by have := hsm.le; simpa using this) hids HRR)
      have hmg : (m.length : Int) - (n : Int) = (gn : Int) := by rw [← hbs, ← hn, ← hgn] at hsg; omega
      have hn8 : n ≤ 8 := by rw [← hbs, ← hn] at hsg; omega
      have hg8 : gn ≤ 8 := by rw [← hgn] at hsg; omega
      have hm8 : m.length ≤ 8 := by omega
      have HMG := hide hmg
      have HN := hide hn
      have HBS := hide hbs
      have HB' := hide HB
      have HQ1' := hide HQ1
      have zz : w1.heap.size < wr.heap.size := heap_lt HB
      obtain ⟨x0, x1, x2⟩ := three_cells HB
      have AL := hide (fun W => alive09_any W)
      rw [← hbs, ← hn, ← hgn]
      have hle : ∀ f ∈ bs, FP.rightB f.f = true ∧ f.f.id < 4294967296 := fun x hx => by
        rw [hbs] at hx
        have h1 := (List.mem_filter.1 hx).1
        exact ⟨(dsK_mem l HID.out _ x h1).1.1, (dsK_mem l HID.out _ x h1).2⟩
      have HLE := hide hle
      clear hR hn hgn hbs hsq hsg hbl hml HRR hids HB HQ1 hsm hmg hle hlt hk
      go_wp2_with fail
      (with_reducible refine (DR.out _ (Below.refl _ _)).mono ?_)
      rintro e2 w2 ⟨Ad, cd, md, rfl, od, pd, hd, q2⟩
      have hmd : md.length = n := by have := HPM.out md pd; rw [this, HN.out, HBS.out]; rfl
      rw [hmd, HMG.out]
      have BX2 := hide (heap_below HB'.out q2)
      have OD := hide (od.mono (show w1.heap.size + 1 ≤ wr.heap.size by omega))
      have OI := hide (HI.out.grown q2)
      have Q2 := hide (below_next HQ1'.out HQ1'.out.size q2)
      have T0 := hide (HST.out md pd hd)
      have HMD := hide hmd
      have zz2 : w1.heap.size < w2.heap.size := heap_lt BX2.out
      clear DR HST HPM HB' HQ1' HI x0 x1 x2 od pd hd q2 hmd HMG
      go_wp2_with (refine wpList_store_hid (by rfl) 65 (.tmp 5) (.tmp 76) (by rfl) w1.heap.size 0 [.slice Ad n cd, .int .i64 sq, .int .i64 8] (by rfl) (by rfl) (by exact three_free BX2.out) (by kernel_rfl) (by simp [Value.oneCell']) ?_)
      intro W3 e3
      have B3 : BoTd l wq w1 sq n Ad cd md bs Ai ci W3 := by
        have e := e3.out
        subst e
        refine ⟨?_, own_setCells (by omega) _ 0 _ OD.out, own_setCells (by omega) _ 0 _ OI.out, Q2.out.trans (below_setCells _ 0 _ (Nat.le_refl _)), T0.out⟩
        rw [HMD.out]
        exact whole_heap [.slice Ad n cd, .int .i64 sq, .int .i64 8] (xs := [_, _, _]) BX2.out rfl
      have HB3 := hide B3
      obtain ⟨x0, x1, x2⟩ := three_cells B3.box
      rw [HMD.out] at x0
      clear B3 e3 OD OI Q2 T0 BX2
      go_wp2_with fail
      (with_reducible refine (AL.out _).mono ?_)
      rintro e4 w4 ⟨rfl, q4⟩
      have HB4 := hide (HB3.out.below q4)
      clear x0 x1 x2 q4
      have OR := hide (fun W (q : Below w4.heap.size w4 W) => by
        have := refOrder_any (bs.map (·.f)) Ai ci W (by have := (HB4.out.ownI.grown q).rd (sz := 5) (by intro r hr; obtain ⟨x, _, rfl⟩ := List.mem_map.1 hr; rfl); unfold FrR; rw [List.map_map]; exact this) (by rw [List.length_map]; have := HN.out; omega) (by
          intro f hf
          obtain ⟨x, hx, rfl⟩ := List.mem_map.1 hf
          exact HLE.out x hx)
        rw [List.length_map, ← HN.out] at this
        exact this)
      have HGD := hide (show ∀ f ∈ orderF (bs.map (·.f)), FP.rightB f = true from fun f hf => by
        obtain ⟨x, hx, rfl⟩ := List.mem_map.1 ((OP.orderF_perm _).mem_iff.1 hf)
        exact (HLE.out x hx).1)
      have HNO := hide (show n = (orderF (bs.map (·.f))).length by rw [OP.orderF_len, List.length_map]; exact HN.out)
      have zz4 : w1.heap.size < w4.heap.size := heap_lt HB4.out.box
      go_wp2_with fail
      (with_reducible refine (OR.out _ (Below.refl _ _)).mono ?_)
      rintro e5 w5 ⟨Aw, cw, rfl, rW, hcw, hgw, q5⟩
      have HW5 := hide (show BoT (fun x => (x.h == wq) = false) (bs.map (·.f)) sq w1 Aw 0 (-1) Ad cd md bs w5 from
        ⟨heap_below HB4.out.box q5, HB4.out.own.grown q5, rW, below_next HB4.out.q HB4.out.q.size q5, HB4.out.t⟩)
      have HG := hide (fun g off (e : Aw = some ⟨g, off, none⟩) => show g ≠ w1.heap.size by have := hgw g off e; omega)
      rw [← HNO.out] at hcw ⊢
      clear rW hgw q5 OR HB4 HB3
      go_wp2
      go_loopw [105] (fun vi W => ∃ (j : Nat) (last : Int) (Am : Option Addr) (cm : Nat) (m bs' : List Bx), j ≤ n ∧ vi = .int .i64 j ∧ Hid (BoT (fun x => (x.h == wq) = false) (bs.map (·.f)) sq w1 Aw j last Am cm m bs' W)) (fun vi _ => n - (intOf vi).toNat)
      case atStart => exact ⟨0, -1, Ad, cd, md, bs, Nat.zero_le _, rfl, HW5⟩
      case round =>
        clear HW5
        obtain ⟨j, last, Am, cm, m, bs', hj, rfl, hR⟩ := hrel
        by_cases hlt : j < n
        · have hjl : j < (orderF (bs.map (·.f))).length := by rw [← HNO.out]; exact hlt
          obtain ⟨b, off, rfl, hbs, c0, c1, c2, c3, c4⟩ := hR.out.want.at_ hjl
          have zz : w1.heap.size < wr.heap.size := heap_lt hR.out.box
          obtain ⟨x0, x1, x2⟩ := three_cells hR.out.box
          have hml : m.length = n - j := by rw [HNO.out]; exact hR.out.t.mlen
          have TK := hide (fun W (q : Below wr.heap.size wr W) => take_ok m Am cm sq 8 W ((hR.out.own.grown q).rd (bxc_rows m)) (by have := hR.out.own.le; simpa using this) hR.out.t.id hR.out.t.right (by omega))
          have HML := hide hml
          clear hml
          go_wp2_with fail
          (with_reducible refine (TK.out _ ((Below.refl _ _).alloc (Nat.le_refl _) _)).mono ?_)
          rintro e3 w3 ⟨A3, k3, m3, rfl, o3, p3, h3, q3⟩
          obtain ⟨ef, hhb, hlast, tn⟩ := hR.out.t.step hjl p3 h3
          have hgF : FP.rightB (orderF (bs.map (·.f)))[j] = true := HGD.out _ (List.getElem_mem hjl)
          have qa : Below wr.heap.size wr (wr.alloc (.cells #[.int .u32 (orderF (bs.map (·.f)))[j].id, .bool (orderF (bs.map (·.f)))[j].ext, .bool (orderF (bs.map (·.f)))[j].rem, .int .i64 (orderF (bs.map (·.f)))[j].dlc, .string (orderF (bs.map (·.f)))[j].data] 39)) := (Below.refl _ _).alloc (Nat.le_refl _) _
          have F13 := heap_below (World.alloc_heap_new wr (.cells #[.int .u32 (orderF (bs.map (·.f)))[j].id, .bool (orderF (bs.map (·.f)))[j].ext, .bool (orderF (bs.map (·.f)))[j].rem, .int .i64 (orderF (bs.map (·.f)))[j].dlc, .string (orderF (bs.map (·.f)))[j].data] 39)) q3
          have R3 := hide ((hR.out.below qa).below q3)
          replace o3 := o3.mono (show w1.heap.size + 1 ≤ _ by simp; omega)
          have zz3 : wr.heap.size < w3.heap.size := heap_lt F13
          clear qa TK hlast
          generalize hF : (orderF (bs.map (·.f)))[j] = F at *
          generalize at' m 0 = y at *
          obtain ⟨yh, yf, ys⟩ := y
          dsimp only at ef
          subst ef
          obtain ⟨fid, fext, frem, fdlc, fdat⟩ := yf
          dsimp only at *
          go_wp2_with fail
          have B18 := World.alloc_heap_new (w3.alloc (.cells #[.slice A3 m3.length k3, .int .i64 sq, .int .i64 8] 65)) (.cells #[.int .i64 yh, .int .u32 fid, .bool fext, .bool frem, .int .i64 fdlc, .string fdat, .int .i64 ys] 70)
          have B17 := heap_below (World.alloc_heap_new w3 (.cells #[.slice A3 m3.length k3, .int .i64 sq, .int .i64 8] 65)) ((Below.refl _ _).alloc (Nat.le_refl _) (.cells #[.int .i64 yh, .int .u32 fid, .bool fext, .bool frem, .int .i64 fdlc, .string fdat, .int .i64 ys] 70))
          have hs1 : (w3.alloc (.cells #[.slice A3 m3.length k3, .int .i64 sq, .int .i64 8] 65)).heap.size = w3.heap.size + 1 := by simp
          rw [hs1] at B18
          clear hs1
          have qx : Below w3.heap.size w3 ((w3.alloc (.cells #[.slice A3 m3.length k3, .int .i64 sq, .int .i64 8] 65)).alloc (.cells #[.int .i64 yh, .int .u32 fid, .bool fext, .bool frem, .int .i64 fdlc, .string fdat, .int .i64 ys] 70)) := ((Below.refl _ _).alloc (Nat.le_refl _) _).alloc (by simp) _
          replace F13 := hide (heap_below F13 qx)
          replace R3 := hide (R3.out.below qx)
          replace o3 := hide (o3.grown qx)
          replace B17 := hide B17
          replace B18 := hide B18
          clear qx q3 c0 c1 c2 c3 c4 x0 x1 x2 hR
          generalize (w3.alloc (.cells #[.slice A3 m3.length k3, .int .i64 sq, .int .i64 8] 65)).alloc (.cells #[.int .i64 yh, .int .u32 fid, .bool fext, .bool frem, .int .i64 fdlc, .string fdat, .int .i64 ys] 70) = W4 at *
          have z18 : w3.heap.size + 1 < W4.heap.size := heap_lt B18.out
          have z16 : wr.heap.size < W4.heap.size := heap_lt F13.out
          have m16 := fun s : InW W4 => frBox_s (f := ⟨fid, fext, frem, fdlc, fdat⟩) F13.out s
          have m18 := fun s : InW W4 => bxBox_s (x := ⟨yh, ⟨fid, fext, frem, fdlc, fdat⟩, ys⟩) B18.out s
          have FR := hide (fun W => refField_any ⟨fid, fext, frem, fdlc, fdat⟩ W hgF)
          generalize fstr ⟨fid, fext, frem, fdlc, fdat⟩ = S at *
          have TN := hide tn
          clear tn hgF
          refine wp_region_tame (by kernel_rfl) (by kernel_rfl) ?_
          repeat (go_big_quiet_step (first | (go_at_call 32; exact tame_of (FR.out _))))
          refine wpQuiet_nil ?_
          rintro _ ⟨s, rfl⟩
          obtain ⟨W5, q5⟩ := s
          dsimp only
          clear m16 m18
          have z5 : W4.heap.size ≤ W5.heap.size := q5.size
          have B17 := heap_below B17.out q5
          have R5 := hide (R3.out.below q5)
          have o5 := hide (o3.out.grown q5)
          obtain ⟨y0, y1, y2⟩ := three_cells B17
          clear q5 B17
          go_wp2_with (refine wpList_store_hid (by rfl) 65 (.tmp 5) (.tmp 131) (by rfl) w1.heap.size 0 [.slice A3 m3.length k3, .int .i64 sq, .int .i64 8] (by rfl) (by rfl) (by exact three_free R5.out.box) (by kernel_rfl) (by simp [Value.oneCell']) ?_)
          intro W7 e7
          have NEXT := hide (R5.out.put o5.out TN.out HG.out e7.out)
          clear e7 y0 y1 y2 R5 o5
          go_wp2
          go_roundw
          case rel => exact ⟨j + 1, ys, A3, k3, m3, restB bs', by omega, by go_num, NEXT⟩
          case measure => simp [intOf]; omega
        · obtain rfl : j = n := by omega
          obtain rfl : m = [] := by
            have := hR.out.t.mlen
            rw [← HNO.out, Nat.sub_self] at this
            exact List.length_eq_zero_iff.1 this
          obtain ⟨x0, x1, x2⟩ := three_cells hR.out.box
          simp only [List.length_nil] at x0
          have QW := below_next q1 q1.size (hR.out.q)
          clear hR
          go_wp2
          go_ret
          exact ⟨rfl, QW⟩
end Go.Proofs.Ytbdgifngldipcaa
