/- PrioOrder. -/
import Derived.Test.YtbdgifngldipcaaPsN
import Derived.Test.YtbdgifngldipcaaPrM
import Derived.Test.YtbdgifngldipcaaPrK
import Derived.Test.YtbdgifngldipcaaPrN
import Derived.Test.YtbdgifngldipcaaRfP
namespace Go.Proofs.Ytbdgifngldipcaa
open Go.ChangeShapes Go.WideShapes Go.ChangeAt Go.RowKit
open FP (Fr)
open PP (bl)

/-- Three ways in which two fields may stand. -/
theorem less_ways {f g : Fr} (hf : FP.rightB f = true) (hg : FP.rightB g = true) :
    (lessB f g = false ∧ lessB g f = false ∧ ((fstr f).toList == (fstr g).toList) = true) ∨ (lessB f g = true ∧ lessB g f = false ∧ ((fstr f).toList == (fstr g).toList) = false) ∨ (lessB f g = false ∧ lessB g f = true ∧ ((fstr f).toList == (fstr g).toList) = false) := by
  have hs : ((fstr f).toList == (fstr g).toList) = (fieldF f == fieldF g) := by
    unfold fstr
    rw [Lib.toList_data, Lib.toList_data]
  rw [hs, PP.lessB_bl hf hg, PP.lessB_bl hg hf]
  by_cases e : fieldF f = fieldF g
  · left
    rw [e]
    exact ⟨PP.bl_irrefl _, PP.bl_irrefl _, by simp⟩
  · right
    have ht := PP.bl_total (PP.fld_of f) (PP.fld_of g) e
    have h3 : (fieldF f == fieldF g) = false := by rw [beq_eq_false_iff_ne]; exact e
    rcases h : bl (fieldF g) (fieldF f) with _ | _
    · left; rw [h] at ht; exact ⟨by simpa using ht, rfl, h3⟩
    · right; rw [h] at ht; exact ⟨by simpa using ht, rfl, h3⟩
theorem less_trans {f g h : Fr} (hf : FP.rightB f = true) (hg : FP.rightB g = true) (hh : FP.rightB h = true) (h1 : lessB f g = true) (h2 : lessB g h = true) : lessB f h = true := by
  rw [PP.lessB_bl hf hg] at h1
  rw [PP.lessB_bl hg hh] at h2
  rw [PP.lessB_bl hf hh]
  exact PP.bl_trans _ _ _ h1 h2
theorem order_less {l : List Fr} (hg : ∀ f ∈ l, FP.rightB f = true) {i k : Nat} (hi : i < (OP.orderF l).length) (hk : k < i) : lessB (OP.orderF l)[i] (OP.orderF l)[k] = false := by
  obtain ⟨h1, h2⟩ := SP.order_st l.length l rfl hg
  have hr : ∀ x ∈ OP.orderF l, FP.rightB x = true := fun x hx => hg x (SP.mem_cl h2 hx)
  rw [PP.lessB_bl (hr _ (List.getElem_mem _)) (hr _ (List.getElem_mem _))]
  exact List.pairwise_iff_getElem.1 h1 k i (by omega) hi hk

/-- What lies. -/
structure PoS (w : World) (l : List Fr) (A : Option Addr) (m : List Fr) (B : Option Addr) (W : World) : Prop where
  r1 : FrR W W.heap.size A l
  r2 : FrR W W.heap.size B m
  q : Below w.heap.size w W
theorem PoS.below {w : World} {l : List Fr} {A : Option Addr} {m : List Fr} {B : Option Addr} {W W' : World} (h : PoS w l A m B W) (b : Below W.heap.size W W') : PoS w l A m B W' :=
  ⟨FrR.next h.r1 b b.size, FrR.next h.r2 b b.size, below_next h.q h.q.size b⟩

set_option maxRecDepth 100000 in
set_option maxHeartbeats 8000000 in
theorem prioOrder_walk (l0 : List Fr) (A0 : Option Addr) (c0 : Nat) (w : World) (hr0 : FrR w w.heap.size A0 l0) (hc0 : l0.length ≤ c0) (hcm : c0 ≤ maxLen) (hi0 : ∀ f ∈ l0, f.id < 4294967296) (hs0 : ∀ f ∈ l0, f.data.size ≤ maxLen) :
    Calls Try.prog 10 #[.slice A0 l0.length c0] w fun e w' => e = .returned (.bool true) ∧ Below w.heap.size w w' := by
  have FEW := hide (few05_any l0 A0 c0 w hr0 hc0 hcm hs0)
  have AL := hide alive05_any
  have HID := hide (cutL_id hi0)
  have hl10 := cutL_len l0
  unfold FewV at FEW
  generalize cutL l0 = l at *
  have OR := hide (fun A c W (hr : FrR W W.heap.size A l) => prioOrder_any l A c W hr (by omega) HID.out)
  have WE := hide (fun A c W (hr : FrR W W.heap.size A l) => refWell_any l A c W hr (by omega) HID.out)
  unfold OrderA at OR
  obtain ⟨n, hn⟩ : ∃ n, n = l.length := ⟨_, rfl⟩
  rw [← hn] at FEW OR WE
  have HN := hide hn
  have hn10 : n ≤ 10 := by omega
  clear hr0 hc0 hcm hi0 hs0 hn hl10
  go_enter Try.func10, Try.ntmps10
  go_wp2_with fail
  refine FEW.out.mono ?_
  rintro e1 w1 ⟨A1, c1, rfl, r1, hc1, q1⟩
  have OR1 := hide (OR.out A1 c1 w1 r1)
  have R1 := hide r1
  clear r1 FEW OR
  go_wp2_with fail
  refine OR1.out.mono ?_
  rintro e2 w2 ⟨A2, c2, m, r, rfl, hways, r2, hc2, q2⟩
  have S2 : Hid (PoS w l A1 m A2 w2) := hide ⟨FrR.next R1.out q2 q2.size, r2, below_next q1 q1.size q2⟩
  have WY := hide hways
  have R12 := hide (FrR.next R1.out q2 q2.size)
  clear R1 OR1 r2 q2 q1 hways
  rcases WY.out with ⟨hw, hm, rfl⟩ | ⟨hw, rfl, rfl⟩
  · have HG : Hid (∀ f ∈ l, FP.rightB f = true) := hide (fun f hf => List.all_eq_true.1 hw f hf)
    have hml : m.length = n := by rw [hm, OP.orderF_len, HN.out]
    have OL : Hid (∀ i k (hi : i < m.length) (hk : k < i), lessB m[i] m[k] = false) := hide (fun i k hi hk => by subst hm; exact order_less HG.out hi hk)
    have OI : Hid (∀ x ∈ m, x.id < 4294967296) := hide (fun x hx => by subst hm; exact HID.out x (SP.mem_cl (SP.order_st l.length l rfl HG.out).2 hx))
    clear hw hm WY WE R12
    rw [hml] at hc2 ⊢
    have HML := hide hml
    clear hml
    have LS := hide (fun f g (hf : f ∈ l) (hg : g ∈ l) W => Less_any f g W (HID.out f hf) (HID.out g hg))
    have FD := hide (fun f (hf : f ∈ l) W => Field_any f W (HG.out f hf) (HID.out f hf))
    go_wp2_with fail
    go_loopw [34] (fun vi W => ∃ i : Nat, i ≤ n ∧ vi = .int .i64 i ∧ Hid (PoS w l A1 m A2 W)) (fun vi _ => n - (intOf vi).toNat)
    case atStart => exact ⟨0, Nat.zero_le _, rfl, S2⟩
    case round =>
      rename World => wa
      clear S2
      obtain ⟨i, hi, rfl, hS⟩ := hrel
      by_cases hlt : i < n
      · have hil : i < l.length := by rw [← HN.out]; exact hlt
        have hii : (i : Int) < (n : Int) := by omega
        obtain ⟨b, off, rfl, hb, d0, d1, d2, d3, d4⟩ := hS.out.r1.at_ hil
        have hfm := hide (List.getElem_mem hil)
        generalize l[i] = f at *
        have qa : Below wa.heap.size wa (wa.alloc (.cells #[.int .u32 f.id, .bool f.ext, .bool f.rem, .int .i64 f.dlc, .string f.data] 39)) := (Below.refl _ _).alloc (Nat.le_refl _) _
        have Sa := hide (hS.out.below qa)
        have Fa := hide (World.alloc_heap_new wa (.cells #[.int .u32 f.id, .bool f.ext, .bool f.rem, .int .i64 f.dlc, .string f.data] 39))
        clear hS qa
        go_wp2_with fail
        generalize hW : wa.alloc (.cells #[.int .u32 f.id, .bool f.ext, .bool f.rem, .int .i64 f.dlc, .string f.data] 39) = wb at *
        have zaf : wa.heap.size < wb.heap.size := heap_lt Fa.out
        clear hW
        go_loopw [40] (fun vj W => ∃ j : Nat, j ≤ n ∧ vj = .int .i64 j ∧ Below wb.heap.size wb W) (fun vj _ => n - (intOf vj).toNat)
        case atStart => exact ⟨0, Nat.zero_le _, rfl, Below.refl _ _⟩
        case round =>
          rename World => wc
          obtain ⟨j, hj, rfl, qc⟩ := hrel
          have Sc := hide (Sa.out.below qc)
          have Fc := hide (heap_below Fa.out qc)
          by_cases hjl : j < n
          · have hjl2 : j < l.length := by rw [← HN.out]; exact hjl
            have hji : (j : Int) < (n : Int) := by omega
            obtain ⟨_, e0, e1, e2, e3, e4⟩ := Sc.out.r1.at2 hjl2
            have hgm := hide (List.getElem_mem hjl2)
            generalize l[j] = g at *
            have qd : Below wc.heap.size wc (wc.alloc (.cells #[.int .u32 g.id, .bool g.ext, .bool g.rem, .int .i64 g.dlc, .string g.data] 39)) := (Below.refl _ _).alloc (Nat.le_refl _) _
            have Sd := hide (Sc.out.below qd)
            have Fd := hide (heap_below Fc.out qd)
            have Gd := hide (World.alloc_heap_new wc (.cells #[.int .u32 g.id, .bool g.ext, .bool g.rem, .int .i64 g.dlc, .string g.data] 39))
            have Qd := below_next qc qc.size qd
            have zcf : wa.heap.size < wc.heap.size := heap_lt Fc.out
            have LFG := hide (LS.out f g hfm.out hgm.out)
            have LGF := hide (LS.out g f hgm.out hfm.out)
            have WAYS := less_ways (HG.out f hfm.out) (HG.out g hgm.out)
            obtain ⟨x0, x1, x2, x3, x4⟩ := fr_cellsx Fc.out
            clear Sc Fc qd
            go_wp2_with fail
            generalize hW : wc.alloc (.cells #[.int .u32 g.id, .bool g.ext, .bool g.rem, .int .i64 g.dlc, .string g.data] 39) = wd at *
            have zcd : wc.heap.size < wd.heap.size := heap_lt Gd.out
            clear hW
            (with_reducible refine (FD.out f hfm.out _).mono ?_)
            rintro e5 w5 ⟨rfl, q5⟩
            have S5 := hide (Sd.out.below q5)
            have F5 := hide (heap_below Fd.out q5)
            have G5 := hide (heap_below Gd.out q5)
            have Q5 := below_next Qd Qd.size q5
            clear Sd Fd Gd Qd q5 e0 e1 e2 e3 e4 x0 x1 x2 x3 x4
            obtain ⟨y0, y1, y2, y3, y4⟩ := fr_cellsx G5.out
            have z5 : wc.heap.size < w5.heap.size := heap_lt G5.out
            go_wp2_with fail
            (with_reducible refine (FD.out g hgm.out _).mono ?_)
            rintro e6 w6 ⟨rfl, q6⟩
            have S6 := hide (S5.out.below q6)
            have F6 := hide (heap_below F5.out q6)
            have G6 := hide (heap_below G5.out q6)
            have Q6 := below_next Q5 Q5.size q6
            clear S5 F5 G5 Q5 q6 y0 y1 y2 y3 y4
            go_upto_region 13 with fail
            go_cut [77] from 44 to 99 (fun v W => v = .bool false ∧ Below w6.heap.size w6 W)
            case first =>
              have z6 : wc.heap.size < w6.heap.size := heap_lt G6.out
              have z6a : wa.heap.size < w6.heap.size := heap_lt F6.out
              obtain ⟨x0, x1, x2, x3, x4⟩ := fr_cellsx F6.out
              obtain ⟨y0, y1, y2, y3, y4⟩ := fr_cellsx G6.out
              have P6 : Below w6.heap.size w6 w6 := Below.refl _ _
              rcases WAYS with ⟨h1, h2, h3⟩ | ⟨h1, h2, h3⟩ | ⟨h1, h2, h3⟩
              · rw [h1] at LFG
                rw [h2] at LGF
                clear h1 h2
                go_wp2_with fail
                (with_reducible refine (LFG.out _).mono ?_)
                rintro e7 w7 ⟨rfl, q7⟩
                have P7 := below_next P6 P6.size q7
                clear x0 x1 x2 x3 x4 y0 y1 y2 y3 y4
                have b7x := heap_below F6.out P7
                obtain ⟨x0, x1, x2, x3, x4⟩ := fr_cellsx b7x
                have zz7x := heap_lt b7x
                have b7y := heap_below G6.out P7
                obtain ⟨y0, y1, y2, y3, y4⟩ := fr_cellsx b7y
                have zz7y := heap_lt b7y
                go_wp2_with fail
                (with_reducible refine (LFG.out _).mono ?_)
                rintro e8 w8 ⟨rfl, q8⟩
                have P8 := below_next P7 P7.size q8
                clear x0 x1 x2 x3 x4 y0 y1 y2 y3 y4
                have b8x := heap_below F6.out P8
                obtain ⟨x0, x1, x2, x3, x4⟩ := fr_cellsx b8x
                have zz8x := heap_lt b8x
                have b8y := heap_below G6.out P8
                obtain ⟨y0, y1, y2, y3, y4⟩ := fr_cellsx b8y
                have zz8y := heap_lt b8y
                go_wp2_with fail
                (with_reducible refine (LGF.out _).mono ?_)
                rintro e9 w9 ⟨rfl, q9⟩
                have P9 := below_next P8 P8.size q9
                go_wp2_with fail
                go_meet
                exact ⟨rfl, P9⟩
              · rw [h1] at LFG
                rw [h2] at LGF
                clear h1 h2
                go_wp2_with fail
                (with_reducible refine (LFG.out _).mono ?_)
                rintro e7 w7 ⟨rfl, q7⟩
                have P7 := below_next P6 P6.size q7
                clear x0 x1 x2 x3 x4 y0 y1 y2 y3 y4
                have b7x := heap_below F6.out P7
                obtain ⟨x0, x1, x2, x3, x4⟩ := fr_cellsx b7x
                have zz7x := heap_lt b7x
                have b7y := heap_below G6.out P7
                obtain ⟨y0, y1, y2, y3, y4⟩ := fr_cellsx b7y
                have zz7y := heap_lt b7y
                go_wp2_with fail
                (with_reducible refine (LGF.out _).mono ?_)
                rintro e8 w8 ⟨rfl, q8⟩
                have P8 := below_next P7 P7.size q8
                clear x0 x1 x2 x3 x4 y0 y1 y2 y3 y4
                have b8x := heap_below F6.out P8
                obtain ⟨x0, x1, x2, x3, x4⟩ := fr_cellsx b8x
                have zz8x := heap_lt b8x
                have b8y := heap_below G6.out P8
                obtain ⟨y0, y1, y2, y3, y4⟩ := fr_cellsx b8y
                have zz8y := heap_lt b8y
                go_wp2_with fail
                (with_reducible refine (LFG.out _).mono ?_)
                rintro e9 w9 ⟨rfl, q9⟩
                have P9 := below_next P8 P8.size q9
                go_wp2_with fail
                go_meet
                exact ⟨rfl, P9⟩
              · rw [h1] at LFG
                rw [h2] at LGF
                clear h1 h2
                go_wp2_with fail
                (with_reducible refine (LFG.out _).mono ?_)
                rintro e7 w7 ⟨rfl, q7⟩
                have P7 := below_next P6 P6.size q7
                clear x0 x1 x2 x3 x4 y0 y1 y2 y3 y4
                have b7x := heap_below F6.out P7
                obtain ⟨x0, x1, x2, x3, x4⟩ := fr_cellsx b7x
                have zz7x := heap_lt b7x
                have b7y := heap_below G6.out P7
                obtain ⟨y0, y1, y2, y3, y4⟩ := fr_cellsx b7y
                have zz7y := heap_lt b7y
                go_wp2_with fail
                (with_reducible refine (LFG.out _).mono ?_)
                rintro e8 w8 ⟨rfl, q8⟩
                have P8 := below_next P7 P7.size q8
                clear x0 x1 x2 x3 x4 y0 y1 y2 y3 y4
                have b8x := heap_below F6.out P8
                obtain ⟨x0, x1, x2, x3, x4⟩ := fr_cellsx b8x
                have zz8x := heap_lt b8x
                have b8y := heap_below G6.out P8
                obtain ⟨y0, y1, y2, y3, y4⟩ := fr_cellsx b8y
                have zz8y := heap_lt b8y
                go_wp2_with fail
                (with_reducible refine (LGF.out _).mono ?_)
                rintro e9 w9 ⟨rfl, q9⟩
                have P9 := below_next P8 P8.size q9
                go_wp2_with fail
                go_meet
                exact ⟨rfl, P9⟩
            case rest =>
              rename World => w7
              obtain ⟨rfl, q7⟩ := hcut
              have S7 := hide (S6.out.below q7)
              have F7 := hide (heap_below F6.out q7)
              have G7 := hide (heap_below G6.out q7)
              have Q7 := below_next Q6 Q6.size q7
              clear S6 F6 G6 Q6 q7 WAYS
              go_wp2_with fail
              go_loopw [80] (fun vk W => ∃ k : Nat, k ≤ n ∧ vk = .int .i64 k ∧ Below w7.heap.size w7 W) (fun vk _ => n - (intOf vk).toNat)
              case atStart => exact ⟨0, Nat.zero_le _, rfl, Below.refl _ _⟩
              case round =>
                rename World => wk
                obtain ⟨k, hk, rfl, qk⟩ := hrel
                by_cases hkl : k < n
                · have hkl2 : k < l.length := by rw [← HN.out]; exact hkl
                  have hki : (k : Int) < (n : Int) := by omega
                  have Sk := hide (S7.out.below qk)
                  obtain ⟨_, e0, e1, e2, e3, e4⟩ := Sk.out.r1.at2 hkl2
                  have hhm := hide (List.getElem_mem hkl2)
                  generalize l[k] = h at *
                  have qe : Below wk.heap.size wk (wk.alloc (.cells #[.int .u32 h.id, .bool h.ext, .bool h.rem, .int .i64 h.dlc, .string h.data] 39)) := (Below.refl _ _).alloc (Nat.le_refl _) _
                  have bF := heap_below F7.out qk
                  have bG := heap_below G7.out qk
                  obtain ⟨x0, x1, x2, x3, x4⟩ := fr_cellsx bF
                  obtain ⟨y0, y1, y2, y3, y4⟩ := fr_cellsx bG
                  have zF := heap_lt bF
                  have zG := heap_lt bG
                  have F8 := hide (heap_below bF qe)
                  have G8 := hide (heap_below bG qe)
                  have H8 := hide (World.alloc_heap_new wk (.cells #[.int .u32 h.id, .bool h.ext, .bool h.rem, .int .i64 h.dlc, .string h.data] 39))
                  have qk8 := below_next qk qk.size qe
                  have LFG := hide (LS.out f g hfm.out hgm.out)
                  have LGH := hide (LS.out g h hgm.out hhm.out)
                  have LFH := hide (LS.out f h hfm.out hhm.out)
                  have TR := hide (less_trans (HG.out f hfm.out) (HG.out g hgm.out) (HG.out h hhm.out))
                  clear qe Sk bF bG
                  go_wp2_with fail
                  generalize hW : wk.alloc (.cells #[.int .u32 h.id, .bool h.ext, .bool h.rem, .int .i64 h.dlc, .string h.data] 39) = w8 at *
                  have zH : wk.heap.size < w8.heap.size := heap_lt H8.out
                  clear hW e0 e1 e2 e3 e4 x0 x1 x2 x3 x4 y0 y1 y2 y3 y4
                  obtain ⟨x0, x1, x2, x3, x4⟩ := fr_cellsx F8.out
                  obtain ⟨y0, y1, y2, y3, y4⟩ := fr_cellsx G8.out
                  obtain ⟨z0, z1, z2, z3, z4⟩ := fr_cellsx H8.out
                  have P8 : Below w8.heap.size w8 w8 := Below.refl _ _
                  rcases h1 : lessB f g with _ | _
                  · rw [h1] at LFG
                    clear h1
                    (with_reducible refine (LFG.out _).mono ?_)
                    rintro e9 w9 ⟨rfl, q9⟩
                    have P9 := below_next P8 P8.size q9
                    go_wp2_with fail
                    go_roundw
                    case rel => exact ⟨k + 1, by omega, by go_num, below_next qk8 qk8.size P9⟩
                    case measure => simp [intOf]; omega
                  · rcases h2 : lessB g h with _ | _
                    · rw [h1] at LFG
                      rw [h2] at LGH
                      clear h1 h2
                      (with_reducible refine (LFG.out _).mono ?_)
                      rintro e9 w9 ⟨rfl, q9⟩
                      have P9 := below_next P8 P8.size q9
                      clear x0 x1 x2 x3 x4 y0 y1 y2 y3 y4 z0 z1 z2 z3 z4
                      have b9x := heap_below F8.out P9
                      obtain ⟨x0, x1, x2, x3, x4⟩ := fr_cellsx b9x
                      have zz9x := heap_lt b9x
                      have b9y := heap_below G8.out P9
                      obtain ⟨y0, y1, y2, y3, y4⟩ := fr_cellsx b9y
                      have zz9y := heap_lt b9y
                      have b9z := heap_below H8.out P9
                      obtain ⟨z0, z1, z2, z3, z4⟩ := fr_cellsx b9z
                      have zz9z := heap_lt b9z
                      go_wp2_with fail
                      (with_reducible refine (LGH.out _).mono ?_)
                      rintro e10 w10 ⟨rfl, q10⟩
                      have P10 := below_next P9 P9.size q10
                      go_wp2_with fail
                      go_roundw
                      case rel => exact ⟨k + 1, by omega, by go_num, below_next qk8 qk8.size P10⟩
                      case measure => simp [intOf]; omega
                    · rw [TR.out h1 h2] at LFH
                      rw [h1] at LFG
                      rw [h2] at LGH
                      clear h1 h2
                      (with_reducible refine (LFG.out _).mono ?_)
                      rintro e9 w9 ⟨rfl, q9⟩
                      have P9 := below_next P8 P8.size q9
                      clear x0 x1 x2 x3 x4 y0 y1 y2 y3 y4 z0 z1 z2 z3 z4
                      have b9x := heap_below F8.out P9
                      obtain ⟨x0, x1, x2, x3, x4⟩ := fr_cellsx b9x
                      have zz9x := heap_lt b9x
                      have b9y := heap_below G8.out P9
                      obtain ⟨y0, y1, y2, y3, y4⟩ := fr_cellsx b9y
                      have zz9y := heap_lt b9y
                      have b9z := heap_below H8.out P9
                      obtain ⟨z0, z1, z2, z3, z4⟩ := fr_cellsx b9z
                      have zz9z := heap_lt b9z
                      go_wp2_with fail
                      (with_reducible refine (LGH.out _).mono ?_)
                      rintro e10 w10 ⟨rfl, q10⟩
                      have P10 := below_next P9 P9.size q10
                      clear x0 x1 x2 x3 x4 y0 y1 y2 y3 y4 z0 z1 z2 z3 z4
                      have b10x := heap_below F8.out P10
                      obtain ⟨x0, x1, x2, x3, x4⟩ := fr_cellsx b10x
                      have zz10x := heap_lt b10x
                      have b10y := heap_below G8.out P10
                      obtain ⟨y0, y1, y2, y3, y4⟩ := fr_cellsx b10y
                      have zz10y := heap_lt b10y
                      have b10z := heap_below H8.out P10
                      obtain ⟨z0, z1, z2, z3, z4⟩ := fr_cellsx b10z
                      have zz10z := heap_lt b10z
                      go_wp2_with fail
                      (with_reducible refine (LFH.out _).mono ?_)
                      rintro e11 w11 ⟨rfl, q11⟩
                      have P11 := below_next P10 P10.size q11
                      go_wp2_with fail
                      go_roundw
                      case rel => exact ⟨k + 1, by omega, by go_num, below_next qk8 qk8.size P11⟩
                      case measure => simp [intOf]; omega
                · obtain rfl : k = n := by omega
                  have Qk := below_next Q7 Q7.size qk
                  go_wp2_with fail
                  go_roundw
                  case rel => exact ⟨j + 1, by omega, by go_num, Qk⟩
                  case measure => simp [intOf]; omega
          · obtain rfl : j = n := by omega
            clear Fc
            go_wp2_with fail
            go_roundw
            case rel => exact ⟨i + 1, by omega, by go_num, Sc⟩
            case measure => simp [intOf]; omega
      · obtain rfl : n = i := by omega
        have S3 := hS
        clear hS
        go_wp2_with fail
        go_loopw [103] (fun vi W => ∃ i : Nat, i ≤ n ∧ vi = .int .i64 i ∧ Hid (PoS w l A1 m A2 W)) (fun vi _ => n - (intOf vi).toNat)
        case atStart => exact ⟨0, Nat.zero_le _, rfl, S3⟩
        case round =>
          rename World => wb
          clear S3
          obtain ⟨p, hp, rfl, hS⟩ := hrel
          by_cases hpl : p < n
          · have hpi : (p : Int) < (n : Int) := by omega
            have hpm : p < m.length := by rw [HML.out]; exact hpl
            go_wp2_with fail
            go_loopw [107] (fun vk W => ∃ k : Nat, k ≤ p ∧ vk = .int .i64 k ∧ Below wb.heap.size wb W) (fun vk _ => p - (intOf vk).toNat)
            case atStart => exact ⟨0, Nat.zero_le _, rfl, Below.refl _ _⟩
            case round =>
              rename World => wc
              obtain ⟨k, hk, rfl, qc⟩ := hrel
              have Sc := hide (hS.out.below qc)
              by_cases hkp : k < p
              · have hkm : k < m.length := by omega
                have hki : (k : Int) < (p : Int) := by omega
                have hkn : (k : Int) < (n : Int) := by omega
                have hk0 : (0 : Int) ≤ (k : Int) := by omega
                have hp0 : (0 : Int) ≤ (p : Int) := by omega
                obtain ⟨g, off, rfl, _⟩ := Sc.out.r2.at_ hpm
                have mp := FrR.all Sc.out.r2 (Nat.le_refl _) hpm
                have mk := FrR.all Sc.out.r2 (Nat.le_refl _) hkm
                have LM := hide (fun s : InW wc => by have := Less_any m[p] m[k] s.W (OI.out _ (List.getElem_mem _)) (OI.out _ (List.getElem_mem _)); rw [OL.out p k hpm hkp] at this; exact this)
                clear Sc
                go_wp2_with fail
                refine wp_region_tame (by kernel_rfl) (by kernel_rfl) ?_
                repeat (go_big_quiet_step (first | (go_at_call 26; exact tame_of (LM.out _))))
                refine wpQuiet_nil ?_
                rintro _ ⟨s, rfl⟩
                have qs := qc.trans (s.h.mono qc.size)
                clear mp mk
                go_wp2_with fail
                go_roundw
                case rel => exact ⟨k + 1, by omega, by go_num, qs⟩
                case measure => simp [intOf]; omega
              · obtain rfl : k = p := by omega
                go_wp2_with fail
                go_roundw
                case rel => exact ⟨k + 1, by omega, by go_num, Sc⟩
                case measure => simp [intOf]; omega
          · obtain rfl : p = n := by omega
            have Q5 := hS.out.q
            clear hS
            go_wp2_with fail
            refine (AL.out _).mono ?_
            rintro e9 w9 ⟨rfl, q9⟩
            have Q9 := below_next Q5 Q5.size q9
            go_wp2_with fail
            go_ret
            exact ⟨rfl, Q9⟩
  · have WE2 := hide (WE.out A1 c1)
    rw [hw] at WE2
    clear hw WY WE
    go_wp2_with fail
    refine (AL.out _).mono ?_
    rintro e3 w3 ⟨rfl, q3⟩
    have S3 := hide (S2.out.below q3)
    clear S2 R12 q3
    go_wp2_with fail
    refine (WE2.out _ S3.out.r1).mono ?_
    rintro e4 w4 ⟨rfl, q4⟩
    have Q4 := below_next S3.out.q S3.out.q.size q4
    clear S3 q4
    go_wp2_with fail
    go_ret
    exact ⟨rfl, Q4⟩
end Go.Proofs.Ytbdgifngldipcaa
