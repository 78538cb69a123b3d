/- BoxOrder. -/
import Derived.Test.YtbdgifngldipcaaBxM
import Derived.Test.YtbdgifngldipcaaHpT
import Derived.Test.YtbdgifngldipcaaOrdL
namespace Go.Proofs.Ytbdgifngldipcaa
open Go.ChangeShapes Go.WideShapes Go.ChangeAt Go.RowKit
open FP (Fr)
open HP (kB at' Hp)
open OP (atF bestTo orderF)

/-- What lies when k frames have been gone through. -/
structure BoR (l : List Fr) (w1 : World) (k : Nat) (Ai : Option Addr) (ci : Nat) (Am : Option Addr) (cm : Nat) (m : List Bx) (W : World) : Prop where
  box : W.heap[w1.heap.size]? = some (.cells #[.slice Am m.length cm, .int .i64 (bsK l k).length, .int .i64 8] 65 (0, 0))
  ownI : Own W (w1.heap.size + 1) 39 5 Ai ci ((bsK l k).map fun x => frc x.f)
  ownM : Own W (w1.heap.size + 1) 70 7 Am cm (m.map bxc)
  q : Below w1.heap.size w1 W
  p : m.Perm (bsK l k)
  h : Hp m 0 m.length

theorem bsK_succ (l : List Fr) (k : Nat) : bsK l (k + 1) = if k < 8 ∧ FP.rightB (cutF (atF l k)) = true then bsK l k ++ [⟨k, cutF (atF l k), (bsK l k).length⟩] else bsK l k := rfl
theorem BoR.below {l : List Fr} {w1 : World} {k : Nat} {Ai : Option Addr} {ci : Nat} {Am : Option Addr} {cm : Nat} {m : List Bx} {W W' : World} (h : BoR l w1 k Ai ci Am cm m W) (hb : Below W.heap.size W W') : BoR l w1 k Ai ci Am cm m W' :=
  ⟨heap_below h.box hb, h.ownI.grown hb, h.ownM.grown hb, below_next h.q h.q.size hb, h.p, h.h⟩
theorem BoR.skip {l : List Fr} {w1 : World} {k : Nat} {Ai : Option Addr} {ci : Nat} {Am : Option Addr} {cm : Nat} {m : List Bx} {W W' : World} (h : BoR l w1 k Ai ci Am cm m W) (hb : Below W.heap.size W W') (e : bsK l (k + 1) = bsK l k) : BoR l w1 (k + 1) Ai ci Am cm m W' := by
  obtain ⟨h1, h2, h3, h4, h5, h6⟩ := h.below hb
  refine ⟨?_, ?_, h3, h4, ?_, h6⟩
  · rw [e]; exact h1
  · rw [e]; exact h2
  · rw [e]; exact h5

theorem frBox_s {W : World} {B : Nat} {f : Fr} {t : TypeId} {fz : Nat × Nat} (h : W.heap[B]? = some (.cells #[.int .u32 f.id, .bool f.ext, .bool f.rem, .int .i64 f.dlc, .string f.data] t fz)) (s : InW W) :
    s.W.cell? ⟨B, 0, none⟩ = some (.int .u32 f.id) ∧ s.W.cell? ⟨B, 1, none⟩ = some (.bool f.ext) ∧ s.W.cell? ⟨B, 2, none⟩ = some (.bool f.rem) ∧ s.W.cell? ⟨B, 3, none⟩ = some (.int .i64 f.dlc) ∧ s.W.cell? ⟨B, 4, none⟩ = some (.string f.data) := by
  have h' := heap_below h s.h
  refine ⟨?_, ?_, ?_, ?_, ?_⟩ <;> simp [World.cell?, h']
theorem bxBox_s {W : World} {B : Nat} {x : Bx} {t : TypeId} {fz : Nat × Nat} (h : W.heap[B]? = some (.cells #[.int .i64 x.h, .int .u32 x.f.id, .bool x.f.ext, .bool x.f.rem, .int .i64 x.f.dlc, .string x.f.data, .int .i64 x.s] t fz)) (s : InW W) :
    s.W.cell? ⟨B, 0, none⟩ = some (.int .i64 x.h) ∧ s.W.cell? ⟨B, 1, none⟩ = some (.int .u32 x.f.id) ∧ s.W.cell? ⟨B, 2, none⟩ = some (.bool x.f.ext) ∧ s.W.cell? ⟨B, 3, none⟩ = some (.bool x.f.rem) ∧ s.W.cell? ⟨B, 4, none⟩ = some (.int .i64 x.f.dlc) ∧ s.W.cell? ⟨B, 5, none⟩ = some (.string x.f.data) ∧ s.W.cell? ⟨B, 6, none⟩ = some (.int .i64 x.s) := by
  have h' := heap_below h s.h
  refine ⟨?_, ?_, ?_, ?_, ?_, ?_, ?_⟩ <;> simp [World.cell?, h']

/-- What lies when j boxes have been taken. -/
structure BoT (p : Bx → Prop) (ins : List Fr) (seq : Int) (w1 : World) (Aw : Option Addr) (j : Nat) (last : Int) (Am : Option Addr) (cm : Nat) (m bs : List Bx) (W : World) : Prop where
  box : W.heap[w1.heap.size]? = some (.cells #[.slice Am m.length cm, .int .i64 seq, .int .i64 8] 65 (0, 0))
  own : Own W (w1.heap.size + 1) 70 7 Am cm (m.map bxc)
  want : FrR W W.heap.size Aw (orderF ins)
  q : Below w1.heap.size w1 W
  t : TkP p ins seq j last m bs

set_option maxRecDepth 100000 in
set_option maxHeartbeats 4000000 in
theorem boxOrder_walk (l : List Fr) (A : Option Addr) (c : Nat) (w : World) (hr : FrR w w.heap.size A l) (hc : l.length ≤ c) (hcm : c ≤ maxLen) (hf : ∀ f ∈ l, f.id < 4294967296 ∧ f.data.size ≤ maxLen) :
    Calls Try.prog 11 #[.slice A l.length c] w fun e w' => e = .returned (.bool true) ∧ Below w.heap.size w w' := by
  have hid : ∀ k, (atF l k).id < 4294967296 := fun k => by
    unfold atF
    rcases h : l[k]? with _ | x
    · simp
    · exact (hf x (List.mem_of_getElem? h)).1
  have HID := hide hid
  have HF := hide hf
  have HR := hide hr
  unfold maxLen at hcm
  clear hid hf hr
  go_enter Try.func11, Try.ntmps11
  go_wp2_with fail
  (with_reducible refine (bxNew_ok 8 (by decide) _).mono ?_)
  rintro e1 w1 ⟨rfl, q1⟩
  go_wp2
  go_loopw [26, 5] (fun vi vin W => ∃ (k : Nat) (Ai : Option Addr) (ci : Nat) (Am : Option Addr) (cm : Nat) (m : List Bx), k ≤ l.length ∧ vi = .int .i64 k ∧ vin = .slice Ai (bsK l k).length ci ∧ Hid (BoR l w1 k Ai ci Am cm m W)) (fun vi _ _ => l.length - (intOf vi).toNat)
  case atStart => exact ⟨0, none, 0, none, 0, [], Nat.zero_le _, rfl, rfl, hide ⟨World.alloc_heap_new w1 _, Own.nil, Own.nil, (Below.refl _ _).alloc (Nat.le_refl _) _, List.Perm.refl _, fun k _ h _ => absurd h (by simp)⟩⟩
  case round =>
    obtain ⟨k, Ai, ci, Am, cm, m, hk, rfl, rfl, hR⟩ := hrel
    by_cases hlt : k < l.length
    · have qw : Below w.heap.size w wr := q1.trans (hR.out.q.mono q1.size)
      obtain ⟨b, off, rfl, hbs, c0, c1, c2, c3, c4⟩ := (FrR.next HR.out qw qw.size).at_ hlt
      have hat := hide (OP.atF_lt hlt)
      have hfk := hide (HF.out _ (List.getElem_mem hlt))
      have hsz : l[k].data.size ≤ 9223372036854775807 := by have := hfk.out.2; unfold maxLen at this; omega
      have RR := hide (fun W => refRight04_any (cutF l[k]) W hfk.out.1)
      obtain ⟨mn, em, hmn⟩ := run_min (P := Try.prog) (l[k].data.size : Int) 12
      obtain ⟨k2, hk2⟩ : ∃ k2 : Nat, k2 = min l[k].data.size 12 := ⟨_, rfl⟩
      have hmk : mn = k2 := by omega
      subst hmk
      have hkl : k2 ≤ l[k].data.size := by omega
      have hcut : cutF l[k] = ⟨l[k].id, l[k].ext, l[k].rem, l[k].dlc, l[k].data.extract 0 k2⟩ := by unfold cutF; rw [hk2]
      have HCUT := hide hcut
      rw [hcut] at RR
      clear hk2 em hcut
      by_cases h8 : k < 8
      · rcases hRt : FP.rightB (⟨l[k].id, l[k].ext, l[k].rem, l[k].dlc, l[k].data.extract 0 k2⟩ : Fr) with _ | _
        · rw [hRt] at RR
          have E := hide (show bsK l (k + 1) = bsK l k by
            rw [bsK_succ, if_neg (by rw [hat.out, HCUT.out, hRt]; simp)])
          clear hRt
          go_wp2_with fail
          (with_reducible refine (RR.out _).mono ?_)
          rintro e2 w2 ⟨rfl, q2⟩
          have N := hide (hR.out.skip (((Below.refl _ _).alloc (Nat.le_refl _) _).trans (q2.mono (by simp))) E.out)
          go_wp2
          go_roundw
          case rel => exact ⟨k + 1, Ai, ci, Am, cm, m, by omega, by go_num, by rw [E.out], N⟩
          case measure => simp [intOf]; omega
        · rw [hRt] at RR
          go_wp2_with fail
          (with_reducible refine (RR.out _).mono ?_)
          rintro e2 w2 ⟨rfl, q2⟩
          have b2 : Below wr.heap.size wr w2 := ((Below.refl _ _).alloc (Nat.le_refl _) _).trans (q2.mono (by simp))
          have R2 := hide (hR.out.below b2)
          obtain ⟨x0, x1, x2⟩ := three_cells R2.out.box
          obtain ⟨hc2, hz2⟩ := bcell q2
          have z2 : wr.heap.size < w2.heap.size := by simp at hz2; omega
          have hbl := bsK_len l k
          have hml := R2.out.p.length_eq
          have PU := hide (fun W (q : Below w2.heap.size w2 W) => put_ok m Am cm (bsK l k).length 8 k ⟨l[k].id, l[k].ext, l[k].rem, l[k].dlc, l[k].data.extract 0 k2⟩ W (R2.out.ownM.grown q |>.rd (bxc_rows m)) (by have := R2.out.ownM.le; simpa using this)
            (fun x hx => (bsK_mem l HID.out k x (R2.out.p.mem_iff.1 hx)).2) hfk.out.1 (bsK_right HID.out R2.out.p R2.out.h) (by omega) (by omega) hRt (by omega) (by omega))
          have HRT := hide hRt
          clear hRt hml
          go_wp2_with fail
          (with_reducible refine (PU.out _ (Below.refl _ _)).mono ?_)
          rintro e3 w3 ⟨A3, c3, m3, rfl, o3, p3, h3, q3⟩
          have F7 := World.alloc_heap_new wr (.cells #[.int .u32 l[k].id, .bool l[k].ext, .bool l[k].rem, .int .i64 l[k].dlc, .string (l[k].data.extract 0 k2)] 39)
          have G7 := heap_below (heap_below F7 q2) q3
          have BX3 := heap_below R2.out.box q3
          have OI3 := R2.out.ownI.grown q3
          have qq3 := below_next R2.out.q R2.out.q.size q3
          have zz : w1.heap.size < w2.heap.size := heap_lt R2.out.box
          have zz3 : w2.heap.size ≤ w3.heap.size := q3.size
          go_wp2_with fail
          have q4 : Below w3.heap.size w3 (w3.alloc (.cells #[.slice A3 m3.length c3, .int .i64 (((bsK l k).length : Int) + 1), .int .i64 8] 65)).drew := ((Below.refl _ _).alloc (Nat.le_refl _) _).drew
          have G8 : (w3.alloc (.cells #[.slice A3 m3.length c3, .int .i64 (((bsK l k).length : Int) + 1), .int .i64 8] 65)).drew.heap[w3.heap.size]? = some (.cells #[.slice A3 m3.length c3, .int .i64 (((bsK l k).length : Int) + 1), .int .i64 8] 65 (0, 0)) := World.alloc_heap_new w3 _
          replace G7 := heap_below G7 q4
          replace BX3 := heap_below BX3 q4
          replace OI3 := OI3.grown q4
          replace o3 := o3.grown q4
          replace qq3 := below_next qq3 qq3.size q4
          have zz4 : w3.heap.size < (w3.alloc (.cells #[.slice A3 m3.length c3, .int .i64 (((bsK l k).length : Int) + 1), .int .i64 8] 65)).drew.heap.size := heap_lt G8
          refine wp_region_L [0, 1, 2] [(0, fun W => W.heap[w3.heap.size]? = some (.cells #[.slice A3 m3.length c3, .int .i64 (((bsK l k).length : Int) + 1), .int .i64 8] 65 (0, 0))), (2, fun W => W.heap[wr.heap.size]? = some (.cells #[.int .u32 l[k].id, .bool l[k].ext, .bool l[k].rem, .int .i64 l[k].dlc, .string (l[k].data.extract 0 k2)] 39 (0, 0)))] (by kernel_rfl) ?_
          generalize (w3.alloc (.cells #[.slice A3 m3.length c3, .int .i64 (((bsK l k).length : Int) + 1), .int .i64 8] 65)).drew = W4 at *
          clear hc2 hz2 q4 x0 x1 x2 F7
          refine wpAnyL_load (i := 0) (v := .agg #[.slice A3 m3.length c3, .int .i64 (((bsK l k).length : Int) + 1), .int .i64 8]) rfl rfl (by kernel_rfl) (by kernel_rfl) (by kernel_rfl) (by kernel_rfl) (by kernel_rfl) (fun _ _ _ h => h) rfl (fun W h => exec_heap W w3.heap.size 65 _ _ h Try.underlying65 rfl (by kernel_rfl) _ _ (.tmp 8) (by rfl) (by rfl)) (G8) ?_
          refine wpAnyL_pure (i := 1) (v := .slice Ai (bsK l k).length ci) rfl rfl (by kernel_rfl) (by kernel_rfl) (by kernel_rfl) (by kernel_rfl) (by kernel_rfl) (fun _ _ _ h => h) rfl (fun _ => rfl) ?_
          refine wpAnyL_load (i := 2) (v := .agg #[.int .u32 l[k].id, .bool l[k].ext, .bool l[k].rem, .int .i64 l[k].dlc, .string (l[k].data.extract 0 k2)]) rfl rfl (by kernel_rfl) (by kernel_rfl) (by kernel_rfl) (by kernel_rfl) (by kernel_rfl) (fun _ _ _ h => h) rfl (fun W h => exec_heap W wr.heap.size 39 _ _ h Try.underlying39 rfl (by kernel_rfl) _ _ (.tmp 7) (by rfl) (by rfl)) (G7) ?_
          replace G8 := hide G8
          replace G7 := hide G7
          replace BX3 := hide BX3
          replace OI3 := hide OI3
          replace o3 := hide o3
          replace qq3 := hide qq3
          go_simp
          refine wpAnyL_one (i := 3) (by kernel_rfl) ?_
          refine wpOp_do rfl rfl ?_
          go_simp
          have qa : Below W4.heap.size W4 (W4.alloc (.cells #[.int .u32 l[k].id, .bool l[k].ext, .bool l[k].rem, .int .i64 l[k].dlc, .string (l[k].data.extract 0 k2)] 39)) := (Below.refl _ _).alloc (Nat.le_refl _) _
          have F5 := hide (World.alloc_heap_new W4 (.cells #[.int .u32 l[k].id, .bool l[k].ext, .bool l[k].rem, .int .i64 l[k].dlc, .string (l[k].data.extract 0 k2)] 39))
          replace G8 := hide (heap_below G8.out qa)
          replace G7 := hide (heap_below G7.out qa)
          replace BX3 := hide (heap_below BX3.out qa)
          replace OI3 := hide (OI3.out.grown qa)
          replace o3 := hide (o3.out.grown qa)
          replace qq3 := hide (below_next qq3.out qq3.out.size qa)
          have zz5 : W4.heap.size ≤ (W4.alloc (.cells #[.int .u32 l[k].id, .bool l[k].ext, .bool l[k].rem, .int .i64 l[k].dlc, .string (l[k].data.extract 0 k2)] 39)).heap.size := qa.size
          clear qa
          generalize W4.heap.size = x5 at *
          generalize W4.alloc (.cells #[.int .u32 l[k].id, .bool l[k].ext, .bool l[k].rem, .int .i64 l[k].dlc, .string (l[k].data.extract 0 k2)] 39) = W5 at *
          refine ⟨keepsL_mk (by kernel_rfl) (.cons G8.out (.past (by kernel_rfl) .nil)), ?_⟩
          go_simp
          refine wpAnyL_one (i := 4) (by kernel_rfl) ?_
          refine wpOp_at rfl ?_
          refine step_append_rows _ rfl _ _ 50 rfl slFrame (w1.heap.size + 1) _ _ _ ((bsK l k).map fun x => frc x.f) rfl OI3.out _ _ _ [[.int .u32 l[k].id, .bool l[k].ext, .bool l[k].rem, .int .i64 l[k].dlc, .string (l[k].data.extract 0 k2)]] rfl ?d1 (by simp) (by simp [Value.oneCell']) ?e1 ?e2 ?e3 ?e4 ?e5 ?_
          case d1 => exact rd_row (cs := [.int .u32 l[k].id, .bool l[k].ext, .bool l[k].rem, .int .i64 l[k].dlc, .string (l[k].data.extract 0 k2)]) F5.out
          case e1 => simp; omega
          case e2 => simp [maxLen]; omega
          case e3 => omega
          case e4 => simp
          case e5 => rfl
          intro A6 c6 W6 o6 g6
          replace G8 := hide (heap_grown G8.out (by decide) OI3.out g6)
          replace BX3 := hide (heap_grown BX3.out (by decide) OI3.out g6)
          replace o3 := hide (own_apartT o3.out OI3.out (by decide) g6)
          replace qq3 := hide (below_append qq3.out g6 OI3.out (by omega) (by omega))
          have O6 := hide o6
          clear o6 g6 OI3 F5 G7
          refine ⟨keepsL_mk (by kernel_rfl) (.cons G8.out (.past (by kernel_rfl) .nil)), ?_⟩
          go_simp
          refine wpAnyL_one (i := 5) (by kernel_rfl) ?_
          refine wpOp_do rfl rfl ?_
          refine wp_store_as 65 (.tmp 3) (.tmp 55) rfl w1.heap.size 0 [.slice A3 m3.length c3, .int .i64 (((bsK l k).length : Int) + 1), .int .i64 8] (by rfl) (by rfl) (show W6.there w1.heap.size 0 3 from there_heap (cs := [.slice Am m.length cm, .int .i64 (bsK l k).length, .int .i64 8]) BX3.out) (by kernel_rfl) (by simp [Value.oneCell']) ?_
          intro W7 e7
          have BX7 := whole_heap [.slice A3 m3.length c3, .int .i64 (((bsK l k).length : Int) + 1), .int .i64 8] (xs := [_, _, _]) BX3.out rfl
          have o7 := own_setCells (x := w1.heap.size) (by omega) [.slice A3 m3.length c3, .int .i64 (((bsK l k).length : Int) + 1), .int .i64 8] 0 _ o3.out
          have i7 := own_setCells (x := w1.heap.size) (by omega) [.slice A3 m3.length c3, .int .i64 (((bsK l k).length : Int) + 1), .int .i64 8] 0 _ O6.out
          have q7 := qq3.out.trans (below_setCells (g := w1.heap.size) [.slice A3 m3.length c3, .int .i64 (((bsK l k).length : Int) + 1), .int .i64 8] 0 W6 (Nat.le_refl _))
          rw [← e7] at BX7 o7 i7 q7
          have EB := hide (show bsK l (k + 1) = bsK l k ++ [⟨k, ⟨l[k].id, l[k].ext, l[k].rem, l[k].dlc, l[k].data.extract 0 k2⟩, (bsK l k).length⟩] by
            rw [bsK_succ, hat.out, HCUT.out, if_pos ⟨h8, HRT.out⟩])
          have NEXT := hide (show BoR l w1 (k + 1) A6 c6 A3 c3 m3 W7 from by
            refine ⟨?_, ?_, o7.mono (by omega), q7, ?_, h3⟩
            · rw [EB.out, List.length_append, List.length_singleton]; exact BX7
            · rw [EB.out, List.map_append]; exact i7
            · rw [EB.out]; exact p3.trans (List.Perm.append_right _ R2.out.p))
          have NL := hide (show (bsK l k).length + 1 = (bsK l (k + 1)).length by rw [EB.out]; simp)
          refine ⟨keepsL_all (by kernel_rfl) (by kernel_rfl), ?_⟩
          clear BX7 o7 i7 q7 e7 BX3 o3 O6 qq3 G8
          go_simp
          refine wpAnyL_one (i := 6) (by kernel_rfl) ?_
          refine wpOp_do rfl rfl ?_
          go_simp
          refine ⟨keepsL_all (by kernel_rfl) (by kernel_rfl), ?_⟩
          refine wpAnyL_done (by kernel_rfl) ?_ _
          go_wp2
          go_roundw
          case rel => exact ⟨k + 1, A6, c6, A3, c3, m3, by omega, by go_num, by rw [NL.out], NEXT⟩
          case measure => simp [intOf]; omega
      · have E := hide (show bsK l (k + 1) = bsK l k by
          rw [bsK_succ, if_neg (by omega)])
        have h8' : (8 : Int) ≤ (k : Int) := by omega
        clear RR HCUT hat hfk
        go_wp2_with fail
        go_roundw
        case rel => exact ⟨k + 1, Ai, ci, Am, cm, m, by omega, by go_num, by rw [E.out], hide (hR.out.skip ((Below.refl _ _).alloc (Nat.le_refl _) _) E.out)⟩
        case measure => simp [intOf]; omega
    · obtain rfl : k = l.length := by omega
      obtain ⟨bs, hbs⟩ : ∃ bs, bs = bsK l l.length := ⟨_, rfl⟩
      have hbl := bsK_len l l.length
      have hT0 := hide (show TkP (fun _ => True) (bs.map (·.f)) bs.length 0 (-1) m bs from by
        rw [hbs]
        exact ⟨hR.out.p, hR.out.h, bsK_inc l HID.out _, fun x hx => ⟨(bsK_mem l HID.out _ x hx).1, (bsK_mem l HID.out _ x hx).2, trivial⟩, by omega, by omega, by omega, rfl, fun h => absurd h (by omega)⟩)
      have HI := hide hR.out.ownI
      have HM := hide hR.out.ownM
      have HB := hide hR.out.box
      have HQ1 := hide hR.out.q
      rw [← hbs] at HI HB hbl ⊢
      have OR := hide (fun W (q : Below wr.heap.size wr W) => by
        have := refOrder_any (bs.map (·.f)) Ai ci W (by have := (HI.out.grown q).rd (sz := 5) (by intro r hr; obtain ⟨x, _, rfl⟩ := List.mem_map.1 hr; rfl); unfold FrR; rw [List.map_map]; exact this) (by rw [List.length_map]; omega) (by
          intro f hf
          obtain ⟨x, hx, rfl⟩ := List.mem_map.1 hf
          exact ⟨(hT0.out.ok x hx).1.1, (hT0.out.ok x hx).2.1⟩)
        rw [List.length_map] at this
        exact this)
      have HGD := hide (show ∀ f ∈ orderF (bs.map (·.f)), FP.rightB f = true from fun f hf => by
        obtain ⟨x, hx, rfl⟩ := List.mem_map.1 ((OP.orderF_perm _).mem_iff.1 hf)
        exact (hT0.out.ok x hx).1.1)
      obtain ⟨n, hn⟩ : ∃ n, n = (orderF (bs.map (·.f))).length := ⟨_, rfl⟩
      have hnb : n = bs.length := by rw [hn, OP.orderF_len, List.length_map]
      have hn8 : n ≤ 8 := by omega
      have HN := hide hn
      have HNB := hide hnb
      have HBS := hide hbs
      have BL := hide hbl
      clear hR hn hnb hbs hbl hlt hk
      go_wp2_with fail
      (with_reducible refine (OR.out _ (Below.refl _ _)).mono ?_)
      rintro e2 w2 ⟨Aw, cw, rfl, rW, hcw, hgw, q2⟩
      have HW := hide rW
      have HG := hide hgw
      have HB2 := hide (heap_below HB.out q2)
      have HM2 := hide (HM.out.grown q2)
      have HQ2 := hide (below_next HQ1.out HQ1.out.size q2)
      have zz2 : w1.heap.size < wr.heap.size := heap_lt HB.out
      have HZ := hide zz2
      rw [← HN.out] at hcw ⊢
      clear rW hgw q2 OR zz2
      go_wp2
      go_loopw [65, 11] (fun vi vl W => ∃ (j : Nat) (last : Int) (Am : Option Addr) (cm : Nat) (m bs' : List Bx), j ≤ n ∧ vi = .int .i64 j ∧ vl = .int .i64 last ∧ Hid (BoT (fun _ => True) (bs.map (·.f)) bs.length w1 Aw j last Am cm m bs' W)) (fun vi _ _ => n - (intOf vi).toNat)
      case atStart => exact ⟨0, -1, Am, cm, m, bs, Nat.zero_le _, rfl, rfl, hide ⟨HB2.out, HM2.out, HW.out, HQ2.out, hT0.out⟩⟩
      case round =>
        clear HB2 HM2 HQ2 hT0 HI HM HB HQ1
        obtain ⟨j, last, Am, cm, m, bs', hj, rfl, rfl, hR⟩ := hrel
        by_cases hlt : j < n
        · have hjl : j < (orderF (bs.map (·.f))).length := by rw [← HN.out]; exact hlt
          obtain ⟨b, off, rfl, hbs, c0, c1, c2, c3, c4⟩ := hR.out.want.at_ hjl
          have zz : w1.heap.size < wr.heap.size := heap_lt hR.out.box
          obtain ⟨x0, x1, x2⟩ := three_cells hR.out.box
          have hml : m.length = n - j := by rw [HN.out]; exact hR.out.t.mlen
          have TK := hide (fun W (q : Below wr.heap.size wr W) => take_ok m Am cm bs.length 8 W ((hR.out.own.grown q).rd (bxc_rows m)) (by have := hR.out.own.le; simpa using this) hR.out.t.id hR.out.t.right (by omega))
          have HML := hide hml
          clear hml
          go_wp2_with fail
          (with_reducible refine (TK.out _ ((Below.refl _ _).alloc (Nat.le_refl _) _)).mono ?_)
          rintro e3 w3 ⟨A3, k3, m3, rfl, o3, p3, h3, q3⟩
          obtain ⟨ef, _, hlast, tn⟩ := hR.out.t.step hjl p3 h3
          have hgF : FP.rightB (orderF (bs.map (·.f)))[j] = true := HGD.out _ (List.getElem_mem hjl)
          have F13 := heap_below (World.alloc_heap_new wr (.cells #[.int .u32 (orderF (bs.map (·.f)))[j].id, .bool (orderF (bs.map (·.f)))[j].ext, .bool (orderF (bs.map (·.f)))[j].rem, .int .i64 (orderF (bs.map (·.f)))[j].dlc, .string (orderF (bs.map (·.f)))[j].data] 39)) q3
          have hat := OP.atF_lt hjl
          have qa : Below wr.heap.size wr (wr.alloc (.cells #[.int .u32 (orderF (bs.map (·.f)))[j].id, .bool (orderF (bs.map (·.f)))[j].ext, .bool (orderF (bs.map (·.f)))[j].rem, .int .i64 (orderF (bs.map (·.f)))[j].dlc, .string (orderF (bs.map (·.f)))[j].data] 39)) := (Below.refl _ _).alloc (Nat.le_refl _) _
          have BX3 := heap_below (heap_below hR.out.box qa) q3
          have RW3 := FrR.next (FrR.next hR.out.want qa (by simp)) q3 q3.size
          have QQ3 := below_next (below_next hR.out.q hR.out.q.size qa) (by have := hR.out.q.size; simp; omega) q3
          replace o3 := o3.mono (show w1.heap.size + 1 ≤ _ by simp; omega)
          have zz3 : wr.heap.size < w3.heap.size := heap_lt F13
          clear qa TK
          generalize hF : (orderF (bs.map (·.f)))[j] = F at *
          generalize at' m 0 = y at *
          obtain ⟨yh, yf, ys⟩ := y
          dsimp only at ef
          subst ef
          obtain ⟨fid, fext, frem, fdlc, fdat⟩ := yf
          dsimp only at *
          go_wp2_with fail
          have B15 := World.alloc_heap_new (w3.alloc (.cells #[.slice A3 m3.length k3, .int .i64 (bs.length : Int), .int .i64 8] 65)) (.cells #[.int .i64 yh, .int .u32 fid, .bool fext, .bool frem, .int .i64 fdlc, .string fdat, .int .i64 ys] 70)
          have B14 := heap_below (World.alloc_heap_new w3 (.cells #[.slice A3 m3.length k3, .int .i64 (bs.length : Int), .int .i64 8] 65)) ((Below.refl _ _).alloc (Nat.le_refl _) (.cells #[.int .i64 yh, .int .u32 fid, .bool fext, .bool frem, .int .i64 fdlc, .string fdat, .int .i64 ys] 70))
          have hs1 : (w3.alloc (.cells #[.slice A3 m3.length k3, .int .i64 (bs.length : Int), .int .i64 8] 65)).heap.size = w3.heap.size + 1 := by simp
          rw [hs1] at B15
          clear hs1
          have qx : Below w3.heap.size w3 ((w3.alloc (.cells #[.slice A3 m3.length k3, .int .i64 (bs.length : Int), .int .i64 8] 65)).alloc (.cells #[.int .i64 yh, .int .u32 fid, .bool fext, .bool frem, .int .i64 fdlc, .string fdat, .int .i64 ys] 70)) := ((Below.refl _ _).alloc (Nat.le_refl _) _).alloc (by simp) _
          replace BX3 := hide (heap_below BX3 qx)
          replace F13 := hide (heap_below F13 qx)
          replace RW3 := hide (RW3.next qx qx.size)
          replace QQ3 := hide (below_next QQ3 QQ3.size qx)
          replace o3 := hide (o3.grown qx)
          replace B14 := hide B14
          replace B15 := hide B15
          clear qx q3 c0 c1 c2 c3 c4 x0 x1 x2 hR
          generalize (w3.alloc (.cells #[.slice A3 m3.length k3, .int .i64 (bs.length : Int), .int .i64 8] 65)).alloc (.cells #[.int .i64 yh, .int .u32 fid, .bool fext, .bool frem, .int .i64 fdlc, .string fdat, .int .i64 ys] 70) = W4 at *
          have z15 : w3.heap.size + 1 < W4.heap.size := heap_lt B15.out
          have z13 : wr.heap.size < W4.heap.size := heap_lt F13.out
          have m13 := fun s : InW W4 => frBox_s (f := ⟨fid, fext, frem, fdlc, fdat⟩) F13.out s
          have m15 := fun s : InW W4 => bxBox_s (x := ⟨yh, ⟨fid, fext, frem, fdlc, fdat⟩, ys⟩) B15.out s
          have FR := hide (fun W => refField_any ⟨fid, fext, frem, fdlc, fdat⟩ W hgF)
          have HL := hide hlast
          have TN := hide tn
          clear hlast tn hgF
          by_cases hj0 : j = 0
          · have hd : decide ((0 : Int) < (j : Int)) = false := by rw [decide_eq_false_iff_not]; omega
            have hd' : decide (0 < j) = false := by rw [decide_eq_false_iff_not]; omega
            clear hj0
            refine wp_region_tame (by kernel_rfl) (by kernel_rfl) ?_
            repeat (go_big_quiet_step (fail))
            refine wpQuiet_nil ?_
            rintro _ ⟨s, rfl⟩
            obtain ⟨W5, q5⟩ := s
            dsimp only
            clear m13 m15
            have z5 : W4.heap.size ≤ W5.heap.size := q5.size
            have B14 := heap_below B14.out q5
            have B15 := heap_below B15.out q5
            have BX5 := heap_below BX3.out q5
            have o5 := hide (o3.out.grown q5)
            have r5 := hide (RW3.out.next q5 q5.size)
            have Q5 := hide (below_next QQ3.out QQ3.out.size q5)
            replace B14 := hide B14
            replace B15 := hide B15
            replace BX5 := hide BX5
            clear q5
            go_wp2_with fail
            refine wp_region_L [0, 1, 2] [(0, fun W => W.heap[w3.heap.size]? = some (.cells #[.slice A3 m3.length k3, .int .i64 (bs.length : Int), .int .i64 8] 65 (0, 0))), (2, fun W => W.heap[w3.heap.size + 1]? = some (.cells #[.int .i64 yh, .int .u32 fid, .bool fext, .bool frem, .int .i64 fdlc, .string fdat, .int .i64 ys] 70 (0, 0)))] (by kernel_rfl) ?_
            replace B14 : Hid (W5.drew.heap[w3.heap.size]? = _) := B14
            replace B15 : Hid (W5.drew.heap[w3.heap.size + 1]? = _) := B15
            replace BX5 : Hid (W5.drew.heap[w1.heap.size]? = _) := BX5
            replace o5 : Hid (Own W5.drew _ _ _ _ _ _) := o5
            replace r5 : Hid (FrR W5.drew W5.drew.heap.size _ _) := r5
            replace Q5 : Hid (Below w1.heap.size w1 W5.drew) := hide Q5.out.drew
            generalize W5.drew = W6 at *
            refine wpAnyL_load (i := 0) (v := .agg #[.slice A3 m3.length k3, .int .i64 (bs.length : Int), .int .i64 8]) rfl rfl (by kernel_rfl) (by kernel_rfl) (by kernel_rfl) (by kernel_rfl) (by kernel_rfl) (fun _ _ _ h => h) rfl (fun W h => exec_heap W w3.heap.size 65 _ _ h Try.underlying65 rfl (by kernel_rfl) _ _ (.tmp 14) (by rfl) (by rfl)) (B14.out) ?_
            refine wpAnyL_pure (i := 1) (v := .pointer (some ⟨w3.heap.size + 1, 6, none⟩)) rfl rfl (by kernel_rfl) (by kernel_rfl) (by kernel_rfl) (by kernel_rfl) (by kernel_rfl) (fun _ _ _ h => h) rfl (fun W => by go_simp) ?_
            go_simp
            refine wpAnyL_load (i := 2) (v := .int .i64 ys) rfl rfl (by kernel_rfl) (by kernel_rfl) (by kernel_rfl) (by kernel_rfl) (by kernel_rfl) (fun _ _ _ h => h) rfl (fun W h => by (have hc : W.cell? ⟨w3.heap.size + 1, 6, none⟩ = some (.int .i64 ys) := by simp [World.cell?, h]); clear h; go_simp) (B15.out) ?_
            go_simp
            refine wpAnyL_one (i := 3) (by kernel_rfl) ?_
            refine wpOp_do rfl rfl ?_
            refine wp_store_as 65 (.tmp 3) (.tmp 105) rfl w1.heap.size 0 [.slice A3 m3.length k3, .int .i64 (bs.length : Int), .int .i64 8] (by rfl) (by rfl) (show W6.there w1.heap.size 0 3 from there_heap (cs := [_, _, _]) BX5.out) (by kernel_rfl) (by simp [Value.oneCell']) ?_
            intro W7 e7
            have BX7 := whole_heap [.slice A3 m3.length k3, .int .i64 (bs.length : Int), .int .i64 8] (xs := [_, _, _]) BX5.out rfl
            have B15' := other_heap (b := w1.heap.size) (x := w3.heap.size + 1) (by omega) [.slice A3 m3.length k3, .int .i64 (bs.length : Int), .int .i64 8] 0 _ B15.out
            have o7 := own_setCells (x := w1.heap.size) (by omega) [.slice A3 m3.length k3, .int .i64 (bs.length : Int), .int .i64 8] 0 _ o5.out
            have r7 := rd_setCells (x := w1.heap.size) (fun g off' e => by have h1 := HG.out g off' e; have h2 := HZ.out; omega) [.slice A3 m3.length k3, .int .i64 (bs.length : Int), .int .i64 8] 0 _ r5.out
            have q7 := Q5.out.trans (below_setCells (g := w1.heap.size) [.slice A3 m3.length k3, .int .i64 (bs.length : Int), .int .i64 8] 0 W6 (Nat.le_refl _))
            rw [← e7] at BX7 B15' o7 r7 q7
            have NEXT := hide (show BoT (fun _ => True) (bs.map (·.f)) bs.length w1 (some ⟨b, off, none⟩) (j + 1) ys A3 k3 m3 (restB bs') W7 from ⟨BX7, o7, r7, q7, TN.out⟩)
            refine ⟨keepsL_mk (by kernel_rfl) (.past (by kernel_rfl) (.cons B15' .nil)), ?_⟩
            clear BX7 B15' o7 r7 q7 e7 BX5 o5 r5 Q5 B14 B15
            go_simp
            refine wpAnyL_one (i := 4) (by kernel_rfl) ?_
            refine wpOp_do rfl rfl ?_
            go_simp
            refine ⟨keepsL_all (by kernel_rfl) (by kernel_rfl), ?_⟩
            refine wpAnyL_done (by kernel_rfl) ?_ _
            go_wp2
            go_roundw
            case rel => exact ⟨j + 1, ys, A3, k3, m3, restB bs', by omega, by go_num, rfl, NEXT⟩
            case measure => simp [intOf]; omega
          · have hd : decide ((0 : Int) < (j : Int)) = true := by rw [decide_eq_true_eq]; omega
            have hd' : decide (0 < j) = true := by rw [decide_eq_true_eq]; omega
            have h0j : 0 < j := by omega
            obtain ⟨p, hp⟩ : ∃ p : Nat, p = j - 1 := ⟨_, rfl⟩
            have hpl : p < (orderF (bs.map (·.f))).length := by omega
            have hfe := HL.out h0j
            rw [← hp, OP.atF_lt hpl] at hfe
            have hw1 : IntKind.i64.wrap ((j : Int) - 1) = (p : Int) := by rw [IntWalk.i64_in _ (by omega)]; omega
            have hpi : (p : Int) < (n : Int) := by omega
            have hp0 : (0 : Int) ≤ (p : Int) := by omega
            have hpg := HGD.out _ (List.getElem_mem hpl)
            have mp := fun s : InW W4 => FrR.all RW3.out (Nat.le_refl _) hpl s
            generalize (orderF (bs.map (·.f)))[p] = G at *
            have FG := hide (fun W => refField_any G W hpg)
            obtain ⟨gid, gext, grem, gdlc, gdat⟩ := G
            dsimp only at mp FG
            by_cases he : fieldF ⟨gid, gext, grem, gdlc, gdat⟩ = fieldF ⟨fid, fext, frem, fdlc, fdat⟩
            · have hls := hfe he
              have hs : fstr ⟨gid, gext, grem, gdlc, gdat⟩ = fstr ⟨fid, fext, frem, fdlc, fdat⟩ := by unfold fstr; rw [he]
              rw [hs] at FG
              generalize fstr ⟨fid, fext, frem, fdlc, fdat⟩ = S at *
              have hle : decide (ys ≤ last) = false := by rw [decide_eq_false_iff_not]; omega
              clear hfe he hs hpg hp hj0
              refine wp_region_tame (by kernel_rfl) (by kernel_rfl) ?_
              repeat (go_big_quiet_step (first | (go_at_call 32; with_reducible exact tame_of (FG.out _)) | (go_at_call 32; with_reducible exact tame_of (FR.out _))))
              refine wpQuiet_nil ?_
              rintro _ ⟨s, rfl⟩
              obtain ⟨W5, q5⟩ := s
              dsimp only
              clear m13 m15
              have z5 : W4.heap.size ≤ W5.heap.size := q5.size
              have B14 := heap_below B14.out q5
              have B15 := heap_below B15.out q5
              have BX5 := heap_below BX3.out q5
              have o5 := hide (o3.out.grown q5)
              have r5 := hide (RW3.out.next q5 q5.size)
              have Q5 := hide (below_next QQ3.out QQ3.out.size q5)
              replace B14 := hide B14
              replace B15 := hide B15
              replace BX5 := hide BX5
              clear q5
              go_wp2_with fail
              refine wp_region_L [0, 1, 2] [(0, fun W => W.heap[w3.heap.size]? = some (.cells #[.slice A3 m3.length k3, .int .i64 (bs.length : Int), .int .i64 8] 65 (0, 0))), (2, fun W => W.heap[w3.heap.size + 1]? = some (.cells #[.int .i64 yh, .int .u32 fid, .bool fext, .bool frem, .int .i64 fdlc, .string fdat, .int .i64 ys] 70 (0, 0)))] (by kernel_rfl) ?_
              replace B14 : Hid (W5.drew.heap[w3.heap.size]? = _) := B14
              replace B15 : Hid (W5.drew.heap[w3.heap.size + 1]? = _) := B15
              replace BX5 : Hid (W5.drew.heap[w1.heap.size]? = _) := BX5
              replace o5 : Hid (Own W5.drew _ _ _ _ _ _) := o5
              replace r5 : Hid (FrR W5.drew W5.drew.heap.size _ _) := r5
              replace Q5 : Hid (Below w1.heap.size w1 W5.drew) := hide Q5.out.drew
              generalize W5.drew = W6 at *
              refine wpAnyL_load (i := 0) (v := .agg #[.slice A3 m3.length k3, .int .i64 (bs.length : Int), .int .i64 8]) rfl rfl (by kernel_rfl) (by kernel_rfl) (by kernel_rfl) (by kernel_rfl) (by kernel_rfl) (fun _ _ _ h => h) rfl (fun W h => exec_heap W w3.heap.size 65 _ _ h Try.underlying65 rfl (by kernel_rfl) _ _ (.tmp 14) (by rfl) (by rfl)) (B14.out) ?_
              refine wpAnyL_pure (i := 1) (v := .pointer (some ⟨w3.heap.size + 1, 6, none⟩)) rfl rfl (by kernel_rfl) (by kernel_rfl) (by kernel_rfl) (by kernel_rfl) (by kernel_rfl) (fun _ _ _ h => h) rfl (fun W => by go_simp) ?_
              go_simp
              refine wpAnyL_load (i := 2) (v := .int .i64 ys) rfl rfl (by kernel_rfl) (by kernel_rfl) (by kernel_rfl) (by kernel_rfl) (by kernel_rfl) (fun _ _ _ h => h) rfl (fun W h => by (have hc : W.cell? ⟨w3.heap.size + 1, 6, none⟩ = some (.int .i64 ys) := by simp [World.cell?, h]); clear h; go_simp) (B15.out) ?_
              go_simp
              refine wpAnyL_one (i := 3) (by kernel_rfl) ?_
              refine wpOp_do rfl rfl ?_
              refine wp_store_as 65 (.tmp 3) (.tmp 105) rfl w1.heap.size 0 [.slice A3 m3.length k3, .int .i64 (bs.length : Int), .int .i64 8] (by rfl) (by rfl) (show W6.there w1.heap.size 0 3 from there_heap (cs := [_, _, _]) BX5.out) (by kernel_rfl) (by simp [Value.oneCell']) ?_
              intro W7 e7
              have BX7 := whole_heap [.slice A3 m3.length k3, .int .i64 (bs.length : Int), .int .i64 8] (xs := [_, _, _]) BX5.out rfl
              have B15' := other_heap (b := w1.heap.size) (x := w3.heap.size + 1) (by omega) [.slice A3 m3.length k3, .int .i64 (bs.length : Int), .int .i64 8] 0 _ B15.out
              have o7 := own_setCells (x := w1.heap.size) (by omega) [.slice A3 m3.length k3, .int .i64 (bs.length : Int), .int .i64 8] 0 _ o5.out
              have r7 := rd_setCells (x := w1.heap.size) (fun g off' e => by have h1 := HG.out g off' e; have h2 := HZ.out; omega) [.slice A3 m3.length k3, .int .i64 (bs.length : Int), .int .i64 8] 0 _ r5.out
              have q7 := Q5.out.trans (below_setCells (g := w1.heap.size) [.slice A3 m3.length k3, .int .i64 (bs.length : Int), .int .i64 8] 0 W6 (Nat.le_refl _))
              rw [← e7] at BX7 B15' o7 r7 q7
              have NEXT := hide (show BoT (fun _ => True) (bs.map (·.f)) bs.length w1 (some ⟨b, off, none⟩) (j + 1) ys A3 k3 m3 (restB bs') W7 from ⟨BX7, o7, r7, q7, TN.out⟩)
              refine ⟨keepsL_mk (by kernel_rfl) (.past (by kernel_rfl) (.cons B15' .nil)), ?_⟩
              clear BX7 B15' o7 r7 q7 e7 BX5 o5 r5 Q5 B14 B15
              go_simp
              refine wpAnyL_one (i := 4) (by kernel_rfl) ?_
              refine wpOp_do rfl rfl ?_
              go_simp
              refine ⟨keepsL_all (by kernel_rfl) (by kernel_rfl), ?_⟩
              refine wpAnyL_done (by kernel_rfl) ?_ _
              go_wp2
              go_roundw
              case rel => exact ⟨j + 1, ys, A3, k3, m3, restB bs', by omega, by go_num, rfl, NEXT⟩
              case measure => simp [intOf]; omega
            · have hne2 : ((fstr ⟨gid, gext, grem, gdlc, gdat⟩).toList == (fstr ⟨fid, fext, frem, fdlc, fdat⟩).toList) = false := by
                have e1 : ∀ f, (fstr f).toList = fieldF f := fun f => by unfold fstr; first | rfl | simp [ByteArray.toList_eq] | exact ByteArray.toList_mk _
                rw [e1, e1, beq_eq_false_iff_ne]
                exact he
              generalize fstr ⟨fid, fext, frem, fdlc, fdat⟩ = S at *
              generalize fstr ⟨gid, gext, grem, gdlc, gdat⟩ = T at *
              clear hfe he hpg hp hj0
              refine wp_region_tame (by kernel_rfl) (by kernel_rfl) ?_
              repeat (go_big_quiet_step (first | (go_at_call 32; with_reducible exact tame_of (FG.out _)) | (go_at_call 32; with_reducible exact tame_of (FR.out _))))
              refine wpQuiet_nil ?_
              rintro _ ⟨s, rfl⟩
              obtain ⟨W5, q5⟩ := s
              dsimp only
              clear m13 m15
              have z5 : W4.heap.size ≤ W5.heap.size := q5.size
              have B14 := heap_below B14.out q5
              have B15 := heap_below B15.out q5
              have BX5 := heap_below BX3.out q5
              have o5 := hide (o3.out.grown q5)
              have r5 := hide (RW3.out.next q5 q5.size)
              have Q5 := hide (below_next QQ3.out QQ3.out.size q5)
              replace B14 := hide B14
              replace B15 := hide B15
              replace BX5 := hide BX5
              clear q5
              go_wp2_with fail
              refine wp_region_L [0, 1, 2] [(0, fun W => W.heap[w3.heap.size]? = some (.cells #[.slice A3 m3.length k3, .int .i64 (bs.length : Int), .int .i64 8] 65 (0, 0))), (2, fun W => W.heap[w3.heap.size + 1]? = some (.cells #[.int .i64 yh, .int .u32 fid, .bool fext, .bool frem, .int .i64 fdlc, .string fdat, .int .i64 ys] 70 (0, 0)))] (by kernel_rfl) ?_
              replace B14 : Hid (W5.drew.heap[w3.heap.size]? = _) := B14
              replace B15 : Hid (W5.drew.heap[w3.heap.size + 1]? = _) := B15
              replace BX5 : Hid (W5.drew.heap[w1.heap.size]? = _) := BX5
              replace o5 : Hid (Own W5.drew _ _ _ _ _ _) := o5
              replace r5 : Hid (FrR W5.drew W5.drew.heap.size _ _) := r5
              replace Q5 : Hid (Below w1.heap.size w1 W5.drew) := hide Q5.out.drew
              generalize W5.drew = W6 at *
              refine wpAnyL_load (i := 0) (v := .agg #[.slice A3 m3.length k3, .int .i64 (bs.length : Int), .int .i64 8]) rfl rfl (by kernel_rfl) (by kernel_rfl) (by kernel_rfl) (by kernel_rfl) (by kernel_rfl) (fun _ _ _ h => h) rfl (fun W h => exec_heap W w3.heap.size 65 _ _ h Try.underlying65 rfl (by kernel_rfl) _ _ (.tmp 14) (by rfl) (by rfl)) (B14.out) ?_
              refine wpAnyL_pure (i := 1) (v := .pointer (some ⟨w3.heap.size + 1, 6, none⟩)) rfl rfl (by kernel_rfl) (by kernel_rfl) (by kernel_rfl) (by kernel_rfl) (by kernel_rfl) (fun _ _ _ h => h) rfl (fun W => by go_simp) ?_
              go_simp
              refine wpAnyL_load (i := 2) (v := .int .i64 ys) rfl rfl (by kernel_rfl) (by kernel_rfl) (by kernel_rfl) (by kernel_rfl) (by kernel_rfl) (fun _ _ _ h => h) rfl (fun W h => by (have hc : W.cell? ⟨w3.heap.size + 1, 6, none⟩ = some (.int .i64 ys) := by simp [World.cell?, h]); clear h; go_simp) (B15.out) ?_
              go_simp
              refine wpAnyL_one (i := 3) (by kernel_rfl) ?_
              refine wpOp_do rfl rfl ?_
              refine wp_store_as 65 (.tmp 3) (.tmp 105) rfl w1.heap.size 0 [.slice A3 m3.length k3, .int .i64 (bs.length : Int), .int .i64 8] (by rfl) (by rfl) (show W6.there w1.heap.size 0 3 from there_heap (cs := [_, _, _]) BX5.out) (by kernel_rfl) (by simp [Value.oneCell']) ?_
              intro W7 e7
              have BX7 := whole_heap [.slice A3 m3.length k3, .int .i64 (bs.length : Int), .int .i64 8] (xs := [_, _, _]) BX5.out rfl
              have B15' := other_heap (b := w1.heap.size) (x := w3.heap.size + 1) (by omega) [.slice A3 m3.length k3, .int .i64 (bs.length : Int), .int .i64 8] 0 _ B15.out
              have o7 := own_setCells (x := w1.heap.size) (by omega) [.slice A3 m3.length k3, .int .i64 (bs.length : Int), .int .i64 8] 0 _ o5.out
              have r7 := rd_setCells (x := w1.heap.size) (fun g off' e => by have h1 := HG.out g off' e; have h2 := HZ.out; omega) [.slice A3 m3.length k3, .int .i64 (bs.length : Int), .int .i64 8] 0 _ r5.out
              have q7 := Q5.out.trans (below_setCells (g := w1.heap.size) [.slice A3 m3.length k3, .int .i64 (bs.length : Int), .int .i64 8] 0 W6 (Nat.le_refl _))
              rw [← e7] at BX7 B15' o7 r7 q7
              have NEXT := hide (show BoT (fun _ => True) (bs.map (·.f)) bs.length w1 (some ⟨b, off, none⟩) (j + 1) ys A3 k3 m3 (restB bs') W7 from ⟨BX7, o7, r7, q7, TN.out⟩)
              refine ⟨keepsL_mk (by kernel_rfl) (.past (by kernel_rfl) (.cons B15' .nil)), ?_⟩
              clear BX7 B15' o7 r7 q7 e7 BX5 o5 r5 Q5 B14 B15
              go_simp
              refine wpAnyL_one (i := 4) (by kernel_rfl) ?_
              refine wpOp_do rfl rfl ?_
              go_simp
              refine ⟨keepsL_all (by kernel_rfl) (by kernel_rfl), ?_⟩
              refine wpAnyL_done (by kernel_rfl) ?_ _
              go_wp2
              go_roundw
              case rel => exact ⟨j + 1, ys, A3, k3, m3, restB bs', by omega, by go_num, rfl, NEXT⟩
              case measure => simp [intOf]; omega
        · obtain rfl : j = n := by omega
          obtain rfl : m = [] := by
            have := hR.out.t.mlen
            rw [← HN.out, Nat.sub_self] at this
            exact List.length_eq_zero_iff.1 this
          have zz : w1.heap.size < wr.heap.size := heap_lt hR.out.box
          obtain ⟨x0, x1, x2⟩ := three_cells hR.out.box
          simp only [List.length_nil] at x0
          have TB := hide (fun W (q : Below wr.heap.size wr W) => take_bad [] Am cm bs.length 8 21 W Rd.nil (by simp) (by simp) (by simp) (by
            unfold bestA
            rw [hR.out.t.right]
            rfl) (by decide))
          simp only [List.length_nil] at TB
          have QW := below_next q1 q1.size (hR.out.q)
          have AL := hide (fun W => alive09_any W)
          clear hR
          go_wp2_with fail
          (with_reducible refine (TB.out _ (Below.refl _ _)).mono ?_)
          rintro e3 w3 ⟨rfl, q3⟩
          have Q3 := below_next QW QW.size q3
          clear x0 x1 x2 q3
          go_wp2_with fail
          (with_reducible refine (AL.out _).mono ?_)
          rintro e4 w4 ⟨rfl, q4⟩
          have Q4 := below_next ((Q3.alloc Q3.size _).alloc (by simp; have := Q3.size; omega) _) (by simp; have := Q3.size; omega) q4
          clear Q3 q4
          go_wp2
          go_ret
          exact ⟨rfl, Q4⟩
end Go.Proofs.Ytbdgifngldipcaa
