/- slices' insertion sort of frames, walked. -/
import Derived.Test.YtbdgifngldipcaaPsI
import Derived.Test.YtbdgifngldipcaaRfP
namespace Go.Proofs.Ytbdgifngldipcaa
open Go.ChangeShapes Go.WideShapes Go.ChangeAt Go.RowKit
open FP (Fr)
open PP (bl)
open SP

theorem fr_exec (W : World) (g o : Nat) (x : Fr) (h : W.rangeAt g o (frc x)) (ev : Operand → Value) (op : Oper) (p : Operand) (ho : op.op = .load 39 p) (hp : ev p = .pointer (some ⟨g, o, none⟩)) :
    (execOp ev op).run Try.prog W = .ok (.value (.agg #[.int .u32 x.id, .bool x.ext, .bool x.rem, .int .i64 x.dlc, .string x.data])) W := exec_load W g o 39 (frc x) _ h Try.underlying39 rfl (by kernel_rfl) ev op p ho hp

/-- What lies while frames are sorted. -/
structure SrP (l : List Fr) (W0 : World) (B : Nat) (A : Option Addr) (c : Nat) (m : List Fr) (W : World) : Prop where
  cl : clP m l
  len : m.length = l.length
  own : Own W B 39 5 A c (m.map frc)
  q : Below B W0 W
theorem SrP.right {l : List Fr} {W0 : World} {B : Nat} {A : Option Addr} {c : Nat} {m : List Fr} {W : World} (h : SrP l W0 B A c m W) (hg : ∀ f ∈ l, FP.rightB f = true) : ∀ f ∈ m, FP.rightB f = true := fun f hf => hg f (mem_cl h.cl hf)
theorem SrP.below {l : List Fr} {W0 : World} {B : Nat} {A : Option Addr} {c : Nat} {m : List Fr} {W W' : World} (h : SrP l W0 B A c m W) (hB : B ≤ W.heap.size) (b : Below W.heap.size W W') : SrP l W0 B A c m W' :=
  ⟨h.cl, h.len, h.own.grown b, h.q.trans (b.mono hB)⟩

set_option maxRecDepth 100000 in
set_option maxHeartbeats 4000000 in
theorem insSort_any (l : List Fr) (A : Option Addr) (c B n : Nat) (W0 : World) (hn : l.length = n) (ho : Own W0 B 39 5 A c (l.map frc)) (hB : B ≤ W0.heap.size) (hl : n ≤ 100) (hg : ∀ f ∈ l, FP.rightB f = true) :
    Calls Try.prog 100 #[.slice A n c, .int .i64 0, .int .i64 n, .func (.func 62) #[] #[]] W0 fun e w' => e = .returned (.tuple #[]) ∧ ∃ m, stP m ∧ SrP l W0 B A c m w' := by
  have HG := hide hg
  have HN := hide hn
  have S0 : Hid (SrP l W0 B A c l W0) := hide ⟨clP.refl _, rfl, ho, Below.refl _ _⟩
  clear ho hg hn
  go_enter Try.func100, Try.ntmps100
  go_wp2_with fail
  go_loopw [8] (fun vi W => ∃ (i : Nat) (m : List Fr), 1 ≤ i ∧ (i ≤ n ∨ i = 1) ∧ vi = .int .i64 i ∧ Hid (preP m i) ∧ Hid (SrP l W0 B A c m W)) (fun vi _ => n - (intOf vi).toNat)
  case atStart => exact ⟨1, l, Nat.le_refl _, .inr rfl, rfl, hide (fun p q h1 h2 => absurd h1 (by omega)), S0⟩
  case round =>
    rename World => wa
    clear S0
    obtain ⟨i, m, hi1, hin, rfl, hP, hS⟩ := hrel
    by_cases hlt : i < n
    · have hii : (i : Int) < (n : Int) := by omega
      go_wp2_with fail
      go_loopw [9] (fun vj W => ∃ (j : Nat) (m : List Fr), vj = .int .i64 j ∧ Hid (InsJ m i j) ∧ j ≤ i ∧ Hid (SrP l W0 B A c m W)) (fun vj _ => (intOf vj).toNat)
      case atStart => exact ⟨i, m, rfl, hide (InsJ.start hP.out), Nat.le_refl _, hS⟩
      case round =>
        rename World => wb
        clear hP hS
        obtain ⟨j, m, rfl, hJ, hji, hS⟩ := hrel
        have hBb : B ≤ wb.heap.size := Nat.le_trans hB hS.out.q.size
        have hml : m.length = n := by rw [hS.out.len, HN.out]
        by_cases hj0 : 0 < j
        · obtain ⟨p, hp⟩ : ∃ p, p = j - 1 := ⟨_, rfl⟩
          have HPQ := hide hp
          have hp3 : p < j := by omega
          have hp4 : j ≤ p + 1 := by omega
          clear hp
          have hjl : j < m.length := by omega
          have hpl : p < m.length := by omega
          have RD := hide (show FrR wb wb.heap.size A m from hS.out.own.rd (frc_rows _))
          obtain ⟨g, hA, hBg, _⟩ := hS.out.own.ofLen (by rw [List.length_map]; omega)
          subst hA
          have mj := FrR.all RD.out (Nat.le_refl _) hjl
          have mp := FrR.all RD.out (Nat.le_refl _) hpl
          simp only [Nat.zero_add] at mj mp
          have gj := hS.out.right HG.out m[j] (List.getElem_mem _)
          have gp := hS.out.right HG.out m[p] (List.getElem_mem _)
          have OF := hide (fun s : InW wb => order1_any m[j] m[p] s.W gj gp)
          have HC := cmpF_neg m[j] m[p]
          have hq : (j : Int) - 1 = (p : Int) := by omega
          have hj1 : 0 < (j : Int) := by omega
          have hj2 : (j : Int) < (n : Int) := by omega
          have hp2 : (p : Int) < (n : Int) := by omega
          have hJp : F m j = fieldF m[j] ∧ F m p = fieldF m[p] := ⟨by unfold F; rw [OP.atF_lt hjl], by unfold F; rw [OP.atF_lt hpl]⟩
          have HJP := hide hJp
          clear gj gp hJp
          generalize cmpF m[j] m[p] = cv at *
          rcases hb : bl (fieldF m[j]) (fieldF m[p]) with _ | _
          · rw [hb] at HC
            have NX := hide (hJ.out.stop (.inr (by rw [← HPQ.out, HJP.out.1, HJP.out.2]; exact hb)))
            clear hb
            go_wp2_with fail
            refine wp_region_tame (by kernel_rfl) (by kernel_rfl) ?_
            repeat (go_big_quiet_step (first | (go_at_call 62; exact tame_of (OF.out _))))
            refine wpQuiet_nil ?_
            rintro _ ⟨s, rfl⟩
            have S2 := hide (hS.out.below hBb s.h)
            clear mj mp
            go_wp2_with fail
            go_roundw
            case rel => exact ⟨i + 1, m, by omega, by omega, by go_num, NX, S2⟩
            case measure => simp [intOf]; omega
          · rw [hb] at HC
            have hb2 : bl (F m j) (F m p) = true := by rw [HJP.out.1, HJP.out.2]; exact hb
            have NX := hide (hJ.out.step (by omega) (show j = p + 1 by omega) hb2)
            have CL := hide ((swF_cl hjl (show j = p + 1 by omega) hb2).trans hS.out.cl)
            have SWL := hide (show (swF m j p).length = l.length by rw [swF_len, hS.out.len])
            have SWE := hide (show swF m j p = (m.set j m[p]).set p m[j] by unfold swF; rw [OP.atF_lt hjl, OP.atF_lt hpl])
            clear hb hb2 hJ HJP
            go_wp2_with fail
            refine wp_region_tame (by kernel_rfl) (by kernel_rfl) ?_
            repeat (go_big_quiet_step (first | (go_at_call 62; exact tame_of (OF.out _))))
            refine wpQuiet_nil ?_
            rintro _ ⟨s, rfl⟩
            obtain ⟨wc, qc⟩ := s
            dsimp only
            have S2 := hS.out.below hBb qc
            have hBc : B ≤ wc.heap.size := Nat.le_trans hBb qc.size
            clear mj mp hS RD OF qc
            have rj := hide (show wc.rangeAt g (j * 5) (frc m[j]) by have := S2.own.range (frc_rows m) (k := j) (by simpa using hjl); simpa using this)
            have rp := hide (show wc.rangeAt g (p * 5) (frc m[p]) by have := S2.own.range (frc_rows m) (k := p) (by simpa using hpl); simpa using this)
            have o1 := hide S2.own.drew
            have q1 := hide S2.q.drew
            clear S2
            go_wp2_with fail
            refine wp_region_L [0, 1, 2, 3, 4, 5, 6, 7, 8, 9, 10, 11, 12, 13, 14, 16] [(9, fun W => W.rangeAt g (p * 5) (frc m[p])), (13, fun W => W.rangeAt g (j * 5) (frc m[j]))] (by kernel_rfl) ?_
            replace rj : Hid (wc.drew.rangeAt g (j * 5) (frc m[j])) := rj
            replace rp : Hid (wc.drew.rangeAt g (p * 5) (frc m[p])) := rp
            have hBd : B ≤ wc.drew.heap.size := hBc
            have hwp : IntKind.i64.wrap (p : Int) = (p : Int) := IntWalk.i64_in _ (by omega)
            generalize wc.drew = wd at *
            refine wpAnyL_pure (i := 0) (v := .slice (some ⟨g, 0, none⟩) n c) rfl rfl (by kernel_rfl) (by kernel_rfl) (by kernel_rfl) (by kernel_rfl) (by kernel_rfl) (fun _ _ _ h => h) rfl (fun W => by go_simp) ?_
            go_simp
            refine wpAnyL_pure (i := 1) (v := .int .i64 j) rfl rfl (by kernel_rfl) (by kernel_rfl) (by kernel_rfl) (by kernel_rfl) (by kernel_rfl) (fun _ _ _ h => h) rfl (fun W => by go_simp) ?_
            go_simp
            refine wpAnyL_pure (i := 2) (v := .slice (some ⟨g, 0, none⟩) n c) rfl rfl (by kernel_rfl) (by kernel_rfl) (by kernel_rfl) (by kernel_rfl) (by kernel_rfl) (fun _ _ _ h => h) rfl (fun W => by go_simp) ?_
            go_simp
            refine wpAnyL_pure (i := 3) (v := .int .i64 j) rfl rfl (by kernel_rfl) (by kernel_rfl) (by kernel_rfl) (by kernel_rfl) (by kernel_rfl) (fun _ _ _ h => h) rfl (fun W => by go_simp) ?_
            go_simp
            refine wpAnyL_pure (i := 4) (v := .int .i64 p) rfl rfl (by kernel_rfl) (by kernel_rfl) (by kernel_rfl) (by kernel_rfl) (by kernel_rfl) (fun _ _ _ h => h) rfl (fun W => by go_simp) ?_
            go_simp
            refine wpAnyL_pure (i := 5) (v := .slice (some ⟨g, 0, none⟩) n c) rfl rfl (by kernel_rfl) (by kernel_rfl) (by kernel_rfl) (by kernel_rfl) (by kernel_rfl) (fun _ _ _ h => h) rfl (fun W => by go_simp) ?_
            go_simp
            refine wpAnyL_pure (i := 6) (v := .int .i64 j) rfl rfl (by kernel_rfl) (by kernel_rfl) (by kernel_rfl) (by kernel_rfl) (by kernel_rfl) (fun _ _ _ h => h) rfl (fun W => by go_simp) ?_
            go_simp
            refine wpAnyL_pure (i := 7) (v := .int .i64 p) rfl rfl (by kernel_rfl) (by kernel_rfl) (by kernel_rfl) (by kernel_rfl) (by kernel_rfl) (fun _ _ _ h => h) rfl (fun W => by go_simp) ?_
            go_simp
            refine wpAnyL_pure (i := 8) (v := .pointer (some ⟨g, p * 5, none⟩)) rfl rfl (by kernel_rfl) (by kernel_rfl) (by kernel_rfl) (by kernel_rfl) (by kernel_rfl) (fun _ _ _ h => h) rfl (fun W => by go_simp) ?_
            go_simp
            refine wpAnyL_load (i := 9) (v := .agg #[.int .u32 m[p].id, .bool m[p].ext, .bool m[p].rem, .int .i64 m[p].dlc, .string m[p].data]) rfl rfl (by kernel_rfl) (by kernel_rfl) (by kernel_rfl) (by kernel_rfl) (by kernel_rfl) (fun _ _ _ h => h) rfl (fun W h => fr_exec W g (p * 5) m[p] h _ _ (.tmp 45) (by rfl) (by rfl)) (rp.out) ?_
            go_simp
            refine wpAnyL_pure (i := 10) (v := .slice (some ⟨g, 0, none⟩) n c) rfl rfl (by kernel_rfl) (by kernel_rfl) (by kernel_rfl) (by kernel_rfl) (by kernel_rfl) (fun _ _ _ h => h) rfl (fun W => by go_simp) ?_
            go_simp
            refine wpAnyL_pure (i := 11) (v := .int .i64 j) rfl rfl (by kernel_rfl) (by kernel_rfl) (by kernel_rfl) (by kernel_rfl) (by kernel_rfl) (fun _ _ _ h => h) rfl (fun W => by go_simp) ?_
            go_simp
            refine wpAnyL_pure (i := 12) (v := .pointer (some ⟨g, j * 5, none⟩)) rfl rfl (by kernel_rfl) (by kernel_rfl) (by kernel_rfl) (by kernel_rfl) (by kernel_rfl) (fun _ _ _ h => h) rfl (fun W => by go_simp) ?_
            go_simp
            refine wpAnyL_load (i := 13) (v := .agg #[.int .u32 m[j].id, .bool m[j].ext, .bool m[j].rem, .int .i64 m[j].dlc, .string m[j].data]) rfl rfl (by kernel_rfl) (by kernel_rfl) (by kernel_rfl) (by kernel_rfl) (by kernel_rfl) (fun _ _ _ h => h) rfl (fun W h => fr_exec W g (j * 5) m[j] h _ _ (.tmp 49) (by rfl) (by rfl)) (rj.out) ?_
            go_simp
            refine wpAnyL_pure (i := 14) (v := .pointer (some ⟨g, j * 5, none⟩)) rfl rfl (by kernel_rfl) (by kernel_rfl) (by kernel_rfl) (by kernel_rfl) (by kernel_rfl) (fun _ _ _ h => h) rfl (fun W => by go_simp) ?_
            go_simp
            have th1 := o1.out.there (frc_rows m) (k := j) (by simpa using hjl)
            refine wpAnyL_one (i := 15) (by kernel_rfl) ?_
            refine wpOp_do rfl rfl ?_
            refine wp_store_as 39 (.tmp 51) (.tmp 46) rfl g (j * 5) (frc m[p]) (by rfl) (by rfl) th1 (by kernel_rfl) (by simp [frc, Value.oneCell']) ?_
            intro W1 eW1
            obtain ⟨s1, g1⟩ := o1.out.setRow (frc_rows m) (k := j) (row := frc m[p]) (by simpa using hjl) rfl
            rw [← eW1] at s1 g1
            have e1 : (m.map frc).set j (frc m[p]) = (m.set j m[p]).map frc := by rw [List.map_set]
            rw [e1] at s1
            have th2 := s1.there (frc_rows _) (k := p) (by simpa using hpl)
            have s1 := hide s1
            clear eW1 e1 o1 rj rp th1
            refine ⟨keepsL_all (by kernel_rfl) (by kernel_rfl), ?_⟩
            go_simp
            refine wpAnyL_pure (i := 16) (v := .pointer (some ⟨g, p * 5, none⟩)) rfl rfl (by kernel_rfl) (by kernel_rfl) (by kernel_rfl) (by kernel_rfl) (by kernel_rfl) (fun _ _ _ h => h) rfl (fun W => by go_simp) ?_
            go_simp
            refine wpAnyL_one (i := 17) (by kernel_rfl) ?_
            refine wpOp_do rfl rfl ?_
            refine wp_store_as 39 (.tmp 52) (.tmp 50) rfl g (p * 5) (frc m[j]) (by rfl) (by rfl) th2 (by kernel_rfl) (by simp [frc, Value.oneCell']) ?_
            intro W2 eW2
            obtain ⟨s2, g2⟩ := s1.out.setRow (frc_rows _) (k := p) (row := frc m[j]) (by simpa using hpl) rfl
            rw [← eW2] at s2 g2
            have FIN : Hid (SrP l W0 B (some ⟨g, 0, none⟩) c (swF m j p) W2) := hide ⟨CL.out, SWL.out, by rw [SWE.out, List.map_set]; exact s2, q1.out.grown (grownBy_trans g1 g2) hBd (fun k e => by cases e; exact hBg)⟩
            clear eW2 s1 s2 g1 g2 th2 q1
            refine ⟨keepsL_all (by kernel_rfl) (by kernel_rfl), ?_⟩
            refine wpAnyL_done (by kernel_rfl) ?_ _
            go_wp2_with fail
            go_roundw
            case rel => exact ⟨p, swF m j p, by go_num, NX, by omega, FIN⟩
            case measure => simp [intOf]; omega
        · obtain rfl : j = 0 := by omega
          have NX := hide (hJ.out.stop (.inl rfl))
          have S2 := hS
          go_wp2_with fail
          refine wp_region_tame (by kernel_rfl) (by kernel_rfl) ?_
          repeat (go_big_quiet_step (fail))
          refine wpQuiet_nil ?_
          rintro _ ⟨s, rfl⟩
          have S3 := hide (S2.out.below hBb s.h)
          clear S2
          go_wp2_with fail
          go_roundw
          case rel => exact ⟨i + 1, m, by omega, by omega, by go_num, NX, S3⟩
          case measure => simp [intOf]; omega
    · have FIN : Hid (stP m) := hide (preP_all (by rw [hS.out.len, HN.out]; intro p q h1 h2; exact hP.out p q h1 (by omega)))
      have S2 := hS
      clear hP hS
      go_wp2_with fail
      go_end0
      exact ⟨rfl, m, FIN.out, S2.out⟩
end Go.Proofs.Ytbdgifngldipcaa
