/- PrioContests: its first test: the field, who wins, of any two frames; then what is behind it. -/
import Derived.Test.YtbdgifngldipcaaPoE
namespace Go.Proofs.Ytbdgifngldipcaa
open Go.ChangeShapes Go.WideShapes Go.ChangeAt Go.RowKit
open FP (Fr)

set_option maxRecDepth 100000 in
theorem Field_bad (f : Fr) (w : World) (hr : FP.rightB f = false) (hf : f.id < 4294967296) :
    Calls Try.prog 31 #[.agg #[.int .u32 f.id, .bool f.ext, .bool f.rem, .int .i64 f.dlc, .string f.data]] w fun e w' => e = .returned (.tuple #[.string ⟨#[]⟩, .int .i64 1]) ∧ Below w.heap.size w w' := by
  have R := hide (fun W => frRight_any f W hf)
  rw [hr] at R
  have q0 : Below w.heap.size w (w.alloc (.cells #[.int .u32 f.id, .bool f.ext, .bool f.rem, .int .i64 f.dlc, .string f.data] 39)) := (Below.refl _ _).alloc (Nat.le_refl _) _
  obtain ⟨id, ext, rem, dlc, data⟩ := f
  dsimp only at *
  clear hr
  go_enter Try.func31, Try.ntmps31
  go_wp2_with fail
  refine (R.out _).mono ?_
  rintro e1 w1 ⟨rfl, q1⟩
  have q1' := below_next q0 q0.size q1
  clear q1
  go_wp2_with fail
  refine bodyPost_ret (v := .tuple #[.string ⟨#[]⟩, .int .i64 1]) (by simp [results, Try.results31, go_sem]) rfl ⟨rfl, q1'⟩
theorem FieldW_any (f : Fr) (w : World) (hf : f.id < 4294967296) (R : Bool) (S : ByteArray) (E : Int) (hR : R = FP.rightB f) (hS : S = if R then fstr f else ⟨#[]⟩) (hE : E = if R then 0 else 1) :
    Calls Try.prog 31 #[.agg #[.int .u32 f.id, .bool f.ext, .bool f.rem, .int .i64 f.dlc, .string f.data]] w fun e w' => e = .returned (.tuple #[.string S, .int .i64 E]) ∧ Below w.heap.size w w' := by
  subst hS hE
  cases R
  · exact Field_bad f w hR.symm hf
  · exact Field_any f w hR.symm hf

set_option maxRecDepth 1000000 in
set_option maxHeartbeats 8000000 in
theorem ctTail2_walk (w wB : World) (f g : Fr) (l : List Fr) (A1 : Option Addr) (c1 n : Nat) (u1 u2 u3 u6 u7 u8 u9 u10 u11 u12 u13 u14 u15 u16 u17 u18 u19 u20 u21 u22 u23 u24 u25 u26 u27 u28 u29 u30 u31 u32 u33 u34 u35 u36 u37 u38 u39 u40 u41 u42 u43 u44 u45 u46 u47 u48 u49 u50 u51 u52 u53 u54 u55 u56 u57 u58 u59 u60 u61 u62 u63 u64 u65 u66 u67 u68 u69 u70 u71 u72 u73 u74 u75 u76 u77 u78 u79 u80 u81 u82 u83 u84 u85 u86 u87 u88 u89 u90 u91 u92 u93 u94 u95 u96 u97 u98 u99 u100 u101 u102 u103 u104 u105 u106 u107 u108 u109 u110 u111 u112 u113 u114 u115 u116 u117 u118 u119 u120 u121 u122 u123 u124 u125 u126 u127 u128 u129 u130 u131 u132 u133 u134 u135 u136 u137 u138 u139 u140 u141 u142 u143 u144 u145 u146 u147 u148 u149 u150 u151 u152 u153 u154 u155 u156 u157 u158 u159 u160 u161 u162 u163 u164 u165 u166 u167 u168 u169 u170 u171 u172 u173 u174 u175 u176 u177 u178 u179 u180 u181 u182 u183 u184 u185 : Value)
    (hS : CtS w f g A1 c1 (l.map frc) wB) (hn : n = l.length) (h10 : l.length ≤ 10) (hid : ∀ f ∈ l, f.id < 4294967296) (hif : f.id < 4294967296) (hig : g.id < 4294967296) :
    Code.wp Try.prog ctTail2 (bodyPost Try.prog Try.f9 fun e w' => e = .returned (.bool true) ∧ Below w.heap.size w w') ⟨#[.slice A1 n c1, u1, u2, u3, .pointer (some ⟨w.heap.size, 0, none⟩), .pointer (some ⟨w.heap.size + 1, 0, none⟩), u6, u7, u8, u9, u10, u11, u12, u13, u14, u15, u16, u17, u18, u19, u20, u21, u22, u23, u24, u25, u26, u27, u28, u29, u30, u31, u32, u33, u34, u35, u36, u37, u38, u39, u40, u41, u42, u43, u44, u45, u46, u47, u48, u49, u50, u51, u52, u53, u54, u55, u56, u57, u58, u59, u60, u61, u62, u63, u64, u65, u66, u67, u68, u69, u70, u71, u72, u73, u74, u75, u76, u77, u78, u79, u80, u81, u82, u83, u84, u85, u86, u87, u88, u89, u90, u91, u92, u93, u94, u95, u96, u97, u98, u99, u100, u101, u102, u103, u104, u105, u106, u107, u108, u109, u110, u111, u112, u113, u114, u115, u116, u117, u118, u119, u120, u121, u122, u123, u124, u125, u126, u127, u128, u129, u130, u131, u132, u133, u134, u135, u136, u137, u138, u139, u140, u141, u142, u143, u144, u145, u146, u147, u148, u149, u150, u151, u152, u153, u154, u155, u156, u157, u158, u159, u160, u161, u162, u163, u164, u165, u166, u167, u168, u169, u170, u171, u172, u173, u174, u175, u176, u177, u178, u179, u180, u181, u182, u183, u184, u185], []⟩ wB := by
  have HID := hide hid
  have HN := hide hn
  have H10 := hide h10
  obtain ⟨R, hR⟩ : ∃ R, R = FP.rightB f := ⟨_, rfl⟩
  obtain ⟨S, hSS⟩ : ∃ S, S = if R then fstr f else ⟨#[]⟩ := ⟨_, rfl⟩
  obtain ⟨E, hE⟩ : ∃ E : Int, E = if R then 0 else 1 := ⟨_, rfl⟩
  have FD := hide (fun W => FieldW_any f W hif R S E hR hSS hE)
  have RF := hide (fun W => refRight04_any f W hif)
  rw [← hR] at RF
  have RG := hide (fun W => refRight04_any g W hig)
  have LS := hide (fun W => Less_any f g W hif hig)
  have LR := hide (fun W hf hg => refLess_any f g W hf hg)
  have FR := hide (fun W hf => refField_any f W hf)
  have AL := hide alive05_any
  have HR := hide hR
  have HS := hide hSS
  have HE := hide hE
  have SB := hide hS
  clear hid hn h10 hR hSS hE hS
  obtain ⟨y0, y1, y2, y3, y4⟩ := fr_cellsx SB.out.b4
  have zB : w.heap.size + 1 < wB.heap.size := SB.out.z5
  conv => arg 2; whnf
  go_wp2_with fail
  (with_reducible refine (FD.out _).mono ?_)
  rintro e3 w3 ⟨rfl, q3⟩
  have SC := hide (SB.out.below q3)
  clear y0 y1 y2 y3 y4 SB FD q3 zB
  obtain ⟨y0, y1, y2, y3, y4⟩ := fr_cellsx SC.out.b4
  have zB : w.heap.size + 1 < w3.heap.size := SC.out.z5
  go_wp2_with fail
  (with_reducible refine (RF.out _).mono ?_)
  rintro e4 w4 ⟨rfl, q4⟩
  have SD := hide (SC.out.below q4)
  clear y0 y1 y2 y3 y4 SC RF q4 zB
  go_upto_region 5 with fail
  go_cut [80] from 31 (fun v W => v = .bool false ∧ Below w4.heap.size w4 W)
  case first =>
    have zB : w.heap.size + 1 < w4.heap.size := SD.out.z5
    obtain ⟨y0, y1, y2, y3, y4⟩ := fr_cellsx SD.out.b4
    obtain ⟨x0, x1, x2, x3, x4⟩ := fr_cellsx SD.out.b5
    cases R
    · have hl : lessB f g = false := by unfold lessB; rw [← HR.out]; rfl
      rw [hl] at LS
      have hS0 : S = ⟨#[]⟩ := HS.out
      have hE0 : E = 1 := HE.out
      clear HS HE
      subst hS0 hE0
      clear RG LR FR HR hl
      go_wp2_with fail
      (with_reducible refine (LS.out _).mono ?_)
      rintro e5 w5 ⟨rfl, q5⟩
      clear y0 y1 y2 y3 y4 x0 x1 x2 x3 x4 zB
      go_wp2_with fail
      (with_reducible refine (AL.out _).mono ?_)
      rintro e6 w6 ⟨rfl, q6⟩
      have qs := below_next q5 q5.size q6
      clear q5 q6
      go_wp2_with fail
      go_meet
      exact ⟨rfl, qs⟩
    · have FRs := hide (fun W => FR.out W HR.out.symm)
      have hS0 : S = fstr f := HS.out
      have hE0 : E = 0 := HE.out
      rw [← hS0] at FRs
      have seq1 : (S.toList == S.toList) = true := by simp
      clear HS HE hS0
      subst hE0
      go_wp2_with fail
      (with_reducible refine (FRs.out _).mono ?_)
      rintro e5 w5 ⟨rfl, q5⟩
      have S5 := hide (SD.out.below q5)
      clear y0 y1 y2 y3 y4 x0 x1 x2 x3 x4 zB FRs
      have zB : w.heap.size + 1 < w5.heap.size := S5.out.z5
      obtain ⟨y0, y1, y2, y3, y4⟩ := fr_cellsx S5.out.b4
      obtain ⟨x0, x1, x2, x3, x4⟩ := fr_cellsx S5.out.b5
      go_wp2_with fail
      (with_reducible refine (LS.out _).mono ?_)
      rintro e6 w6 ⟨rfl, q6⟩
      have S6 := hide (S5.out.below q6)
      replace q5 := below_next q5 q5.size q6
      clear y0 y1 y2 y3 y4 x0 x1 x2 x3 x4 zB q6 LS
      have zB : w.heap.size + 1 < w6.heap.size := S6.out.z5
      obtain ⟨x0, x1, x2, x3, x4⟩ := fr_cellsx S6.out.b5
      cases hg : FP.rightB g
      · have hl : lessB f g = false := by unfold lessB; rw [hg]; simp
        rw [hl]
        rw [hg] at RG
        clear LR FR HR hl hg
        go_wp2_with fail
        (with_reducible refine (RG.out _).mono ?_)
        rintro e7 w7 ⟨rfl, q7⟩
        replace q5 := below_next q5 q5.size q7
        clear x0 x1 x2 x3 x4 zB q7
        go_wp2_with fail
        (with_reducible refine (AL.out _).mono ?_)
        rintro e8 w8 ⟨rfl, q8⟩
        have qs := below_next q5 q5.size q8
        clear q5 q8
        go_wp2_with fail
        go_meet
        exact ⟨rfl, qs⟩
      · have LRs := hide (fun W => LR.out W HR.out.symm hg)
        rw [hg] at RG
        clear LR FR HR hg
        go_wp2_with fail
        (with_reducible refine (RG.out _).mono ?_)
        rintro e7 w7 ⟨rfl, q7⟩
        have S7 := hide (S6.out.below q7)
        replace q5 := below_next q5 q5.size q7
        clear x0 x1 x2 x3 x4 zB q7
        have zB : w.heap.size + 1 < w7.heap.size := S7.out.z5
        obtain ⟨y0, y1, y2, y3, y4⟩ := fr_cellsx S7.out.b4
        obtain ⟨x0, x1, x2, x3, x4⟩ := fr_cellsx S7.out.b5
        go_wp2_with fail
        (with_reducible refine (LRs.out _).mono ?_)
        rintro e9 w9 ⟨rfl, q9⟩
        replace q5 := below_next q5 q5.size q9
        clear x0 x1 x2 x3 x4 y0 y1 y2 y3 y4 zB q9
        have lne : (lessB f g != lessB f g) = false := by simp
        generalize lessB f g = lb at *
        go_wp2_with fail
        (with_reducible refine (AL.out _).mono ?_)
        rintro e8 w8 ⟨rfl, q8⟩
        have qs := below_next q5 q5.size q8
        clear q5 q8
        go_wp2_with fail
        go_meet
        exact ⟨rfl, qs⟩
  case rest =>
    rename_i hK2 _ hK
    obtain ⟨rfl, qc⟩ := hcut
    refine hK _ _ ?_
    refine wp_cond_false (by rfl) (wp_skip ?_)
    refine hK2 _ _ ?_
    have SE := SD.out.below qc
    exact ctTail5_walk w wc l A1 c1 n _ _ _ _ _ _ _ _ _ _ _ _ _ _ _ _ _ _ _ _ _ _ _ _ _ _ _ _ _ _ _ _ _ _ _ _ _ _ _ _ _ _ _ _ _ _ _ _ _ _ _ _ _ _ _ _ _ _ _ _ _ _ _ _ _ _ _ _ _ _ _ _ _ _ _ _ _ _ _ _ _ _ _ _ _ _ _ _ _ _ _ _ _ _ _ _ _ _ _ _ _ _ _ _ _ _ _ _ _ _ _ _ _ _ _ _ _ _ _ _ _ _ _ _ _ _ _ _ _ _ _ _ _ _ _ _ _ _ _ _ _ _ _ _ _ _ _ _ _ _ _ _ _ _ _ _ _ _ _ _ _ _ _ _ _ _ _ _ _ _ _ _ _ _ _ _ _ _ _ _ _ _ _ _ (SE.r.rd (frc_rows _)) SE.q HN.out H10.out HID.out
end Go.Proofs.Ytbdgifngldipcaa
