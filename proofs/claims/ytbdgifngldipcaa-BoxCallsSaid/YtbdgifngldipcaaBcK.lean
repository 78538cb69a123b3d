/- BoxCalls. -/
import Derived.Test.YtbdgifngldipcaaBcL
namespace Go.Proofs.Ytbdgifngldipcaa
open Go.ChangeShapes Go.WideShapes Go.ChangeAt Go.RowKit
open FP (Fr)
open HP (kB at' Hp)

set_option maxRecDepth 1000000 in
set_option maxHeartbeats 8000000 in
theorem tail15_walk (w wB : World) (l lp lt ld : List Bx) (x y : Bx) (A1 Ap At Ad : Option Addr) (c1 n cp np ct nt cd nd b11 b13 b15 b16 b18 : Nat) (seq cap sp kp rp rx st kt rt sd kd gone rd handle : Int) (f : Fr) (u0 u1 u3 u4 u6 u8 u9 u10 u21 u22 u23 u24 u25 u26 u27 u28 u29 u30 u31 u32 u33 u34 u35 u36 u37 u38 u39 u40 u41 u42 u43 u44 u45 u46 u47 u48 u49 u50 u51 u52 u53 u54 u55 u56 u57 u58 u59 u60 u61 u62 u63 u64 u65 u66 u67 u68 u69 u70 u71 u72 u73 u74 u75 u76 u77 u78 u79 u80 u81 u82 u83 u84 u85 u86 u87 u88 u89 u90 u91 u92 u93 u94 u95 u96 u97 u98 u99 u100 u101 u102 u103 u104 u105 u106 u107 u108 u109 u110 u111 u112 u113 u114 u115 u116 u117 u118 u119 u120 u121 u122 u123 u124 u125 u126 u127 u128 u129 u130 u131 u132 u133 u134 u135 u136 u137 u138 u139 u140 u141 u142 u143 u144 u145 u146 u147 u148 u149 u150 u151 u152 u153 u154 u155 u156 u157 u158 u159 u160 u161 u162 u163 u164 u165 u166 u167 u168 u169 u170 u171 u172 u173 u174 u175 u176 u177 u178 u179 u180 u181 u182 u183 u184 u185 u186 u187 u188 u189 u190 u191 u192 u193 u194 u195 u196 u197 u198 u199 u200 u201 u202 u203 u204 u205 u206 u207 u208 u209 u210 u211 u212 u213 u214 u215 u216 u217 u218 u219 u220 u221 u222 u223 u224 u225 u226 u227 u228 u229 u230 u231 u232 u233 u234 u235 u236 u237 u238 u239 u240 u241 u242 u243 u244 u245 u246 u247 u248 u249 u250 u251 u252 u253 u254 u255 u256 u257 u258 u259 u260 u261 u262 u263 u264 : Value)
    (hS : Bo wB w.heap.size A1 c1 n seq cap l) (hF : wB.heap[w.heap.size + 1]? = some (.cells #[.int .u32 f.id, .bool f.ext, .bool f.rem, .int .i64 f.dlc, .string f.data] 39 (0, 0))) (hP : Bo wB b11 Ap cp np sp kp lp) (hX : wB.heap[b13]? = some (.cells #[.int .i64 x.h, .int .u32 x.f.id, .bool x.f.ext, .bool x.f.rem, .int .i64 x.f.dlc, .string x.f.data, .int .i64 x.s] 70 (0, 0))) (hT : Bo wB b15 At ct nt st kt lt) (hY : wB.heap[b16]? = some (.cells #[.int .i64 y.h, .int .u32 y.f.id, .bool y.f.ext, .bool y.f.rem, .int .i64 y.f.dlc, .string y.f.data, .int .i64 y.s] 70 (0, 0))) (hD : Bo wB b18 Ad cd nd sd kd ld) (QB : Below w.heap.size w wB)
    (h12 : l.length ≤ 12) (hI : ∀ x ∈ l, x.f.id < 4294967296) (hfi : f.id < 4294967296) (hPP : PutP l seq cap handle f lp sp kp rp) (hBX : (x, rx) = bestA l seq cap) (hTP : TakeP l seq cap lt st kt y rt) (hDP : DropP l seq cap handle ld sd kd gone rd) :
    Code.wp Try.prog tail15 (bodyPost Try.prog Try.f12 fun e w' => e = .returned (.bool true) ∧ Below w.heap.size w w') ⟨#[u0, u1, .int .i64 handle, u3, u4, .pointer (some ⟨w.heap.size, 0, none⟩), u6, .pointer (some ⟨w.heap.size + 1, 0, none⟩), u8, u9, u10, .pointer (some ⟨b11, 0, none⟩), .int .i64 rp, .pointer (some ⟨b13, 0, none⟩), .int .i64 rx, .pointer (some ⟨b15, 0, none⟩), .pointer (some ⟨b16, 0, none⟩), .int .i64 rt, .pointer (some ⟨b18, 0, none⟩), .int .i64 gone, .int .i64 rd, u21, u22, u23, u24, u25, u26, u27, u28, u29, u30, u31, u32, u33, u34, u35, u36, u37, u38, u39, u40, u41, u42, u43, u44, u45, u46, u47, u48, u49, u50, u51, u52, u53, u54, u55, u56, u57, u58, u59, u60, u61, u62, u63, u64, u65, u66, u67, u68, u69, u70, u71, u72, u73, u74, u75, u76, u77, u78, u79, u80, u81, u82, u83, u84, u85, u86, u87, u88, u89, u90, u91, u92, u93, u94, u95, u96, u97, u98, u99, u100, u101, u102, u103, u104, u105, u106, u107, u108, u109, u110, u111, u112, u113, u114, u115, u116, u117, u118, u119, u120, u121, u122, u123, u124, u125, u126, u127, u128, u129, u130, u131, u132, u133, u134, u135, u136, u137, u138, u139, u140, u141, u142, u143, u144, u145, u146, u147, u148, u149, u150, u151, u152, u153, u154, u155, u156, u157, u158, u159, u160, u161, u162, u163, u164, u165, u166, u167, u168, u169, u170, u171, u172, u173, u174, u175, u176, u177, u178, u179, u180, u181, u182, u183, u184, u185, u186, u187, u188, u189, u190, u191, u192, u193, u194, u195, u196, u197, u198, u199, u200, u201, u202, u203, u204, u205, u206, u207, u208, u209, u210, u211, u212, u213, u214, u215, u216, u217, u218, u219, u220, u221, u222, u223, u224, u225, u226, u227, u228, u229, u230, u231, u232, u233, u234, u235, u236, u237, u238, u239, u240, u241, u242, u243, u244, u245, u246, u247, u248, u249, u250, u251, u252, u253, u254, u255, u256, u257, u258, u259, u260, u261, u262, u263, u264], []⟩ wB := by
  have SB := hide hS
  have FB := hide hF
  have PB := hide hP
  have XB := hide hX
  have TB := hide hT
  have YB := hide hY
  have DB := hide hD
  have HI := hide hI
  have HPP := hide hPP
  have HBX := hide hBX
  have HTP := hide hTP
  have HDP := hide hDP
  obtain ⟨R, hR⟩ : ∃ R, R = rightBx l seq cap := ⟨_, rfl⟩
  have RF := hide (rright_v hS h12 hI hR)
  have HR := hide hR
  clear hS hF hP hX hT hY hD hI hPP hBX hTP hDP hR h12
  conv => arg 2; whnf
  have zB : w.heap.size < wB.heap.size := SB.out.lt
  obtain ⟨x0, x1, x2⟩ := SB.out.cells
  go_wp2_with fail
  (with_reducible refine (RF.out _ (Below.refl _ _)).mono ?_)
  rintro e11 w11 ⟨rfl, q11⟩
  have SC := hide (SB.out.below q11)
  have FC := hide (heap_below FB.out q11)
  have PC := hide (PB.out.below q11)
  have XC := hide (heap_below XB.out q11)
  have TC := hide (TB.out.below q11)
  have YC := hide (heap_below YB.out q11)
  have DC := hide (DB.out.below q11)
  have QC := below_next QB QB.size q11
  have zC : b18 < w11.heap.size := DC.out.lt
  have zC1 : b11 < w11.heap.size := PC.out.lt
  have zC2 : b13 < w11.heap.size := heap_lt XC.out
  have zC3 : b15 < w11.heap.size := TC.out.lt
  have zC4 : b16 < w11.heap.size := heap_lt YC.out
  clear x0 x1 x2 SB FB PB XB TB YB DB QB RF q11 zB
  cases R
  · have hR := HR.out.symm
    obtain ⟨rfl, rfl⟩ := put_no HPP.out hR
    obtain ⟨rfl, rfl, rfl⟩ := take_no HTP.out hR
    obtain ⟨rfl, rfl, rfl⟩ := drop_no HDP.out hR
    obtain ⟨rfl, rfl⟩ := best_no HBX.out hR
    obtain rfl : np = 0 := PC.out.len.symm
    obtain rfl : nt = 0 := TC.out.len.symm
    obtain rfl : nd = 0 := DC.out.len.symm
    obtain ⟨p0, _, _⟩ := PC.out.cells
    obtain ⟨t0, _, _⟩ := TC.out.cells
    obtain ⟨d0, _, _⟩ := DC.out.cells
    obtain ⟨x0, x1, x2, x3, x4, x5, x6⟩ := cells7 (show w11.heap[b13]? = some (.cells #[.int .i64 0, .int .u32 0, .bool false, .bool false, .int .i64 0, .string ⟨#[]⟩, .int .i64 0] 70 (0, 0)) from XC.out)
    obtain ⟨y0, y1, y2, y3, y4, y5, y6⟩ := cells7 (show w11.heap[b16]? = some (.cells #[.int .i64 0, .int .u32 0, .bool false, .bool false, .int .i64 0, .string ⟨#[]⟩, .int .i64 0] 70 (0, 0)) from YC.out)
    clear HPP HTP HDP HBX hR
    go_wp2_with fail
    go_ret
    exact ⟨rfl, QC⟩
  · have hR := HR.out.symm
    have HRT := hide hR
    obtain ⟨rfl, hgone, hperm, hRd, rfl, rfl⟩ := drop_yes HDP.out hR
    have hn8 : n ≤ 8 := by have := (right_goodP hR).2.2.2; rw [SC.out.len] at this; exact this
    have HPD := hide hperm
    have HRD := hide hRd
    have HGO := hide hgone
    obtain ⟨x0, x1, x2⟩ := SC.out.cells
    clear hR hgone hperm hRd HDP
    go_wp2_with fail
    (with_reducible refine (sorted_u SC.out HRT.out).mono ?_)
    rintro e12 w12 ⟨As, cs, rfl, rs, hcs, q12⟩
    have SD := hide (SC.out.below q12)
    have FD := hide (heap_below FC.out q12)
    have PD := hide (PC.out.below q12)
    have XD := hide (heap_below XC.out q12)
    have TD := hide (TC.out.below q12)
    have YD := hide (heap_below YC.out q12)
    have DD := hide (DC.out.below q12)
    have QD := below_next QC QC.size q12
    have LD := hide rs
    clear x0 x1 x2 SC FC PC XC TC YC DC QC rs q12 zC
    go_wp2_with fail
    (with_reducible refine (without_u LD.out (by rw [sortB_len]; exact SD.out.len) hn8 handle).mono ?_)
    rintro e13 w13 ⟨Aw, cw, mw, rfl, hmw, rw1, hcw, q13⟩
    have HMW := hide hmw
    have WE := hide rw1
    have SE := hide (SD.out.below q13)
    have FE := hide (heap_below FD.out q13)
    have PE := hide (PD.out.below q13)
    have XE := hide (heap_below XD.out q13)
    have TE := hide (TD.out.below q13)
    have YE := hide (heap_below YD.out q13)
    have DE := hide (DD.out.below q13)
    have LE := hide (BxR.next LD.out q13 q13.size)
    have QE := below_next QD QD.size q13
    clear SD FD PD XD TD YD DD LD QD
    clear rw1 q13 hmw
    have HPW := hide (HPD.out.trans (stay_sorted handle l).symm)
    obtain rfl : mw = nd := by have h1 := HPW.out.length_eq; rw [HMW.out, DE.out.len] at h1; exact h1.symm
    obtain rfl : gone = (n : Int) - mw := by rw [HGO.out, SE.out.len, DE.out.len]
    obtain ⟨x0, x1, x2⟩ := SE.out.cells
    obtain ⟨d0, d1, d2⟩ := DE.out.cells
    have zD : w.heap.size < w13.heap.size := SE.out.lt
    have zE : b18 < w13.heap.size := DE.out.lt
    have gne : (((n : Int) - mw) != ((n : Int) - mw)) = false := by simp
    go_wp2_with fail
    (with_reducible refine (is_u DE.out HRD.out HMW.out WE.out (stay_id HI.out HPD.out) HPW.out).mono ?_)
    rintro e14 w14 ⟨rfl, q14⟩
    have SF := hide (SE.out.below q14)
    have FG := hide (heap_below FE.out q14)
    have PF := hide (PE.out.below q14)
    have XF := hide (heap_below XE.out q14)
    have TF := hide (TE.out.below q14)
    have YF := hide (heap_below YE.out q14)
    have DF := hide (DE.out.below q14)
    have LF := hide (BxR.next LE.out q14 q14.size)
    have QF := below_next QE QE.size q14
    clear SE FE PE XE TE YE DE LE QE
    clear x0 x1 x2 d0 d1 d2 q14 HPW WE HMW DF HRD HPD HGO
    go_upto_if 167 with fail
    have zF : w.heap.size < w14.heap.size := SF.out.lt
    go_cut [167] from 36 (fun _ W => Below w14.heap.size w14 W)
    case first =>
      by_cases h0 : n = 0
      · have hl0 : l.length = 0 := by rw [SF.out.len]; exact h0
        obtain rfl := best_none HBX.out HRT.out hl0
        obtain rfl := take_none HTP.out HRT.out hl0
        have hz : ((n : Int) == 0) = true := by rw [beq_iff_eq]; omega
        clear hl0 h0
        go_wp2_with fail
        go_meet
        exact Below.refl _ _
      · have hl0 : 0 < l.length := by rw [SF.out.len]; omega
        have hz : ((n : Int) == 0) = false := by rw [beq_eq_false_iff_ne]; omega
        obtain ⟨rfl, rfl⟩ := best_some HBX.out HRT.out hl0
        obtain ⟨rfl, rfl, hpt, hRt, rfl, rfl⟩ := take_some HTP.out HRT.out hl0
        obtain ⟨hg, hne, hh, _⟩ := right_goodP HRT.out
        obtain ⟨r, hr, hrp⟩ := sortB_first hg hne hh hl0
        have L0 := hide (show BxR w14 w14.heap.size As (at' l 0 :: r) by rw [← hr]; exact LF.out)
        have hrn : r.length = n - 1 := by have := SF.out.len; rw [← sortB_len, hr, List.length_cons] at this; omega
        have HPT := hide (take_perm hpt hrp)
        have HTI := hide (take_id HI.out hpt)
        have HRn := hide hrn
        have HRt := hide hRt
        clear hg hne hh hr hrp hpt hrn hRt hl0 HBX HTP
        generalize at' l 0 = b0 at *
        obtain ⟨A2, hA2, hfrom⟩ := run_from (P := Try.prog) 63 70 Try.underlying63 7 (fun W => by kernel_rfl) As n cs (1 : Int) 1 rfl (by omega)
        have R2 := hide (show BxR w14 w14.heap.size A2 r by
          have := Rd.drop L0.out 1 cs (by rw [List.length_map, List.length_cons, HRn.out]; omega)
          rw [hA2]; exact this)
        have ISs := hide (fun s => is_s (c2 := cs - 1) TF.out HRt.out HRn.out R2.out HTI.out HPT.out s)
        obtain ⟨bL, oL, rfl, mL⟩ := BxR.head_s L0.out
        have mx := bxBox_s XF.out
        have my := bxBox_s YF.out
        have mt := TF.out.cells_s
        have ms := SF.out.cells_s
        clear hA2
        go_wp2_with fail
        refine wp_region_tame (by kernel_rfl) (by kernel_rfl) ?_
        repeat (go_big_quiet_step (first | (go_at_call 43; exact tame_of (ISs.out _))))
        refine wpQuiet_nil ?_
        rintro _ ⟨s, rfl⟩
        obtain ⟨wG, qG⟩ := s
        dsimp only
        clear mL mx my mt ms
        go_wp2_with fail
        go_meet
        exact qG
    case rest =>
      rename_i hK
      have SG := SF.out.below hcut
      have FH := heap_below FG.out hcut
      have PG := PF.out.below hcut
      have LH := BxR.next LF.out hcut hcut.size
      have QG := below_next QF QF.size hcut
      refine hK _ _ ?_
      exact tail27_walk w wc l lp A1 Ap As c1 n cp np cs b11 _ _ sp kp rp handle f _ _ _ _ _ _ _ _ _ _ _ _ _ _ _ _ _ _ _ _ _ _ _ _ _ _ _ _ _ _ _ _ _ _ _ _ _ _ _ _ _ _ _ _ _ _ _ _ _ _ _ _ _ _ _ _ _ _ _ _ _ _ _ _ _ _ _ _ _ _ _ _ _ _ _ _ _ _ _ _ _ _ _ _ _ _ _ _ _ _ _ _ _ _ _ _ _ _ _ _ _ _ _ _ _ _ _ _ _ _ _ _ _ _ _ _ _ _ _ _ _ _ _ _ _ _ _ _ _ _ _ _ _ _ _ _ _ _ _ _ _ _ _ _ _ _ _ _ _ _ _ _ _ _ _ _ _ _ _ _ _ _ _ _ _ _ _ _ _ _ _ _ _ _ _ _ _ _ _ _ _ _ _ _ _ _ _ _ _ _ _ _ _ _ _ _ _ _ _ _ _ _ _ _ _ _ _ _ _ _ _ _ _ _ _ _ _ _ _ _ _ _ _ _ _ _ _ _ _ _ _ _ _ _ _ _ _ _ _ _ _ _ _ _ _ _ _ _ _ _ _ _ _ _ _ _ _ _ _ SG FH PG LH QG HI.out hfi hn8 hcs HRT.out HPP.out
end Go.Proofs.Ytbdgifngldipcaa
