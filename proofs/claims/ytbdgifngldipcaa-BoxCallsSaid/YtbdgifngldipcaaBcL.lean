/- BoxCalls. -/
import Derived.Test.YtbdgifngldipcaaBcH
namespace Go.Proofs.Ytbdgifngldipcaa
open Go.ChangeShapes Go.WideShapes Go.ChangeAt Go.RowKit
open FP (Fr)
open HP (kB at' Hp)

/-- Which region a piece of code begins with. -/
def headR : Code → Option Nat
  | .seq a _ => headR a
  | .region n _ _ => some n
  | .block _ c => headR c
  | _ => none
/-- What stands in a row of statements from a region on. -/
def tailR (r : Nat) : Code → Code
  | .seq a b => if headR b = some r then b else tailR r b
  | c => c
noncomputable def tail27 : Code := (Try.f12.body.map (tailR 27)).getD .skip
noncomputable def tail15 : Code := (Try.f12.body.map (tailR 15)).getD .skip
/-- What lies while the last row is made. -/
structure R31 (w : World) (hb b11 : Nat) (A1 : Option Addr) (c1 n : Nat) (sd kp : Int) (l : List Bx) (As Ap : Option Addr) (cp np : Nat) (lp : List Bx) (f : Fr) (W : World) : Prop where
  z : hb ≤ W.heap.size
  z5 : w.heap.size + 1 < hb
  z11 : b11 < hb
  sb : W.heap[w.heap.size]? = some (.cells #[.slice A1 n c1, .int .i64 sd, .int .i64 kp] 65 (0, 0))
  fb : W.heap[w.heap.size + 1]? = some (.cells #[.int .u32 f.id, .bool f.ext, .bool f.rem, .int .i64 f.dlc, .string f.data] 39 (0, 0))
  pb : W.heap[b11]? = some (.cells #[.slice Ap np cp, .int .i64 (sd + 1), .int .i64 kp] 65 (0, 0))
  pl : lp.length = np
  ple : np ≤ cp
  pr : BxR W hb Ap lp
  rr : BxR W hb As (sortB l)
  q : Below w.heap.size w W
theorem rd_le {W : World} {B B' sz : Nat} {A : Option Addr} {cs : List (List Value)} (h : Rd W B A sz cs) (hB : B ≤ B') : Rd W B' A sz cs := fun hn => by
  obtain ⟨b, off, e, hlt, hc⟩ := h hn
  exact ⟨b, off, e, by omega, hc⟩
section
variable {w W W' : World} {hb b11 : Nat} {A1 : Option Addr} {c1 n : Nat} {sd kp : Int} {l : List Bx} {As Ap : Option Addr} {cp np : Nat} {lp : List Bx} {f : Fr}
theorem R31.belowB (h : R31 w hb b11 A1 c1 n sd kp l As Ap cp np lp f W) (b : Below hb W W') : R31 w hb b11 A1 c1 n sd kp l As Ap cp np lp f W' := by
  have z5 := h.z5
  exact ⟨Nat.le_trans h.z b.size, h.z5, h.z11, heapB h.sb b (by omega), heapB h.fb b h.z5, heapB h.pb b h.z11, h.pl, h.ple, BxR.below h.pr b, BxR.below h.rr b, h.q.trans (b.mono (by omega))⟩
theorem R31.rrW (h : R31 w hb b11 A1 c1 n sd kp l As Ap cp np lp f W) : Rd W W.heap.size As 7 ((sortB l).map bxc) := rd_le h.rr h.z
theorem R31.bo (h : R31 w hb b11 A1 c1 n sd kp l As Ap cp np lp f W) : Bo W b11 Ap cp np (sd + 1) kp lp := ⟨h.pb, h.pl, h.ple, rd_le h.pr h.z⟩
theorem r31_new (S : Bo W w.heap.size A1 c1 n sd kp l) (F : W.heap[w.heap.size + 1]? = some (.cells #[.int .u32 f.id, .bool f.ext, .bool f.rem, .int .i64 f.dlc, .string f.data] 39 (0, 0))) (P : Bo W b11 Ap cp np (sd + 1) kp lp) (L : BxR W W.heap.size As (sortB l)) (Q : Below w.heap.size w W) : R31 w W.heap.size b11 A1 c1 n sd kp l As Ap cp np lp f W.drew :=
  ⟨Nat.le_refl _, heap_lt F, P.lt, S.box, F, P.box, P.len, P.le, P.rd, L, Q.drew⟩
end

set_option maxRecDepth 1000000 in
set_option maxHeartbeats 8000000 in
theorem tail27_walk (w w15 : World) (l lp : List Bx) (A1 Ap As : Option Addr) (c1 n cp np cs b11 : Nat) (sd kd sp kp rp handle : Int) (f : Fr) (u0 u1 u3 u4 u6 u8 u9 u10 u13 u14 u15 u16 u17 u18 u19 u20 u21 u23 u24 u25 u26 u27 u28 u29 u30 u31 u32 u33 u34 u35 u36 u37 u38 u39 u40 u41 u42 u43 u44 u45 u46 u47 u48 u49 u50 u51 u52 u53 u54 u55 u56 u57 u58 u59 u60 u61 u62 u63 u64 u65 u66 u67 u68 u69 u70 u71 u72 u73 u74 u75 u76 u77 u78 u79 u80 u81 u82 u83 u84 u85 u86 u87 u88 u89 u90 u91 u92 u93 u94 u95 u96 u97 u98 u99 u100 u101 u102 u103 u104 u105 u106 u107 u108 u109 u110 u111 u112 u113 u114 u115 u116 u117 u118 u119 u120 u121 u122 u123 u124 u125 u126 u127 u128 u129 u130 u131 u132 u133 u134 u135 u136 u137 u138 u139 u140 u141 u142 u143 u144 u145 u146 u147 u148 u149 u150 u151 u152 u153 u154 u155 u156 u157 u158 u159 u160 u161 u162 u163 u164 u165 u166 u167 u168 u169 u170 u171 u172 u173 u174 u175 u176 u177 u178 u179 u180 u181 u182 u183 u184 u185 u186 u187 u188 u189 u190 u191 u192 u193 u194 u195 u196 u197 u198 u199 u200 u201 u202 u203 u204 u205 u206 u207 u208 u209 u210 u211 u212 u213 u214 u215 u216 u217 u218 u219 u220 u221 u222 u223 u224 u225 u226 u227 u228 u229 u230 u231 u232 u233 u234 u235 u236 u237 u238 u239 u240 u241 u242 u243 u244 u245 u246 u247 u248 u249 u250 u251 u252 u253 u254 u255 u256 u257 u258 u259 u260 u261 u262 u263 u264 : Value)
    (hS : Bo w15 w.heap.size A1 c1 n sd kd l) (hF : w15.heap[w.heap.size + 1]? = some (.cells #[.int .u32 f.id, .bool f.ext, .bool f.rem, .int .i64 f.dlc, .string f.data] 39 (0, 0))) (hP : Bo w15 b11 Ap cp np sp kp lp) (hL : BxR w15 w15.heap.size As (sortB l)) (QG : Below w.heap.size w w15)
    (hI : ∀ x ∈ l, x.f.id < 4294967296) (hfi : f.id < 4294967296) (hn8 : n ≤ 8) (hcs : n ≤ cs) (hRT : rightBx l sd kd = true) (hPP : PutP l sd kd handle f lp sp kp rp) :
    Code.wp Try.prog tail27 (bodyPost Try.prog Try.f12 fun e w' => e = .returned (.bool true) ∧ Below w.heap.size w w') ⟨#[u0, u1, .int .i64 handle, u3, u4, .pointer (some ⟨w.heap.size, 0, none⟩), u6, .pointer (some ⟨w.heap.size + 1, 0, none⟩), u8, u9, u10, .pointer (some ⟨b11, 0, none⟩), .int .i64 rp, u13, u14, u15, u16, u17, u18, u19, u20, u21, .slice As n cs, u23, u24, u25, u26, u27, u28, u29, u30, u31, u32, u33, u34, u35, u36, u37, u38, u39, u40, u41, u42, u43, u44, u45, u46, u47, u48, u49, u50, u51, u52, u53, u54, u55, u56, u57, u58, u59, u60, u61, u62, u63, u64, u65, u66, u67, u68, u69, u70, u71, u72, u73, u74, u75, u76, u77, u78, u79, u80, u81, u82, u83, u84, u85, u86, u87, u88, u89, u90, u91, u92, u93, u94, u95, u96, u97, u98, u99, u100, u101, u102, u103, u104, u105, u106, u107, u108, u109, u110, u111, u112, u113, u114, u115, u116, u117, u118, u119, u120, u121, u122, u123, u124, u125, u126, u127, u128, u129, u130, u131, u132, u133, u134, u135, u136, u137, u138, u139, u140, u141, u142, u143, u144, u145, u146, u147, u148, u149, u150, u151, u152, u153, u154, u155, u156, u157, u158, u159, u160, u161, u162, u163, u164, u165, u166, u167, u168, u169, u170, u171, u172, u173, u174, u175, u176, u177, u178, u179, u180, u181, u182, u183, u184, u185, u186, u187, u188, u189, u190, u191, u192, u193, u194, u195, u196, u197, u198, u199, u200, u201, u202, u203, u204, u205, u206, u207, u208, u209, u210, u211, u212, u213, u214, u215, u216, u217, u218, u219, u220, u221, u222, u223, u224, u225, u226, u227, u228, u229, u230, u231, u232, u233, u234, u235, u236, u237, u238, u239, u240, u241, u242, u243, u244, u245, u246, u247, u248, u249, u250, u251, u252, u253, u254, u255, u256, u257, u258, u259, u260, u261, u262, u263, u264], []⟩ w15 := by
  have SG := hide hS
  have FH := hide hF
  have PG := hide hP
  have LH := hide hL
  have HI := hide hI
  have HRT := hide hRT
  have HPP := hide hPP
  clear hS hF hP hL hI hRT hPP
  conv => arg 2; whnf
  have FR := hide (fun W => refRight04_any f W hfi)
  obtain ⟨x0, x1, x2⟩ := SG.out.cells
  obtain ⟨y0, y1, y2, y3, y4⟩ := fr_cells FH.out
  obtain ⟨p0, p1, p2⟩ := PG.out.cells
  have zG : b11 < w15.heap.size := PG.out.lt
  have zH : w.heap.size + 1 < w15.heap.size := heap_lt FH.out
  by_cases hb : badPut l sd kd handle f
  · obtain ⟨rfl, rfl⟩ := put_badly HPP.out hb
    obtain rfl : np = 0 := PG.out.len.symm
    rw [badPut_iff HRT.out] at hb
    have ways : handle < 0 ∨ (0 ≤ handle ∧ 1000000 < handle) ∨ (0 ≤ handle ∧ handle ≤ 1000000 ∧ FP.rightB f = false) ∨ (0 ≤ handle ∧ handle ≤ 1000000 ∧ FP.rightB f = true ∧ 1099511627776 ≤ sd) := by
      cases hf : FP.rightB f <;> simp only [hf, Bool.true_eq_false, false_or, true_or, or_true, true_and, reduceCtorEq, false_and, and_true] at hb ⊢ <;> omega
    clear hb HPP
    rcases ways with h1 | ⟨h1, h2⟩ | ⟨h1, h2, h3⟩ | ⟨h1, h2, h3, h4⟩
    · go_wp2_with fail
      go_ret
      exact ⟨rfl, QG⟩
    · go_wp2_with fail
      go_ret
      exact ⟨rfl, QG⟩
    · rw [h3] at FR
      clear h3
      go_wp2_with fail
      (with_reducible refine (FR.out _).mono ?_)
      rintro e16 w16 ⟨rfl, q16⟩
      have QI := below_next QG QG.size q16
      have PI := hide (PG.out.below q16)
      obtain ⟨r0, r1, r2⟩ := PI.out.cells
      go_wp2_with fail
      go_ret
      exact ⟨rfl, QI⟩
    · rw [h3] at FR
      clear h3
      go_wp2_with fail
      (with_reducible refine (FR.out _).mono ?_)
      rintro e16 w16 ⟨rfl, q16⟩
      have QI := below_next QG QG.size q16
      have PI := hide (PG.out.below q16)
      have SI := hide (SG.out.below q16)
      obtain ⟨r0, r1, r2⟩ := PI.out.cells
      have zI : w.heap.size < w16.heap.size := SI.out.lt
      clear x0 x1 x2
      obtain ⟨x0, x1, x2⟩ := SI.out.cells
      go_wp2_with fail
      go_ret
      exact ⟨rfl, QI⟩
  · have hgood := hb
    rw [badPut_iff HRT.out] at hgood
    simp only [not_or, Bool.not_eq_false, Int.not_lt, Int.not_le] at hgood
    obtain ⟨h1, h2, h3, h4⟩ := hgood
    rw [h3] at FR
    clear h3
    go_wp2_with fail
    (with_reducible refine (FR.out _).mono ?_)
    rintro e16 w16 ⟨rfl, q16⟩
    have QI := below_next QG QG.size q16
    have PI := hide (PG.out.below q16)
    have SI := hide (SG.out.below q16)
    have FI := hide (heap_below FH.out q16)
    have LI := hide (BxR.next LH.out q16 q16.size)
    have zI : w.heap.size < w16.heap.size := SI.out.lt
    have zJ : b11 < w16.heap.size := PI.out.lt
    clear x0 x1 x2 y0 y1 y2 y3 y4 p0 p1 p2 SG PG FH LH QG q16 zG
    obtain ⟨x0, x1, x2⟩ := SI.out.cells
    obtain ⟨p0, p1, p2⟩ := PI.out.cells
    have hln : (l.length : Int) = (n : Int) := by rw [SI.out.len]
    by_cases hc : kd ≤ (n : Int)
    · obtain ⟨rfl, rfl⟩ := put_full HPP.out hb (by rw [hln]; exact hc)
      obtain rfl : np = 0 := PI.out.len.symm
      clear hb HPP
      go_wp2_with fail
      go_ret
      exact ⟨rfl, QI⟩
    · obtain ⟨rfl, hp, hRp, rfl, rfl⟩ := put_yes HPP.out hb (by rw [hln]; omega)
      have HPM := hide hp
      have HRP := hide hRp
      clear hb HPP hp hRp
      go_wp2_with fail
      have R0 : R31 w w16.heap.size b11 A1 c1 n sd kp l As Ap cp np lp f w16.drew := r31_new SI.out FI.out PI.out LI.out QI
      have RS := hide R0
      have hl8 : (sortB l).length = n := by rw [sortB_len]; exact SI.out.len
      have E1 := hide (show (([] : List (List Value)).length + ((sortB l).map bxc).length) * 48 ≤ 140737488355328 by rw [List.length_map, hl8]; simp; omega)
      have E2 := hide (show ([] : List (List Value)).length + ((sortB l).map bxc).length ≤ maxLen by rw [List.length_map, hl8]; simp [maxLen]; omega)
      have E3 := hide (show n = ((sortB l).map bxc).length by rw [List.length_map, hl8])
      have F1 := hide (show (((sortB l).map bxc).length + ([bxc ⟨handle, f, sd⟩] : List (List Value)).length) * 48 ≤ 140737488355328 by rw [List.length_map, hl8]; simp; omega)
      have F2 := hide (show ((sortB l).map bxc).length + ([bxc ⟨handle, f, sd⟩] : List (List Value)).length ≤ maxLen by rw [List.length_map, hl8]; simp [maxLen]; omega)
      have F4 := hide (show (sortB l ++ ([⟨handle, f, sd⟩] : List Bx)).length = n + 1 by rw [List.length_append, hl8]; rfl)
      have HPN := hide (HPM.out.trans (List.Perm.append_right _ (sortB_perm l).symm))
      have hsd : -1 ≤ sd := by have := (right_iff.1 HRT.out).2.2.2.1; omega
      have hwr : IntKind.i64.wrap (sd + 1) = sd + 1 := IntWalk.i64_in _ (by omega)
      clear R0 hl8 SI PI FI LI QI x0 x1 x2 p0 p1 p2
      refine wp_region_L [0, 1, 2, 3, 5, 7, 8, 9, 10, 11, 14, 15, 16, 17, 18] [(3, fun W => W.heap[b11]? = some (.cells #[.slice Ap np cp, .int .i64 (sd + 1), .int .i64 kp] 65 (0, 0))), (8, fun W => W.heap[w.heap.size + 1]? = some (.cells #[.int .u32 f.id, .bool f.ext, .bool f.rem, .int .i64 f.dlc, .string f.data] 39 (0, 0))), (10, fun W => W.heap[w.heap.size]? = some (.cells #[.slice A1 n c1, .int .i64 sd, .int .i64 kp] 65 (0, 0))), (15, fun W => W.heap[w.heap.size]? = some (.cells #[.slice A1 n c1, .int .i64 sd, .int .i64 kp] 65 (0, 0))), (18, fun W => W.heap[w.heap.size]? = some (.cells #[.slice A1 n c1, .int .i64 sd, .int .i64 kp] 65 (0, 0)))] (by kernel_rfl) ?_
      generalize w16.drew = W6 at *
      refine wpAnyL_pure (i := 0) (v := .int .i64 0) rfl rfl (by kernel_rfl) (by kernel_rfl) (by kernel_rfl) (by kernel_rfl) (by kernel_rfl) (fun _ _ _ h => h) rfl (fun W => by go_simp) ?_
      go_simp
      refine wpAnyL_pure (i := 1) (v := .bool true) rfl rfl (by kernel_rfl) (by kernel_rfl) (by kernel_rfl) (by kernel_rfl) (by kernel_rfl) (fun _ _ _ h => h) rfl (fun W => by go_simp) ?_
      go_simp
      refine wpAnyL_pure (i := 2) (v := .bool true) rfl rfl (by kernel_rfl) (by kernel_rfl) (by kernel_rfl) (by kernel_rfl) (by kernel_rfl) (fun _ _ _ h => h) rfl (fun W => by go_simp) ?_
      go_simp
      refine wpAnyL_loadG (i := 3) (v := .agg #[.slice Ap np cp, .int .i64 (sd + 1), .int .i64 kp]) rfl rfl (by kernel_rfl) (by kernel_rfl) (by kernel_rfl) (by kernel_rfl) (by kernel_rfl) (fun _ _ _ h => h) (by kernel_rfl) (fun W h => by (have hc0 : W.cell? ⟨b11, 0, none⟩ = some (.slice Ap np cp) := by simp [World.cell?, h]); (have hc1 : W.cell? ⟨b11, 1, none⟩ = some (.int .i64 (sd + 1)) := by simp [World.cell?, h]); (have hc2 : W.cell? ⟨b11, 2, none⟩ = some (.int .i64 kp) := by simp [World.cell?, h]); clear h; go_simp) (RS.out.pb) ?_
      go_simp
      refine wpAnyL_pureG (i := 5) (v := .slice As n cs) rfl rfl (by kernel_rfl) (by kernel_rfl) (by kernel_rfl) (by kernel_rfl) (by kernel_rfl) (fun _ _ _ h => h) (by kernel_rfl) (fun W => by go_simp) ?_
      go_simp
      refine wpAnyL_pureG (i := 7) (v := .int .i64 handle) rfl rfl (by kernel_rfl) (by kernel_rfl) (by kernel_rfl) (by kernel_rfl) (by kernel_rfl) (fun _ _ _ h => h) (by kernel_rfl) (fun W => by go_simp) ?_
      go_simp
      refine wpAnyL_loadG (i := 8) (v := .agg #[.int .u32 f.id, .bool f.ext, .bool f.rem, .int .i64 f.dlc, .string f.data]) rfl rfl (by kernel_rfl) (by kernel_rfl) (by kernel_rfl) (by kernel_rfl) (by kernel_rfl) (fun _ _ _ h => h) (by kernel_rfl) (fun W h => by (have hc0 : W.cell? ⟨w.heap.size + 1, 0, none⟩ = some (.int .u32 f.id) := by simp [World.cell?, h]); (have hc1 : W.cell? ⟨w.heap.size + 1, 1, none⟩ = some (.bool f.ext) := by simp [World.cell?, h]); (have hc2 : W.cell? ⟨w.heap.size + 1, 2, none⟩ = some (.bool f.rem) := by simp [World.cell?, h]); (have hc3 : W.cell? ⟨w.heap.size + 1, 3, none⟩ = some (.int .i64 f.dlc) := by simp [World.cell?, h]); (have hc4 : W.cell? ⟨w.heap.size + 1, 4, none⟩ = some (.string f.data) := by simp [World.cell?, h]); clear h; go_simp) (RS.out.fb) ?_
      go_simp
      refine wpAnyL_pureG (i := 9) (v := .pointer (some ⟨w.heap.size, 1, none⟩)) rfl rfl (by kernel_rfl) (by kernel_rfl) (by kernel_rfl) (by kernel_rfl) (by kernel_rfl) (fun _ _ _ h => h) (by kernel_rfl) (fun W => by go_simp) ?_
      go_simp
      refine wpAnyL_loadG (i := 10) (v := .int .i64 sd) rfl rfl (by kernel_rfl) (by kernel_rfl) (by kernel_rfl) (by kernel_rfl) (by kernel_rfl) (fun _ _ _ h => h) (by kernel_rfl) (fun W h => by (have hc0 : W.cell? ⟨w.heap.size, 1, none⟩ = some (.int .i64 sd) := by simp [World.cell?, h]); clear h; go_simp) (RS.out.sb) ?_
      go_simp
      refine wpAnyL_pureG (i := 11) (v := .agg #[.int .i64 handle, .int .u32 f.id, .bool f.ext, .bool f.rem, .int .i64 f.dlc, .string f.data, .int .i64 sd]) rfl rfl (by kernel_rfl) (by kernel_rfl) (by kernel_rfl) (by kernel_rfl) (by kernel_rfl) (fun _ _ _ h => h) (by kernel_rfl) (fun W => by go_simp) ?_
      go_simp
      refine wpAnyL_pureG (i := 14) (v := .pointer (some ⟨w.heap.size, 1, none⟩)) rfl rfl (by kernel_rfl) (by kernel_rfl) (by kernel_rfl) (by kernel_rfl) (by kernel_rfl) (fun _ _ _ h => h) (by kernel_rfl) (fun W => by go_simp) ?_
      go_simp
      refine wpAnyL_loadG (i := 15) (v := .int .i64 sd) rfl rfl (by kernel_rfl) (by kernel_rfl) (by kernel_rfl) (by kernel_rfl) (by kernel_rfl) (fun _ _ _ h => h) (by kernel_rfl) (fun W h => by (have hc0 : W.cell? ⟨w.heap.size, 1, none⟩ = some (.int .i64 sd) := by simp [World.cell?, h]); clear h; go_simp) (RS.out.sb) ?_
      go_simp
      refine wpAnyL_pureG (i := 16) (v := .int .i64 (sd + 1)) rfl rfl (by kernel_rfl) (by kernel_rfl) (by kernel_rfl) (by kernel_rfl) (by kernel_rfl) (fun _ _ _ h => h) (by kernel_rfl) (fun W => by go_simp) ?_
      go_simp
      refine wpAnyL_pureG (i := 17) (v := .pointer (some ⟨w.heap.size, 2, none⟩)) rfl rfl (by kernel_rfl) (by kernel_rfl) (by kernel_rfl) (by kernel_rfl) (by kernel_rfl) (fun _ _ _ h => h) (by kernel_rfl) (fun W => by go_simp) ?_
      go_simp
      refine wpAnyL_loadG (i := 18) (v := .int .i64 kp) rfl rfl (by kernel_rfl) (by kernel_rfl) (by kernel_rfl) (by kernel_rfl) (by kernel_rfl) (fun _ _ _ h => h) (by kernel_rfl) (fun W h => by (have hc0 : W.cell? ⟨w.heap.size, 2, none⟩ = some (.int .i64 kp) := by simp [World.cell?, h]); clear h; go_simp) (RS.out.sb) ?_
      go_simp
      refine wpAnyL_two (i := 4) (k := 12) (by kernel_rfl) ?_ ?_
      · refine wpOp_guard rfl (by kernel_rfl) ?_
        go_simp
        have qa : Below W6.heap.size W6 (W6.alloc (.cells #[] 70)) := (Below.refl _ _).alloc (Nat.le_refl _) _
        have O : Hid (Own (W6.alloc (.cells #[] 70)) w16.heap.size 70 7 (some ⟨W6.heap.size, 0, none⟩) 0 []) := Own.lit W6 w16.heap.size 70 7 [] RS.out.z (by simp) (by simp)
        have zq : W6.heap.size < (W6.alloc (.cells #[] 70)).heap.size := by simp
        replace RS := hide (RS.out.belowB (qa.mono RS.out.z))
        clear qa
        generalize W6.heap.size = x4 at *
        generalize W6.alloc (.cells #[] 70) = W7 at *
        refine ⟨keepsL_mk (by kernel_rfl) (.cons RS.out.pb (.cons RS.out.fb (.cons RS.out.sb (.cons RS.out.sb (.cons RS.out.sb .nil))))), ?_⟩
        go_simp
        refine wpAnyL_two (i := 6) (k := 12) (by kernel_rfl) ?_ ?_
        · refine wpOp_guard rfl (by kernel_rfl) ?_
          refine wp_append_rows _ _ _ 63 rfl slBox w16.heap.size _ _ _ [] rfl O.out _ _ _ ((sortB l).map bxc) rfl RS.out.rrW (bxc_rows _) (bxc_ones _) E1.out E2.out RS.out.z rfl E3.out ?_
          intro A6 c6 W8 o6 g6
          replace RS := hide (RS.out.belowB (below_own g6 O.out RS.out.z))
          have O6 : Hid (Own W8 w16.heap.size 70 7 A6 c6 ((sortB l).map bxc)) := hide (by rw [List.nil_append] at o6; exact o6)
          clear o6 g6 O
          refine ⟨keepsL_mk (by kernel_rfl) (.cons RS.out.pb (.cons RS.out.fb (.cons RS.out.sb (.cons RS.out.sb (.cons RS.out.sb .nil))))), ?_⟩
          go_simp
          refine wpAnyL_one (i := 12) (by kernel_rfl) ?_
          refine wpOp_guard rfl (by kernel_rfl) ?_
          go_simp
          have qa : Below W8.heap.size W8 (W8.alloc (.cells #[.int .i64 handle, .int .u32 f.id, .bool f.ext, .bool f.rem, .int .i64 f.dlc, .string f.data, .int .i64 sd] 70)) := (Below.refl _ _).alloc (Nat.le_refl _) _
          have X := hide (World.alloc_heap_new W8 (.cells #[.int .i64 handle, .int .u32 f.id, .bool f.ext, .bool f.rem, .int .i64 f.dlc, .string f.data, .int .i64 sd] 70))
          replace O6 := hide (O6.out.alloc (.cells #[.int .i64 handle, .int .u32 f.id, .bool f.ext, .bool f.rem, .int .i64 f.dlc, .string f.data, .int .i64 sd] 70))
          replace RS := hide (RS.out.belowB (qa.mono RS.out.z))
          clear qa
          generalize W8.heap.size = x12 at *
          generalize W8.alloc (.cells #[.int .i64 handle, .int .u32 f.id, .bool f.ext, .bool f.rem, .int .i64 f.dlc, .string f.data, .int .i64 sd] 70) = W10 at *
          refine ⟨keepsL_mk (by kernel_rfl) (.cons RS.out.pb (.cons RS.out.fb (.cons RS.out.sb (.cons RS.out.sb (.cons RS.out.sb .nil))))), ?_⟩
          go_simp
          refine wpAnyL_one (i := 13) (by kernel_rfl) ?_
          refine wpOp_guard rfl (by kernel_rfl) ?_
          refine wp_append_rows _ _ _ 63 rfl slBox w16.heap.size _ _ _ ((sortB l).map bxc) rfl O6.out _ _ _ [bxc ⟨handle, f, sd⟩] rfl (rd_row (cs := bxc ⟨handle, f, sd⟩) X.out) (by simp [bxc]) (by simp [bxc, Value.oneCell']) F1.out F2.out RS.out.z E3.out rfl ?_
          intro A7 c7 W9 o7 g7
          replace RS := hide (RS.out.belowB (below_own g7 O6.out RS.out.z))
          have O7 : Hid (Own W9 w16.heap.size 70 7 A7 c7 ((sortB l ++ ([⟨handle, f, sd⟩] : List Bx)).map bxc)) := hide (by rw [List.map_append]; exact o7)
          have R9 : Hid (BxR W9 W9.heap.size A7 (sortB l ++ ([⟨handle, f, sd⟩] : List Bx))) := O7.out.rd (bxc_rows _)
          clear o7 g7 O6 X O7
          refine ⟨keepsL_mk (by kernel_rfl) (.cons RS.out.pb (.cons RS.out.fb (.cons RS.out.sb (.cons RS.out.sb (.cons RS.out.sb .nil))))), ?_⟩
          go_simp
          refine wpAnyL_one (i := 19) (by kernel_rfl) ?_
          refine wpOp_guard rfl (by kernel_rfl) ?_
          go_simp
          (with_reducible refine (is_u (c2 := c7) RS.out.bo HRP.out F4.out R9.out (put_id HI.out hfi HPM.out) HPN.out).mono ?_)
          rintro e19 w19 ⟨rfl, q19⟩
          have QZ := below_next RS.out.q RS.out.q.size q19
          clear RS R9 q19
          go_simp
          refine ⟨keepsL_all (by kernel_rfl) (by kernel_rfl), ?_⟩
          refine wpAnyL_one (i := 20) (by kernel_rfl) ?_
          refine wpOp_do rfl rfl ?_
          go_simp
          refine ⟨keepsL_all (by kernel_rfl) (by kernel_rfl), ?_⟩
          refine wpAnyL_one (i := 21) (by kernel_rfl) ?_
          refine wpOp_do rfl rfl ?_
          go_simp
          refine ⟨keepsL_all (by kernel_rfl) (by kernel_rfl), ?_⟩
          refine wpAnyL_done (by kernel_rfl) ?_ _
          go_wp2_with fail
          go_ret
          exact ⟨rfl, QZ⟩
        · refine wpOp_guard rfl (by kernel_rfl) ?_
          go_simp
          have qa : Below W7.heap.size W7 (W7.alloc (.cells #[.int .i64 handle, .int .u32 f.id, .bool f.ext, .bool f.rem, .int .i64 f.dlc, .string f.data, .int .i64 sd] 70)) := (Below.refl _ _).alloc (Nat.le_refl _) _
          have X := hide (World.alloc_heap_new W7 (.cells #[.int .i64 handle, .int .u32 f.id, .bool f.ext, .bool f.rem, .int .i64 f.dlc, .string f.data, .int .i64 sd] 70))
          replace O := hide (O.out.alloc (.cells #[.int .i64 handle, .int .u32 f.id, .bool f.ext, .bool f.rem, .int .i64 f.dlc, .string f.data, .int .i64 sd] 70))
          replace RS := hide (RS.out.belowB (qa.mono RS.out.z))
          clear qa
          generalize W7.heap.size = x12 at *
          generalize W7.alloc (.cells #[.int .i64 handle, .int .u32 f.id, .bool f.ext, .bool f.rem, .int .i64 f.dlc, .string f.data, .int .i64 sd] 70) = W8 at *
          refine ⟨keepsL_mk (by kernel_rfl) (.cons RS.out.pb (.cons RS.out.fb (.cons RS.out.sb (.cons RS.out.sb (.cons RS.out.sb .nil))))), ?_⟩
          go_simp
          refine wpAnyL_one (i := 6) (by kernel_rfl) ?_
          refine wpOp_guard rfl (by kernel_rfl) ?_
          refine wp_append_rows _ _ _ 63 rfl slBox w16.heap.size _ _ _ [] rfl O.out _ _ _ ((sortB l).map bxc) rfl RS.out.rrW (bxc_rows _) (bxc_ones _) E1.out E2.out RS.out.z rfl E3.out ?_
          intro A6 c6 W10 o6 g6
          replace X := hide (heap_grownB X.out g6 (by simp [Value.ownBlock]; omega))
          replace RS := hide (RS.out.belowB (below_own g6 O.out RS.out.z))
          have O6 : Hid (Own W10 w16.heap.size 70 7 A6 c6 ((sortB l).map bxc)) := hide (by rw [List.nil_append] at o6; exact o6)
          clear o6 g6 O
          refine ⟨keepsL_mk (by kernel_rfl) (.cons RS.out.pb (.cons RS.out.fb (.cons RS.out.sb (.cons RS.out.sb (.cons RS.out.sb .nil))))), ?_⟩
          go_simp
          refine wpAnyL_one (i := 13) (by kernel_rfl) ?_
          refine wpOp_guard rfl (by kernel_rfl) ?_
          refine wp_append_rows _ _ _ 63 rfl slBox w16.heap.size _ _ _ ((sortB l).map bxc) rfl O6.out _ _ _ [bxc ⟨handle, f, sd⟩] rfl (rd_row (cs := bxc ⟨handle, f, sd⟩) X.out) (by simp [bxc]) (by simp [bxc, Value.oneCell']) F1.out F2.out RS.out.z E3.out rfl ?_
          intro A7 c7 W9 o7 g7
          replace RS := hide (RS.out.belowB (below_own g7 O6.out RS.out.z))
          have O7 : Hid (Own W9 w16.heap.size 70 7 A7 c7 ((sortB l ++ ([⟨handle, f, sd⟩] : List Bx)).map bxc)) := hide (by rw [List.map_append]; exact o7)
          have R9 : Hid (BxR W9 W9.heap.size A7 (sortB l ++ ([⟨handle, f, sd⟩] : List Bx))) := O7.out.rd (bxc_rows _)
          clear o7 g7 O6 X O7
          refine ⟨keepsL_mk (by kernel_rfl) (.cons RS.out.pb (.cons RS.out.fb (.cons RS.out.sb (.cons RS.out.sb (.cons RS.out.sb .nil))))), ?_⟩
          go_simp
          refine wpAnyL_one (i := 19) (by kernel_rfl) ?_
          refine wpOp_guard rfl (by kernel_rfl) ?_
          go_simp
          (with_reducible refine (is_u (c2 := c7) RS.out.bo HRP.out F4.out R9.out (put_id HI.out hfi HPM.out) HPN.out).mono ?_)
          rintro e19 w19 ⟨rfl, q19⟩
          have QZ := below_next RS.out.q RS.out.q.size q19
          clear RS R9 q19
          go_simp
          refine ⟨keepsL_all (by kernel_rfl) (by kernel_rfl), ?_⟩
          refine wpAnyL_one (i := 20) (by kernel_rfl) ?_
          refine wpOp_do rfl rfl ?_
          go_simp
          refine ⟨keepsL_all (by kernel_rfl) (by kernel_rfl), ?_⟩
          refine wpAnyL_one (i := 21) (by kernel_rfl) ?_
          refine wpOp_do rfl rfl ?_
          go_simp
          refine ⟨keepsL_all (by kernel_rfl) (by kernel_rfl), ?_⟩
          refine wpAnyL_done (by kernel_rfl) ?_ _
          go_wp2_with fail
          go_ret
          exact ⟨rfl, QZ⟩
      · refine wpOp_guard rfl (by kernel_rfl) ?_
        go_simp
        have qa : Below W6.heap.size W6 (W6.alloc (.cells #[.int .i64 handle, .int .u32 f.id, .bool f.ext, .bool f.rem, .int .i64 f.dlc, .string f.data, .int .i64 sd] 70)) := (Below.refl _ _).alloc (Nat.le_refl _) _
        have X := hide (World.alloc_heap_new W6 (.cells #[.int .i64 handle, .int .u32 f.id, .bool f.ext, .bool f.rem, .int .i64 f.dlc, .string f.data, .int .i64 sd] 70))
        replace RS := hide (RS.out.belowB (qa.mono RS.out.z))
        clear qa
        generalize W6.heap.size = x12 at *
        generalize W6.alloc (.cells #[.int .i64 handle, .int .u32 f.id, .bool f.ext, .bool f.rem, .int .i64 f.dlc, .string f.data, .int .i64 sd] 70) = W7 at *
        refine ⟨keepsL_mk (by kernel_rfl) (.cons RS.out.pb (.cons RS.out.fb (.cons RS.out.sb (.cons RS.out.sb (.cons RS.out.sb .nil))))), ?_⟩
        go_simp
        refine wpAnyL_one (i := 4) (by kernel_rfl) ?_
        refine wpOp_guard rfl (by kernel_rfl) ?_
        go_simp
        have qa : Below W7.heap.size W7 (W7.alloc (.cells #[] 70)) := (Below.refl _ _).alloc (Nat.le_refl _) _
        have O : Hid (Own (W7.alloc (.cells #[] 70)) w16.heap.size 70 7 (some ⟨W7.heap.size, 0, none⟩) 0 []) := Own.lit W7 w16.heap.size 70 7 [] RS.out.z (by simp) (by simp)
        have zq : W7.heap.size < (W7.alloc (.cells #[] 70)).heap.size := by simp
        have zp : x12 < W7.heap.size := heap_lt X.out
        replace X := hide (heap_below X.out qa)
        replace RS := hide (RS.out.belowB (qa.mono RS.out.z))
        clear qa
        generalize W7.heap.size = x4 at *
        generalize W7.alloc (.cells #[] 70) = W8 at *
        refine ⟨keepsL_mk (by kernel_rfl) (.cons RS.out.pb (.cons RS.out.fb (.cons RS.out.sb (.cons RS.out.sb (.cons RS.out.sb .nil))))), ?_⟩
        go_simp
        refine wpAnyL_one (i := 6) (by kernel_rfl) ?_
        refine wpOp_guard rfl (by kernel_rfl) ?_
        refine wp_append_rows _ _ _ 63 rfl slBox w16.heap.size _ _ _ [] rfl O.out _ _ _ ((sortB l).map bxc) rfl RS.out.rrW (bxc_rows _) (bxc_ones _) E1.out E2.out RS.out.z rfl E3.out ?_
        intro A6 c6 W10 o6 g6
        replace X := hide (heap_grownB X.out g6 (by simp [Value.ownBlock]; omega))
        replace RS := hide (RS.out.belowB (below_own g6 O.out RS.out.z))
        have O6 : Hid (Own W10 w16.heap.size 70 7 A6 c6 ((sortB l).map bxc)) := hide (by rw [List.nil_append] at o6; exact o6)
        clear o6 g6 O
        refine ⟨keepsL_mk (by kernel_rfl) (.cons RS.out.pb (.cons RS.out.fb (.cons RS.out.sb (.cons RS.out.sb (.cons RS.out.sb .nil))))), ?_⟩
        go_simp
        refine wpAnyL_one (i := 13) (by kernel_rfl) ?_
        refine wpOp_guard rfl (by kernel_rfl) ?_
        refine wp_append_rows _ _ _ 63 rfl slBox w16.heap.size _ _ _ ((sortB l).map bxc) rfl O6.out _ _ _ [bxc ⟨handle, f, sd⟩] rfl (rd_row (cs := bxc ⟨handle, f, sd⟩) X.out) (by simp [bxc]) (by simp [bxc, Value.oneCell']) F1.out F2.out RS.out.z E3.out rfl ?_
        intro A7 c7 W9 o7 g7
        replace RS := hide (RS.out.belowB (below_own g7 O6.out RS.out.z))
        have O7 : Hid (Own W9 w16.heap.size 70 7 A7 c7 ((sortB l ++ ([⟨handle, f, sd⟩] : List Bx)).map bxc)) := hide (by rw [List.map_append]; exact o7)
        have R9 : Hid (BxR W9 W9.heap.size A7 (sortB l ++ ([⟨handle, f, sd⟩] : List Bx))) := O7.out.rd (bxc_rows _)
        clear o7 g7 O6 X O7
        refine ⟨keepsL_mk (by kernel_rfl) (.cons RS.out.pb (.cons RS.out.fb (.cons RS.out.sb (.cons RS.out.sb (.cons RS.out.sb .nil))))), ?_⟩
        go_simp
        refine wpAnyL_one (i := 19) (by kernel_rfl) ?_
        refine wpOp_guard rfl (by kernel_rfl) ?_
        go_simp
        (with_reducible refine (is_u (c2 := c7) RS.out.bo HRP.out F4.out R9.out (put_id HI.out hfi HPM.out) HPN.out).mono ?_)
        rintro e19 w19 ⟨rfl, q19⟩
        have QZ := below_next RS.out.q RS.out.q.size q19
        clear RS R9 q19
        go_simp
        refine ⟨keepsL_all (by kernel_rfl) (by kernel_rfl), ?_⟩
        refine wpAnyL_one (i := 20) (by kernel_rfl) ?_
        refine wpOp_do rfl rfl ?_
        go_simp
        refine ⟨keepsL_all (by kernel_rfl) (by kernel_rfl), ?_⟩
        refine wpAnyL_one (i := 21) (by kernel_rfl) ?_
        refine wpOp_do rfl rfl ?_
        go_simp
        refine ⟨keepsL_all (by kernel_rfl) (by kernel_rfl), ?_⟩
        refine wpAnyL_done (by kernel_rfl) ?_ _
        go_wp2_with fail
        go_ret
        exact ⟨rfl, QZ⟩
end Go.Proofs.Ytbdgifngldipcaa
