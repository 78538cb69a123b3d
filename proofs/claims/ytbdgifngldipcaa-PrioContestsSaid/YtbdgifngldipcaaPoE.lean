/- PrioContests behind its first test: what is left of all, where each lost, their order. -/
import Derived.Test.YtbdgifngldipcaaPoC
import Derived.Test.YtbdgifngldipcaaOrdL
import Derived.Test.YtbdgifngldipcaaPrN
namespace Go.Proofs.Ytbdgifngldipcaa
open Go.ChangeShapes Go.WideShapes Go.ChangeAt Go.RowKit
open FP (Fr)

theorem range_below {W W' : World} {g o : Nat} {cs : List Value} (h : W.rangeAt g o cs) (hg : g < W.heap.size) (b : Below W.heap.size W W') : W'.rangeAt g o cs := fun j v hv => by
  have := h j v hv
  rw [← this]
  simp only [World.cell?]
  rw [b.block g hg]
theorem range_cells {W : World} {g : Nat} {f : Fr} (h : W.rangeAt g 0 (frc f)) : W.cell? ⟨g, 0, none⟩ = some (.int .u32 f.id) ∧ W.cell? ⟨g, 1, none⟩ = some (.bool f.ext) ∧ W.cell? ⟨g, 2, none⟩ = some (.bool f.rem) ∧ W.cell? ⟨g, 3, none⟩ = some (.int .i64 f.dlc) ∧ W.cell? ⟨g, 4, none⟩ = some (.string f.data) :=
  ⟨h 0 _ rfl, h 1 _ rfl, h 2 _ rfl, h 3 _ rfl, h 4 _ rfl⟩
theorem range_set {W W' : World} {b g : Nat} {cs vs : List Value} (hb : b ≠ g) (e : W' = W.setCells b 0 vs) (h : W.rangeAt g 0 cs) : W'.rangeAt g 0 cs := by
  subst e
  exact World.rangeAt_setCells_apart h b 0 vs (.inl (fun e => hb e.symm))
theorem size_set {W W' : World} {b g : Nat} {vs : List Value} (e : W' = W.setCells b 0 vs) (h : g < W.heap.size) : g < W'.heap.size := by
  subst e
  have := (below_setCells (B := 0) (g := b) vs 0 W (Nat.zero_le _)).size
  omega
/-- What lies at the law's front: both frames in blocks, the row of the call's own. -/
structure CtS (w : World) (f g : Fr) (A : Option Addr) (c : Nat) (rows : List (List Value)) (W : World) : Prop where
  z5 : w.heap.size + 1 < W.heap.size
  b4 : W.heap[w.heap.size]? = some (.cells #[.int .u32 f.id, .bool f.ext, .bool f.rem, .int .i64 f.dlc, .string f.data] 39 (0, 0))
  b5 : W.heap[w.heap.size + 1]? = some (.cells #[.int .u32 g.id, .bool g.ext, .bool g.rem, .int .i64 g.dlc, .string g.data] 39 (0, 0))
  r : Own W (w.heap.size + 2) 39 5 A c rows
  q : Below w.heap.size w W
section
variable {w W W' : World} {f g : Fr} {A : Option Addr} {c : Nat} {rows : List (List Value)}
theorem CtS.below (h : CtS w f g A c rows W) (b : Below W.heap.size W W') : CtS w f g A c rows W' :=
  ⟨Nat.lt_of_lt_of_le h.z5 b.size, heap_below h.b4 b, heap_below h.b5 b, h.r.grown b, below_next h.q h.q.size b⟩
theorem CtS.store4 (h : CtS w f g A c rows W) {x : Fr} (e : W' = W.setCells w.heap.size 0 (frc x)) : CtS w x g A c rows W' := by
  subst e
  exact ⟨size_set rfl h.z5, whole_heap (frc x) (xs := frc f) h.b4 rfl, other_heap (x := w.heap.size + 1) (b := w.heap.size) (by omega) (frc x) 0 _ h.b5, own_setCells (by omega) (frc x) 0 W h.r, h.q.trans (below_setCells (g := w.heap.size) (frc x) 0 W (Nat.le_refl _))⟩
theorem CtS.store5 (h : CtS w f g A c rows W) {x : Fr} (e : W' = W.setCells (w.heap.size + 1) 0 (frc x)) : CtS w f x A c rows W' := by
  subst e
  exact ⟨size_set rfl h.z5, other_heap (x := w.heap.size) (b := w.heap.size + 1) (by omega) (frc x) 0 _ h.b4, whole_heap (frc x) (xs := frc g) h.b5 rfl, own_setCells (by omega) (frc x) 0 W h.r, h.q.trans (below_setCells (g := w.heap.size + 1) (frc x) 0 W (by omega))⟩
theorem CtS.drew (h : CtS w f g A c rows W) : CtS w f g A c rows W.drew := ⟨h.z5, h.b4, h.b5, h.r.drew, h.q.drew⟩
end

/-- Which region a piece of code begins with. -/
def headC : Code → Option Nat
  | .seq a _ => headC a
  | .region n _ _ => some n
  | .block _ c => headC c
  | _ => none
/-- What stands in a row of statements behind a region. -/
def tailC (r : Nat) : Code → Code
  | .seq a b => if headC a = some r then b else tailC r b
  | c => c
noncomputable def ctTail2 : Code := (Try.f9.body.map (tailC 2)).getD .skip
noncomputable def ctTail5 : Code := (Try.f9.body.map (tailC 5)).getD .skip

/-- The one that is left at j stands behind those that are left ahead of j. -/
theorem left_at {x : Nat → Int} {j : Nat} (hx : x j < 0) : ∀ n, j < n → (leftIdx x n)[(leftIdx x j).length]? = some j
  | 0, h => by omega
  | n + 1, h => by
    rcases Nat.lt_or_ge j n with h1 | h1
    · have ih := left_at hx n h1
      have hlen := (List.getElem?_eq_some_iff.1 ih).1
      by_cases hn : x n < 0
      · rw [leftIdx_in hn, List.getElem?_append_left hlen]; exact ih
      · rw [leftIdx_out hn]; exact ih
    · obtain rfl : j = n := by omega
      rw [leftIdx_in hx]; simp

/-- Contest of any row: refused, or what is left and where each lost. -/
def ContestW (l : List Fr) (n : Nat) (AL : Option Addr) (nl : Nat) (AT : Option Addr) (nt : Nat) (er : Int) (W : World) : Prop :=
  ((n = 0 ∨ wellB l = false) ∧ nl = 0 ∧ nt = 0 ∧ er = 1) ∨
  (0 < n ∧ wellB l = true ∧ nl = (leftIdx (lostF l) n).length ∧ nt = n ∧ er = 0 ∧ Rd W W.heap.size AL 1 (leftRows (lostF l) n) ∧ Rd W W.heap.size AT 1 (intRows n (lostF l)))
theorem contestW_any (l : List Fr) (A : Option Addr) (c n : Nat) (w : World) (hn : n = l.length) (hr : FrR w w.heap.size A l) (hl : l.length ≤ 1000) (hid : ∀ f ∈ l, f.id < 4294967296) :
    Calls Try.prog 29 #[.slice A n c] w fun e w' => ∃ AL nl cL AT nt cT er, e = .returned (.tuple #[.slice AL nl cL, .slice AT nt cT, .int .i64 er]) ∧ ContestW l n AL nl AT nt er w' ∧ Below w.heap.size w w' := by
  subst hn
  by_cases hb : l.length = 0 ∨ wellB l = false
  · refine (Contest_bad l A c w hr hl hid hb).mono ?_
    rintro e w' ⟨rfl, q⟩
    exact ⟨_, _, _, _, _, _, _, rfl, .inl ⟨hb, rfl, rfl, rfl⟩, q⟩
  · have h1 : 0 < l.length := by omega
    have h2 : wellB l = true := by cases h : wellB l <;> simp_all
    refine (Contest_well l A c w hr h1 hl hid h2).mono ?_
    rintro e w' ⟨AL, cL, AT, cT, rfl, h3, h4, q⟩
    exact ⟨_, _, _, _, _, _, _, rfl, .inr ⟨h1, h2, rfl, rfl, rfl, h3, h4⟩, q⟩

/-- What lies in the loop. -/
structure LcS (w : World) (l : List Fr) (n : Nat) (A AL AT : Option Addr) (W : World) : Prop where
  r1 : FrR W W.heap.size A l
  rL : Rd W W.heap.size AL 1 (leftRows (lostF l) n)
  rT : Rd W W.heap.size AT 1 (intRows n (lostF l))
  q : Below w.heap.size w W
theorem LcS.below {w : World} {l : List Fr} {n : Nat} {A AL AT : Option Addr} {W W' : World} (h : LcS w l n A AL AT W) (b : Below W.heap.size W W') : LcS w l n A AL AT W' :=
  ⟨FrR.next h.r1 b b.size, Rd.next h.rL b b.size, Rd.next h.rT b b.size, below_next h.q h.q.size b⟩

set_option maxRecDepth 1000000 in
set_option maxHeartbeats 8000000 in
theorem ctTail5_walk (w wB : World) (l : List Fr) (A1 : Option Addr) (c1 n : Nat) (u1 u2 u3 u4 u5 u6 u7 u8 u9 u10 u11 u12 u13 u14 u15 u16 u17 u18 u19 u20 u21 u22 u23 u24 u25 u26 u27 u28 u29 u30 u31 u32 u33 u34 u35 u36 u37 u38 u39 u40 u41 u42 u43 u44 u45 u46 u47 u48 u49 u50 u51 u52 u53 u54 u55 u56 u57 u58 u59 u60 u61 u62 u63 u64 u65 u66 u67 u68 u69 u70 u71 u72 u73 u74 u75 u76 u77 u78 u79 u81 u82 u83 u84 u85 u86 u87 u88 u89 u90 u91 u92 u93 u94 u95 u96 u97 u98 u99 u100 u101 u102 u103 u104 u105 u106 u107 u108 u109 u110 u111 u112 u113 u114 u115 u116 u117 u118 u119 u120 u121 u122 u123 u124 u125 u126 u127 u128 u129 u130 u131 u132 u133 u134 u135 u136 u137 u138 u139 u140 u141 u142 u143 u144 u145 u146 u147 u148 u149 u150 u151 u152 u153 u154 u155 u156 u157 u158 u159 u160 u161 u162 u163 u164 u165 u166 u167 u168 u169 u170 u171 u172 u173 u174 u175 u176 u177 u178 u179 u180 u181 u182 u183 u184 u185 : Value)
    (hR : FrR wB wB.heap.size A1 l) (QB : Below w.heap.size w wB) (hn : n = l.length) (h10 : l.length ≤ 10) (hid : ∀ f ∈ l, f.id < 4294967296) :
    Code.wp Try.prog ctTail5 (bodyPost Try.prog Try.f9 fun e w' => e = .returned (.bool true) ∧ Below w.heap.size w w') ⟨#[.slice A1 n c1, u1, u2, u3, u4, u5, u6, u7, u8, u9, u10, u11, u12, u13, u14, u15, u16, u17, u18, u19, u20, u21, u22, u23, u24, u25, u26, u27, u28, u29, u30, u31, u32, u33, u34, u35, u36, u37, u38, u39, u40, u41, u42, u43, u44, u45, u46, u47, u48, u49, u50, u51, u52, u53, u54, u55, u56, u57, u58, u59, u60, u61, u62, u63, u64, u65, u66, u67, u68, u69, u70, u71, u72, u73, u74, u75, u76, u77, u78, u79, .bool false, u81, u82, u83, u84, u85, u86, u87, u88, u89, u90, u91, u92, u93, u94, u95, u96, u97, u98, u99, u100, u101, u102, u103, u104, u105, u106, u107, u108, u109, u110, u111, u112, u113, u114, u115, u116, u117, u118, u119, u120, u121, u122, u123, u124, u125, u126, u127, u128, u129, u130, u131, u132, u133, u134, u135, u136, u137, u138, u139, u140, u141, u142, u143, u144, u145, u146, u147, u148, u149, u150, u151, u152, u153, u154, u155, u156, u157, u158, u159, u160, u161, u162, u163, u164, u165, u166, u167, u168, u169, u170, u171, u172, u173, u174, u175, u176, u177, u178, u179, u180, u181, u182, u183, u184, u185], []⟩ wB := by
  have HID := hide hid
  have HN := hide hn
  have R0 := hide hR
  have CT := hide (fun W (hr : FrR W W.heap.size A1 l) => contestW_any l A1 c1 n W hn hr (by omega) HID.out)
  have OR := hide (fun W (hr : FrR W W.heap.size A1 l) => prioOrder_any l A1 c1 W hr (by omega) HID.out)
  have WE := hide (fun W (hr : FrR W W.heap.size A1 l) => refWell_any l A1 c1 W hr (by omega) HID.out)
  have RO := hide (fun W (hr : FrR W W.heap.size A1 l) (hg : GoodF l) => refOrder_any l A1 c1 W hr (by omega) hg)
  have SM := hide (fun A c B d W (hA : FrR W W.heap.size A (OP.orderF l)) (hB : FrR W W.heap.size B (OP.orderF l)) => same5 (OP.orderF l) A c B d W hA hB (by rw [OP.orderF_len]; omega))
  rw [← hn] at OR WE RO
  unfold OrderA at OR
  unfold OrderV at RO
  have hn10 : n ≤ 10 := by omega
  generalize OP.orderF l = mo at *
  clear hid hn hR h10
  conv => arg 2; whnf
  go_wp2_with fail
  (with_reducible refine (CT.out _ R0.out).mono ?_)
  rintro e7 w7 ⟨AL, nl, cL, AT, nt, cT, er, rfl, hct, q7⟩
  have WC := hide hct
  have R7 := hide (FrR.next R0.out q7 q7.size)
  have Q7 := below_next QB QB.size q7
  clear hct CT R0 QB q7
  go_wp2_with fail
  (with_reducible refine (OR.out _ R7.out).mono ?_)
  rintro e8 w8 ⟨A2, c2, m, r, rfl, hways, r2, hc2, q8⟩
  have WO := hide hways
  have R8 := hide (FrR.next R7.out q8 q8.size)
  have M8 := hide r2
  have Q8 := below_next Q7 Q7.size q8
  have B8 := hide q8
  clear hways OR R7 Q7 q8 r2 hc2
  go_wp2_with fail
  (with_reducible refine (WE.out _ R8.out).mono ?_)
  rintro e9 w9 ⟨rfl, q9⟩
  have R9 := hide (FrR.next R8.out q9 q9.size)
  have M9 := hide (FrR.next M8.out q9 q9.size)
  have Q9 := below_next Q8 Q8.size q9
  replace B8 := hide (below_next B8.out B8.out.size q9)
  clear WE R8 M8 Q8 q9
  cases hw : wellB l
  · obtain ⟨_, rfl, rfl, rfl⟩ : (n = 0 ∨ wellB l = false) ∧ nl = 0 ∧ nt = 0 ∧ er = 1 := by
      rcases WC.out with h | ⟨_, h, _⟩
      · exact h
      · rw [hw] at h; exact absurd h (by simp)
    obtain ⟨rfl, rfl⟩ : m = [] ∧ r = 1 := by
      rcases WO.out with ⟨h, _⟩ | ⟨_, h⟩
      · rw [hw] at h; exact absurd h (by simp)
      · exact h
    clear WC WO hw
    go_wp2_with fail
    go_ret
    exact ⟨rfl, Q9⟩
  · have HG : Hid (∀ f ∈ l, FP.rightB f = true) := hide (fun f hf => List.all_eq_true.1 hw f hf)
    have GD : GoodF l := fun f hf => ⟨HG.out f hf, HID.out f hf⟩
    obtain ⟨rfl, rfl⟩ : m = mo ∧ r = 0 := by
      rcases WO.out with ⟨_, h⟩ | ⟨h, _⟩
      · exact h
      · rw [hw] at h; exact absurd h (by simp)
    have WD : Hid ((n = 0 ∧ nl = 0 ∧ nt = 0 ∧ er = 1) ∨ (0 < n ∧ nl = (leftIdx (lostF l) n).length ∧ nt = n ∧ er = 0 ∧ Rd w7 w7.heap.size AL 1 (leftRows (lostF l) n) ∧ Rd w7 w7.heap.size AT 1 (intRows n (lostF l)))) := hide (by
      rcases WC.out with ⟨h | h, h2⟩ | ⟨h, _, h2⟩
      · exact .inl ⟨h, h2⟩
      · rw [hw] at h; exact absurd h (by simp)
      · exact .inr ⟨h, h2⟩)
    have RO9 := hide (RO.out w9 R9.out GD)
    clear WC WO hw GD RO
    go_wp2_with fail
    (with_reducible refine RO9.out.mono ?_)
    rintro e10 w10 ⟨A3, c3, rfl, r3, _, _, q10⟩
    have R10 := hide (FrR.next R9.out q10 q10.size)
    have M10 := hide (FrR.next M9.out q10 q10.size)
    have N10 := hide r3
    have Q10 := below_next Q9 Q9.size q10
    replace B8 := hide (below_next B8.out B8.out.size q10)
    clear RO9 R9 M9 Q9 q10 r3
    go_wp2_with fail
    (with_reducible refine (SM.out _ _ _ _ _ M10.out N10.out).mono ?_)
    rintro e11 w11 ⟨rfl, q11⟩
    have R11 := hide (FrR.next R10.out q11 q11.size)
    have Q11 := below_next Q10 Q10.size q11
    replace B8 := hide (below_next B8.out B8.out.size q11)
    clear SM M10 N10 R10 Q10 q11
    rcases Nat.eq_zero_or_pos n with hz | hz
    · obtain ⟨rfl, rfl, rfl⟩ : nl = 0 ∧ nt = 0 ∧ er = 1 := by
        rcases WD.out with ⟨_, h⟩ | ⟨h, _⟩
        · exact h
        · omega
      have hb : ((n : Int) == 0) = true := by rw [hz]; rfl
      clear WD
      go_wp2_with fail
      go_ret
      exact ⟨rfl, Q11⟩
    · obtain ⟨hnl, rfl, rfl, hL, hT⟩ : nl = (leftIdx (lostF l) n).length ∧ nt = n ∧ er = 0 ∧ Rd w7 w7.heap.size AL 1 (leftRows (lostF l) n) ∧ Rd w7 w7.heap.size AT 1 (intRows n (lostF l)) := by
        rcases WD.out with ⟨h, _⟩ | ⟨_, h⟩
        · omega
        · exact h
      have S0 : Hid (LcS w l nt A1 AL AT w11) := hide ⟨R11.out, Rd.next hL B8.out B8.out.size, Rd.next hT B8.out B8.out.size, Q11⟩
      have HNL := hide hnl
      have hnl10 : nl ≤ 10 := by rw [hnl]; have := leftIdx_le (lostF l) nt; omega
      have hb : ((nt : Int) == 0) = false := by rw [beq_eq_false_iff_ne]; omega
      have gne : ((nt : Int) != (nt : Int)) = false := by simp
      clear WD hL hT hnl R11 Q11 B8
      go_wp2_with fail
      clear hb gne
      go_loopw [15, 151] (fun vk vj W => ∃ j k : Nat, j ≤ nt ∧ vj = .int .i64 j ∧ vk = .int .i64 k ∧ Hid (k = (leftIdx (lostF l) j).length) ∧ Hid (LcS w l nt A1 AL AT W)) (fun _ vj _ => nt - (intOf vj).toNat)
      case atStart => exact ⟨0, 0, Nat.zero_le _, rfl, rfl, hide rfl, S0⟩
      case round =>
        rename World => wa
        clear S0
        obtain ⟨j, k, hj, rfl, rfl, HK, hS⟩ := hrel
        by_cases hlt : j < nt
        · have hil : j < l.length := by rw [← HN.out]; exact hlt
          have hii : (j : Int) < (nt : Int) := by omega
          obtain ⟨b, off, rfl, hbw, d0, d1, d2, d3, d4⟩ := hS.out.r1.at_ hil
          have hmem := List.getElem_mem hil
          have EL : PP.firstF (fieldF l[j]) (fieldF (OP.atF l (OP.bestTo l nt))) = lostF l j := by
            have h0 : 0 < l.length := by omega
            have hbb := best_bestTo HG.out h0
            rw [HN.out, lost_first hbb hil, PP.FL_lt hil, PP.FL_lt hbb.1, OP.atF_lt hbb.1]
          have LO := hide (fun W (hr : FrR W W.heap.size (some ⟨b, off, none⟩) l) => refLost_any l (some ⟨b, off, none⟩) c1 nt l[j] W HN.out.symm hr hz (by omega) HG.out (HG.out _ hmem))
          rw [EL] at LO
          clear EL hmem
          generalize l[j] = f at *
          have qa : Below wa.heap.size wa (wa.alloc (.cells #[.int .u32 f.id, .bool f.ext, .bool f.rem, .int .i64 f.dlc, .string f.data] 39)) := (Below.refl _ _).alloc (Nat.le_refl _) _
          have Sa := hide (hS.out.below qa)
          clear hS qa
          go_wp2_with fail
          generalize hW : wa.alloc (.cells #[.int .u32 f.id, .bool f.ext, .bool f.rem, .int .i64 f.dlc, .string f.data] 39) = wb at *
          clear hW d0 d1 d2 d3 d4
          (with_reducible refine (LO.out _ Sa.out.r1).mono ?_)
          rintro e5 w5 ⟨rfl, q5⟩
          have S5 := hide (Sa.out.below q5)
          clear Sa q5 LO hbw
          obtain ⟨bt, offt, rfl, hbt, hct⟩ := S5.out.rT (by rw [intRows_len]; exact hz)
          have cx := hct j _ 0 _ (show (intRows nt (lostF l))[j]? = some [.int .i64 (lostF l j)] by unfold intRows; rw [List.getElem?_map, List.getElem?_range hlt]; rfl) rfl
          simp only [Nat.mul_one, Nat.add_zero] at cx
          have xne : (lostF l j != lostF l j) = false := by simp
          have hk10 : k ≤ 10 := by rw [HK.out]; have := leftIdx_le (lostF l) j; omega
          clear hct
          rcases Int.lt_or_le (lostF l j) 0 with hx | hx
          · have K1 : Hid (k + 1 = (leftIdx (lostF l) (j + 1)).length) := hide (by rw [leftIdx_in hx, HK.out]; simp)
            have AT1 := left_at hx nt hlt
            rw [← HK.out] at AT1
            have hkn : k < nl := by rw [HNL.out]; exact (List.getElem?_eq_some_iff.1 AT1).1
            have hki : (k : Int) < (nl : Int) := by omega
            obtain ⟨bl, offl, rfl, hbl, hcl⟩ := S5.out.rL (by unfold leftRows; rw [List.length_map, ← HNL.out]; omega)
            have cl := hcl k _ 0 _ (show (leftRows (lostF l) nt)[k]? = some [.int .i64 (j : Int)] by unfold leftRows; rw [List.getElem?_map, AT1]; rfl) rfl
            simp only [Nat.mul_one, Nat.add_zero] at cl
            have jne : ((j : Int) != (j : Int)) = false := by simp
            have b1 : decide (lostF l j < 0) = true := decide_eq_true hx
            have b2 : decide ((nl : Int) ≤ (k : Int)) = false := decide_eq_false (by omega)
            generalize lostF l j = x at *
            clear hcl AT1 HK
            go_wp2_with fail
            go_roundw
            case rel => exact ⟨j + 1, k + 1, by omega, by go_num, by go_num, K1, S5⟩
            case measure => simp [intOf]; omega
          · have K1 : Hid (k = (leftIdx (lostF l) (j + 1)).length) := hide (by rw [leftIdx_out (by omega), HK.out])
            have b1 : decide (lostF l j < 0) = false := decide_eq_false (by omega)
            generalize lostF l j = x at *
            clear HK
            go_wp2_with fail
            go_roundw
            case rel => exact ⟨j + 1, k, by omega, by go_num, rfl, K1, S5⟩
            case measure => simp [intOf]; omega
        · obtain rfl : nt = j := by omega
          obtain rfl : nl = k := by rw [HNL.out, HK.out]
          have Q5 := hS.out.q
          have kk : ((nl : Int) == (nl : Int)) = true := by simp
          go_wp2_with fail
          go_ret
          exact ⟨rfl, Q5⟩
end Go.Proofs.Ytbdgifngldipcaa
