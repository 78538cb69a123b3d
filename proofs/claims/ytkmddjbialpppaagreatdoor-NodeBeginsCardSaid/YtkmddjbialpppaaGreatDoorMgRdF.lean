import Derived.Test.YtkmddjbialpppaaGreatDoorMgFbR
import Derived.Test.YtkmddjbialpppaaGreatDoorRdC
import Derived.Test.YtkmddjbialpppaaGreatDoorMgCrB
import Derived.Test.YtkmddjbialpppaaGreatDoorMgGd
import Derived.Test.YtkmddjbialpppaaGreatDoorMgFin
namespace Go.Proofs.YtkmddjbialpppaaGreatDoor
open Go.ChangeShapes Go.WideShapes Go.ChangeAt Go.RowKit
open FP (bit aY numOf Fr cC cE cT iG dlN rawF gJ jH eB iP fr0 SR PR jZ fP dG)
theorem frRead_any (s : ByteArray) (w : World) (hb : ∀ c ∈ s.data.toList, c = 48 ∨ c = 49) (hs : s.size ≤ 4000) :
    Calls Tryz.prog 176 #[.string s] w fun e w' => e = .returned (.tuple #[.agg #[.int .u32 (eB s.data.toList).id, .bool (eB s.data.toList).ext, .bool (eB s.data.toList).rem, .int .i64 (eB s.data.toList).dlc, .string (eB s.data.toList).data], .int .i64 (iP s.data.toList : Nat)]) ∧ Below w.heap.size w w' := by
  cases hz : jH s.data.toList with
  | true => exact frRead_sized s w hb hs hz
  | false =>
    have LS : s.data.toList.length = s.size := Array.length_toList
    have hr : gJ s.data.toList = false := by unfold gJ; rw [hz]; rfl
    obtain ⟨r1, r2⟩ := FP.read_not hr
    rw [r1, r2]
    refine frRead_no s w (cT s.data.toList : Nat) (cE s.data.toList : Nat) (by unfold maxLen; omega) ?_ (fun W => iH s W hb hs)
    by_cases he : cE s.data.toList = 0
    · right
      refine ⟨by rw [he]; rfl, ?_⟩
      rw [bne_iff_ne]
      intro h
      unfold jH at hz
      rw [decide_eq_true he, decide_eq_true (show cT s.data.toList = s.data.toList.length by omega)] at hz
      cases hz
    · left
      rw [bne_iff_ne]; omega
end Go.Proofs.YtkmddjbialpppaaGreatDoor
namespace Go.Proofs.YtkmddjbialpppaaGreatDoor
open Go.ChangeShapes Go.WideShapes Go.ChangeAt Go.RowKit
open FP (Fr uN uK iR cE cT gJ eB iP jZ jB dG)
def j6 (l : List UInt8) : Nat := if cE l = 0 then cT l + 15 else 0
set_option maxRecDepth 100000 in
set_option maxHeartbeats 2000000 in
theorem ctlSize_any (s : ByteArray) (w : World) (hb : ∀ c ∈ s.data.toList, c = 48 ∨ c = 49) (hs : s.size ≤ 4000) :
    Calls Tryz.prog 137 #[.string s] w fun e w' => e = .returned (.int .i64 (j6 s.data.toList : Nat)) ∧ Below w.heap.size w w' := by
  have SZ := aA (fun W => iH s W hb hs)
  have hc : j6 s.data.toList = if cE s.data.toList = 0 then cT s.data.toList + 15 else 0 := rfl
  have hbd := FP.sizeV_bd s.data.toList
  generalize j6 s.data.toList = z at *
  generalize cE s.data.toList = e at *
  generalize cT s.data.toList = v at *
  by_cases h0 : e = 0
  · rw [if_pos h0] at hc
    have HZ := aA (show (z : Int) = (v : Int) + 15 by omega)
    subst h0
    clear hc hb hs
    go_enter Tryz.func137, Tryz.ntmps137
    go_wp2_with fail
    (with_reducible refine (SZ.out _).mono ?_)
    rintro e1 w1 ⟨rfl, q1⟩
    have Q1 := aA q1
    clear q1 SZ
    go_wp2_with fail
    go_ret
    exact ⟨by rw [HZ.out]; rfl, Q1.out⟩
  · rw [if_neg h0] at hc
    subst hc
    have hn : ((e : Int) != 0) = true := by rw [bne_iff_ne]; omega
    clear hb hs
    go_enter Tryz.func137, Tryz.ntmps137
    go_wp2_with fail
    (with_reducible refine (SZ.out _).mono ?_)
    rintro e1 w1 ⟨rfl, q1⟩
    have Q1 := aA q1
    clear q1 SZ
    go_wp2_with fail
    go_ret
    exact ⟨rfl, Q1.out⟩
set_option maxRecDepth 100000 in
set_option maxHeartbeats 2000000 in
theorem ctlGood_any (s : ByteArray) (w : World) (hb : ∀ c ∈ s.data.toList, c = 48 ∨ c = 49) (hs : s.size ≤ 4000) :
    Calls Tryz.prog 138 #[.string s] w fun e w' => e = .returned (.bool (jB s.data.toList)) ∧ Below w.heap.size w w' := by
  have LS : s.data.toList.length = s.size := Array.length_toList
  have BR : dU s.data.toList = true := eJ.2 ⟨by omega, hb⟩
  have CK := aA (fun W => crcCheck_any s W BR hs)
  obtain ⟨r, hr⟩ : ∃ r, r = jB s.data.toList := ⟨_, rfl⟩
  rw [← hr]
  unfold jB at hr
  by_cases h15 : 15 ≤ s.size
  · rw [LS, decide_eq_true h15, Bool.true_and] at hr
    obtain ⟨m, hm⟩ : ∃ m : Nat, (s.size : Int) - 15 = m := ⟨s.size - 15, by omega⟩
    have HH : jZ s.data.toList = (s.extract 0 m).data.toList := by
      unfold jZ
      rw [LS, dD, List.extract_eq_take_drop, List.drop_zero, Nat.sub_zero, show m = s.size - 15 by omega]
    rw [HH] at hr
    have RD := aA (fun W => frRead_any (s.extract 0 m) W (fV hb _ _) (by rw [ByteArray.size_extract]; omega))
    rw [decide_eq_true h15, Bool.true_and] at CK
    have hE : iP (s.extract 0 m).data.toList = if gJ (s.extract 0 m).data.toList then 0 else 12 := rfl
    generalize gJ (s.extract 0 m).data.toList = rb at *
    generalize iP (s.extract 0 m).data.toList = re at *
    generalize eB (s.extract 0 m).data.toList = rv at *
    have h15' : ¬ (s.size : Int) < 15 := by omega
    have hml : (m : Int) ≤ s.size := by omega
    have hm4 : (m : Int) ≤ 4000 := by omega
    by_cases hc : dG s.data.toList = 0
    · rw [decide_eq_true hc, Bool.true_and] at hr
      rw [decide_eq_true hc] at CK
      subst hr
      cases r with
      | true =>
        have hE0 : re = 0 := hE
        subst hE0
        clear hE hc HH BR hb hs LS
        go_enter Tryz.func138, Tryz.ntmps138
        go_wp2_with fail
        (with_reducible refine (CK.out _).mono ?_)
        rintro e1 w1 ⟨rfl, q1⟩
        have Q1 := aA q1
        clear q1 CK
        go_wp2_with fail
        (with_reducible refine (RD.out _).mono ?_)
        rintro e2 w2 ⟨rfl, q2⟩
        have Q2 := aA (aC Q1.out Q1.out.size q2)
        clear q2 RD Q1
        go_wp2_with fail
        go_ret
        exact ⟨rfl, Q2.out.alloc Q2.out.size _⟩
      | false =>
        have hE0 : re = 12 := hE
        subst hE0
        clear hE hc HH BR hb hs LS
        go_enter Tryz.func138, Tryz.ntmps138
        go_wp2_with fail
        (with_reducible refine (CK.out _).mono ?_)
        rintro e1 w1 ⟨rfl, q1⟩
        have Q1 := aA q1
        clear q1 CK
        go_wp2_with fail
        (with_reducible refine (RD.out _).mono ?_)
        rintro e2 w2 ⟨rfl, q2⟩
        have Q2 := aA (aC Q1.out Q1.out.size q2)
        clear q2 RD Q1
        go_wp2_with fail
        go_ret
        exact ⟨rfl, Q2.out.alloc Q2.out.size _⟩
    · rw [decide_eq_false hc, Bool.false_and] at hr
      rw [decide_eq_false hc] at CK
      subst hr
      clear hE hc HH BR hb hs LS RD
      go_enter Tryz.func138, Tryz.ntmps138
      go_wp2_with fail
      (with_reducible refine (CK.out _).mono ?_)
      rintro e1 w1 ⟨rfl, q1⟩
      have Q1 := aA q1
      clear q1 CK
      go_wp2_with fail
      go_ret
      exact ⟨rfl, Q1.out⟩
  · rw [LS, decide_eq_false h15, Bool.false_and, Bool.false_and] at hr
    subst hr
    have h15' : (s.size : Int) < 15 := by omega
    clear CK BR hb hs LS
    go_enter Tryz.func138, Tryz.ntmps138
    go_wp2_with fail
    go_ret
    exact ⟨rfl, Below.refl _ _⟩
end Go.Proofs.YtkmddjbialpppaaGreatDoor
namespace Go.Proofs.YtkmddjbialpppaaGreatDoor
open Go.ChangeShapes Go.WideShapes Go.ChangeAt Go.RowKit
open FP (uN uK RS i6 rs0 iV)
structure RkM (w : World) (last : UInt8) (n : Nat) (got : List UInt8) (A : Option Addr) (c : Nat) (W : World) : Prop where
  q : Below w.heap.size w W
  r : W.heap[w.heap.size]? = some (.cells #[.int .u8 0, .int .i64 0] 37 (0, 0))
  x : W.heap[w.heap.size + 1]? = some (.cells #[.int .u8 last.toNat, .int .i64 n] 37 (0, 0))
  o : Own W (w.heap.size + 2) 5 1 A c (cP got)
theorem RkM.lt {w W : World} {last : UInt8} {n : Nat} {got : List UInt8} {A : Option Addr} {c : Nat} (h : RkM w last n got A c W) : w.heap.size + 1 < W.heap.size := aH h.x
theorem RkM.below {w W W' : World} {last : UInt8} {n : Nat} {got : List UInt8} {A : Option Addr} {c : Nat} (h : RkM w last n got A c W) (q : Below W.heap.size W W') : RkM w last n got A c W' :=
  ⟨aC h.q h.q.size q, aB h.r q, aB h.x q, h.o.grown q⟩
theorem RkM.set {w W : World} {last : UInt8} {n : Nat} {got : List UInt8} {A : Option Addr} {c : Nat} (h : RkM w last n got A c W) (last' : UInt8) (n' : Nat) : RkM w last' n' got A c (W.setCells (w.heap.size + 1) 0 [.int .u8 last'.toNat, .int .i64 n']) :=
  ⟨h.q.trans (aE _ 0 W (by omega)), aG (by omega) _ _ _ h.r, aJ _ (xs := [.int .u8 last.toNat, .int .i64 n]) h.x rfl, cM (by omega) _ _ _ h.o⟩
theorem RkM.drew {w W : World} {last : UInt8} {n : Nat} {got : List UInt8} {A : Option Addr} {c : Nat} (h : RkM w last n got A c W) : RkM w last n got A c W.drew := ⟨h.q.drew, h.r, h.x, h.o.drew⟩
theorem RkM.new (w : World) : RkM w 0 0 [] none 0 ((w.alloc (.cells #[.int .u8 0, .int .i64 0] 37)).alloc (.cells #[.int .u8 0, .int .i64 0] 37)) := by
  refine ⟨((Below.refl _ _).alloc (Nat.le_refl _) _).alloc (by simp) _, (gT _ _ _).1, (gT _ _ _).2, ?_⟩
  exact Own.nil
set_option maxRecDepth 100000 in
set_option maxHeartbeats 8000000 in
theorem ctlRead_any (s : ByteArray) (w : World) (hb : ∀ c ∈ s.data.toList, c = 48 ∨ c = 49) (hs : s.size ≤ 4000) :
    Calls Tryz.prog 140 #[.string s] w fun e w' => e = .returned (.tuple #[.agg #[.int .u8 (iV s.data.toList).last.toNat, .int .i64 ((iV s.data.toList).n : Nat)], .string ⟨(iV s.data.toList).got.toArray⟩]) ∧ Below w.heap.size w w' := by
  have LS := aA (show s.data.toList.length = s.size from Array.length_toList)
  have BT := aA (fun j (hj : j < s.size) => show s[j] = 48 ∨ s[j] = 49 from hb _ (List.getElem_mem (l := s.data.toList) (by rw [LS.out]; exact hj)))
  have TK := aA (fun j (hj : j < s.size) => show iV (s.data.toList.take (j + 1)) = i6 (iV (s.data.toList.take j)) s[j] from by
    rw [List.take_succ_eq_append_getElem (by rw [LS.out]; exact hj), FP.rsOf_snoc]; rfl)
  have E := aA (show s.data.toList.take s.size = s.data.toList from List.take_of_length_le (by rw [LS.out]; exact Nat.le_refl _))
  have M0 := aA (RkM.new w)
  obtain ⟨R, hR0⟩ : ∃ R, R = iV s.data.toList := ⟨_, rfl⟩
  rw [← hR0]
  have HR0 := aA hR0
  clear hb hR0
  go_enter Tryz.func140, Tryz.ntmps140
  go_wp2_with fail
  go_loopw [5, 12] (fun vs vi W => ∃ (k : Nat) (A : Option Addr) (c : Nat) (last : UInt8) (n : Nat) (got : List UInt8), k ≤ s.size ∧ vi = .int .i64 k ∧ vs = .slice A got.length c ∧ Hid (iV (s.data.toList.take k) = ⟨last, n, got⟩) ∧ Hid (StK last n ∧ got.length ≤ k) ∧ Hid (RkM w last n got A c W)) (fun _ vi _ => s.size - (intOf vi).toNat)
  case atStart => exact ⟨0, none, 0, 0, 0, [], Nat.zero_le _, rfl, rfl, aA rfl, aA ⟨.inl ⟨rfl, rfl⟩, Nat.le_refl _⟩, M0⟩
  case round =>
    clear M0
    obtain ⟨k, A, c, last, n, got, hk, rfl, rfl, hR, hI, hM⟩ := hrel
    by_cases hlt : k < s.size
    · have hc := BT.out k hlt
      have hR2 := TK.out k hlt
      rw [hR.out] at hR2
      have HR2 := aA hR2
      have hI2 := aA (hI.out.1.step hc)
      have hk' : (k : Int) < s.size := by omega
      clear hR hR2
      go_upto_region 6 with fail
      go_cut [7, 8, 9] (fun vy vk vz W => ∃ y, vy = .pointer (some ⟨y, 0, none⟩) ∧ vk = .int .i64 (uK last n s[k] : Nat) ∧ vz = .int .i64 0 ∧ Hid (RkM w last n got A c W) ∧ Hid (W.heap[y]? = some (.cells #[.int .u8 s[k].toNat, .int .i64 (uN last n s[k] : Nat)] 37 (0, 0))))
      case first =>
        have ST := aA (fun W => stStep_any last n s[k] W hI.out.1 hc)
        go_wp2_with fail
        refine bB [0, 1, 2, 3, 5, 6, 7, 8] [(0, fun W => W.heap[w.heap.size + 1]? = some (.cells #[.int .u8 last.toNat, .int .i64 n] 37 (0, 0)))] (by kernel_rfl) ?_
        have hM' := aA (hM.out.drew)
        clear hM
        have hM := hM'
        clear hM' hI HR2 hI2 hc
        generalize wr.drew = w4 at *
        refine aQ (i := 0) (v := .agg #[.int .u8 last.toNat, .int .i64 n]) rfl rfl (by kernel_rfl) (by kernel_rfl) (by kernel_rfl) (by kernel_rfl) (by kernel_rfl) (fun _ _ _ h => h) rfl (fun W h => bZ W (w.heap.size + 1) 37 _ _ h Tryz.underlying37 rfl (by kernel_rfl) _ _ (.tmp 4) (by rfl) (by rfl)) (hM.out.x) ?_
        go_simp
        refine aD (i := 1) (v := .string s) rfl rfl (by kernel_rfl) (by kernel_rfl) (by kernel_rfl) (by kernel_rfl) (by kernel_rfl) (fun _ _ _ h => h) rfl (fun W => by go_simp) ?_
        go_simp
        refine aD (i := 2) (v := .int .i64 k) rfl rfl (by kernel_rfl) (by kernel_rfl) (by kernel_rfl) (by kernel_rfl) (by kernel_rfl) (fun _ _ _ h => h) rfl (fun W => by go_simp) ?_
        go_simp
        refine aD (i := 3) (v := .int .u8 s[k].toNat) rfl rfl (by kernel_rfl) (by kernel_rfl) (by kernel_rfl) (by kernel_rfl) (by kernel_rfl) (fun _ _ _ h => h) rfl (fun W => by go_simp) ?_
        go_simp
        refine cB (i := 4) (k := 9) (by kernel_rfl) ?_ ?_
        · refine aM rfl rfl ?_
          go_simp
          (with_reducible refine (ST.out _).mono ?_)
          rintro e5 w5 ⟨rfl, q5⟩
          have M5 := aA (hM.out.below q5)
          clear q5 hM
          go_simp
          refine ⟨aO (by kernel_rfl) (.cons M5.out.x .nil), ?_⟩
          refine aD (i := 5) (v := .tuple #[.agg #[.int .u8 s[k].toNat, .int .i64 (uN last n s[k] : Nat)], .int .i64 (uK last n s[k] : Nat), .int .i64 0]) rfl rfl (by kernel_rfl) (by kernel_rfl) (by kernel_rfl) (by kernel_rfl) (by kernel_rfl) (fun _ _ _ h => h) rfl (fun W => by go_simp) ?_
          go_simp
          refine aD (i := 6) (v := .agg #[.int .u8 s[k].toNat, .int .i64 (uN last n s[k] : Nat)]) rfl rfl (by kernel_rfl) (by kernel_rfl) (by kernel_rfl) (by kernel_rfl) (by kernel_rfl) (fun _ _ _ h => h) rfl (fun W => by go_simp) ?_
          go_simp
          refine aD (i := 7) (v := .int .i64 (uK last n s[k] : Nat)) rfl rfl (by kernel_rfl) (by kernel_rfl) (by kernel_rfl) (by kernel_rfl) (by kernel_rfl) (fun _ _ _ h => h) rfl (fun W => by go_simp) ?_
          go_simp
          refine aD (i := 8) (v := .int .i64 0) rfl rfl (by kernel_rfl) (by kernel_rfl) (by kernel_rfl) (by kernel_rfl) (by kernel_rfl) (fun _ _ _ h => h) rfl (fun W => by go_simp) ?_
          go_simp
          refine aI (i := 9) (by kernel_rfl) ?_
          refine aM rfl rfl ?_
          go_simp
          have al := (Below.refl w5.heap.size w5).alloc (Nat.le_refl _) (.cells #[.int .u8 0, .int .i64 0] 37)
          have M6 := aA (M5.out.below al)
          have F6 := aA (World.alloc_heap_new w5 (.cells #[.int .u8 0, .int .i64 0] 37))
          refine ⟨aO (by kernel_rfl) (.cons M6.out.x .nil), ?_⟩
          refine aI (i := 10) (by kernel_rfl) ?_
          refine aM rfl rfl ?_
          refine bP 37 (.tmp 7) (.tmp 21) rfl w5.heap.size 0 [.int .u8 s[k].toNat, .int .i64 (uN last n s[k] : Nat)] (by rfl) (by rfl) (by exact (show World.there _ w5.heap.size 0 2 from aK (cs := [_, _]) F6.out)) (by kernel_rfl) (by simp [Value.oneCell']) ?_
          intro W7 e7
          have F7 := aJ [.int .u8 s[k].toNat, .int .i64 (uN last n s[k] : Nat)] (xs := [_, _]) F6.out rfl
          have M7 := M5.out.below (al.trans (aE (g := w5.heap.size) [.int .u8 s[k].toNat, .int .i64 (uN last n s[k] : Nat)] 0 _ (Nat.le_refl _)))
          rw [← e7] at F7 M7
          have F8 := aA F7
          have M8 := aA M7
          clear F7 M7 e7 F6 M6
          refine ⟨aN (by kernel_rfl) (by kernel_rfl), ?_⟩
          refine aI (i := 11) (by kernel_rfl) ?_
          refine aM rfl rfl ?_
          go_simp
          refine ⟨aN (by kernel_rfl) (by kernel_rfl), ?_⟩
          refine aI (i := 12) (by kernel_rfl) ?_
          refine aM rfl rfl ?_
          go_simp
          refine ⟨aN (by kernel_rfl) (by kernel_rfl), ?_⟩
          refine aS (by kernel_rfl) ?_ _
          go_wp2_with fail
          go_meet
          exact ⟨w5.heap.size, rfl, rfl, rfl, M8, F8⟩
        · refine aM rfl rfl ?_
          go_simp
          have al := (Below.refl w4.heap.size w4).alloc (Nat.le_refl _) (.cells #[.int .u8 0, .int .i64 0] 37)
          have M5 := aA (hM.out.below al)
          have F5 := aA (World.alloc_heap_new w4 (.cells #[.int .u8 0, .int .i64 0] 37))
          refine ⟨aO (by kernel_rfl) (.cons M5.out.x .nil), ?_⟩
          refine aI (i := 4) (by kernel_rfl) ?_
          refine aM rfl rfl ?_
          go_simp
          (with_reducible refine (ST.out _).mono ?_)
          rintro e6 w6 ⟨rfl, q6⟩
          have M6 := aA (M5.out.below q6)
          have F6 := aA (aB F5.out q6)
          have ch := aA (al.trans (q6.mono (by simp)))
          clear q6 M5 F5 al
          go_simp
          refine ⟨aO (by kernel_rfl) (.cons M6.out.x .nil), ?_⟩
          refine aD (i := 5) (v := .tuple #[.agg #[.int .u8 s[k].toNat, .int .i64 (uN last n s[k] : Nat)], .int .i64 (uK last n s[k] : Nat), .int .i64 0]) rfl rfl (by kernel_rfl) (by kernel_rfl) (by kernel_rfl) (by kernel_rfl) (by kernel_rfl) (fun _ _ _ h => h) rfl (fun W => by go_simp) ?_
          go_simp
          refine aD (i := 6) (v := .agg #[.int .u8 s[k].toNat, .int .i64 (uN last n s[k] : Nat)]) rfl rfl (by kernel_rfl) (by kernel_rfl) (by kernel_rfl) (by kernel_rfl) (by kernel_rfl) (fun _ _ _ h => h) rfl (fun W => by go_simp) ?_
          go_simp
          refine aD (i := 7) (v := .int .i64 (uK last n s[k] : Nat)) rfl rfl (by kernel_rfl) (by kernel_rfl) (by kernel_rfl) (by kernel_rfl) (by kernel_rfl) (fun _ _ _ h => h) rfl (fun W => by go_simp) ?_
          go_simp
          refine aD (i := 8) (v := .int .i64 0) rfl rfl (by kernel_rfl) (by kernel_rfl) (by kernel_rfl) (by kernel_rfl) (by kernel_rfl) (fun _ _ _ h => h) rfl (fun W => by go_simp) ?_
          go_simp
          refine aI (i := 10) (by kernel_rfl) ?_
          refine aM rfl rfl ?_
          refine bP 37 (.tmp 7) (.tmp 21) rfl w4.heap.size 0 [.int .u8 s[k].toNat, .int .i64 (uN last n s[k] : Nat)] (by rfl) (by rfl) (by exact (show World.there _ w4.heap.size 0 2 from aK (cs := [_, _]) F6.out)) (by kernel_rfl) (by simp [Value.oneCell']) ?_
          intro W7 e7
          have F7 := aJ [.int .u8 s[k].toNat, .int .i64 (uN last n s[k] : Nat)] (xs := [_, _]) F6.out rfl
          have M7 := hM.out.below (ch.out.trans (aE (g := w4.heap.size) [.int .u8 s[k].toNat, .int .i64 (uN last n s[k] : Nat)] 0 _ (Nat.le_refl _)))
          rw [← e7] at F7 M7
          have F8 := aA F7
          have M8 := aA M7
          clear F7 M7 e7 F6 M6
          refine ⟨aN (by kernel_rfl) (by kernel_rfl), ?_⟩
          refine aI (i := 11) (by kernel_rfl) ?_
          refine aM rfl rfl ?_
          go_simp
          refine ⟨aN (by kernel_rfl) (by kernel_rfl), ?_⟩
          refine aI (i := 12) (by kernel_rfl) ?_
          refine aM rfl rfl ?_
          go_simp
          refine ⟨aN (by kernel_rfl) (by kernel_rfl), ?_⟩
          refine aS (by kernel_rfl) ?_ _
          go_wp2_with fail
          go_meet
          exact ⟨w4.heap.size, rfl, rfl, rfl, M8, F8⟩
      case rest =>
      clear hM
      obtain ⟨y, rfl, rfl, rfl, hM, hY⟩ := hcut
      obtain ⟨y0, y1, _⟩ := two_st hY.out
      go_wp2_with (refine aF (by rfl) 37 (.tmp 4) (.tmp 24) (by rfl) (w.heap.size + 1) 0 [.int .u8 s[k].toNat, .int .i64 (uN last n s[k] : Nat)] (by rfl) (by rfl) (by exact (show World.there _ (w.heap.size + 1) 0 2 from aK (cs := [_, _]) hM.out.x)) (by kernel_rfl) (by simp [Value.oneCell']) ?_)
      intro W2 e2
      have M2 := hM.out.set s[k] (uN last n s[k])
      rw [← e2.out] at M2
      replace M2 := aA M2
      clear e2 hM hY y0 y1
      have hl2 := hI.out.2
      by_cases hk1 : uK last n s[k] = 1
      · have HR3 : Hid (iV (s.data.toList.take (k + 1)) = ⟨s[k], uN last n s[k], got ++ [s[k]]⟩) := by
          have := HR2.out
          unfold i6 at this
          dsimp only at this
          rw [hk1, if_pos rfl] at this
          exact aA this
        rw [hk1]
        have OA := aA (M2.out.o.alloc (.cells #[.int .u8 s[k].toNat] 5))
        have R6 := aA (fun t => eY (cs := [.int .u8 s[k].toNat]) (World.alloc_heap_new W2 (.cells #[.int .u8 s[k].toNat] t)))
        have E1 := aA (show ((cP got).length + [([.int .u8 s[k].toNat] : List Value)].length) * 1 ≤ 140737488355328 by rw [dH]; simp; omega)
        have E2 := aA (show (cP got).length + [([.int .u8 s[k].toNat] : List Value)].length ≤ maxLen by rw [dH]; simp [maxLen]; omega)
        have E3 := aA (show got.length = (cP got).length by rw [dH])
        have hm2 := M2.out.lt
        clear HR2 hI
        go_wp2_with (at_builtin; refine cU _ rfl _ _ 140 rfl slByte (w.heap.size + 2) _ _ _ (cP got) (by rfl) (by exact OA.out) _ _ _ [[.int .u8 s[k].toNat]] (by rfl) (by simpa using R6.out _) (by simp) (by simp [Value.oneCell']) (by exact E1.out) (by exact E2.out) (by simp; omega) (by exact E3.out) (by rfl) ?_)
        intro A6 c6 W6 o6 g6
        have M6 : Hid (RkM w s[k] (uN last n s[k]) (got ++ [s[k]]) A6 c6 W6) := by
          have key : ∀ z, (Value.slice A got.length c).ownBlock = some z → w.heap.size + 2 ≤ z := fun z hz => by
            have hz' : (Value.slice A (cP got).length c).ownBlock = some z := by rw [← hz]; cases A <;> rfl
            exact (World.ownsRow.lt OA.out z hz').1
          have up : ∀ {z o}, W2.heap[z]? = some o → (W2.alloc (.cells #[.int .u8 s[k].toNat] 5)).heap[z]? = some o := fun h => aB h ((Below.refl _ _).alloc (Nat.le_refl _) _)
          exact aA ⟨iN (M2.out.q.alloc (by omega) (.cells #[.int .u8 s[k].toNat] 5)) g6 OA.out (show w.heap.size ≤ w.heap.size + 2 by omega) (by simp; omega), bX (up M2.out.r) g6 (fun h => absurd (key _ h) (by omega)), bX (up M2.out.x) g6 (fun h => absurd (key _ h) (by omega)), by rw [j7]; exact o6⟩
        clear o6 g6 OA R6 E1 E2 E3 M2
        go_wp2_with fail
        go_roundw
        case rel => exact ⟨k + 1, A6, c6, s[k], uN last n s[k], got ++ [s[k]], by omega, by go_num, by simp, HR3, aA ⟨hI2.out, by simp; omega⟩, M6⟩
        case measure => simp [intOf]; omega
      · have HR3 : Hid (iV (s.data.toList.take (k + 1)) = ⟨s[k], uN last n s[k], got⟩) := by
          have := HR2.out
          unfold i6 at this
          dsimp only at this
          rw [if_neg hk1] at this
          exact aA this
        have hk2 : ((uK last n s[k] : Int) == 1) = false := by rw [beq_eq_false_iff_ne]; omega
        clear HR2 hI hk1
        go_wp2_with fail
        go_roundw
        case rel => exact ⟨k + 1, A, c, s[k], uN last n s[k], got, by omega, by go_num, rfl, HR3, aA ⟨hI2.out, by omega⟩, M2⟩
        case measure => simp [intOf]; omega
    · obtain rfl : k = s.size := by omega
      rw [E.out] at hR
      have HRR := aA (HR0.out.trans hR.out)
      clear hR TK HR0
      go_wp2_with fail
      refine bB [0, 1, 2] [(0, fun W => W.heap[w.heap.size + 1]? = some (.cells #[.int .u8 last.toNat, .int .i64 n] 37 (0, 0))), (2, fun W => Own W (w.heap.size + 2) 5 1 A c (cP got))] (by kernel_rfl) ?_
      have hM' := aA (hM.out.drew)
      clear hM
      have hM := hM'
      clear hM'
      generalize wr.drew = w4 at *
      refine aQ (i := 0) (v := .agg #[.int .u8 last.toNat, .int .i64 n]) rfl rfl (by kernel_rfl) (by kernel_rfl) (by kernel_rfl) (by kernel_rfl) (by kernel_rfl) (fun _ _ _ h => h) rfl (fun W h => bZ W (w.heap.size + 1) 37 _ _ h Tryz.underlying37 rfl (by kernel_rfl) _ _ (.tmp 4) (by rfl) (by rfl)) (hM.out.x) ?_
      go_simp
      refine aD (i := 1) (v := .slice A got.length c) rfl rfl (by kernel_rfl) (by kernel_rfl) (by kernel_rfl) (by kernel_rfl) (by kernel_rfl) (fun _ _ _ h => h) rfl (fun W => by go_simp) ?_
      go_simp
      refine aQ (i := 2) (v := .string ⟨got.toArray⟩) rfl rfl (by kernel_rfl) (by kernel_rfl) (by kernel_rfl) (by kernel_rfl) (by kernel_rfl) (fun _ _ _ h => h) rfl (fun W h => by (have hcv := jT (P := Tryz.prog) W 140 9 5 Tryz.underlying140 Tryz.underlying5 Tryz.underlying9 h got.length rfl; clear h; go_simp)) (hM.out.o) ?_
      go_simp
      refine aI (i := 3) (by kernel_rfl) ?_
      refine aM rfl rfl ?_
      refine bP 37 (.tmp 2) (.tmp 34) rfl w.heap.size 0 [.int .u8 last.toNat, .int .i64 n] (by rfl) (by rfl) (by exact (show World.there _ w.heap.size 0 2 from aK (cs := [_, _]) hM.out.r)) (by kernel_rfl) (by simp [Value.oneCell']) ?_
      intro W7 e7
      have F7 := aA (show W7.heap[w.heap.size]? = some (.cells #[.int .u8 last.toNat, .int .i64 n] 37 (0, 0)) by rw [e7]; exact aJ [.int .u8 last.toNat, .int .i64 n] (xs := [_, _]) hM.out.r rfl)
      have Q7 := aA (show Below w.heap.size w W7 by rw [e7]; exact hM.out.q.trans (aE _ _ _ (Nat.le_refl _)))
      have O7 := aA (show Own W7 (w.heap.size + 2) 5 1 A c (cP got) by rw [e7]; exact cM (by omega) _ _ _ hM.out.o)
      clear e7
      refine ⟨aO (by kernel_rfl) (.past (by kernel_rfl) (.cons O7.out .nil)), ?_⟩
      go_simp
      refine aI (i := 4) (by kernel_rfl) ?_
      refine aM rfl rfl ?_
      go_simp
      refine ⟨aN (by kernel_rfl) (by kernel_rfl), ?_⟩
      refine aS (by kernel_rfl) ?_ _
      go_wp2_with fail
      refine bodyPost_ret (aP (by rfl) _ W7 w.heap.size 37 #[.int .u8 last.toNat, .int .i64 n] (0, 0) _ (.string ⟨got.toArray⟩) (by rfl) (by rfl) F7.out Tryz.underlying37 (by rfl) (by kernel_rfl)) rfl ⟨by rw [HRR.out], Q7.out⟩
end Go.Proofs.YtkmddjbialpppaaGreatDoor
namespace Go.Proofs.YtkmddjbialpppaaGreatDoor.FP
theorem bits_split (f : Fr) : gE f = dJ (fP (cC f)) ++ tenF := rfl
theorem bits_bits (f : Fr) : ∀ c ∈ gE f, c = 48 ∨ c = 49 := by
  intro c hc
  rw [bits_split, List.mem_append] at hc
  rcases hc with hc | hc
  · exact (stuff_inv _ (sum_bits (head_bits f))).all c hc
  · revert hc; unfold tenF; intro hc; simp at hc; exact .inr hc
end Go.Proofs.YtkmddjbialpppaaGreatDoor.FP
