/- container/heap over box's queue: down. -/
import Derived.Test.YtbdgifngldipcaaBxE
namespace Go.Proofs.Ytbdgifngldipcaa
open Go.ChangeShapes Go.WideShapes Go.ChangeAt Go.RowKit
open FP (Fr)
open HP (kB at' Hp UpI DnI)

theorem at_beyond {l : List Bx} {n i j : Nat} (hi : i < n) (hj : j < n) (hn : n ≤ l.length) : ∀ k, n ≤ k → at' (swapL l i j) k = at' l k := fun k hk => by
  rw [HP.at_swap (by omega) (by omega), if_neg (by omega), if_neg (by omega)]

def DownV (B : Nat) (w : World) (bq g c : Nat) (l : List Bx) (lo n : Nat) (e : Ending) (W' : World) : Prop :=
  ∃ (b : Bool) (l' : List Bx), e = .returned (.bool b) ∧ HQ B w bq (some ⟨g, 0, none⟩) c l' W' ∧ l'.Perm l ∧ Hp l' lo n ∧ ∀ k, n ≤ k → at' l' k = at' l k

def DownR (B : Nat) (w : World) (bq g c : Nat) (l : List Bx) (lo n : Nat) (m : List Bx) (k : Nat) (W1 : World) : Prop :=
  HQ B w bq (some ⟨g, 0, none⟩) c m W1 ∧ m.Perm l ∧ DnI m lo n k ∧ ∀ k, n ≤ k → at' m k = at' l k

theorem DownR.hq {B : Nat} {w : World} {bq g c : Nat} {l : List Bx} {lo n : Nat} {m : List Bx} {k : Nat} {W1 : World} (h : DownR B w bq g c l lo n m k W1) : HQ B w bq (some ⟨g, 0, none⟩) c m W1 := h.1
theorem DownR.stop {B : Nat} {w : World} {bq g c : Nat} {l : List Bx} {lo n : Nat} {m : List Bx} {k : Nat} {W1 W2 : World} (h : DownR B w bq g c l lo n m k W1) (h2 : HQ B w bq (some ⟨g, 0, none⟩) c m W2)
    (hs : ∀ j, 0 < j → j < n → (j - 1) / 2 = k → kB (at' m j) (at' m k) = false) (b : Bool) : DownV B w bq g c l lo n (.returned (.bool b)) W2 := ⟨b, m, rfl, h2, h.2.1, h.2.2.1.stop hs, h.2.2.2⟩
theorem DownR.step {B : Nat} {w : World} {bq g c : Nat} {l : List Bx} {lo n : Nat} {m : List Bx} {k : Nat} {W1 W2 : World} (h : DownR B w bq g c l lo n m k W1) {j : Nat} (h2 : HQ B w bq (some ⟨g, 0, none⟩) c (swapL m k j) W2)
    (hj : (j - 1) / 2 = k) (h0 : 0 < j) (hjn : j < n) (ha : kB (at' m j) (at' m k) = true) (hb : ∀ i, 0 < i → i < n → (i - 1) / 2 = k → kB (at' m i) (at' m j) = false) : DownR B w bq g c l lo n (swapL m k j) j W2 :=
  ⟨h2, (HP.swapL_perm m k j).trans h.2.1, h.2.2.1.step hj h0 hjn ha hb, fun i hi => (at_beyond (by omega) hjn h.2.2.1.le i hi).trans (h.2.2.2 i hi)⟩

set_option maxRecDepth 100000 in
set_option maxHeartbeats 2000000 in
theorem hpDown_any (B : Nat) (w : World) (bq : Nat) (g c : Nat) (l : List Bx) (W : World) (h : HQ B w bq (some ⟨g, 0, none⟩) c l W) (hg : GoodB l) (hl : l.length ≤ 1000) (i0 lo n : Nat) (hi0 : i0 ≤ 1000) (hI : DnI l lo n i0) :
    Calls Try.prog 91 #[.iface 98 (.pointer (some ⟨bq, 0, none⟩)), .int .i64 i0, .int .i64 n] W (DownV B w bq g c l lo n) := by
  have HG := hide hg
  have R0 := hide (show DownR B w bq g c l lo n l i0 W from ⟨h, List.Perm.refl _, hI, fun _ _ => rfl⟩)
  have hn := hI.le
  have hn1 : n ≤ 1000 := by omega
  clear h hI hg hn hl
  go_enter Try.func91, Try.ntmps91
  go_wp2
  go_loopw [7] (fun v W1 => ∃ (k : Nat) (m : List Bx), v = .int .i64 k ∧ k ≤ 1000 ∧ Hid (DownR B w bq g c l lo n m k W1)) (fun v _ => n - (intOf v).toNat)
  case atStart => exact ⟨i0, l, rfl, hi0, R0⟩
  case round =>
    obtain ⟨k, m, rfl, hk, hr⟩ := hrel
    obtain ⟨j1, e1⟩ : ∃ j1 : Nat, j1 = 2 * k + 1 := ⟨_, rfl⟩
    have r1 : 2 * (k : Int) + 1 = (j1 : Int) := by omega
    have E1 := hide e1
    have hj1 : j1 ≤ 2001 := by omega
    by_cases hn1 : j1 < n
    · have hle := hr.out.2.2.1.le
      have hlen : m.length = l.length := hr.out.2.1.length_eq
      have hgm := HG.out.perm hr.out.2.1
      have hj1m : j1 < m.length := by omega
      have hkm : k < m.length := by omega
      have hcell := hr.out.1.cell
      have hcn := meth_less wr bq m.length c _ hcell
      obtain ⟨j2, e2⟩ : ∃ j2 : Nat, j2 = j1 + 1 := ⟨_, rfl⟩
      have r2 : (j1 : Int) + 1 = (j2 : Int) := by omega
      have E2 := hide e2
      have LSk := hide (fun (j : Nat) (hj : j < m.length) b (hb : kB (at' m j) (at' m k) = b) W2 (h2 : HQ B w bq (some ⟨g, 0, none⟩) c m W2) => less_hq h2 hgm j k hj hkm b hb)
      have SWk := hide (fun (j : Nat) (hj : j < m.length) W2 (h2 : HQ B w bq (some ⟨g, 0, none⟩) c m W2) => qSwap_any B w bq g c m W2 h2 k j hkm hj)
      by_cases hn2 : j2 < n
      · have hj2m : j2 < m.length := by omega
        rcases hb : kB (at' m j2) (at' m j1) with _ | _
        · have LS := hide (less_hq hr.out.1 hgm j2 j1 hj2m hj1m _ hb)
          have HB := hide (show ∀ i, 0 < i → i < n → (i - 1) / 2 = k → kB (at' m i) (at' m j1) = false from fun i h0 hi hik => by
            rcases (show i = j1 ∨ i = j2 by omega) with rfl | rfl
            · exact HP.kB_irrefl _
            · exact hb)
          rcases hb2 : kB (at' m j1) (at' m k) with _ | _
          · have L2 := hide (LSk.out j1 hj1m _ hb2)
            have HS := hide (show ∀ i, 0 < i → i < n → (i - 1) / 2 = k → kB (at' m i) (at' m k) = false from fun i h0 hi hik => HP.kB_ntrans (HB.out i h0 hi hik) hb2)
            clear e1 e2 hb hb2 hlen hgm hle
            go_wp2_with fail
            (with_reducible refine LS.out.mono ?_)
            rintro e1 w1 ⟨rfl, q1⟩
            have hcell1 := q1.cell
            have hcn1 := meth_less w1 bq m.length c _ hcell1
            have Q1 := hide q1
            clear q1 hcell hcn
            go_wp2_with fail
            (with_reducible refine (L2.out _ Q1.out).mono ?_)
            rintro e2 w2 ⟨rfl, q2⟩
            have Q2 := hide q2
            clear q2 hcell1 hcn1
            go_wp2
            go_ret
            exact hr.out.stop Q2.out HS.out _
          · have L2 := hide (LSk.out j1 hj1m _ hb2)
            have HS := hide hb2
            clear e1 e2 hb hb2 hlen hgm hle
            go_wp2_with fail
            (with_reducible refine LS.out.mono ?_)
            rintro e1 w1 ⟨rfl, q1⟩
            have hcell1 := q1.cell
            have hcn1 := meth_less w1 bq m.length c _ hcell1
            have Q1 := hide q1
            clear q1 hcell hcn
            go_wp2_with fail
            (with_reducible refine (L2.out _ Q1.out).mono ?_)
            rintro e2 w2 ⟨rfl, q2⟩
            have hcell2 := q2.cell
            have hcn2 := meth_swap w2 bq m.length c _ hcell2
            have Q2 := hide q2
            clear q2 hcell1 hcn1
            go_wp2_with fail
            (with_reducible refine (SWk.out j1 hj1m _ Q2.out).mono ?_)
            rintro e3 w3 ⟨rfl, q3⟩
            have Q3 := hide q3
            clear q3 hcell2 hcn2
            go_wp2
            go_roundw
            case rel => exact ⟨j1, _, rfl, by omega, hide (hr.out.step Q3.out (by have := E1.out; omega) (by have := E1.out; omega) hn1 HS.out HB.out)⟩
            case measure => have := E1.out; simp [intOf]; omega
        · have LS := hide (less_hq hr.out.1 hgm j2 j1 hj2m hj1m _ hb)
          have HB := hide (show ∀ i, 0 < i → i < n → (i - 1) / 2 = k → kB (at' m i) (at' m j2) = false from fun i h0 hi hik => by
            rcases (show i = j1 ∨ i = j2 by omega) with rfl | rfl
            · exact HP.kB_asymm hb
            · exact HP.kB_irrefl _)
          rcases hb2 : kB (at' m j2) (at' m k) with _ | _
          · have L2 := hide (LSk.out j2 hj2m _ hb2)
            have HS := hide (show ∀ i, 0 < i → i < n → (i - 1) / 2 = k → kB (at' m i) (at' m k) = false from fun i h0 hi hik => HP.kB_ntrans (HB.out i h0 hi hik) hb2)
            clear e1 e2 hb hb2 hlen hgm hle
            go_wp2_with fail
            (with_reducible refine LS.out.mono ?_)
            rintro e1 w1 ⟨rfl, q1⟩
            have hcell1 := q1.cell
            have hcn1 := meth_less w1 bq m.length c _ hcell1
            have Q1 := hide q1
            clear q1 hcell hcn
            go_wp2_with fail
            (with_reducible refine (L2.out _ Q1.out).mono ?_)
            rintro e2 w2 ⟨rfl, q2⟩
            have Q2 := hide q2
            clear q2 hcell1 hcn1
            go_wp2
            go_ret
            exact hr.out.stop Q2.out HS.out _
          · have L2 := hide (LSk.out j2 hj2m _ hb2)
            have HS := hide hb2
            clear e1 e2 hb hb2 hlen hgm hle
            go_wp2_with fail
            (with_reducible refine LS.out.mono ?_)
            rintro e1 w1 ⟨rfl, q1⟩
            have hcell1 := q1.cell
            have hcn1 := meth_less w1 bq m.length c _ hcell1
            have Q1 := hide q1
            clear q1 hcell hcn
            go_wp2_with fail
            (with_reducible refine (L2.out _ Q1.out).mono ?_)
            rintro e2 w2 ⟨rfl, q2⟩
            have hcell2 := q2.cell
            have hcn2 := meth_swap w2 bq m.length c _ hcell2
            have Q2 := hide q2
            clear q2 hcell1 hcn1
            go_wp2_with fail
            (with_reducible refine (SWk.out j2 hj2m _ Q2.out).mono ?_)
            rintro e3 w3 ⟨rfl, q3⟩
            have Q3 := hide q3
            clear q3 hcell2 hcn2
            go_wp2
            go_roundw
            case rel => exact ⟨j2, _, rfl, by omega, hide (hr.out.step Q3.out (by have := E1.out; have := E2.out; omega) (by have := E1.out; have := E2.out; omega) hn2 HS.out HB.out)⟩
            case measure => have := E1.out; have := E2.out; simp [intOf]; omega
      · have HB := hide (show ∀ i, 0 < i → i < n → (i - 1) / 2 = k → kB (at' m i) (at' m j1) = false from fun i h0 hi hik => by
          rcases (show i = j1 by omega) with rfl
          exact HP.kB_irrefl _)
        rcases hb2 : kB (at' m j1) (at' m k) with _ | _
        · have L2 := hide (LSk.out j1 hj1m _ hb2)
          have HS := hide (show ∀ i, 0 < i → i < n → (i - 1) / 2 = k → kB (at' m i) (at' m k) = false from fun i h0 hi hik => HP.kB_ntrans (HB.out i h0 hi hik) hb2)
          clear e1 e2 hb2 hlen hgm hle
          go_wp2_with fail
          (with_reducible refine (L2.out _ hr.out.hq).mono ?_)
          rintro e2 w2 ⟨rfl, q2⟩
          have Q2 := hide q2
          clear q2 hcell hcn
          go_wp2
          go_ret
          exact hr.out.stop Q2.out HS.out _
        · have L2 := hide (LSk.out j1 hj1m _ hb2)
          have HS := hide hb2
          clear e1 e2 hb2 hlen hgm hle
          go_wp2_with fail
          (with_reducible refine (L2.out _ hr.out.hq).mono ?_)
          rintro e2 w2 ⟨rfl, q2⟩
          have hcell2 := q2.cell
          have hcn2 := meth_swap w2 bq m.length c _ hcell2
          have Q2 := hide q2
          clear q2 hcell hcn
          go_wp2_with fail
          (with_reducible refine (SWk.out j1 hj1m _ Q2.out).mono ?_)
          rintro e3 w3 ⟨rfl, q3⟩
          have Q3 := hide q3
          clear q3 hcell2 hcn2
          go_wp2
          go_roundw
          case rel => exact ⟨j1, _, rfl, by omega, hide (hr.out.step Q3.out (by have := E1.out; omega) (by have := E1.out; omega) hn1 HS.out HB.out)⟩
          case measure => have := E1.out; simp [intOf]; omega
    · have HS := hide (show ∀ j, 0 < j → j < n → (j - 1) / 2 = k → kB (at' m j) (at' m k) = false from fun j h0 hj hjk => by omega)
      clear e1
      go_wp2
      go_ret
      exact hr.out.stop hr.out.1 HS.out _
end Go.Proofs.Ytbdgifngldipcaa
