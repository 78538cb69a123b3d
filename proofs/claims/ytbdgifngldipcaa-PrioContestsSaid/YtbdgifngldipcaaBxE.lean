/- container/heap over box's queue: up, Push. -/
import Derived.Test.YtbdgifngldipcaaBxD
import Derived.Test.YtbdgifngldipcaaHpP
namespace Go.Proofs.Ytbdgifngldipcaa
open Go.ChangeShapes Go.WideShapes Go.ChangeAt Go.RowKit
open FP (Fr)
open HP (kB at' Hp UpI DnI)

/-- Boxes whose frames may be. -/
def GoodB (l : List Bx) : Prop := ∀ x ∈ l, FP.rightB x.f = true ∧ x.f.id < 4294967296
theorem GoodB.perm {l m : List Bx} (h : GoodB l) (p : m.Perm l) : GoodB m := fun x hx => h x (p.mem_iff.1 hx)
theorem GoodB.id {l : List Bx} (h : GoodB l) : ∀ x ∈ l, x.f.id < 4294967296 := fun x hx => (h x hx).2
theorem GoodB.ahead {l : List Bx} (h : GoodB l) {i k : Nat} (hi : i < l.length) (hk : k < l.length) : aheadB l[i] l[k] = kB (at' l i) (at' l k) := by
  rw [HP.at_lt hi, HP.at_lt hk]
  exact HP.ahead_kB (h _ (List.getElem_mem hi)).1 (h _ (List.getElem_mem hk)).1

/-- Less, as the heap asks it. -/
theorem less_hq {B : Nat} {w : World} {bq : Nat} {g c : Nat} {l : List Bx} {W : World} (h : HQ B w bq (some ⟨g, 0, none⟩) c l W) (hg : GoodB l) (i k : Nat) (hi : i < l.length) (hk : k < l.length) (b : Bool) (hb : kB (at' l i) (at' l k) = b) :
    Calls Try.prog 121 #[.slice (some ⟨g, 0, none⟩) l.length c, .int .i64 i, .int .i64 k] W fun e W' => e = .returned (.bool b) ∧ HQ B w bq (some ⟨g, 0, none⟩) c l W' :=
  (qLess_any l g 0 c i k W h.rd hg.id hi hk).mono fun _ W' ⟨a, q⟩ => ⟨by rw [a, hg.ahead hi hk, hb], h.below q⟩

set_option maxRecDepth 100000 in
set_option maxHeartbeats 1000000 in
theorem hpUp_any (B : Nat) (w : World) (bq : Nat) (g c : Nat) (l : List Bx) (W : World) (h : HQ B w bq (some ⟨g, 0, none⟩) c l W) (hg : GoodB l) (hl : l.length ≤ 1000) (j : Nat) (hI : UpI l j) :
    Calls Try.prog 90 #[.iface 98 (.pointer (some ⟨bq, 0, none⟩)), .int .i64 j] W fun e W' => e = .returned (.tuple #[]) ∧ ∃ l', HQ B w bq (some ⟨g, 0, none⟩) c l' W' ∧ l'.Perm l ∧ Hp l' 0 l'.length := by
  have H := hide h
  have HI := hide hI
  have HG := hide hg
  clear h hI hg
  go_enter Try.func90, Try.ntmps90
  go_wp2
  go_loopw [1] (fun v W1 => ∃ (k : Nat) (m : List Bx), v = .int .i64 k ∧ k ≤ 1000 ∧ Hid (HQ B w bq (some ⟨g, 0, none⟩) c m W1 ∧ m.Perm l ∧ UpI m k)) (fun v _ => (intOf v).toNat)
  case atStart => exact ⟨j, l, rfl, by have := HI.out.lt; omega, hide ⟨H.out, List.Perm.refl _, HI.out⟩⟩
  case round =>
    obtain ⟨k, m, rfl, hk, hr⟩ := hrel
    by_cases hk0 : k = 0
    · subst hk0
      go_wp2
      go_end0
      exact ⟨rfl, m, hr.out.1, hr.out.2.1, hr.out.2.2.stop (.inl rfl)⟩
    · obtain ⟨p, hp⟩ : ∃ p : Nat, p = (k - 1) / 2 := ⟨_, rfl⟩
      have hpe : ((k : Int) - 1) / 2 = (p : Int) := by omega
      have hpk : ((p : Int) == (k : Int)) = false := by rw [beq_eq_false_iff_ne]; omega
      have hkl := hr.out.2.2.lt
      have hlen : m.length = l.length := hr.out.2.1.length_eq
      have hpl : p < m.length := by omega
      have hgm := HG.out.perm hr.out.2.1
      have hcell := hr.out.1.cell
      have hcn := meth_less wr bq m.length c _ hcell
      have HP1 := hide hp
      have HK0 := hide hk0
      rcases hb : kB (at' m k) (at' m p) with _ | _
      · have LS := hide (less_hq hr.out.1 hgm k p hkl hpl _ hb)
        have HS := hide hb
        clear hb hp hlen hgm hkl hpl hk0
        go_wp2_with fail
        (with_reducible refine LS.out.mono ?_)
        rintro e1 w1 ⟨rfl, q1⟩
        have Q1 := hide q1
        clear q1 hcell hcn
        go_wp2
        go_end0
        exact ⟨rfl, m, Q1.out, hr.out.2.1, hr.out.2.2.stop (.inr (by rw [← HP1.out]; exact HS.out))⟩
      · have LS := hide (less_hq hr.out.1 hgm k p hkl hpl _ hb)
        have ST := hide (hr.out.2.2.step hp (by omega) hb)
        have SW := hide (fun W2 (h2 : HQ B w bq (some ⟨g, 0, none⟩) c m W2) => qSwap_any B w bq g c m W2 h2 p k hpl hkl)
        clear hb hp hlen hgm hkl hpl hk0
        go_wp2_with fail
        (with_reducible refine LS.out.mono ?_)
        rintro e1 w1 ⟨rfl, q1⟩
        have hcell1 := q1.cell
        have hcn1 := meth_swap w1 bq m.length c _ hcell1
        have Q1 := hide q1
        clear q1 hcell hcn
        go_wp2_with fail
        (with_reducible refine (SW.out _ Q1.out).mono ?_)
        rintro e2 w2 ⟨rfl, q2⟩
        have Q2 := hide q2
        clear q2 hcell1 hcn1
        go_wp2
        go_roundw
        case rel => exact ⟨p, _, rfl, by have := HP1.out; omega, hide ⟨Q2.out, (HP.swapL_perm m p k).trans hr.out.2.1, ST.out⟩⟩
        case measure => have := HP1.out; have := HK0.out; simp [intOf]; omega
end Go.Proofs.Ytbdgifngldipcaa
