/- The walks of package load, above need: late, Late, Need, Fits. -/
import Derived.Test.YtmfgifinmeonjaaDoorLoadA
namespace Go.Proofs.YtmfgifinmeonjaaDoor
open Go.ChangeShapes Go.WideShapes Go.ChangeAt Go.RowKit
open LP (Ld okB rightB mx ah needF lateF)

set_option maxRecDepth 100000 in
set_option maxHeartbeats 400000 in
theorem late_any (l : List Ld) (A : Option Addr) (c : Nat) (k : Nat) (w : World) (hr : LdR w w.heap.size A l) (hR : Hid (LP.Right l)) (hl : l.length ≤ 16) (hc : l.length ≤ c) (hk : k < l.length) :
    Calls Tryd.prog 43 #[.slice A l.length c, .int .i64 k] w fun e w' => e = .returned (.int .i64 (lateF l k)) ∧ Below w.heap.size w w' := by
  go_enter Tryd.func43, Tryd.ntmps43
  go_wp2_with fail
  go_loopw [5] (fun v wr => ∃ n : Int, v = .int .i64 n ∧ 1 ≤ n ∧ n ≤ 4000000000 ∧ Hid (∀ m, 1 ≤ m → m < n → m < needF l k m) ∧ Below w.heap.size w wr) (fun v _ => (4000000000 - intOf v).toNat)
  case atStart => exact ⟨1, rfl, by omega, by omega, hide (fun m a b => by omega), Below.refl _ _⟩
  case round =>
    obtain ⟨n, rfl, hn1, hn2, hinv, hbl⟩ := hrel
    have hsz := hbl.size
    by_cases hlt : n ≤ 1000000
    · have N := hide (need_any l A c k n wr (hr.next hbl hsz) hR hl hc hk hn1 hlt)
      have hbd := LP.need_bd hR.out hk n hn1
      by_cases hd : needF l k n ≤ n
      · have hE := hide (show lateF l k = n from LP.lateF_eq (.inr ⟨hn1, hlt, hd, hinv.out⟩))
        go_wp2_with fail
        refine N.out.mono ?_
        rintro e1 w2 ⟨rfl, hb2⟩
        go_wp2
        go_ret
        exact ⟨by rw [hE.out]; rfl, below_next hbl hsz hb2⟩
      · have hI := hide (LP.round_inv hR.out (k := k) hinv.out)
        go_wp2_with fail
        refine N.out.mono ?_
        rintro e1 w2 ⟨rfl, hb2⟩
        go_wp2
        go_roundw
        case rel => exact ⟨needF l k n, rfl, by omega, by omega, hI, below_next hbl hsz hb2⟩
        case measure => simp [intOf]; omega
    · have hE := hide (show lateF l k = 0 from LP.lateF_eq (.inl ⟨rfl, fun m a b => hinv.out m a (by omega)⟩))
      go_wp2_with fail
      go_ret
      exact ⟨by rw [hE.out]; rfl, hbl⟩

def inB (l : List Ld) (i : Int) : Bool := decide (0 ≤ i ∧ i < l.length)

/-- What Late answers: an error, or the bits. -/
def lateE (l : List Ld) (i : Int) : Int := if rightB l = true ∧ 0 ≤ i ∧ i < l.length then (if lateF l i.toNat = 0 then 41 else 0) else 1
def lateV (l : List Ld) (i : Int) : Int := if rightB l = true ∧ 0 ≤ i ∧ i < l.length then lateF l i.toNat else 0

set_option maxRecDepth 100000 in
set_option maxHeartbeats 400000 in
theorem Late_any (l : List Ld) (A : Option Addr) (c : Nat) (i : Int) (w : World) (hr : LdR w w.heap.size A l) (hl : l.length ≤ 1000) (hc : l.length ≤ c) :
    Calls Tryd.prog 23 #[.slice A l.length c, .int .i64 i] w fun e w' => e = .returned (.tuple #[.int .i64 (lateV l i), .int .i64 (lateE l i)]) ∧ Below w.heap.size w w' := by
  have R := hide (right_any l A c w hr hl)
  by_cases hb : rightB l = true
  · by_cases hi : 0 ≤ i ∧ i < l.length
    · obtain ⟨h0, h1⟩ := hi
      obtain ⟨k, rfl⟩ := Int.eq_ofNat_of_zero_le h0
      have hk : k < l.length := by omega
      have hV := hide (show lateV l k = lateF l k by unfold lateV; rw [if_pos ⟨hb, h0, h1⟩]; simp)
      have hE := hide (show lateE l k = if lateF l k = 0 then 41 else 0 by unfold lateE; rw [if_pos ⟨hb, h0, h1⟩]; simp)
      have hR := LP.right_iff.1 hb
      have h16 := hR.1
      have HR := hide hR
      clear hR
      have hbd := LP.lateF_bd l k
      by_cases hz : lateF l k = 0
      · have HZ := hide hz
        have hzb : (lateF l k == 0) = true := by simp [hz]
        clear hz
        go_enter Tryd.func23, Tryd.ntmps23
        go_wp2_with fail
        refine R.out.mono ?_
        rintro e1 w1 ⟨rfl, hb1⟩
        go_wp2_with fail
        refine (late_any l A c k w1 (hr.next hb1 hb1.size) HR h16 hc hk).mono ?_
        rintro e2 w2 ⟨rfl, hb2⟩
        go_wp2
        go_ret2
        exact ⟨by rw [hV.out, hE.out, HZ.out]; rfl, below_next hb1 hb1.size hb2⟩
      · have HZ := hide hz
        have hzb : (lateF l k == 0) = false := by simp [hz]
        clear hz
        go_enter Tryd.func23, Tryd.ntmps23
        go_wp2_with fail
        refine R.out.mono ?_
        rintro e1 w1 ⟨rfl, hb1⟩
        go_wp2_with fail
        refine (late_any l A c k w1 (hr.next hb1 hb1.size) HR h16 hc hk).mono ?_
        rintro e2 w2 ⟨rfl, hb2⟩
        go_wp2
        go_ret2
        exact ⟨by rw [hV.out, hE.out, if_neg HZ.out]; rfl, below_next hb1 hb1.size hb2⟩
    · have hV := hide (show lateV l i = 0 by unfold lateV; rw [if_neg (fun h => hi h.2)])
      have hE := hide (show lateE l i = 1 by unfold lateE; rw [if_neg (fun h => hi h.2)])
      by_cases h0 : 0 ≤ i
      · have h1 : ¬ i < l.length := fun h => hi ⟨h0, h⟩
        clear hi
        go_enter Tryd.func23, Tryd.ntmps23
        go_wp2_with fail
        refine R.out.mono ?_
        rintro e1 w1 ⟨rfl, hb1⟩
        go_wp2
        go_ret2
        exact ⟨by rw [hV.out, hE.out]; rfl, hb1⟩
      · clear hi
        go_enter Tryd.func23, Tryd.ntmps23
        go_wp2_with fail
        refine R.out.mono ?_
        rintro e1 w1 ⟨rfl, hb1⟩
        go_wp2
        go_ret2
        exact ⟨by rw [hV.out, hE.out]; rfl, hb1⟩
  · have hb' : rightB l = false := by simpa using hb
    have hV := hide (show lateV l i = 0 by unfold lateV; rw [if_neg (fun h => hb h.1)])
    have hE := hide (show lateE l i = 1 by unfold lateE; rw [if_neg (fun h => hb h.1)])
    clear hb
    go_enter Tryd.func23, Tryd.ntmps23
    go_wp2_with fail
    refine R.out.mono ?_
    rintro e1 w1 ⟨rfl, hb1⟩
    go_wp2
    go_ret2
    exact ⟨by rw [hV.out, hE.out]; rfl, hb1⟩
end Go.Proofs.YtmfgifinmeonjaaDoor
