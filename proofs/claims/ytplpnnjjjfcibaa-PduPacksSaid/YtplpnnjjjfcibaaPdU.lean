/- Walks of pdu.well, pdu.Clear, pdu.Unpack. -/
import Derived.Test.YtplpnnjjjfcibaaSgG
import Derived.Test.YtplpnnjjjfcibaaPdG
namespace Go.Proofs.Ytplpnnjjjfcibaa
open Go.ChangeShapes Go.WideShapes Go.ChangeAt Go.RowKit
open SG PD

set_option maxRecDepth 100000 in
theorem pduWell_any (L : Ly) (A : Option Addr) (c : Nat) (B : Option Addr) (d : Nat) (s : ByteArray) (w : World) (hA : SgR w w.heap.size A L.sgs) (hB : InR w w.heap.size B L.nws) (hs : L.sgs.length ≤ 1000) (hn : L.nws.length ≤ 1000) (hc : L.sgs.length ≤ c) (hd : L.nws.length ≤ d) (hz : s.size ≤ 1000000) :
    Calls Try.prog 40 #[.agg (lyV L A c B d), .string s] w fun e w' => e = .returned (.int .i64 (wellL L s.size)) ∧ Below w.heap.size w w' := by
  have q0 : Below w.heap.size w (w.alloc (.cells (lyV L A c B d) 25)) := (Below.refl _ _).alloc (Nat.le_refl _) _
  have B0 := hide (World.alloc_heap_new w (.cells (lyV L A c B d) 25))
  have RT := hide (fun (W : World) (hb : Below w.heap.size w W) => pduRight_any L A c B d W (Rd.next hA hb hb.size) (Rd.next hB hb hb.size) hs hn hc hd)
  obtain ⟨x, hx⟩ : ∃ x, x = wellL L s.size := ⟨_, rfl⟩
  rw [← hx]
  unfold wellL at hx
  have HX := hide hx
  clear hx
  generalize rightB L = R at *
  clear hA hB
  unfold lyV at *
  obtain ⟨c0, c1, c2⟩ := three_cells B0.out
  have Q0 := hide q0
  clear q0
  generalize hw0 : w.alloc (.cells #[.int .i64 L.size, .slice A L.sgs.length c, .slice B L.nws.length d] 25) = w0 at *
  go_enter Try.func40, Try.ntmps40
  go_wp2_with fail
  (with_reducible refine (RT.out _ Q0.out).mono ?_)
  rintro e5 w1 ⟨rfl, q1⟩
  have Q1 := hide (below_next Q0.out Q0.out.size q1)
  have B1 := hide (heap_below B0.out q1)
  clear q1 c0 c1 c2 hw0 RT
  obtain ⟨c0, c1, c2⟩ := three_cells B1.out
  cases R with
  | false =>
    have E := hide (show x = 1 by rw [HX.out, if_pos rfl])
    clear HX
    go_wp2_with fail
    go_ret
    exact ⟨by rw [E.out]; rfl, Q1.out⟩
  | true =>
    by_cases h : (s.size : Int) = L.size
    · have e1 : ((s.size : Int) == L.size) = true := by rw [beq_iff_eq]; exact h
      have e2 : ((s.size : Int) != L.size) = false := by simp [bne, e1]
      have E : x = 0 := by rw [HX.out, if_neg (by simp), if_neg (by simp [h])]
      replace E := hide E
      clear h HX
      go_wp2_with fail
      go_ret
      exact ⟨by rw [E.out]; rfl, Q1.out⟩
    · have e1 : ((s.size : Int) == L.size) = false := by rw [beq_eq_false_iff_ne]; exact h
      have e2 : ((s.size : Int) != L.size) = true := by simp [bne, e1]
      have E : x = 23 := by rw [HX.out, if_neg (by simp), if_pos h]
      replace E := hide E
      clear h HX
      go_wp2_with fail
      go_ret
      exact ⟨by rw [E.out]; rfl, Q1.out⟩

/-- What Clear answers. -/
def clrV (L : Ly) (s : ByteArray) : ByteArray := if wellL L s.size = 0 then ⟨(clrF L s.data.toList).toArray⟩ else ⟨#[]⟩
theorem clrN_succ (nws : List Int) (d : List UInt8) (k : Nat) : clrN nws d (k + 1) = if 0 ≤ nws.getD k 0 then setB (clrN nws d k) (nws.getD k 0).toNat false else clrN nws d k := rfl

set_option maxRecDepth 100000 in
set_option maxHeartbeats 4000000 in
theorem clear_any (L : Ly) (A : Option Addr) (c : Nat) (B : Option Addr) (d : Nat) (s : ByteArray) (w : World) (hA : SgR w w.heap.size A L.sgs) (hB : InR w w.heap.size B L.nws) (hs : L.sgs.length ≤ 1000) (hn : L.nws.length ≤ 1000) (hc : L.sgs.length ≤ c) (hd : L.nws.length ≤ d) (hz : s.size ≤ 1000000) :
    Calls Try.prog 16 #[.agg (lyV L A c B d), .string s] w fun e w' => e = .returned (.tuple #[.string (clrV L s), .int .i64 (wellL L s.size)]) ∧ Below w.heap.size w w' := by
  have q0 : Below w.heap.size w (w.alloc (.cells (lyV L A c B d) 25)) := (Below.refl _ _).alloc (Nat.le_refl _) _
  have B0 := hide (World.alloc_heap_new w (.cells (lyV L A c B d) 25))
  have WL := hide (fun (W : World) (hb : Below w.heap.size w W) => pduWell_any L A c B d s W (Rd.next hA hb hb.size) (Rd.next hB hb hb.size) hs hn hc hd hz)
  have HB := hide hB
  have HL := hide (wellL_zero (L := L) (n := s.size))
  obtain ⟨r, hr⟩ : ∃ r, r = clrV L s := ⟨_, rfl⟩
  rw [← hr]
  unfold clrV at hr
  have HC := hide hr
  clear hA hB hr
  generalize wellL L s.size = x at *
  unfold lyV at *
  obtain ⟨c0, c1, c2⟩ := three_cells B0.out
  have Q0 := hide q0
  clear q0
  generalize hw0 : w.alloc (.cells #[.int .i64 L.size, .slice A L.sgs.length c, .slice B L.nws.length d] 25) = w0 at *
  go_enter Try.func16, Try.ntmps16
  go_wp2_with fail
  (with_reducible refine (WL.out _ Q0.out).mono ?_)
  rintro e5 w1 ⟨rfl, q1⟩
  have Q1 := hide (below_next Q0.out Q0.out.size q1)
  have B1 := hide (heap_below B0.out q1)
  clear q1 c0 c1 c2 hw0 WL
  obtain ⟨c0, c1, c2⟩ := three_cells B1.out
  by_cases h : x = 0
  · subst h
    obtain ⟨hr, hsz⟩ := HL.out.1 rfl
    have EC : Hid (r = ⟨(clrF L s.data.toList).toArray⟩) := hide (by rw [HC.out, if_pos rfl])
    clear HC
    have HR := hide (right_iff.1 hr)
    have h8 : s.size ≤ 8 := by have := HR.out.2.1; omega
    have hds : s.data.toList.length = s.size := by simp
    have HN := hide (right_news (d := s.data.toList) hr (by rw [hds]; exact hsz))
    have LEN := hide (fun k => show (clrN L.nws s.data.toList k).length = s.size by rw [clrN_length, hds])
    have PF := hide (show clrF L s.data.toList = clrN L.nws s.data.toList L.nws.length from rfl)
    have P0 := hide (show (⟨(clrN L.nws s.data.toList 0).toArray⟩ : ByteArray) = s from by simp [clrN])
    rw [PF.out] at EC
    clear hr hsz PF hds HL HR
    go_wp2_with fail
    go_loopw [1, 18] (fun vd vi W => ∃ k : Nat, k ≤ L.nws.length ∧ vi = .int .i64 k ∧ vd = .string ⟨(clrN L.nws s.data.toList k).toArray⟩ ∧ Hid (W.heap[w.heap.size]? = some (.cells #[.int .i64 L.size, .slice A L.sgs.length c, .slice B L.nws.length d] 25 (0, 0))) ∧ Hid (Below w.heap.size w W)) (fun _ vi _ => L.nws.length - (intOf vi).toNat)
    case atStart => exact ⟨0, Nat.zero_le _, rfl, by rw [P0.out], B1, Q1⟩
    case round =>
      obtain ⟨k, hk, rfl, rfl, hB, hQ⟩ := hrel
      clear B1 Q1 P0 c0 c1 c2
      by_cases hlt : k < L.nws.length
      · have NX := hide (clrN_succ L.nws s.data.toList k)
        have hgd : L.nws.getD k 0 = L.nws[k] := by rw [List.getD_eq_getElem?_getD, List.getElem?_eq_getElem hlt]; rfl
        rw [hgd] at NX
        have hb := HN.out _ (List.getElem_mem hlt)
        have hml := LEN.out k
        obtain ⟨bk, ok, rfl, hbk, ck⟩ := InR.at_ (Rd.below HB.out hQ.out) hlt
        have hki : (k : Int) < (L.nws.length : Int) := by omega
        obtain ⟨m1, hm1⟩ : ∃ m1, m1 = clrN L.nws s.data.toList (k + 1) := ⟨_, rfl⟩
        rw [← hm1] at NX
        have HM1 := hide hm1
        clear hm1
        generalize clrN L.nws s.data.toList k = m at *
        generalize L.nws[k] = a at *
        clear hgd LEN HN HB
        by_cases h0 : 0 ≤ a
        · rw [if_pos h0] at NX
          obtain ⟨p, rfl⟩ := Int.eq_ofNat_of_zero_le h0
          have hms : (⟨m.toArray⟩ : ByteArray).size = m.length := size_ofL m
          have hsl : s.data.toList.length = s.size := by simp
          rw [hsl] at hb
          have MK := hide (fun W => show Calls Try.prog 39 #[.string ⟨m.toArray⟩, .int .i64 p, .bool false] W fun e w' => e = .returned (.string ⟨(setB m p false).toArray⟩) ∧ Below W.heap.size W w' from mark_any ⟨m.toArray⟩ p false W (by rw [hms]; omega) (by rw [hms]; omega))
          have NX2 : setB m p false = m1 := NX.out.symm
          rw [NX2] at MK
          clear NX NX2 hms hsl
          go_wp2_with fail
          (with_reducible refine (MK.out _).mono ?_)
          rintro e2 w2 ⟨rfl, q2⟩
          have Q2 := hide (below_next hQ.out hQ.out.size q2)
          have B2 := hide (heap_below hB.out q2)
          clear hQ hB q2 ck
          go_wp2_with fail
          go_roundw
          case rel => exact ⟨k + 1, by omega, by go_num, by rw [HM1.out], B2, Q2⟩
          case measure => simp [intOf]; omega
        · rw [if_neg h0] at NX
          have NX2 : Hid (m1 = m) := NX
          clear NX
          go_wp2_with fail
          go_roundw
          case rel => exact ⟨k + 1, by omega, by go_num, by rw [← HM1.out, NX2.out], hB, hQ⟩
          case measure => simp [intOf]; omega
      · obtain rfl : k = L.nws.length := by omega
        clear HN LEN HB
        go_wp2_with fail
        refine bodyPost_ret (v := .tuple #[.string ⟨(clrN L.nws s.data.toList L.nws.length).toArray⟩, .int .i64 0]) (by simp [results, Try.results16, go_sem]) rfl ⟨by rw [EC.out], hQ.out⟩
  · have e1 : (x == 0) = false := by rw [beq_eq_false_iff_ne]; exact h
    have e2 : (x != 0) = true := by simp [bne, e1]
    have EC : Hid (r = ⟨#[]⟩) := hide (by rw [HC.out, if_neg h])
    clear h HL HB HC
    go_wp2_with fail
    refine bodyPost_ret (v := .tuple #[.string ⟨#[]⟩, .int .i64 x]) (by simp [results, Try.results16, go_sem]) rfl ⟨by rw [EC.out], Q1.out⟩
end Go.Proofs.Ytplpnnjjjfcibaa
