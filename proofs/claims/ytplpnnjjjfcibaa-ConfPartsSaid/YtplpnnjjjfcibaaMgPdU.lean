/- Walks of pdu.well, pdu.Clear, pdu.Unpack. -/
import Derived.Test.YtplpnnjjjfcibaaSgG
import Derived.Test.YtplpnnjjjfcibaaPdG
import Derived.Test.YtplpnnjjjfcibaaRng3
import Derived.Test.YtplpnnjjjfcibaaOwS
import Derived.Test.YtplpnnjjjfcibaaMem
import Derived.Maps.OwnOps
import Derived.Maps.OwnSet
namespace Go.Proofs.Ytplpnnjjjfcibaa
open Go.ChangeShapes Go.WideShapes Go.ChangeAt Go.RowKit
open SG PD

set_option maxRecDepth 100000 in
theorem pduWell_any (L : Ly) (A : Option Addr) (c : Nat) (B : Option Addr) (d : Nat) (s : ByteArray) (w : World) (hA : SgR w w.heap.size A L.sgs) (hB : InR w w.heap.size B L.nws) (hs : L.sgs.length ≤ 1000) (hn : L.nws.length ≤ 1000) (hc : L.sgs.length ≤ c) (hd : L.nws.length ≤ d) (hz : s.size ≤ 1000000) :
    Calls Try.prog 40 #[.agg (lyV L A c B d), .string s] w fun e w' => e = .returned (.int .i64 (wellL L s.size)) ∧ Below w.heap.size w w' := by
  have q0 : Below w.heap.size w (w.alloc (.cells (lyV L A c B d) 25)) := (Below.refl _ _).alloc (Nat.le_refl _) _
  have B0 := hide (World.alloc_heap_new w (.cells (lyV L A c B d) 25))
  have RT := hide (fun (W : World) (hb : Below w.heap.size w W) => pduRight_any L A c B d W (Rd.next hA hb hb.size) (Rd.next hB hb hb.size) hs hn hc hd)
  obtain ⟨x, hx⟩ : ∃ x, x = wellL L s.size := ⟨_, rfl⟩
  rw [← hx]
  unfold wellL at hx
  have HX := hide hx
  clear hx
  generalize rightB L = R at *
  clear hA hB
  unfold lyV at *
  obtain ⟨c0, c1, c2⟩ := three_cells B0.out
  have Q0 := hide q0
  clear q0
  generalize hw0 : w.alloc (.cells #[.int .i64 L.size, .slice A L.sgs.length c, .slice B L.nws.length d] 25) = w0 at *
  go_enter Try.func40, Try.ntmps40
  go_wp2_with fail
  (with_reducible refine (RT.out _ Q0.out).mono ?_)
  rintro e5 w1 ⟨rfl, q1⟩
  have Q1 := hide (below_next Q0.out Q0.out.size q1)
  have B1 := hide (heap_below B0.out q1)
  clear q1 c0 c1 c2 hw0 RT
  obtain ⟨c0, c1, c2⟩ := three_cells B1.out
  cases R with
  | false =>
    have E := hide (show x = 1 by rw [HX.out, if_pos rfl])
    clear HX
    go_wp2_with fail
    go_ret
    exact ⟨by rw [E.out]; rfl, Q1.out⟩
  | true =>
    by_cases h : (s.size : Int) = L.size
    · have e1 : ((s.size : Int) == L.size) = true := by rw [beq_iff_eq]; exact h
      have e2 : ((s.size : Int) != L.size) = false := by simp [bne, e1]
      have E : x = 0 := by rw [HX.out, if_neg (by simp), if_neg (by simp [h])]
      replace E := hide E
      clear h HX
      go_wp2_with fail
      go_ret
      exact ⟨by rw [E.out]; rfl, Q1.out⟩
    · have e1 : ((s.size : Int) == L.size) = false := by rw [beq_eq_false_iff_ne]; exact h
      have e2 : ((s.size : Int) != L.size) = true := by simp [bne, e1]
      have E : x = 23 := by rw [HX.out, if_neg (by simp), if_pos h]
      replace E := hide E
      clear h HX
      go_wp2_with fail
      go_ret
      exact ⟨by rw [E.out]; rfl, Q1.out⟩

/-- What Clear answers. -/
def clrV (L : Ly) (s : ByteArray) : ByteArray := if wellL L s.size = 0 then ⟨(clrF L s.data.toList).toArray⟩ else ⟨#[]⟩
theorem clrN_succ (nws : List Int) (d : List UInt8) (k : Nat) : clrN nws d (k + 1) = if 0 ≤ nws.getD k 0 then setB (clrN nws d k) (nws.getD k 0).toNat false else clrN nws d k := rfl

set_option maxRecDepth 100000 in
set_option maxHeartbeats 4000000 in
theorem clear_any (L : Ly) (A : Option Addr) (c : Nat) (B : Option Addr) (d : Nat) (s : ByteArray) (w : World) (hA : SgR w w.heap.size A L.sgs) (hB : InR w w.heap.size B L.nws) (hs : L.sgs.length ≤ 1000) (hn : L.nws.length ≤ 1000) (hc : L.sgs.length ≤ c) (hd : L.nws.length ≤ d) (hz : s.size ≤ 1000000) :
    Calls Try.prog 16 #[.agg (lyV L A c B d), .string s] w fun e w' => e = .returned (.tuple #[.string (clrV L s), .int .i64 (wellL L s.size)]) ∧ Below w.heap.size w w' := by
  have q0 : Below w.heap.size w (w.alloc (.cells (lyV L A c B d) 25)) := (Below.refl _ _).alloc (Nat.le_refl _) _
  have B0 := hide (World.alloc_heap_new w (.cells (lyV L A c B d) 25))
  have WL := hide (fun (W : World) (hb : Below w.heap.size w W) => pduWell_any L A c B d s W (Rd.next hA hb hb.size) (Rd.next hB hb hb.size) hs hn hc hd hz)
  have HB := hide hB
  have HL := hide (wellL_zero (L := L) (n := s.size))
  obtain ⟨r, hr⟩ : ∃ r, r = clrV L s := ⟨_, rfl⟩
  rw [← hr]
  unfold clrV at hr
  have HC := hide hr
  clear hA hB hr
  generalize wellL L s.size = x at *
  unfold lyV at *
  obtain ⟨c0, c1, c2⟩ := three_cells B0.out
  have Q0 := hide q0
  clear q0
  generalize hw0 : w.alloc (.cells #[.int .i64 L.size, .slice A L.sgs.length c, .slice B L.nws.length d] 25) = w0 at *
  go_enter Try.func16, Try.ntmps16
  go_wp2_with fail
  (with_reducible refine (WL.out _ Q0.out).mono ?_)
  rintro e5 w1 ⟨rfl, q1⟩
  have Q1 := hide (below_next Q0.out Q0.out.size q1)
  have B1 := hide (heap_below B0.out q1)
  clear q1 c0 c1 c2 hw0 WL
  obtain ⟨c0, c1, c2⟩ := three_cells B1.out
  by_cases h : x = 0
  · subst h
    obtain ⟨hr, hsz⟩ := HL.out.1 rfl
    have EC : Hid (r = ⟨(clrF L s.data.toList).toArray⟩) := hide (by rw [HC.out, if_pos rfl])
    clear HC
    have HR := hide (right_iff.1 hr)
    have h8 : s.size ≤ 8 := by have := HR.out.2.1; omega
    have hds : s.data.toList.length = s.size := by simp
    have HN := hide (right_news (d := s.data.toList) hr (by rw [hds]; exact hsz))
    have LEN := hide (fun k => show (clrN L.nws s.data.toList k).length = s.size by rw [clrN_length, hds])
    have PF := hide (show clrF L s.data.toList = clrN L.nws s.data.toList L.nws.length from rfl)
    have P0 := hide (show (⟨(clrN L.nws s.data.toList 0).toArray⟩ : ByteArray) = s from by simp [clrN])
    rw [PF.out] at EC
    clear hr hsz PF hds HL HR
    go_wp2_with fail
    go_loopw [1, 18] (fun vd vi W => ∃ k : Nat, k ≤ L.nws.length ∧ vi = .int .i64 k ∧ vd = .string ⟨(clrN L.nws s.data.toList k).toArray⟩ ∧ Hid (W.heap[w.heap.size]? = some (.cells #[.int .i64 L.size, .slice A L.sgs.length c, .slice B L.nws.length d] 25 (0, 0))) ∧ Hid (Below w.heap.size w W)) (fun _ vi _ => L.nws.length - (intOf vi).toNat)
    case atStart => exact ⟨0, Nat.zero_le _, rfl, by rw [P0.out], B1, Q1⟩
    case round =>
      obtain ⟨k, hk, rfl, rfl, hB, hQ⟩ := hrel
      clear B1 Q1 P0 c0 c1 c2
      by_cases hlt : k < L.nws.length
      · have NX := hide (clrN_succ L.nws s.data.toList k)
        have hgd : L.nws.getD k 0 = L.nws[k] := by rw [List.getD_eq_getElem?_getD, List.getElem?_eq_getElem hlt]; rfl
        rw [hgd] at NX
        have hb := HN.out _ (List.getElem_mem hlt)
        have hml := LEN.out k
        obtain ⟨bk, ok, rfl, hbk, ck⟩ := InR.at_ (Rd.below HB.out hQ.out) hlt
        have hki : (k : Int) < (L.nws.length : Int) := by omega
        obtain ⟨m1, hm1⟩ : ∃ m1, m1 = clrN L.nws s.data.toList (k + 1) := ⟨_, rfl⟩
        rw [← hm1] at NX
        have HM1 := hide hm1
        clear hm1
        generalize clrN L.nws s.data.toList k = m at *
        generalize L.nws[k] = a at *
        clear hgd LEN HN HB
        by_cases h0 : 0 ≤ a
        · rw [if_pos h0] at NX
          obtain ⟨p, rfl⟩ := Int.eq_ofNat_of_zero_le h0
          have hms : (⟨m.toArray⟩ : ByteArray).size = m.length := size_ofL m
          have hsl : s.data.toList.length = s.size := by simp
          rw [hsl] at hb
          have MK := hide (fun W => show Calls Try.prog 39 #[.string ⟨m.toArray⟩, .int .i64 p, .bool false] W fun e w' => e = .returned (.string ⟨(setB m p false).toArray⟩) ∧ Below W.heap.size W w' from mark_any ⟨m.toArray⟩ p false W (by rw [hms]; omega) (by rw [hms]; omega))
          have NX2 : setB m p false = m1 := NX.out.symm
          rw [NX2] at MK
          clear NX NX2 hms hsl
          go_wp2_with fail
          (with_reducible refine (MK.out _).mono ?_)
          rintro e2 w2 ⟨rfl, q2⟩
          have Q2 := hide (below_next hQ.out hQ.out.size q2)
          have B2 := hide (heap_below hB.out q2)
          clear hQ hB q2 ck
          go_wp2_with fail
          go_roundw
          case rel => exact ⟨k + 1, by omega, by go_num, by rw [HM1.out], B2, Q2⟩
          case measure => simp [intOf]; omega
        · rw [if_neg h0] at NX
          have NX2 : Hid (m1 = m) := NX
          clear NX
          go_wp2_with fail
          go_roundw
          case rel => exact ⟨k + 1, by omega, by go_num, by rw [← HM1.out, NX2.out], hB, hQ⟩
          case measure => simp [intOf]; omega
      · obtain rfl : k = L.nws.length := by omega
        clear HN LEN HB
        go_wp2_with fail
        refine bodyPost_ret (v := .tuple #[.string ⟨(clrN L.nws s.data.toList L.nws.length).toArray⟩, .int .i64 0]) (by simp [results, Try.results16, go_sem]) rfl ⟨by rw [EC.out], hQ.out⟩
  · have e1 : (x == 0) = false := by rw [beq_eq_false_iff_ne]; exact h
    have e2 : (x != 0) = true := by simp [bne, e1]
    have EC : Hid (r = ⟨#[]⟩) := hide (by rw [HC.out, if_neg h])
    clear h HL HB HC
    go_wp2_with fail
    refine bodyPost_ret (v := .tuple #[.string ⟨#[]⟩, .int .i64 x]) (by simp [results, Try.results16, go_sem]) rfl ⟨by rw [EC.out], Q1.out⟩
end Go.Proofs.Ytplpnnjjjfcibaa

/- append of one row to a row of the call's own; what else stands behind it. Nothing of the program's text. -/
namespace Go.Proofs.Ytplpnnjjjfcibaa
open Go.ChangeShapes Go.WideShapes Go.ChangeAt Go.RowKit

theorem heapLow {B : Nat} {W W' : World} {x : Nat} {o : Obj} (h : W.heap[x]? = some o) (hb : Below B W W') (hx : x < B) : W'.heap[x]? = some o := (hb.block x hx).trans h

/-- What an append of one row makes of the world. -/
structure Ap1 (w w' : World) (base : Nat) (e : TypeId) (sz : Nat) (A : Option Addr) (c : Nat) (rows : List (List Value)) (row : List Value) (A' : Option Addr) (c' : Nat) : Prop where
  own : Own w' base e sz A' c' (rows ++ [row])
  old : Own w base e sz A c rows
  below : Below base w w'
  base : base ≤ w.heap.size
  grown : (w.alloc (.cells row.toArray e)).grownBy w' (Value.slice A rows.length c).ownBlock

theorem Ap1.q {w w' : World} {base : Nat} {e : TypeId} {sz : Nat} {A : Option Addr} {c : Nat} {rows : List (List Value)} {row : List Value} {A' : Option Addr} {c' : Nat} (h : Ap1 w w' base e sz A c rows row A' c') {B : Nat} {W : World} (hb : Below B W w) (hB : B ≤ base) : Below B W w' := hb.trans (h.below.mono hB)
/-- Another row, of another type, stands. -/
theorem Ap1.other {w w' : World} {base : Nat} {e : TypeId} {sz : Nat} {A : Option Addr} {c : Nat} {rows : List (List Value)} {row : List Value} {A' : Option Addr} {c' : Nat} (h : Ap1 w w' base e sz A c rows row A' c')
    {base2 e2 sz2 : Nat} {A2 : Option Addr} {c2 : Nat} {r2 : List (List Value)} (h2 : Own w base2 e2 sz2 A2 c2 r2) (hte : e2 ≠ e) : Own w' base2 e2 sz2 A2 c2 r2 :=
  own_apartT (h2.alloc _) (h.old.alloc _) hte h.grown
/-- A block of another kind stands. -/
theorem Ap1.heap {w w' : World} {base : Nat} {e : TypeId} {sz : Nat} {A : Option Addr} {c : Nat} {rows : List (List Value)} {row : List Value} {A' : Option Addr} {c' : Nat} (h : Ap1 w w' base e sz A c rows row A' c')
    {x : Nat} {cs : Array Value} {t : TypeId} {fz : Nat × Nat} (hx : w.heap[x]? = some (.cells cs t fz)) (hte : t ≠ e) : w'.heap[x]? = some (.cells cs t fz) :=
  heap_grown (heap_below hx ((Below.refl _ _).alloc (Nat.le_refl _) (.cells row.toArray e))) hte (h.old.alloc _) h.grown
theorem Ap1.low {w w' : World} {base : Nat} {e : TypeId} {sz : Nat} {A : Option Addr} {c : Nat} {rows : List (List Value)} {row : List Value} {A' : Option Addr} {c' : Nat} (h : Ap1 w w' base e sz A c rows row A' c')
    {x : Nat} {o : Obj} (hx : w.heap[x]? = some o) (hb : x < base) : w'.heap[x]? = some o := heapLow hx h.below hb

section
variable {P : Program} {ops : Array Oper} {rest : List Oper} {o : Oper} {a : Act} {Q : Exit → Act → World → Prop}
theorem ap1_side (w : World) {e sz : Nat} (row : List Value) (hr : row.length = sz) :
    Rd (w.alloc (.cells row.toArray e)) (w.alloc (.cells row.toArray e)).heap.size (some ⟨w.heap.size, 0, none⟩) sz [row] := by
  have := Rd.new w [row] sz e (0, 0) (by simpa using hr)
  simpa using this

theorem wpList_append_one (w : World) (cs : Array Value) (row : List Value) (hcs : cs = row.toArray) (hgd : o.guard = none) (s x : Operand) (t : TypeId)
    (ho : o.op = .call { callee := .builtin .append, args := #[s, x], argTypes := #[t, t] })
    {e : TypeId} {sz bytes : Nat} (T : SlT P t e sz bytes) (hby : bytes ≤ 4096) (hr : row.length = sz) (h1 : ∀ u ∈ row, u.oneCell' = true) (base : Nat) (A : Option Addr) (N c : Nat) (rows : List (List Value)) (hs : a.eval s = .slice A N c) (hown : Own w base e sz A c rows)
    (d : Nat) (hx : a.eval x = .slice (some ⟨w.heap.size, 0, none⟩) 1 d)
    (hl : rows.length ≤ 1000000000) (hbase : base ≤ w.heap.size) (hN : N = rows.length)
    (h : ∀ A' c' w', Ap1 w w' base e sz A c rows row A' c' → wpList P ops Q rest (a.put o.dst (.slice A' (N + 1) c')) w') : wpList P ops Q (o :: rest) a (w.alloc (.cells cs e)) := by
  subst hcs
  have hN2 := hN
  subst hN
  have q : Below w.heap.size w (w.alloc (.cells row.toArray e)) := (Below.refl _ _).alloc (Nat.le_refl _) _
  refine wpList_append_rows _ hgd s x t ho T base A rows.length c rows hs (hown.alloc _) _ 1 d [row] hx (ap1_side w row hr) (by simpa using hr) (by simpa using h1)
    (Nat.le_trans (Nat.mul_le_mul (show rows.length + [row].length ≤ 1000000001 by simp; omega) hby) (by decide)) (by simp [maxLen]; omega) (by simp; omega) rfl rfl ?_
  intro A' c' w' o1 g1
  exact h A' c' w' ⟨o1, hown, (q.mono hbase).trans (below_own g1 (hown.alloc _) (by simp; omega)), hbase, g1⟩
end
end Go.Proofs.Ytplpnnjjjfcibaa

/- A set of ints: map[int]bool, of which the true ones count. -/
namespace Go.Proofs.Ytplpnnjjjfcibaa
open Go.ChangeShapes Go.WideShapes Go.ChangeAt Go.RowKit Go.Maps

def MSet (W : World) (b n : Nat) (s : Int → Bool) : Prop :=
  ∃ D : DataW Unit, W.ownsMap Try.prog 3 (plainElem Try.prog 4) b n D ∧ ∀ x : Int, D.atKey (.int .i64 x) (.lit (.bool false)) = .lit (.bool (s x))

theorem MSet.made (w : World) : MSet (w.alloc (.map #[] 0)) w.heap.size 0 (fun _ => false) := ⟨_, World.ownsMap_made w _ _ _, fun _ => rfl⟩
theorem MSet.lt {W : World} {b n : Nat} {s : Int → Bool} (h : MSet W b n s) : b < W.heap.size := by obtain ⟨D, h, _⟩ := h; exact h.lt
theorem MSet.below {W W' : World} {b n : Nat} {s : Int → Bool} (h : MSet W b n s) (hb : Below W.heap.size W W') : MSet W' b n s := by
  obtain ⟨D, h, hs⟩ := h
  exact ⟨D, h.kept (row := none) ⟨hb.os, hb.tape, hb.output, hb.size, fun k hk _ => hb.block k hk⟩ (by simp), hs⟩

theorem i64_wf {x : Int} (h0 : 0 ≤ x) (h1 : x ≤ 1000000) : (Lit.int .i64 x).wf = true := by
  simp [Lit.wf, IntKind.min, IntKind.max, IntKind.bits, IntKind.signed]
  omega

set_option maxRecDepth 100000 in
theorem MSet.get {W : World} {b n : Nat} {s : Int → Bool} (h : MSet W b n s) (x : Int) (hx : (Lit.int .i64 x).wf = true) : (Instr.lookup 33 (.map (some b)) (.int .i64 x) false).run Try.prog W = .ok (.bool (s x)) W := by
  obtain ⟨D, h, hs⟩ := h
  obtain ⟨v, ps, hr, hv⟩ := h.lookup (int_keyed Try.underlying3) Try.underlying33 (z := .bool false) (by kernel_rfl) (zd := .lit (.bool false)) (zp := []) (plainElem_bool Try.underlying4 false) (keyOf_int_mk Try.underlying3 hx)
  rw [hs x] at hv
  rw [hr]
  congr 1
  unfold plainElem at hv
  rw [Try.underlying4] at hv
  cases v <;> simp at hv
  rw [hv.1]

theorem MSet.put {W : World} {b n : Nat} {s : Int → Bool} (h : MSet W b n s) (hn : n < maxLen) (x : Int) (hx : (Lit.int .i64 x).wf = true) (v : Bool) :
    ∃ W', (Instr.mapUpdate 33 (.map (some b)) (.int .i64 x) (.bool v)).run Try.prog W = .ok () W' ∧ MSet W' b (n + 1) (fun y => if y = x then v else s y) ∧ W.grownBy W' (some b) := by
  obtain ⟨D, h, hs⟩ := h
  obtain ⟨W', hr, h', hg⟩ := h.update (int_keyed Try.underlying3) Try.underlying33 hn (keyOf_int_mk Try.underlying3 hx) (plainElem_bool Try.underlying4 v)
  refine ⟨W', hr, ⟨_, h', fun y => ?_⟩, hg⟩
  by_cases hy : y = x
  · subst hy
    show _ = DataW.lit (Lit.bool (if y = y then v else s y))
    rw [if_pos rfl]
    exact atKey_put_same h.isMap (by first | trivial | exact .int _ _ | simp [WideAt.IsKeyLit]) _ _
  · show _ = DataW.lit (Lit.bool (if y = x then v else s y))
    rw [if_neg hy, atKey_put_other (by simp [hy])]
    exact hs y
end Go.Proofs.Ytplpnnjjjfcibaa
