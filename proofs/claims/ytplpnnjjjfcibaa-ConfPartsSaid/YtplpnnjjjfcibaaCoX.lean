/- few of package 21: the first fourteen Pdus, their slices cut. -/
import Derived.Test.YtplpnnjjjfcibaaMgCoK
namespace Go.Proofs.Ytplpnnjjjfcibaa
open Go.ChangeShapes Go.WideShapes Go.ChangeAt Go.RowKit
open CM PD SG

/-- A Pdu that came in: its slices may be of any length. -/
structure Pd.Raw (p : Pd) (w : World) : Prop where
  a : SgR w w.heap.size p.ly.A p.ly.L.sgs
  b : InR w w.heap.size p.ly.B p.ly.L.nws
  ca : p.ly.L.sgs.length ≤ p.ly.c
  cb : p.ly.L.nws.length ≤ p.ly.d
  s : InR w w.heap.size p.S.a p.S.l
  sm : ∀ v ∈ p.S.l, lim v
  sc : p.S.l.length ≤ p.S.c
  u : InR w w.heap.size p.subs.a p.subs.l
  um : ∀ v ∈ p.subs.l, lim v
  uc : p.subs.l.length ≤ p.subs.c
  f : FlR w w.heap.size p.fl.a p.fl.l
  fc : p.fl.l.length ≤ p.fl.c
  id : 0 ≤ p.id ∧ p.id < 4294967296
  frm : lim p.frm
  dst : lim p.dst
  limit : lim p.limit
theorem Pd.Raw.next {o : Pd} {w w' : World} (h : o.Raw w) (q : Below w.heap.size w w') : o.Raw w' := ⟨Rd.next h.a q q.size, Rd.next h.b q q.size, h.ca, h.cb, Rd.next h.s q q.size, h.sm, h.sc, Rd.next h.u q q.size, h.um, h.uc, Rd.next h.f q q.size, h.fc, h.id, h.frm, h.dst, h.limit⟩
def cutPd (p : Pd) : Pd := ⟨p.id, p.frm, p.dst, ⟨⟨p.ly.L.size, p.ly.L.sgs.take 18, p.ly.L.nws.take 18⟩, p.ly.A, p.ly.c, p.ly.B, p.ly.d⟩, p.fill, ⟨p.S.l.take 18, p.S.a, p.S.c⟩, ⟨p.subs.l.take 18, p.subs.a, p.subs.c⟩, ⟨p.fl.l.take 18, p.fl.a, p.fl.c⟩, p.yes, p.no, p.delay, p.limit⟩
theorem Pd.Raw.cut {p : Pd} {w : World} (h : p.Raw w) : (cutPd p).Ok w := by
  have l18 : ∀ {α : Type} (l : List α), (l.take 18).length ≤ 18 := fun l => by rw [List.length_take]; omega
  have cap : ∀ {α : Type} (l : List α) (c : Nat), l.length ≤ c → (l.take 18).length ≤ c := fun l c hc => by rw [List.length_take]; omega
  exact {
    ly := ⟨by have := Rd.take h.a 18; rw [← List.map_take] at this; exact this, by have := Rd.take h.b 18; unfold inRow at this; rw [← List.map_take] at this; exact this, Nat.le_trans (l18 _) (by omega), Nat.le_trans (l18 _) (by omega), cap _ _ h.ca, cap _ _ h.cb⟩
    S := ⟨by have := Rd.take h.s 18; unfold inRow at this; rw [← List.map_take] at this; exact this, fun v hv => h.sm v (List.mem_of_mem_take hv), Nat.le_trans (l18 _) (by omega)⟩
    subs := ⟨by have := Rd.take h.u 18; unfold inRow at this; rw [← List.map_take] at this; exact this, fun v hv => h.um v (List.mem_of_mem_take hv), Nat.le_trans (l18 _) (by omega)⟩
    fl := ⟨by have := Rd.take h.f 18; rw [← List.map_take] at this; exact this, Nat.le_trans (l18 _) (by omega)⟩
    id := h.id, frm := h.frm, dst := h.dst, limit := h.limit }
/-- What stands fast that came in. -/
structure Cf.Raw (c : Cf) (w : World) : Prop where
  r : Rd w w.heap.size c.a 22 (pdRow c.l)
  p : ∀ p ∈ c.l, p.Raw w
  n : c.l.length ≤ c.c
  base : 0 ≤ c.base ∧ c.base < 4294967296
def cutCf (c : Cf) (A : Option Addr) (n : Nat) : Cf := ⟨c.nodes, (c.l.take 14).map cutPd, A, n, c.base, c.rep, c.cycle, c.heard, c.wait, c.rate⟩
def pdK (p : Pd) (n1 n2 n3 n4 n5 : Nat) : List Value := [.int .u32 p.id, .int .i64 p.frm, .int .i64 p.dst, .int .i64 p.ly.L.size, .slice p.ly.A n1 p.ly.c, .slice p.ly.B n2 p.ly.d, .int .u8 p.fill, .slice p.S.a n3 p.S.c, .slice p.subs.a n4 p.subs.c, .slice p.fl.a n5 p.fl.c, .int .i64 p.yes.kind, .int .i64 p.yes.first, .int .i64 p.yes.period, .int .i64 p.yes.reps, .int .i64 p.yes.gap, .int .i64 p.no.kind, .int .i64 p.no.first, .int .i64 p.no.period, .int .i64 p.no.reps, .int .i64 p.no.gap, .int .i64 p.delay, .int .i64 p.limit]
theorem pdK_cells {W : World} {B : Nat} {p : Pd} {n1 n2 n3 n4 n5 : Nat} {t : TypeId} {fz : Nat × Nat} (h : W.heap[B]? = some (.cells (pdK p n1 n2 n3 n4 n5).toArray t fz)) :
    W.cell? ⟨B, 4, none⟩ = some (.slice p.ly.A n1 p.ly.c) ∧ W.cell? ⟨B, 5, none⟩ = some (.slice p.ly.B n2 p.ly.d) ∧ W.cell? ⟨B, 7, none⟩ = some (.slice p.S.a n3 p.S.c) ∧ W.cell? ⟨B, 8, none⟩ = some (.slice p.subs.a n4 p.subs.c) ∧ W.cell? ⟨B, 9, none⟩ = some (.slice p.fl.a n5 p.fl.c) := by
  simp [World.cell?, h, pdK]
def cutPK (l : List Pd) (k : Nat) : List Pd := (l.take k).map cutPd ++ l.drop k
theorem cutPK_zero (l : List Pd) : cutPK l 0 = l := by simp [cutPK]
theorem cutPK_full (l : List Pd) : cutPK l l.length = l.map cutPd := by simp [cutPK]
theorem cutPK_len (l : List Pd) (k : Nat) (h : k ≤ l.length) : (cutPK l k).length = l.length := by simp [cutPK]; omega
theorem cutPK_at (l : List Pd) (k : Nat) (h : k < l.length) : (cutPK l k)[k]? = some l[k] := by
  unfold cutPK
  rw [List.getElem?_append_right (by simp; omega)]
  simp only [List.length_map, List.length_take, List.getElem?_drop]
  rw [show k + (k - min k l.length) = k by omega, List.getElem?_eq_getElem h]
theorem cutPK_succ (l : List Pd) (k : Nat) (h : k < l.length) : cutPK l (k + 1) = (cutPK l k).set k (cutPd l[k]) := by
  unfold cutPK
  rw [List.take_succ_eq_append_getElem h, List.map_append, List.set_append_right _ _ (by simp; omega)]
  simp only [List.length_map, List.length_take, List.map_cons, List.map_nil]
  rw [show k - min k l.length = 0 by omega, List.drop_eq_getElem_cons h, List.set_cons_zero, List.append_assoc]
  rfl
theorem pdRow_rows (l : List Pd) : ∀ r ∈ pdRow l, r.length = 22 := fun r hr => by
  obtain ⟨p, _, rfl⟩ := List.mem_map.1 hr
  rfl
theorem pdRow_ones (l : List Pd) : ∀ r ∈ pdRow l, ∀ v ∈ r, v.oneCell' = true := fun r hr v hv => by
  obtain ⟨p, _, rfl⟩ := List.mem_map.1 hr
  simp only [Pd.cs, List.mem_cons, List.not_mem_nil, or_false] at hv
  rcases hv with rfl | rfl | rfl | rfl | rfl | rfl | rfl | rfl | rfl | rfl | rfl | rfl | rfl | rfl | rfl | rfl | rfl | rfl | rfl | rfl | rfl | rfl <;> rfl
theorem slPdu : SlT Try.prog 49 67 22 256 := SlT.mk Try.underlying49 (z := .agg zPd.cs.toArray) (by kernel_rfl) rfl (by decide)
theorem own_setF {W : World} {base e sz g c : Nat} {R : List (List Value)} {x : Nat} (h : Own W base e sz (some ⟨g, 0, none⟩) c R) (hx : x ≠ g) (j : Nat) (v : Value) : Own (W.setCell ⟨x, j, none⟩ v) base e sz (some ⟨g, 0, none⟩) c R := by
  have hg : W.grownBy (W.setCell ⟨x, j, none⟩ v) (some x) := ⟨rfl, rfl, rfl, by simp [World.setCell], fun k _ hk => heap_setCell_other W ⟨x, j, none⟩ k v (fun e => hk (by simp [e]))⟩
  refine World.ownsRow.kept h hg (.inr ?_)
  simp [Value.ownBlock]
  omega
theorem own_setCellsF {base e sz g c : Nat} {R : List (List Value)} {x : Nat} (hx : x ≠ g) : ∀ (vs : List Value) (o : Nat) (W : World), Own W base e sz (some ⟨g, 0, none⟩) c R → Own (W.setCells x o vs) base e sz (some ⟨g, 0, none⟩) c R
  | [], _, _, h => h
  | v :: r, o, _, h => own_setCellsF hx r (o + 1) _ (own_setF h hx o v)
/-- What stands fast, its cells with the Pdus' slice told apart. -/
def cfK (c : Cf) (A : Option Addr) (n m : Nat) : List Value := [.int .i64 c.nodes, .slice A n m, .int .u32 c.base, .int .i64 c.rep, .int .i64 c.cycle, .int .i64 c.heard, .int .i64 c.wait, .int .i64 c.rate]
theorem cfK_one {W : World} {B : Nat} {c : Cf} {A : Option Addr} {n m : Nat} {t : TypeId} (h : W.heap[B]? = some (.cells (cfK c A n m).toArray t (0, 0))) : W.cell? ⟨B, 1, none⟩ = some (.slice A n m) ∧ W.frozen? ⟨B, 1, none⟩ = false := by
  simp [World.cell?, World.frozen?, h, cfK]
def zCf : Cf := ⟨0, [], none, 0, 0, 0, 0, 0, 0, 0⟩

theorem Cf.Raw.cut {c : Cf} {w : World} (ho : c.Raw w) {A : Option Addr} {n : Nat} {W : World} (hR : Rd W W.heap.size A 22 (pdRow (cutCf c A n).l)) (q : Below w.heap.size w W) : (cutCf c A n).Ok W :=
  ⟨hR, fun p hp' => by
      obtain ⟨x, hx, rfl⟩ := List.mem_map.1 hp'
      exact ((ho.p x (List.mem_of_mem_take hx)).next q).cut, by show ((c.l.take 14).map cutPd).length ≤ 1000; rw [List.length_map, List.length_take]; omega, ho.base⟩

structure F21 (w : World) (c : Cf) (l : List Pd) (A : Option Addr) (n k : Nat) (W : World) : Prop where
  box : W.heap[w.heap.size]? = some (.cells (cfK c A l.length n).toArray 52 (0, 0))
  res : W.heap[w.heap.size + 1]? = some (.cells zCf.cs.toArray 52 (0, 0))
  own : Own W (w.heap.size + 2) 67 22 A n (pdRow (cutPK l k))
  q : Below w.heap.size w W

set_option maxRecDepth 100000 in
set_option maxHeartbeats 16000000 in
theorem few21_any (c : Cf) (w : World) (ho : c.Raw w) (hcm : c.c ≤ maxLen) : Calls Try.prog 22 #[.agg c.cs.toArray] w fun e w' => (∃ A n, e = .returned (.agg (cutCf c A n).cs.toArray) ∧ Rd w' w'.heap.size A 22 (pdRow (cutCf c A n).l) ∧ ∀ g off, A = some ⟨g, off, none⟩ → w.heap.size + 2 ≤ g) ∧ Below w.heap.size w w' := by
  obtain ⟨l, hl⟩ : ∃ l, l = c.l.take 14 := ⟨_, rfl⟩
  have hlen : l.length = min c.l.length 14 := by rw [hl, List.length_take]; omega
  have hr : Rd w w.heap.size c.a 22 (pdRow l) := by rw [hl]; have := Rd.take ho.r 14; unfold pdRow at *; rw [← List.map_take] at this; exact this
  have hp : ∀ p ∈ l, p.Raw w := fun p hp => ho.p p (by rw [hl] at hp; exact List.mem_of_mem_take hp)
  have HE := hide (show ∀ A n, (cutCf c A n).cs = cfK c A l.length n from fun A n => by simp [cutCf, Cf.cs, cfK, hl])
  have HK := hide (show ∀ A n, (cutCf c A n).l = l.map cutPd from fun A n => by rw [hl]; rfl)
  obtain ⟨m, em, hm⟩ := run_min (P := Try.prog) (c.l.length : Int) 14
  have em' : m = (l.length : Int) := by rw [em, hlen]; omega
  have hcn := ho.n
  have hrun := run_to (P := Try.prog) 49 67 Try.underlying49 22 (fun W => by kernel_rfl) c.a c.l.length c.c m l.length em' (by omega)
  subst em'
  have hl10 : l.length ≤ 14 := by omega
  have HP := hide hp
  have HR := hide hr
  have S1 := hide (show (([] : List (List Value)).length + (pdRow l).length) * 256 ≤ 140737488355328 by simp [pdRow]; omega)
  have S2 := hide (show ([] : List (List Value)).length + (pdRow l).length ≤ maxLen by simp [maxLen, pdRow]; omega)
  have S3 := hide (show l.length = (pdRow l).length by simp [pdRow])
  have HCS := hide (show c.cs = cfK c c.a c.l.length c.c from rfl)
  clear hl hlen hr hp ho em hcn
  rw [HCS.out]
  obtain ⟨w1, hw1⟩ : ∃ w1, w1 = ((w.alloc (.cells (cfK c c.a c.l.length c.c).toArray 52)).alloc (.cells zCf.cs.toArray 52)) := ⟨_, rfl⟩
  have e1 : w1.heap.size = w.heap.size + 2 := by rw [hw1]; simp
  have q1 : Below w.heap.size w w1 := by rw [hw1]; exact ((Below.refl _ _).alloc (Nat.le_refl _) _).alloc (by simp) _
  have B1 : w1.heap[w.heap.size]? = some (.cells (cfK c c.a c.l.length c.c).toArray 52 (0, 0)) := by
    rw [hw1, Below.heap_alloc _ _ _ (by simp)]; exact World.alloc_heap_new w _
  have B2 : w1.heap[w.heap.size + 1]? = some (.cells zCf.cs.toArray 52 (0, 0)) := by
    have := World.alloc_heap_new (w.alloc (.cells (cfK c c.a c.l.length c.c).toArray 52)) (.cells zCf.cs.toArray 52)
    rw [hw1]; simpa using this
  have O0 := hide (Own.lit w1 (w.heap.size + 2) 67 22 [] (by omega) (by simp) (by simp))
  rw [e1] at O0
  have q2 : Below w1.heap.size w1 (w1.alloc (.cells #[] 67)) := (Below.refl _ _).alloc (Nat.le_refl _) _
  have R0 := hide (Rd.next HR.out (below_next q1 q1.size q2) (below_next q1 q1.size q2).size)
  have C1 := hide (heap_below B1 q2)
  have C2 := hide (heap_below B2 q2)
  have Q2 := hide (below_next q1 q1.size q2)
  obtain ⟨x1, f1⟩ := cfK_one B1
  clear B1 B2 q1 q2 HR HCS f1
  go_enter Try.func22, Try.ntmps22
  go_upto_region 1 with fail
  change Code.wp _ _ _ _ ((w.alloc (.cells (cfK c c.a c.l.length c.c).toArray 52)).alloc (.cells zCf.cs.toArray 52))
  rw [← hw1]
  clear hw1
  go_wp2_with (at_builtin; refine wpList_append_rows _ rfl _ _ 49 rfl slPdu (w.heap.size + 2) _ _ _ [] rfl O0.out _ _ _ (pdRow l) rfl R0.out (pdRow_rows l) (pdRow_ones l) S1.out S2.out ?_ rfl S3.out ?_)
  · simp
    omega
  intro A4 n4 w4 o4 g4
  have q4 : Below w.heap.size w w4 := below_append Q2.out g4 O0.out (by omega) Q2.out.size
  have D1 := hide (heapB C1.out (below_own g4 O0.out (by simp; omega)) (by omega : w.heap.size < w.heap.size + 2))
  have D2 := hide (heapB C2.out (below_own g4 O0.out (by simp; omega)) (by omega : w.heap.size + 1 < w.heap.size + 2))
  have O4 : Hid (Own w4 (w.heap.size + 2) 67 22 A4 n4 (pdRow (cutPK l 0))) := hide (by rw [cutPK_zero]; exact o4)
  clear o4 g4 O0 R0 S1 S2 S3 C1 C2 Q2 hrun hm x1
  obtain ⟨x1, f1⟩ := cfK_one D1.out
  have zz : w.heap.size + 1 < w4.heap.size := heap_lt D2.out
  go_wp2_with fail
  have ST : Hid (F21 w c l A4 n4 0 (w4.setCell ⟨w.heap.size, 1, none⟩ (.slice A4 l.length n4))) := hide ⟨by
      have := heap_setCell_same w4 w.heap.size 1 _ _ (.slice A4 l.length n4) D1.out
      exact this, by
      rw [heap_setCell_other w4 ⟨w.heap.size, 1, none⟩ _ _ (by simp)]
      exact D2.out, own_setj O4.out (by omega : w.heap.size < w.heap.size + 2) 1 (.slice A4 l.length n4), q4.setCell (Nat.le_refl _) _⟩
  clear x1 f1 D1 D2 O4 q4
  go_loopw [18] (fun i W => ∃ k : Nat, k ≤ l.length ∧ i = .int .i64 k ∧ Hid (F21 w c l A4 n4 k W)) (fun i _ => l.length - (intOf i).toNat)
  case atStart => exact ⟨0, Nat.zero_le _, rfl, ST⟩
  case round =>
    clear ST zz
    obtain ⟨k, hk, rfl, hS⟩ := hrel
    have zz : w.heap.size + 1 < wr.heap.size := heap_lt hS.out.res
    by_cases hlt : k < l.length
    · have hlen : (pdRow (cutPK l k)).length = l.length := by rw [pdRow, List.length_map, cutPK_len l k hk]
      obtain ⟨g, hA, hg1, hg2⟩ := Own.ofLen hS.out.own (by omega)
      subst hA
      have hi1 : (k : Int) < (l.length : Int) := by omega
      have RG := hide (show wr.rangeAt g (k * 22) l[k].cs from by
        have := Own.range hS.out.own (pdRow_rows _) (k := k) (by omega)
        have e : (pdRow (cutPK l k))[k]'(by omega) = l[k].cs := by
          have h1 : (pdRow (cutPK l k))[k]? = some l[k].cs := by rw [pdRow, List.getElem?_map, cutPK_at l k hlt]; rfl
          rw [List.getElem?_eq_getElem (by omega)] at h1
          exact Option.some.inj h1
        rw [e] at this
        exact this)
      have HPR := hide (HP.out l[k] (List.getElem_mem hlt))
      have HSU := hide (show pdRow (cutPK l (k + 1)) = (pdRow (cutPK l k)).set k (cutPd l[k]).cs by rw [cutPK_succ l k hlt, pdRow, List.map_set]; rfl)
      have HLN := hide hlen
      clear hlen
      generalize l[k] = p at *
      have q2 : Below wr.heap.size wr (wr.alloc (.cells zPd.cs.toArray 67)) := (Below.refl _ _).alloc (Nat.le_refl _) _
      have g2 := World.alloc_heap_new wr (.cells zPd.cs.toArray 67)
      have TH := hide (show (wr.alloc (.cells zPd.cs.toArray 67)).there wr.heap.size 0 22 from there_heap (cs := zPd.cs) g2)
      go_wp2_with (first | (refine wpList_load_mid rfl 67 (.tmp 21) (by rfl) g (k * 22) (by rfl) p.cs _ (by exact RG.out) Try.underlying67 (by rfl) (by kernel_rfl) ?_) | (refine wpList_store_hid (by rfl) 67 (.tmp 4) (.tmp 22) (by rfl) wr.heap.size 0 p.cs (by rfl) (by rfl) (by exact TH.out) (by kernel_rfl) (by simp [Value.oneCell', Pd.cs, Iv.v, Fv.v]) ?_))
      intro W0 e0
      obtain ⟨n1, hn1⟩ : ∃ n, n = p.ly.L.sgs.length := ⟨_, rfl⟩
      obtain ⟨n2, hn2⟩ : ∃ n, n = p.ly.L.nws.length := ⟨_, rfl⟩
      obtain ⟨n3, hn3⟩ : ∃ n, n = p.S.l.length := ⟨_, rfl⟩
      obtain ⟨n4', hn4⟩ : ∃ n, n = p.subs.l.length := ⟨_, rfl⟩
      obtain ⟨n5, hn5⟩ : ∃ n, n = p.fl.l.length := ⟨_, rfl⟩
      have s2 : Below wr.heap.size wr W0 := by rw [e0.out]; exact q2.trans (below_setCells (g := wr.heap.size) _ 0 _ (Nat.le_refl _))
      have P2 := hide (show W0.heap[wr.heap.size]? = some (.cells (pdK p n1 n2 n3 n4' n5).toArray 67 (0, 0)) by rw [e0.out, hn1, hn2, hn3, hn4, hn5]; exact whole_heap p.cs (xs := zPd.cs) g2 rfl)
      have B2 := hide (heap_below hS.out.box s2)
      have R2 := hide (heap_below hS.out.res s2)
      have O2 := hide (hS.out.own.grown s2)
      have Q2 := hide (below_next hS.out.q hS.out.q.size s2)
      clear e0 TH g2 q2 s2 RG hS
      obtain ⟨k1, hk1⟩ : ∃ n, n = (p.ly.L.sgs.take 18).length := ⟨_, rfl⟩
      obtain ⟨k2, hk2⟩ : ∃ n, n = (p.ly.L.nws.take 18).length := ⟨_, rfl⟩
      obtain ⟨k3, hk3⟩ : ∃ n, n = (p.S.l.take 18).length := ⟨_, rfl⟩
      obtain ⟨k4, hk4⟩ : ∃ n, n = (p.subs.l.take 18).length := ⟨_, rfl⟩
      obtain ⟨k5, hk5⟩ : ∃ n, n = (p.fl.l.take 18).length := ⟨_, rfl⟩
      have KF := hide (show (cutPd p).cs = pdK p k1 k2 k3 k4 k5 by rw [hk1, hk2, hk3, hk4, hk5]; rfl)
      rw [List.length_take] at hk1 hk2 hk3 hk4 hk5
      have ca := HPR.out.ca
      have cb := HPR.out.cb
      have cc := HPR.out.sc
      have cd := HPR.out.uc
      have ce := HPR.out.fc
      rw [← hn1] at hk1 ca
      rw [← hn2] at hk2 cb
      rw [← hn3] at hk3 cc
      rw [← hn4] at hk4 cd
      rw [← hn5] at hk5 ce
      obtain ⟨m1, em1, hm1⟩ := run_min (P := Try.prog) (n1 : Int) 18
      obtain ⟨m2, em2, hm2⟩ := run_min (P := Try.prog) (n2 : Int) 18
      obtain ⟨m3, em3, hm3⟩ := run_min (P := Try.prog) (n3 : Int) 18
      obtain ⟨m4, em4, hm4⟩ := run_min (P := Try.prog) (n4' : Int) 18
      obtain ⟨m5, em5, hm5⟩ := run_min (P := Try.prog) (n5 : Int) 18
      have ek1 : m1 = (k1 : Int) := by omega
      have ek2 : m2 = (k2 : Int) := by omega
      have ek3 : m3 = (k3 : Int) := by omega
      have ek4 : m4 = (k4 : Int) := by omega
      have ek5 : m5 = (k5 : Int) := by omega
      subst ek1 ek2 ek3 ek4 ek5
      have ht1 := run_to (P := Try.prog) 22 36 Try.underlying22 4 (fun W => by kernel_rfl) p.ly.A n1 p.ly.c (k1 : Int) k1 rfl (by omega)
      have ht2 := run_to (P := Try.prog) 23 3 Try.underlying23 1 (fun W => by kernel_rfl) p.ly.B n2 p.ly.d (k2 : Int) k2 rfl (by omega)
      have ht3 := run_to (P := Try.prog) 26 2 Try.underlying26 1 (fun W => by kernel_rfl) p.S.a n3 p.S.c (k3 : Int) k3 rfl (by omega)
      have ht4 := run_to (P := Try.prog) 26 2 Try.underlying26 1 (fun W => by kernel_rfl) p.subs.a n4' p.subs.c (k4 : Int) k4 rfl (by omega)
      have ht5 := run_to (P := Try.prog) 63 142 Try.underlying63 9 (fun W => by kernel_rfl) p.fl.a n5 p.fl.c (k5 : Int) k5 rfl (by omega)
      clear em1 em2 em3 em4 em5 hk1 hk2 hk3 hk4 hk5 hn1 hn2 hn3 hn4 hn5 ca cb cc cd ce HPR
      have hpx : g < wr.heap.size ∧ w.heap.size + 1 < wr.heap.size := ⟨hg2, zz⟩
      generalize wr.heap.size = px at *
      go_wp2_with fail
      refine wp_region_L [0, 1, 2, 3, 4, 5, 6, 7, 8, 9, 10, 11, 12, 13, 14, 15, 16, 17] [(2, fun W => W.cell? ⟨px, 4, none⟩ = some (.slice p.ly.A n1 p.ly.c)), (5, fun W => W.cell? ⟨px, 4, none⟩ = some (.slice p.ly.A n1 p.ly.c)), (11, fun W => W.cell? ⟨px, 5, none⟩ = some (.slice p.ly.B n2 p.ly.d)), (14, fun W => W.cell? ⟨px, 5, none⟩ = some (.slice p.ly.B n2 p.ly.d))] (by kernel_rfl) ?_
      replace B2 := hide (show W0.drew.heap[_]? = _ from B2.out)
      replace R2 := hide (show W0.drew.heap[_]? = _ from R2.out)
      replace P2 := hide (show W0.drew.heap[px]? = _ from P2.out)
      replace O2 := hide (show Own W0.drew _ _ _ _ _ _ from O2.out.drew)
      replace Q2 := hide (show Below w.heap.size w W0.drew from Q2.out.drew)
      generalize W0.drew = V0 at *
      obtain ⟨y4, y5, y7, y8, y9⟩ := pdK_cells P2.out
      have Y4 := hide y4
      have Y5 := hide y5
      clear y4 y5 y7 y8 y9
      refine wpAnyL_pure (i := 0) (v := .pointer (some ⟨px, 3, none⟩)) rfl rfl (by kernel_rfl) (by kernel_rfl) (by kernel_rfl) (by kernel_rfl) (by kernel_rfl) (fun _ _ _ h => h) rfl (fun W => by go_simp) ?_
      go_simp
      refine wpAnyL_pure (i := 1) (v := .pointer (some ⟨px, 4, none⟩)) rfl rfl (by kernel_rfl) (by kernel_rfl) (by kernel_rfl) (by kernel_rfl) (by kernel_rfl) (fun _ _ _ h => h) rfl (fun W => by go_simp) ?_
      go_simp
      refine wpAnyL_load (i := 2) (v := .slice p.ly.A n1 p.ly.c) rfl rfl (by kernel_rfl) (by kernel_rfl) (by kernel_rfl) (by kernel_rfl) (by kernel_rfl) (fun _ _ _ h => h) rfl (fun W h => by (have hc0 := h; clear h; go_simp)) (Y4.out) ?_
      go_simp
      refine wpAnyL_pure (i := 3) (v := .pointer (some ⟨px, 3, none⟩)) rfl rfl (by kernel_rfl) (by kernel_rfl) (by kernel_rfl) (by kernel_rfl) (by kernel_rfl) (fun _ _ _ h => h) rfl (fun W => by go_simp) ?_
      go_simp
      refine wpAnyL_pure (i := 4) (v := .pointer (some ⟨px, 4, none⟩)) rfl rfl (by kernel_rfl) (by kernel_rfl) (by kernel_rfl) (by kernel_rfl) (by kernel_rfl) (fun _ _ _ h => h) rfl (fun W => by go_simp) ?_
      go_simp
      refine wpAnyL_load (i := 5) (v := .slice p.ly.A n1 p.ly.c) rfl rfl (by kernel_rfl) (by kernel_rfl) (by kernel_rfl) (by kernel_rfl) (by kernel_rfl) (fun _ _ _ h => h) rfl (fun W h => by (have hc0 := h; clear h; go_simp)) (Y4.out) ?_
      go_simp
      refine wpAnyL_pure (i := 6) (v := .int .i64 n1) rfl rfl (by kernel_rfl) (by kernel_rfl) (by kernel_rfl) (by kernel_rfl) (by kernel_rfl) (fun _ _ _ h => h) rfl (fun W => by go_simp) ?_
      go_simp
      refine wpAnyL_pure (i := 7) (v := .int .i64 k1) rfl rfl (by kernel_rfl) (by kernel_rfl) (by kernel_rfl) (by kernel_rfl) (by kernel_rfl) (fun _ _ _ h => h) rfl (fun W => by go_simp) ?_
      go_simp
      refine wpAnyL_pure (i := 8) (v := .slice p.ly.A k1 p.ly.c) rfl rfl (by kernel_rfl) (by kernel_rfl) (by kernel_rfl) (by kernel_rfl) (by kernel_rfl) (fun _ _ _ h => h) rfl (fun W => by go_simp) ?_
      go_simp
      refine wpAnyL_pure (i := 9) (v := .pointer (some ⟨px, 3, none⟩)) rfl rfl (by kernel_rfl) (by kernel_rfl) (by kernel_rfl) (by kernel_rfl) (by kernel_rfl) (fun _ _ _ h => h) rfl (fun W => by go_simp) ?_
      go_simp
      refine wpAnyL_pure (i := 10) (v := .pointer (some ⟨px, 5, none⟩)) rfl rfl (by kernel_rfl) (by kernel_rfl) (by kernel_rfl) (by kernel_rfl) (by kernel_rfl) (fun _ _ _ h => h) rfl (fun W => by go_simp) ?_
      go_simp
      refine wpAnyL_load (i := 11) (v := .slice p.ly.B n2 p.ly.d) rfl rfl (by kernel_rfl) (by kernel_rfl) (by kernel_rfl) (by kernel_rfl) (by kernel_rfl) (fun _ _ _ h => h) rfl (fun W h => by (have hc0 := h; clear h; go_simp)) (Y5.out) ?_
      go_simp
      refine wpAnyL_pure (i := 12) (v := .pointer (some ⟨px, 3, none⟩)) rfl rfl (by kernel_rfl) (by kernel_rfl) (by kernel_rfl) (by kernel_rfl) (by kernel_rfl) (fun _ _ _ h => h) rfl (fun W => by go_simp) ?_
      go_simp
      refine wpAnyL_pure (i := 13) (v := .pointer (some ⟨px, 5, none⟩)) rfl rfl (by kernel_rfl) (by kernel_rfl) (by kernel_rfl) (by kernel_rfl) (by kernel_rfl) (fun _ _ _ h => h) rfl (fun W => by go_simp) ?_
      go_simp
      refine wpAnyL_load (i := 14) (v := .slice p.ly.B n2 p.ly.d) rfl rfl (by kernel_rfl) (by kernel_rfl) (by kernel_rfl) (by kernel_rfl) (by kernel_rfl) (fun _ _ _ h => h) rfl (fun W h => by (have hc0 := h; clear h; go_simp)) (Y5.out) ?_
      go_simp
      refine wpAnyL_pure (i := 15) (v := .int .i64 n2) rfl rfl (by kernel_rfl) (by kernel_rfl) (by kernel_rfl) (by kernel_rfl) (by kernel_rfl) (fun _ _ _ h => h) rfl (fun W => by go_simp) ?_
      go_simp
      refine wpAnyL_pure (i := 16) (v := .int .i64 k2) rfl rfl (by kernel_rfl) (by kernel_rfl) (by kernel_rfl) (by kernel_rfl) (by kernel_rfl) (fun _ _ _ h => h) rfl (fun W => by go_simp) ?_
      go_simp
      refine wpAnyL_pure (i := 17) (v := .slice p.ly.B k2 p.ly.d) rfl rfl (by kernel_rfl) (by kernel_rfl) (by kernel_rfl) (by kernel_rfl) (by kernel_rfl) (fun _ _ _ h => h) rfl (fun W => by go_simp) ?_
      go_simp
      clear Y4 Y5
      refine wpAnyL_one (i := 18) (by kernel_rfl) ?_
      refine wpOp_do rfl rfl ?_
      go_simp
      refine ⟨keepsL_all (by kernel_rfl) (by kernel_rfl), ?_⟩
      go_simp
      refine wpAnyL_one (i := 19) (by kernel_rfl) ?_
      refine wpOp_do rfl rfl ?_
      go_simp
      refine ⟨keepsL_all (by kernel_rfl) (by kernel_rfl), ?_⟩
      go_simp
      refine wpAnyL_one (i := 20) (by kernel_rfl) ?_
      refine wpOp_do rfl rfl ?_
      obtain ⟨y4, y5, y7, y8, y9⟩ := pdK_cells P2.out
      have f1 : V0.frozen? ⟨px, 4, none⟩ = false := by have := P2.out; simp [World.frozen?, this]
      clear y5 y7 y8 y9
      go_simp
      refine ⟨keepsL_all (by kernel_rfl) (by kernel_rfl), ?_⟩
      have P3 := hide (show (V0.setCell ⟨px, 4, none⟩ (.slice p.ly.A k1 p.ly.c)).heap[px]? = some (.cells (pdK p k1 n2 n3 n4' n5).toArray 67 (0, 0)) from by have := heap_setCell_same V0 px 4 _ _ (.slice p.ly.A k1 p.ly.c) P2.out; exact this)
      have B3 := hide (show (V0.setCell ⟨px, 4, none⟩ (.slice p.ly.A k1 p.ly.c)).heap[w.heap.size]? = _ from (heap_setCell_other _ _ _ _ (by simp; omega)).trans B2.out)
      have R3 := hide (show (V0.setCell ⟨px, 4, none⟩ (.slice p.ly.A k1 p.ly.c)).heap[w.heap.size + 1]? = _ from (heap_setCell_other _ _ _ _ (by simp; omega)).trans R2.out)
      have O3 := hide (own_setF (x := px) O2.out (by omega) 4 (.slice p.ly.A k1 p.ly.c))
      have Q3 := hide (Q2.out.setCell (p := ⟨px, 4, none⟩) (by simp; omega) (.slice p.ly.A k1 p.ly.c))
      clear P2 B2 R2 O2 Q2 y4 f1
      generalize V0.setCell ⟨px, 4, none⟩ (.slice p.ly.A k1 p.ly.c) = X1 at *
      have P2 := P3
      have B2 := B3
      have R2 := R3
      have O2 := O3
      have Q2 := Q3
      clear P3 B3 R3 O3 Q3
      go_simp
      refine wpAnyL_one (i := 21) (by kernel_rfl) ?_
      refine wpOp_do rfl rfl ?_
      go_simp
      refine ⟨keepsL_all (by kernel_rfl) (by kernel_rfl), ?_⟩
      go_simp
      refine wpAnyL_one (i := 22) (by kernel_rfl) ?_
      refine wpOp_do rfl rfl ?_
      go_simp
      refine ⟨keepsL_all (by kernel_rfl) (by kernel_rfl), ?_⟩
      go_simp
      refine wpAnyL_one (i := 23) (by kernel_rfl) ?_
      refine wpOp_do rfl rfl ?_
      obtain ⟨y4, y5, y7, y8, y9⟩ := pdK_cells P2.out
      have f1 : X1.frozen? ⟨px, 5, none⟩ = false := by have := P2.out; simp [World.frozen?, this]
      clear y4 y7 y8 y9
      go_simp
      refine ⟨keepsL_all (by kernel_rfl) (by kernel_rfl), ?_⟩
      have P3 := hide (show (X1.setCell ⟨px, 5, none⟩ (.slice p.ly.B k2 p.ly.d)).heap[px]? = some (.cells (pdK p k1 k2 n3 n4' n5).toArray 67 (0, 0)) from by have := heap_setCell_same X1 px 5 _ _ (.slice p.ly.B k2 p.ly.d) P2.out; exact this)
      have B3 := hide (show (X1.setCell ⟨px, 5, none⟩ (.slice p.ly.B k2 p.ly.d)).heap[w.heap.size]? = _ from (heap_setCell_other _ _ _ _ (by simp; omega)).trans B2.out)
      have R3 := hide (show (X1.setCell ⟨px, 5, none⟩ (.slice p.ly.B k2 p.ly.d)).heap[w.heap.size + 1]? = _ from (heap_setCell_other _ _ _ _ (by simp; omega)).trans R2.out)
      have O3 := hide (own_setF (x := px) O2.out (by omega) 5 (.slice p.ly.B k2 p.ly.d))
      have Q3 := hide (Q2.out.setCell (p := ⟨px, 5, none⟩) (by simp; omega) (.slice p.ly.B k2 p.ly.d))
      clear P2 B2 R2 O2 Q2 y5 f1
      generalize X1.setCell ⟨px, 5, none⟩ (.slice p.ly.B k2 p.ly.d) = X2 at *
      have P2 := P3
      have B2 := B3
      have R2 := R3
      have O2 := O3
      have Q2 := Q3
      clear P3 B3 R3 O3 Q3
      go_simp
      refine wpAnyL_done (by kernel_rfl) ?_ _
      go_wp2_with fail
      generalize X2 = W3 at *
      refine wp_region_L [0, 1, 2, 3, 4, 5, 6, 7, 8, 9, 10, 11, 12, 13, 14, 15, 16, 17, 18, 19, 20] [(1, fun W => W.cell? ⟨px, 7, none⟩ = some (.slice p.S.a n3 p.S.c)), (3, fun W => W.cell? ⟨px, 7, none⟩ = some (.slice p.S.a n3 p.S.c)), (8, fun W => W.cell? ⟨px, 8, none⟩ = some (.slice p.subs.a n4' p.subs.c)), (10, fun W => W.cell? ⟨px, 8, none⟩ = some (.slice p.subs.a n4' p.subs.c)), (15, fun W => W.cell? ⟨px, 9, none⟩ = some (.slice p.fl.a n5 p.fl.c)), (17, fun W => W.cell? ⟨px, 9, none⟩ = some (.slice p.fl.a n5 p.fl.c))] (by kernel_rfl) ?_
      replace B2 := hide (show W3.drew.heap[_]? = _ from B2.out)
      replace R2 := hide (show W3.drew.heap[_]? = _ from R2.out)
      replace P2 := hide (show W3.drew.heap[px]? = _ from P2.out)
      replace O2 := hide (show Own W3.drew _ _ _ _ _ _ from O2.out.drew)
      replace Q2 := hide (show Below w.heap.size w W3.drew from Q2.out.drew)
      generalize W3.drew = V3 at *
      obtain ⟨y4, y5, y7, y8, y9⟩ := pdK_cells P2.out
      have Y7 := hide y7
      have Y8 := hide y8
      have Y9 := hide y9
      clear y4 y5 y7 y8 y9
      refine wpAnyL_pure (i := 0) (v := .pointer (some ⟨px, 7, none⟩)) rfl rfl (by kernel_rfl) (by kernel_rfl) (by kernel_rfl) (by kernel_rfl) (by kernel_rfl) (fun _ _ _ h => h) rfl (fun W => by go_simp) ?_
      go_simp
      refine wpAnyL_load (i := 1) (v := .slice p.S.a n3 p.S.c) rfl rfl (by kernel_rfl) (by kernel_rfl) (by kernel_rfl) (by kernel_rfl) (by kernel_rfl) (fun _ _ _ h => h) rfl (fun W h => by (have hc0 := h; clear h; go_simp)) (Y7.out) ?_
      go_simp
      refine wpAnyL_pure (i := 2) (v := .pointer (some ⟨px, 7, none⟩)) rfl rfl (by kernel_rfl) (by kernel_rfl) (by kernel_rfl) (by kernel_rfl) (by kernel_rfl) (fun _ _ _ h => h) rfl (fun W => by go_simp) ?_
      go_simp
      refine wpAnyL_load (i := 3) (v := .slice p.S.a n3 p.S.c) rfl rfl (by kernel_rfl) (by kernel_rfl) (by kernel_rfl) (by kernel_rfl) (by kernel_rfl) (fun _ _ _ h => h) rfl (fun W h => by (have hc0 := h; clear h; go_simp)) (Y7.out) ?_
      go_simp
      refine wpAnyL_pure (i := 4) (v := .int .i64 n3) rfl rfl (by kernel_rfl) (by kernel_rfl) (by kernel_rfl) (by kernel_rfl) (by kernel_rfl) (fun _ _ _ h => h) rfl (fun W => by go_simp) ?_
      go_simp
      refine wpAnyL_pure (i := 5) (v := .int .i64 k3) rfl rfl (by kernel_rfl) (by kernel_rfl) (by kernel_rfl) (by kernel_rfl) (by kernel_rfl) (fun _ _ _ h => h) rfl (fun W => by go_simp) ?_
      go_simp
      refine wpAnyL_pure (i := 6) (v := .slice p.S.a k3 p.S.c) rfl rfl (by kernel_rfl) (by kernel_rfl) (by kernel_rfl) (by kernel_rfl) (by kernel_rfl) (fun _ _ _ h => h) rfl (fun W => by go_simp) ?_
      go_simp
      refine wpAnyL_pure (i := 7) (v := .pointer (some ⟨px, 8, none⟩)) rfl rfl (by kernel_rfl) (by kernel_rfl) (by kernel_rfl) (by kernel_rfl) (by kernel_rfl) (fun _ _ _ h => h) rfl (fun W => by go_simp) ?_
      go_simp
      refine wpAnyL_load (i := 8) (v := .slice p.subs.a n4' p.subs.c) rfl rfl (by kernel_rfl) (by kernel_rfl) (by kernel_rfl) (by kernel_rfl) (by kernel_rfl) (fun _ _ _ h => h) rfl (fun W h => by (have hc0 := h; clear h; go_simp)) (Y8.out) ?_
      go_simp
      refine wpAnyL_pure (i := 9) (v := .pointer (some ⟨px, 8, none⟩)) rfl rfl (by kernel_rfl) (by kernel_rfl) (by kernel_rfl) (by kernel_rfl) (by kernel_rfl) (fun _ _ _ h => h) rfl (fun W => by go_simp) ?_
      go_simp
      refine wpAnyL_load (i := 10) (v := .slice p.subs.a n4' p.subs.c) rfl rfl (by kernel_rfl) (by kernel_rfl) (by kernel_rfl) (by kernel_rfl) (by kernel_rfl) (fun _ _ _ h => h) rfl (fun W h => by (have hc0 := h; clear h; go_simp)) (Y8.out) ?_
      go_simp
      refine wpAnyL_pure (i := 11) (v := .int .i64 n4') rfl rfl (by kernel_rfl) (by kernel_rfl) (by kernel_rfl) (by kernel_rfl) (by kernel_rfl) (fun _ _ _ h => h) rfl (fun W => by go_simp) ?_
      go_simp
      refine wpAnyL_pure (i := 12) (v := .int .i64 k4) rfl rfl (by kernel_rfl) (by kernel_rfl) (by kernel_rfl) (by kernel_rfl) (by kernel_rfl) (fun _ _ _ h => h) rfl (fun W => by go_simp) ?_
      go_simp
      refine wpAnyL_pure (i := 13) (v := .slice p.subs.a k4 p.subs.c) rfl rfl (by kernel_rfl) (by kernel_rfl) (by kernel_rfl) (by kernel_rfl) (by kernel_rfl) (fun _ _ _ h => h) rfl (fun W => by go_simp) ?_
      go_simp
      refine wpAnyL_pure (i := 14) (v := .pointer (some ⟨px, 9, none⟩)) rfl rfl (by kernel_rfl) (by kernel_rfl) (by kernel_rfl) (by kernel_rfl) (by kernel_rfl) (fun _ _ _ h => h) rfl (fun W => by go_simp) ?_
      go_simp
      refine wpAnyL_load (i := 15) (v := .slice p.fl.a n5 p.fl.c) rfl rfl (by kernel_rfl) (by kernel_rfl) (by kernel_rfl) (by kernel_rfl) (by kernel_rfl) (fun _ _ _ h => h) rfl (fun W h => by (have hc0 := h; clear h; go_simp)) (Y9.out) ?_
      go_simp
      refine wpAnyL_pure (i := 16) (v := .pointer (some ⟨px, 9, none⟩)) rfl rfl (by kernel_rfl) (by kernel_rfl) (by kernel_rfl) (by kernel_rfl) (by kernel_rfl) (fun _ _ _ h => h) rfl (fun W => by go_simp) ?_
      go_simp
      refine wpAnyL_load (i := 17) (v := .slice p.fl.a n5 p.fl.c) rfl rfl (by kernel_rfl) (by kernel_rfl) (by kernel_rfl) (by kernel_rfl) (by kernel_rfl) (fun _ _ _ h => h) rfl (fun W h => by (have hc0 := h; clear h; go_simp)) (Y9.out) ?_
      go_simp
      refine wpAnyL_pure (i := 18) (v := .int .i64 n5) rfl rfl (by kernel_rfl) (by kernel_rfl) (by kernel_rfl) (by kernel_rfl) (by kernel_rfl) (fun _ _ _ h => h) rfl (fun W => by go_simp) ?_
      go_simp
      refine wpAnyL_pure (i := 19) (v := .int .i64 k5) rfl rfl (by kernel_rfl) (by kernel_rfl) (by kernel_rfl) (by kernel_rfl) (by kernel_rfl) (fun _ _ _ h => h) rfl (fun W => by go_simp) ?_
      go_simp
      refine wpAnyL_pure (i := 20) (v := .slice p.fl.a k5 p.fl.c) rfl rfl (by kernel_rfl) (by kernel_rfl) (by kernel_rfl) (by kernel_rfl) (by kernel_rfl) (fun _ _ _ h => h) rfl (fun W => by go_simp) ?_
      go_simp
      clear Y7 Y8 Y9
      refine wpAnyL_one (i := 21) (by kernel_rfl) ?_
      refine wpOp_do rfl rfl ?_
      go_simp
      refine ⟨keepsL_all (by kernel_rfl) (by kernel_rfl), ?_⟩
      go_simp
      refine wpAnyL_one (i := 22) (by kernel_rfl) ?_
      refine wpOp_do rfl rfl ?_
      obtain ⟨y4, y5, y7, y8, y9⟩ := pdK_cells P2.out
      have f1 : V3.frozen? ⟨px, 7, none⟩ = false := by have := P2.out; simp [World.frozen?, this]
      clear y4 y5 y8 y9
      go_simp
      refine ⟨keepsL_all (by kernel_rfl) (by kernel_rfl), ?_⟩
      have P3 := hide (show (V3.setCell ⟨px, 7, none⟩ (.slice p.S.a k3 p.S.c)).heap[px]? = some (.cells (pdK p k1 k2 k3 n4' n5).toArray 67 (0, 0)) from by have := heap_setCell_same V3 px 7 _ _ (.slice p.S.a k3 p.S.c) P2.out; exact this)
      have B3 := hide (show (V3.setCell ⟨px, 7, none⟩ (.slice p.S.a k3 p.S.c)).heap[w.heap.size]? = _ from (heap_setCell_other _ _ _ _ (by simp; omega)).trans B2.out)
      have R3 := hide (show (V3.setCell ⟨px, 7, none⟩ (.slice p.S.a k3 p.S.c)).heap[w.heap.size + 1]? = _ from (heap_setCell_other _ _ _ _ (by simp; omega)).trans R2.out)
      have O3 := hide (own_setF (x := px) O2.out (by omega) 7 (.slice p.S.a k3 p.S.c))
      have Q3 := hide (Q2.out.setCell (p := ⟨px, 7, none⟩) (by simp; omega) (.slice p.S.a k3 p.S.c))
      clear P2 B2 R2 O2 Q2 y7 f1
      generalize V3.setCell ⟨px, 7, none⟩ (.slice p.S.a k3 p.S.c) = X4 at *
      have P2 := P3
      have B2 := B3
      have R2 := R3
      have O2 := O3
      have Q2 := Q3
      clear P3 B3 R3 O3 Q3
      go_simp
      refine wpAnyL_one (i := 23) (by kernel_rfl) ?_
      refine wpOp_do rfl rfl ?_
      go_simp
      refine ⟨keepsL_all (by kernel_rfl) (by kernel_rfl), ?_⟩
      go_simp
      refine wpAnyL_one (i := 24) (by kernel_rfl) ?_
      refine wpOp_do rfl rfl ?_
      obtain ⟨y4, y5, y7, y8, y9⟩ := pdK_cells P2.out
      have f1 : X4.frozen? ⟨px, 8, none⟩ = false := by have := P2.out; simp [World.frozen?, this]
      clear y4 y5 y7 y9
      go_simp
      refine ⟨keepsL_all (by kernel_rfl) (by kernel_rfl), ?_⟩
      have P3 := hide (show (X4.setCell ⟨px, 8, none⟩ (.slice p.subs.a k4 p.subs.c)).heap[px]? = some (.cells (pdK p k1 k2 k3 k4 n5).toArray 67 (0, 0)) from by have := heap_setCell_same X4 px 8 _ _ (.slice p.subs.a k4 p.subs.c) P2.out; exact this)
      have B3 := hide (show (X4.setCell ⟨px, 8, none⟩ (.slice p.subs.a k4 p.subs.c)).heap[w.heap.size]? = _ from (heap_setCell_other _ _ _ _ (by simp; omega)).trans B2.out)
      have R3 := hide (show (X4.setCell ⟨px, 8, none⟩ (.slice p.subs.a k4 p.subs.c)).heap[w.heap.size + 1]? = _ from (heap_setCell_other _ _ _ _ (by simp; omega)).trans R2.out)
      have O3 := hide (own_setF (x := px) O2.out (by omega) 8 (.slice p.subs.a k4 p.subs.c))
      have Q3 := hide (Q2.out.setCell (p := ⟨px, 8, none⟩) (by simp; omega) (.slice p.subs.a k4 p.subs.c))
      clear P2 B2 R2 O2 Q2 y8 f1
      generalize X4.setCell ⟨px, 8, none⟩ (.slice p.subs.a k4 p.subs.c) = X5 at *
      have P2 := P3
      have B2 := B3
      have R2 := R3
      have O2 := O3
      have Q2 := Q3
      clear P3 B3 R3 O3 Q3
      go_simp
      refine wpAnyL_one (i := 25) (by kernel_rfl) ?_
      refine wpOp_do rfl rfl ?_
      go_simp
      refine ⟨keepsL_all (by kernel_rfl) (by kernel_rfl), ?_⟩
      go_simp
      refine wpAnyL_one (i := 26) (by kernel_rfl) ?_
      refine wpOp_do rfl rfl ?_
      obtain ⟨y4, y5, y7, y8, y9⟩ := pdK_cells P2.out
      have f1 : X5.frozen? ⟨px, 9, none⟩ = false := by have := P2.out; simp [World.frozen?, this]
      clear y4 y5 y7 y8
      go_simp
      refine ⟨keepsL_all (by kernel_rfl) (by kernel_rfl), ?_⟩
      have P3 := hide (show (X5.setCell ⟨px, 9, none⟩ (.slice p.fl.a k5 p.fl.c)).heap[px]? = some (.cells (pdK p k1 k2 k3 k4 k5).toArray 67 (0, 0)) from by have := heap_setCell_same X5 px 9 _ _ (.slice p.fl.a k5 p.fl.c) P2.out; exact this)
      have B3 := hide (show (X5.setCell ⟨px, 9, none⟩ (.slice p.fl.a k5 p.fl.c)).heap[w.heap.size]? = _ from (heap_setCell_other _ _ _ _ (by simp; omega)).trans B2.out)
      have R3 := hide (show (X5.setCell ⟨px, 9, none⟩ (.slice p.fl.a k5 p.fl.c)).heap[w.heap.size + 1]? = _ from (heap_setCell_other _ _ _ _ (by simp; omega)).trans R2.out)
      have O3 := hide (own_setF (x := px) O2.out (by omega) 9 (.slice p.fl.a k5 p.fl.c))
      have Q3 := hide (Q2.out.setCell (p := ⟨px, 9, none⟩) (by simp; omega) (.slice p.fl.a k5 p.fl.c))
      clear P2 B2 R2 O2 Q2 y9 f1
      generalize X5.setCell ⟨px, 9, none⟩ (.slice p.fl.a k5 p.fl.c) = X6 at *
      have P2 := P3
      have B2 := B3
      have R2 := R3
      have O2 := O3
      have Q2 := Q3
      clear P3 B3 R3 O3 Q3
      go_simp
      refine wpAnyL_done (by kernel_rfl) ?_ _
      obtain ⟨x1, f1⟩ := cfK_one B2.out
      clear f1 hm1 hm2 hm3 hm4 hm5 ht1 ht2 ht3 ht4 ht5
      have hlc : (pdRow (cutPK l k)).length = l.length := HLN.out
      have TG := hide (Own.there O2.out (pdRow_rows _) (k := k) (by omega))
      generalize hWn : X6 = W9 at *
      clear hWn
      go_wp2_with (first | (refine wpList_load_row rfl 67 (.tmp 4) (by rfl) px (by rfl) 67 (pdK p k1 k2 k3 k4 k5).toArray (0, 0) _ (by exact P2.out) Try.underlying67 (by rfl) (by kernel_rfl) ?_) | (refine wpList_store_hid (by rfl) 67 (.tmp 73) (.tmp 72) (by rfl) g (k * 22) (pdK p k1 k2 k3 k4 k5) (by rfl) (by rfl) (by exact TG.out) (by kernel_rfl) (by simp [Value.oneCell', pdK]) ?_))
      intro WA eA
      have FIN : Hid (F21 w c l (some ⟨g, 0, none⟩) n4 (k + 1) WA) := hide (by
        have hne : w.heap.size ≠ g ∧ w.heap.size + 1 ≠ g := ⟨by omega, by omega⟩
        obtain ⟨s1, s2⟩ := Own.setRow (row := pdK p k1 k2 k3 k4 k5) O2.out (pdRow_rows _) (k := k) (by omega) rfl
        rw [eA.out]
        refine ⟨other_heap hne.1 _ _ _ B2.out, other_heap hne.2 _ _ _ R2.out, ?_, Q2.out.trans (below_setCells _ _ _ (by omega))⟩
        rw [HSU.out, KF.out]
        exact s1)
      clear eA TG x1 P2 B2 R2 O2 Q2
      go_wp2_with fail
      go_roundw
      case rel => exact ⟨k + 1, by omega, by go_num, FIN⟩
      case measure => simp [intOf]; omega
    · obtain rfl : k = l.length := by omega
      have O4 := hS.out.own
      rw [cutPK_full] at O4
      have TR := hide (show wr.there (w.heap.size + 1) 0 8 from there_heap (cs := zCf.cs) hS.out.res)
      go_wp2_with (first | (refine wpList_load_row rfl 52 (.tmp 1) (by rfl) w.heap.size (by rfl) 52 (cfK c A4 l.length n4).toArray (0, 0) _ (by exact hS.out.box) Try.underlying52 (by rfl) (by kernel_rfl) ?_) | (refine wpList_store_hid (by rfl) 52 (.tmp 2) (.tmp 75) (by rfl) (w.heap.size + 1) 0 (cfK c A4 l.length n4) (by rfl) (by rfl) (by exact TR.out) (by kernel_rfl) (by simp [Value.oneCell', cfK]) ?_))
      intro W7 e7
      have C7 := hide (show W7.heap[w.heap.size + 1]? = some (.cells (cfK c A4 l.length n4).toArray 52 (0, 0)) by rw [e7.out]; exact whole_heap _ (xs := zCf.cs) hS.out.res rfl)
      have o7 := own_setCells (x := w.heap.size + 1) (by omega) (cfK c A4 l.length n4) 0 _ O4
      have q7 := hS.out.q.trans (below_setCells (g := w.heap.size + 1) (cfK c A4 l.length n4) 0 wr (by omega))
      rw [← e7.out] at o7 q7
      have O7 := hide (show Rd W7 W7.heap.size A4 22 (pdRow (cutCf c A4 n4).l) by rw [HK.out]; exact o7.rd (pdRow_rows _))
      have OB := hide (own_blk o7)
      have Q7 := hide q7
      clear e7 TR hS o7 q7 O4
      go_wp2_with fail
      refine bodyPost_ret (results_cell_row (p := 2) (ty := 52) (by rfl) _ W7 (w.heap.size + 1) 52 (cfK c A4 l.length n4).toArray (0, 0) _ (by rfl) C7.out Try.underlying52 (by rfl) (by kernel_rfl)) rfl ⟨⟨A4, n4, by rw [HE.out], O7.out, OB.out⟩, Q7.out⟩
end Go.Proofs.Ytplpnnjjjfcibaa
