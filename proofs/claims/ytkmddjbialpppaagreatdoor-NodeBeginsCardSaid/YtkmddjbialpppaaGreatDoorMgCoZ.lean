import Derived.Test.YtkmddjbialpppaaGreatDoorMgCoG
import Derived.Test.YtkmddjbialpppaaGreatDoorMem
import Derived.Laws.BytesString
namespace Go.Proofs.YtkmddjbialpppaaGreatDoor
open Go.ChangeShapes Go.WideShapes Go.ChangeAt Go.RowKit
open CM PD SG
set_option maxRecDepth 100000 in
set_option maxHeartbeats 16000000 in
theorem which2_any (fid cap cap2 : Nat) (pB : Pd → Bool) (hp : ∀ (args : Array Value) (w : World), (callFunc fid args).run Tryz.prog w = .ok (.enter fid args) w) (c : Cf) (w : World) (ho : c.Ok w)
    (hc0 : Hid (cF c = true → ∀ p ∈ c.l, ∀ W, Below w.heap.size w W → Calls Tryz.prog fid #[.agg p.cs.toArray, .pointer (some ⟨cap, 0, none⟩), .pointer (some ⟨cap2, 0, none⟩)] W fun e w' => e = .returned (.bool (pB p)) ∧ Below W.heap.size W w')) :
    Calls Tryz.prog 65 #[.agg c.cs.toArray, .func (.func fid) #[] #[.pointer (some ⟨cap, 0, none⟩), .pointer (some ⟨cap2, 0, none⟩)]] w fun e w' => (∃ A cc, e = .returned (.slice A (dE c pB).length cc) ∧ NR w' w'.heap.size A (dE c pB) ∧ ∀ g off, A = some ⟨g, off, none⟩ → w.heap.size ≤ g) ∧ Below w.heap.size w w' := by
  obtain ⟨w0, hw0⟩ : ∃ w0, w0 = w.alloc (.cells c.cs.toArray 25) := ⟨_, rfl⟩
  have B0 := aA (World.alloc_heap_new w (.cells c.cs.toArray 25))
  have Q0 : Hid (Below w.heap.size w w0) := by rw [hw0]; exact aA ((Below.refl _ _).alloc (Nat.le_refl _) _)
  rw [← hw0] at B0
  have RT := aA (cD c w0 (ho.next Q0.out))
  have HO := aA ho
  have hl := ho.n
  obtain ⟨R, hR⟩ : ∃ R, R = dE c pB := ⟨_, rfl⟩
  rw [← hR]
  have HR := aA hR
  clear ho hR
  go_enter Tryz.func65, Tryz.ntmps65
  go_upto_region 1 with fail
  change Code.wp _ _ _ _ (w.alloc (.cells c.cs.toArray 25))
  rw [← hw0]
  clear hw0
  go_wp2_with (refine wpList_load_row rfl 25 (.tmp 2) (by rfl) w.heap.size (by rfl) 25 c.cs.toArray (0, 0) _ (by exact B0.out) Tryz.underlying25 (by rfl) (by kernel_rfl) ?_)
  (with_reducible refine (RT.out).mono ?_)
  rintro e1 w1 ⟨rfl, q1⟩
  have B1 := aA (aB B0.out q1)
  have Q1 := aA (aC Q0.out Q0.out.size q1)
  clear q1 B0 Q0 RT
  rcases hb : cF c with _ | _
  · have hR0 : R = [] := by rw [HR.out]; unfold dE; rw [hb]; simp
    clear HR hb
    subst hR0
    go_wp2_with fail
    go_ret
    exact ⟨⟨none, 0, rfl, Rd.nil, fun _ _ h => by cases h⟩, Q1.out⟩
  have HE := aA (show R = cY c.l pB c.l.length by rw [HR.out]; unfold dE; rw [hb]; simp)
  have hc := aA (hc0.out hb)
  clear hc0
  clear HR hb
  obtain ⟨c0, c1, c2, c3, c4, c5, c6, c7⟩ := bL B1.out
  clear c0 c2 c3 c4 c5 c6 c7
  have OW : Hid (Own w1 w.heap.size 3 1 none 0 (aX (cY c.l pB 0))) := aA Own.nil
  go_wp2_with fail
  clear c1
  go_loopw [5, 14] (fun vs vi W => ∃ (k : Nat) (A : Option Addr) (cc : Nat), k ≤ c.l.length ∧ vi = .int .i64 k ∧ vs = .slice A (cY c.l pB k).length cc ∧ Hid (Own W w.heap.size 3 1 A cc (aX (cY c.l pB k))) ∧ Hid (Below w.heap.size w W)) (fun _ vi _ => c.l.length - (intOf vi).toNat)
  case atStart => exact ⟨0, none, 0, Nat.zero_le _, rfl, rfl, OW, Q1⟩
  case round =>
    obtain ⟨k, A, cc, hk, rfl, rfl, hOw, hQ⟩ := hrel
    by_cases hkl : k < c.l.length
    · have hki : (k : Int) < (c.l.length : Int) := by omega
      obtain ⟨pb, po, hca, hpb, hrg⟩ := PdR.at_ (HO.out.next hQ.out).r hkl
      have RG := aA hrg
      have HC := aA (fun W q => hc.out c.l[k] (List.getElem_mem hkl) W q)
      have HY := aA (fun h => whP_yes (pB := pB) hkl h)
      have HN := aA (fun h => whP_no (pB := pB) hkl h)
      clear hrg
      generalize c.l[k] = p at *
      rw [hca]
      have q2 : Below wr.heap.size wr (wr.alloc (.cells zPd.cs.toArray 79)) := (Below.refl _ _).alloc (Nat.le_refl _) _
      have g2 := World.alloc_heap_new wr (.cells zPd.cs.toArray 79)
      have TH := aA (show (wr.alloc (.cells zPd.cs.toArray 79)).there wr.heap.size 0 22 from aK (cs := zPd.cs) g2)
      go_wp2_with (first | (refine wpList_load_mid rfl 79 (.tmp 17) (by rfl) pb (po + k * 22) (by rfl) p.cs _ (by exact RG.out) Tryz.underlying79 (by rfl) (by kernel_rfl) ?_) | (refine aF (by rfl) 79 (.tmp 7) (.tmp 18) (by rfl) wr.heap.size 0 p.cs (by rfl) (by rfl) (by exact TH.out) (by kernel_rfl) (by simp [Value.oneCell', Pd.cs, Iv.v, Fv.v]) ?_))
      intro w2 e2
      have s2 : Below wr.heap.size wr w2 := by rw [e2.out]; exact q2.trans (aE (g := wr.heap.size) _ 0 _ (Nat.le_refl _))
      have P2 := aA (show w2.heap[wr.heap.size]? = some (.cells p.cs.toArray 79 (0, 0)) by rw [e2.out]; exact aJ p.cs (xs := zPd.cs) g2 rfl)
      have O2 := aA (hOw.out.grown s2)
      have Q2 := aA (aC hQ.out hQ.out.size s2)
      have C2 := aA (HC.out w2 Q2.out)
      clear e2 TH g2 q2 s2 RG hOw hQ HC
      generalize wr.heap.size = pbx at *
      have HL := eW c.l pB k
      rcases hpb : pB p with _ | _
      · have hn := HN.out hpb
        rw [hpb] at C2
        go_wp2_with (refine wpList_load_row rfl 79 (.tmp 7) (by rfl) pbx (by rfl) 79 p.cs.toArray (0, 0) _ (by exact P2.out) Tryz.underlying79 (by rfl) (by kernel_rfl) ?_)
        (with_reducible refine (C2.out).mono ?_)
        rintro e3 w3 ⟨rfl, q3⟩
        have O3 := aA (O2.out.grown q3)
        have Q3 := aA (aC Q2.out Q2.out.size q3)
        clear q3 O2 Q2 C2 P2 HN HY hpb
        rw [← hn] at O3
        have HN2 := aA hn
        clear hn
        go_wp2_with fail
        go_roundw
        case rel => exact ⟨k + 1, _, _, by omega, by go_num, by rw [HN2.out], O3, Q3⟩
        case measure => simp [intOf]; omega
      · have hy := HY.out hpb
        rw [hpb] at C2
        have hy2 : aX (cY c.l pB (k + 1)) = aX (cY c.l pB k) ++ [[.int .i64 (k : Int)]] := by rw [hy]; simp [aX]
        have HY2 := aA hy2
        have HY3 := aA (show (cY c.l pB (k + 1)).length = (cY c.l pB k).length + 1 by rw [hy]; simp)
        clear hy hy2
        go_wp2_with (refine wpList_load_row rfl 79 (.tmp 7) (by rfl) pbx (by rfl) 79 p.cs.toArray (0, 0) _ (by exact P2.out) Tryz.underlying79 (by rfl) (by kernel_rfl) ?_)
        (with_reducible refine (C2.out).mono ?_)
        rintro e3 w3 ⟨rfl, q3⟩
        have O3 := aA (O2.out.grown q3)
        have Q3 := aA (aC Q2.out Q2.out.size q3)
        have z3 : w.heap.size ≤ w3.heap.size := Q3.out.size
        clear q3 O2 Q2 C2 P2 HN HY hpb
        go_wp2_with (at_builtin; refine cX _ _ [.int .i64 (k : Int)] (by rfl) rfl _ _ 61 rfl kO (by decide) rfl (by simp [Value.oneCell']) w.heap.size _ _ _ (aX (cY c.l pB k)) (by rfl) (by exact O3.out) _ (by rfl) (by rw [bY]; omega) z3 (by rw [bY]) ?_)
        intro A2 c2 w4 P4
        have O4 := aA (HY2.out ▸ P4.own)
        have Q4 := aA (P4.q Q3.out (Nat.le_refl _))
        clear P4 O3 Q3 z3
        go_wp2_with fail
        go_roundw
        case rel => exact ⟨k + 1, A2, c2, by omega, by go_num, by rw [HY3.out], O4, Q4⟩
        case measure => simp [intOf]; omega
    · obtain rfl : k = c.l.length := by omega
      rw [← HE.out] at hOw ⊢
      have RR := aA (hOw.out.rd (cR R))
      have RB := aA (gQ hOw.out)
      clear hOw
      go_wp2_with fail
      go_ret
      exact ⟨⟨_, _, rfl, RR.out, RB.out⟩, hQ.out⟩
theorem eZ {c : Cf} (h : cF c = true) : gN c = true := by
  unfold cF at h
  exact (Bool.and_eq_true_iff.1 h).1
def kL (node : Int) (p : Pd) : Bool := p.frm == node
set_option maxRecDepth 100000 in
set_option maxHeartbeats 4000000 in
theorem confSent_any (c : Cf) (node : Int) (w : World) (ho : c.Ok w) : Calls Tryz.prog 23 #[.agg c.cs.toArray, .int .i64 node] w fun e w' => (∃ A cc, e = .returned (.slice A (dE c (kL node)).length cc) ∧ NR w' w'.heap.size A (dE c (kL node)) ∧ ∀ g off, A = some ⟨g, off, none⟩ → w.heap.size ≤ g) ∧ Below w.heap.size w w' := by
  obtain ⟨w0, hw0⟩ : ∃ w0, w0 = (w.alloc (.cells c.cs.toArray 25)).alloc (.cells #[.int .i64 node] 3) := ⟨_, rfl⟩
  have step : ∀ (W : World) (o : Obj), Below W.heap.size W (W.alloc o) := fun W o => (Below.refl _ _).alloc (Nat.le_refl _) _
  have B1 := aA (aB (World.alloc_heap_new w (.cells c.cs.toArray 25)) (step _ (.cells #[.int .i64 node] 3)))
  have B2 := aA (World.alloc_heap_new (w.alloc (.cells c.cs.toArray 25)) (.cells #[.int .i64 node] 3))
  have Q0 : Hid (Below w.heap.size w w0) := by rw [hw0]; exact aA ((step _ _).alloc (by simp) _)
  rw [← hw0] at B1 B2
  simp only [World.size_alloc] at B2
  have z0 : w.heap.size + 1 < w0.heap.size := aH B2.out
  have n0 : w0.cell? ⟨w.heap.size + 1, 0, none⟩ = some (.int .i64 node) := by simp [World.cell?, B2.out]
  have WH := aA (which1_any 66 (w.heap.size + 1) (kL node) (fun _ _ => rfl) c w0 (ho.next Q0.out) (aA fun _ p hp W q => sent1_any p (w.heap.size + 1) node W (Nat.lt_of_lt_of_le z0 q.size) (aA (aT q z0 n0))))
  generalize dE c (kL node) = R at *
  clear step ho n0 B2
  go_enter Tryz.func23, Tryz.ntmps23
  go_upto_region 1 with fail
  change Code.wp _ _ _ _ ((w.alloc (.cells c.cs.toArray 25)).alloc (.cells #[.int .i64 node] 3))
  rw [← hw0]
  clear hw0
  go_wp2_with (refine wpList_load_row rfl 25 (.tmp 2) (by rfl) w.heap.size (by rfl) 25 c.cs.toArray (0, 0) _ (by exact B1.out) Tryz.underlying25 (by rfl) (by kernel_rfl) ?_)
  (with_reducible refine (WH.out).mono ?_)
  rintro e1 w1 ⟨⟨A, cc, rfl, hR, hB⟩, q1⟩
  have Q1 := aA (aC Q0.out Q0.out.size q1)
  have HR := aA hR
  have HB := aA (show ∀ g off, A = some ⟨g, off, none⟩ → w.heap.size ≤ g from fun g off h => Nat.le_trans Q0.out.size (hB g off h))
  clear q1 Q0 WH hR B1 hB
  go_wp2_with fail
  go_ret
  exact ⟨⟨A, cc, rfl, HR.out, HB.out⟩, Q1.out⟩
set_option maxRecDepth 100000 in
set_option maxHeartbeats 4000000 in
theorem confHeard_any (c : Cf) (node : Int) (w : World) (ho : c.Ok w) : Calls Tryz.prog 25 #[.agg c.cs.toArray, .int .i64 node] w fun e w' => (∃ A cc, e = .returned (.slice A (dE c (fT c node)).length cc) ∧ NR w' w'.heap.size A (dE c (fT c node)) ∧ ∀ g off, A = some ⟨g, off, none⟩ → w.heap.size ≤ g) ∧ Below w.heap.size w w' := by
  obtain ⟨w0, hw0⟩ : ∃ w0, w0 = (w.alloc (.cells c.cs.toArray 25)).alloc (.cells #[.int .i64 node] 3) := ⟨_, rfl⟩
  have step : ∀ (W : World) (o : Obj), Below W.heap.size W (W.alloc o) := fun W o => (Below.refl _ _).alloc (Nat.le_refl _) _
  have B1 := aA (aB (World.alloc_heap_new w (.cells c.cs.toArray 25)) (step _ (.cells #[.int .i64 node] 3)))
  have B2 := aA (World.alloc_heap_new (w.alloc (.cells c.cs.toArray 25)) (.cells #[.int .i64 node] 3))
  have Q0 : Hid (Below w.heap.size w w0) := by rw [hw0]; exact aA ((step _ _).alloc (by simp) _)
  rw [← hw0] at B1 B2
  simp only [World.size_alloc] at B2
  have z0 : w.heap.size + 1 < w0.heap.size := aH B2.out
  have z1 : w.heap.size < w0.heap.size := aH B1.out
  have n0 : w0.cell? ⟨w.heap.size + 1, 0, none⟩ = some (.int .i64 node) := by simp [World.cell?, B2.out]
  have m0 := (bL B1.out).1
  have WH := aA (which2_any 69 (w.heap.size + 1) w.heap.size (fT c node) (fun _ _ => rfl) c w0 (ho.next Q0.out) (aA fun hcb p hp W q => heard1_any c p (w.heap.size + 1) w.heap.size node W (gS (eZ hcb)).1 (Nat.lt_of_lt_of_le z0 q.size) (Nat.lt_of_lt_of_le z1 q.size) (aA (aT q z0 n0)) (aA (aT q z1 m0)) (ho.p p hp).dst))
  generalize dE c (fT c node) = R at *
  clear step ho n0 m0 B2
  go_enter Tryz.func25, Tryz.ntmps25
  go_upto_region 1 with fail
  change Code.wp _ _ _ _ ((w.alloc (.cells c.cs.toArray 25)).alloc (.cells #[.int .i64 node] 3))
  rw [← hw0]
  clear hw0
  go_wp2_with (refine wpList_load_row rfl 25 (.tmp 2) (by rfl) w.heap.size (by rfl) 25 c.cs.toArray (0, 0) _ (by exact B1.out) Tryz.underlying25 (by rfl) (by kernel_rfl) ?_)
  (with_reducible refine (WH.out).mono ?_)
  rintro e1 w1 ⟨⟨A, cc, rfl, hR, hB⟩, q1⟩
  have Q1 := aA (aC Q0.out Q0.out.size q1)
  have HR := aA hR
  have HB := aA (show ∀ g off, A = some ⟨g, off, none⟩ → w.heap.size ≤ g from fun g off h => Nat.le_trans Q0.out.size (hB g off h))
  clear q1 Q0 WH hR B1 hB
  go_wp2_with fail
  go_ret
  exact ⟨⟨A, cc, rfl, HR.out, HB.out⟩, Q1.out⟩
end Go.Proofs.YtkmddjbialpppaaGreatDoor
namespace Go.Proofs.YtkmddjbialpppaaGreatDoor.FP
def bit (n : Nat) : UInt8 := if n % 2 = 1 then 49 else 48
def aY (n : Nat) : Nat → List UInt8
  | 0 => []
  | w + 1 => bit (n / 2 ^ w) :: aY n w
def numOf (l : List UInt8) : Nat := l.foldl (fun n c => 2 * n + if c = 49 then 1 else 0) 0
theorem bitsOf_length (n w : Nat) : (aY n w).length = w := by
  induction w with
  | zero => rfl
  | succ w ih => simp [aY, ih]
theorem bitsOf_get (n w i : Nat) (h : i < w) : (aY n w)[i]? = some (bit (n / 2 ^ (w - 1 - i))) := by
  induction w generalizing i with
  | zero => omega
  | succ w ih =>
    cases i with
    | zero => simp [aY]
    | succ i =>
      simp only [aY, List.getElem?_cons_succ]
      rw [ih i (by omega)]
      congr 4
      omega
theorem fB {n w : Nat} {c : UInt8} (h : c ∈ aY n w) : c = 48 ∨ c = 49 := by
  induction w with
  | zero => simp [aY] at h
  | succ w ih =>
    simp only [aY, List.mem_cons] at h
    rcases h with rfl | h
    · unfold bit; split <;> simp
    · exact ih h
theorem numOf_snoc (l : List UInt8) (c : UInt8) : numOf (l ++ [c]) = 2 * numOf l + if c = 49 then 1 else 0 := by
  simp [numOf]
theorem foldl_num (l : List UInt8) : ∀ a : Nat, l.foldl (fun n c => 2 * n + if c = 49 then 1 else 0) a = a * 2 ^ l.length + numOf l := by
  induction l with
  | nil => intro a; simp [numOf]
  | cons c l ih =>
    intro a
    have e : numOf (c :: l) = (2 * 0 + if c = 49 then 1 else 0) * 2 ^ l.length + numOf l := by
      show List.foldl _ _ l = _
      rw [ih]
    rw [e, List.foldl_cons, ih, List.length_cons, Nat.pow_succ]
    generalize (if c = 49 then 1 else 0) = b
    generalize 2 ^ l.length = p
    rw [Nat.add_mul]
    simp only [Nat.mul_zero, Nat.zero_add]
    rw [Nat.mul_comm 2 a, Nat.mul_assoc, Nat.mul_comm 2 p]
    omega
theorem numOf_append (l r : List UInt8) : numOf (l ++ r) = numOf l * 2 ^ r.length + numOf r := by
  show List.foldl _ _ _ = _
  rw [List.foldl_append]
  exact foldl_num r _
theorem numOf_cons (c : UInt8) (l : List UInt8) : numOf (c :: l) = (if c = 49 then 1 else 0) * 2 ^ l.length + numOf l := by
  have := numOf_append [c] l
  simpa [numOf] using this
theorem numOf_lt (l : List UInt8) : numOf l < 2 ^ l.length := by
  induction l with
  | nil => simp [numOf]
  | cons c l ih =>
    rw [numOf_cons, List.length_cons, Nat.pow_succ]
    split <;> omega
structure Fr where
  id : Nat
  ext : Bool
  rem : Bool
  dlc : Int
  data : ByteArray
def rightB (f : Fr) : Bool := decide (f.id < (if f.ext then 536870912 else 2048)) && decide (0 ≤ f.dlc) && decide (f.dlc ≤ 8) && decide ((f.data.size : Int) = if f.rem then 0 else f.dlc)
def dT (b : Bool) : UInt8 := if b then 49 else 48
def gY (f : Fr) : List UInt8 := if f.ext then aY (f.id / 262144) 11 ++ ([49, 49] ++ aY (f.id % 262144) 18) else aY f.id 11
def bT (l : List UInt8) : List UInt8 := l.flatMap fun c => aY c.toNat 8
def cC (f : Fr) : List UInt8 := 48 :: (gY f ++ (dT f.rem :: (48 :: 48 :: (aY f.dlc.toNat 4 ++ bT f.data.data.toList))))
theorem dataPart_length (l : List UInt8) : (bT l).length = 8 * l.length := by
  induction l with
  | nil => rfl
  | cons c l ih =>
    simp only [bT, List.flatMap_cons, List.length_append, bitsOf_length, List.length_cons] at *
    rw [ih]; omega
theorem head_length (f : Fr) : (cC f).length = (if f.ext then 39 else 19) + 8 * f.data.size := by
  have e : f.data.data.toList.length = f.data.size := Array.length_toList
  unfold cC gY
  by_cases h : f.ext = true
  · simp only [h, if_true, List.length_cons, List.length_append, bitsOf_length, dataPart_length, List.length_nil]
    rw [e]; omega
  · simp only [h, if_false, List.length_cons, List.length_append, bitsOf_length, dataPart_length, Bool.false_eq_true]
    rw [e]; omega
end Go.Proofs.YtkmddjbialpppaaGreatDoor.FP
namespace Go.Proofs.YtkmddjbialpppaaGreatDoor
open Go.ChangeShapes Go.WideShapes Go.ChangeAt Go.RowKit
open FP (bit aY numOf Fr)
theorem bit_val (m : Nat) (hm : m < 2 ^ 64) : ((48 : Int) + bits .and .u64 (m : Int) 1) % 256 = ((bit m).toNat : Int) := by
  rw [and_one_u64 _ (by omega) (by omega)]
  unfold bit
  split <;> simp <;> omega
set_option maxRecDepth 100000 in
set_option maxHeartbeats 400000 in
theorem jY (n k : Nat) (w : World) (hk : k ≤ 64) (hn : n < 2 ^ k) :
    Calls Tryz.prog 216 #[.int .u64 n, .int .i64 k] w fun e w' => e = .returned (.tuple #[.string ⟨(aY n k).toArray⟩, .int .i64 0]) ∧ Below w.heap.size w w' := by
  have hsh : ((n : Int) / 2 ^ k != 0) = false := by
    have : (n : Int) / 2 ^ k = 0 := by
      have h := Nat.div_eq_of_lt hn
      have : ((n / 2 ^ k : Nat) : Int) = 0 := by rw [h]; rfl
      rw [← this]; simp
    simp [this]
  have hmk := fun W => run_make_row' (P := Tryz.prog) 140 5 (.int .u8 0) 1 Tryz.underlying140 (by kernel_rfl) rfl .i64 .i64 k (by omega) (by omega) W
  have hmade := aA (World.rowIs_made w (.int .u8 0) k 5)
  have hbv := aA (fun j => bit_val (n / 2 ^ j) (Nat.lt_of_le_of_lt (Nat.div_le_self _ _) (Nat.lt_of_lt_of_le hn (Nat.pow_le_pow_right (by omega) hk))))
  clear hn
  by_cases h64 : k < 64
  all_goals
   go_enter Tryz.func216, Tryz.ntmps216
   go_wp2
   go_loopw [28] (fun i W => ∃ j : Nat, j ≤ k ∧ i = .int .i64 j ∧ Below w.heap.size w W ∧ W.rowIs w.heap.size 5 k (fun m => if m < j then .int .u8 ((bit (n / 2 ^ (k - 1 - m))).toNat : Int) else .int .u8 0) ∧ w.heap.size < W.heap.size) (fun i _ => k - (intOf i).toNat)
   case atStart => exact ⟨0, Nat.zero_le _, rfl, (Below.refl _ _).alloc (Nat.le_refl _) _, hmade.out.congr (fun i _ => by simp), by simp⟩
   case round =>
     obtain ⟨j, hj, rfl, q, hrow, z⟩ := hrel
     by_cases hlt : j < k
     · have hc := hrow.cell hlt
       have hf := hrow.frozen j
       simp only [Nat.lt_irrefl, if_false] at hc
       have HR := aA hrow
       clear hrow hmk hsh hmade
       go_wp2
       have hv := hbv.out (k - 1 - j)
       rw [show ((n / 2 ^ (k - 1 - j) : Nat) : Int) = (n : Int) / 2 ^ (k - 1 - j) by simp] at hv
       rw [hv]
       refine ⟨⟨j + 1, by omega, by go_num, q.setCell (Nat.le_refl _) _, (HR.out.set j _).congr (fun m hm => ?_), by simpa [World.setCell] using z⟩, by simp [intOf]; omega⟩
       by_cases e : m = j
       · subst e; simp
       · rw [if_neg e]
         by_cases h2 : m < j
         · rw [if_pos h2, if_pos (by omega)]
         · rw [if_neg h2, if_neg (by omega)]
     · have hjk : j = k := by omega
       have hconv := eE (P := Tryz.prog) wr 140 9 5 Tryz.underlying140 Tryz.underlying5 Tryz.underlying9 w.heap.size k k (aY n k) (FP.bitsOf_length n k).symm (fun i h => by
         rw [FP.bitsOf_length] at h
         have hg := FP.bitsOf_get n k i h
         rw [List.getElem?_eq_getElem (by rw [FP.bitsOf_length]; exact h)] at hg
         rw [hrow.cell h, if_pos (by omega), Option.some.inj hg])
       clear hrow hmk hmade hsh hjk
       go_wp2
       go_ret2
       exact ⟨rfl, q⟩
def frc (f : Fr) : List Value := [.int .u32 f.id, .bool f.ext, .bool f.rem, .int .i64 f.dlc, .string f.data]
set_option maxRecDepth 100000 in
set_option maxHeartbeats 1000000 in
theorem eL (f : Fr) (w : World) (hid : f.id < 4294967296) :
    Calls Tryz.prog 85 #[.agg #[.int .u32 f.id, .bool f.ext, .bool f.rem, .int .i64 f.dlc, .string f.data]] w fun e w' => e = .returned (.bool (FP.rightB f)) ∧ Below w.heap.size w w' := by
  obtain ⟨id, ext, rem, dlc, data⟩ := f
  dsimp only at *
  cases ext <;> cases rem
  all_goals
    go_enter Tryz.func85, Tryz.ntmps85
    go_wp2
    go_quiet (fail)
    go_wp2
    all_goals
      go_ret
      refine ⟨?_, below_drewN ((Below.refl _ _).alloc (Nat.le_refl _) _) _⟩
      refine aV ?_
      unfold FP.rightB
      generalize data.size = m at *
      rw [Bool.eq_iff_iff]
      simp
      try omega
end Go.Proofs.YtkmddjbialpppaaGreatDoor
