/- The walk of conf.Find. -/
import Derived.Test.YtplpnnjjjfcibaaMgCoH
import Derived.Test.YtplpnnjjjfcibaaMgCoU
import Derived.Test.YtplpnnjjjfcibaaCoV
import Derived.Test.YtplpnnjjjfcibaaCoX
import Derived.Test.YtplpnnjjjfcibaaMgPdU
import Derived.Test.YtplpnnjjjfcibaaMgCoL
namespace Go.Proofs.Ytplpnnjjjfcibaa
open Go.ChangeShapes Go.WideShapes Go.ChangeAt Go.RowKit Go.Maps
open CM PD SG

/-- What Find answers. -/
def FindV (c : Cf) (id : Int) (ext rem : Bool) (a : Int) (is : Bool) : Prop :=
  ((ext || rem || !confB c) = true ∧ a = 0 ∧ is = false) ∨ ((ext || rem) = false ∧ confB c = true ∧ a = (seen c.l c.l.length id).getD 0 ∧ is = (seen c.l c.l.length id).isSome)

set_option maxRecDepth 100000 in
set_option maxHeartbeats 16000000 in
theorem confFind_any (c : Cf) (id : Int) (ext rem : Bool) (dlc : Int) (dt : ByteArray) (w : World) (ho : c.Ok w) (hid : 0 ≤ id ∧ id < 4294967296) : Calls Try.prog 29 #[.agg c.cs.toArray, .agg #[.int .u32 id, .bool ext, .bool rem, .int .i64 dlc, .string dt]] w fun e w' => (∃ a is, e = .returned (.tuple #[.int .i64 a, .bool is]) ∧ FindV c id ext rem a is) ∧ Below w.heap.size w w' := by
  obtain ⟨w0, hw0⟩ : ∃ w0, w0 = (w.alloc (.cells c.cs.toArray 52)).alloc (.cells #[.int .u32 id, .bool ext, .bool rem, .int .i64 dlc, .string dt] 62) := ⟨_, rfl⟩
  have step : ∀ (W : World) (o : Obj), Below W.heap.size W (W.alloc o) := fun W o => (Below.refl _ _).alloc (Nat.le_refl _) _
  have B1 := hide (heap_below (World.alloc_heap_new w (.cells c.cs.toArray 52)) (step _ (.cells #[.int .u32 id, .bool ext, .bool rem, .int .i64 dlc, .string dt] 62)))
  have B2 := hide (World.alloc_heap_new (w.alloc (.cells c.cs.toArray 52)) (.cells #[.int .u32 id, .bool ext, .bool rem, .int .i64 dlc, .string dt] 62))
  have Q0 : Hid (Below w.heap.size w w0) := by rw [hw0]; exact hide ((step _ _).alloc (by simp) _)
  rw [← hw0] at B1 B2
  simp only [World.size_alloc] at B2
  have FA := confFast_any c w0 (ho.next Q0.out)
  unfold Cf.cs at FA
  replace FA := hide FA
  have HO := hide ho
  clear step ho
  obtain ⟨c0, c1, c2, c3, c4, c5, c6, c7⟩ := cf_cells B1.out
  have f0 : w0.cell? ⟨w.heap.size + 1, 0, none⟩ = some (.int .u32 id) := by simp [World.cell?, B2.out]
  have f1 : w0.cell? ⟨w.heap.size + 1, 1, none⟩ = some (.bool ext) := by simp [World.cell?, B2.out]
  have f2 : w0.cell? ⟨w.heap.size + 1, 2, none⟩ = some (.bool rem) := by simp [World.cell?, B2.out]
  go_enter Try.func29, Try.ntmps29
  go_upto_region 1 with fail
  change Code.wp _ _ _ _ ((w.alloc (.cells c.cs.toArray 52)).alloc (.cells #[.int .u32 id, .bool ext, .bool rem, .int .i64 dlc, .string dt] 62))
  rw [← hw0]
  clear hw0
  rcases he : (ext || rem) with _ | _
  case true =>
    have HV := hide (show FindV c id ext rem 0 false from .inl ⟨by rw [he]; rfl, rfl, rfl⟩)
    cases ext <;> cases rem
    case false.false => cases he
    all_goals clear he FA
    all_goals go_wp2_with fail
    all_goals go_ret2
    all_goals exact ⟨⟨_, _, rfl, HV.out⟩, Q0.out⟩
  obtain ⟨rfl, rfl⟩ : ext = false ∧ rem = false := by simpa using he
  clear he
  go_wp2_with fail
  (with_reducible refine (FA.out).mono ?_)
  rintro e1 w1 ⟨rfl, q1⟩
  have C1 := hide (heap_below B1.out q1)
  have C2 := hide (heap_below B2.out q1)
  have Q1 := hide (below_next Q0.out Q0.out.size q1)
  clear q1 B1 B2 Q0 FA c0 c1 c2 c3 c4 c5 c6 c7 f0 f1 f2
  rcases hf : fastB c with _ | _
  · have HV := hide (show FindV c id false false 0 false from .inl ⟨by rw [confB, hf]; rfl, rfl, rfl⟩)
    clear hf
    go_wp2_with fail
    go_ret2
    exact ⟨⟨_, _, rfl, HV.out⟩, Q1.out⟩
  have HF := hide hf
  have hn := fastB_nodes hf
  have LK := hide (confLook_any c w1 (HO.out.next Q1.out) hn.1 hn.2)
  clear hf hn
  go_wp2_with (refine wpList_load_row rfl 52 (.tmp 2) (by rfl) w.heap.size (by rfl) 52 c.cs.toArray (0, 0) _ (by exact C1.out) Try.underlying52 (by rfl) (by kernel_rfl) ?_)
  (with_reducible refine (LK.out).mono ?_)
  rintro e2 w2 ⟨⟨v, rfl, hv⟩, q2⟩
  have D2 := hide (heap_below C2.out q2)
  have Q2 := hide (below_next Q1.out Q1.out.size q2)
  have f0 : w2.cell? ⟨w.heap.size + 1, 0, none⟩ = some (.int .u32 id) := by simp [World.cell?, D2.out]
  clear q2 LK C1 C2 Q1
  rcases hv with ⟨b, n, rfl, hm, hA⟩ | ⟨k, hk, hA, hB, rfl⟩
  · have LG := hm.get id hid
    have HV := hide (show FindV c id false false ((seen c.l c.l.length id).getD 0) (seen c.l c.l.length id).isSome from .inr ⟨rfl, by rw [confB, HF.out, Bool.true_and, List.all_eq_true]; exact fun k hk => hA k (List.mem_range.1 hk), rfl, rfl⟩)
    clear hA hm
    generalize (seen c.l c.l.length id).getD 0 = x at *
    generalize (seen c.l c.l.length id).isSome = y at *
    go_wp2_with fail
    go_ret2
    exact ⟨⟨_, _, rfl, HV.out⟩, Q2.out⟩
  · have HV := hide (show FindV c id false false 0 false from .inl ⟨by
      have : confB c = false := by
        rw [confB, HF.out, Bool.true_and, List.all_eq_false]
        exact ⟨k, List.mem_range.2 hk, by simp [hB]⟩
      rw [this]; rfl, rfl, rfl⟩)
    clear hA hB
    have LN : ∀ W, (Instr.lookup 104 (.map none) (.int .u32 id) true).run Try.prog W = .ok (.tuple #[.int .i64 0, .bool false]) W := fun W => by kernel_rfl
    go_wp2_with fail
    go_ret2
    exact ⟨⟨_, _, rfl, HV.out⟩, Q2.out⟩
end Go.Proofs.Ytplpnnjjjfcibaa

/- Plain: what ConfOnce counts, and finds. -/
namespace Go.Proofs.Ytplpnnjjjfcibaa
open Go.ChangeShapes Go.WideShapes Go.ChangeAt Go.RowKit
open CM PD SG

def bump1 (T : List Nat) (k : Nat) : List Nat := T.set k (T.getD k 0 + 1)
def bump (T : List Nat) (ks : List Nat) : List Nat := ks.foldl bump1 T
theorem bump1_len (T : List Nat) (k : Nat) : (bump1 T k).length = T.length := by simp [bump1]
theorem bump_len : ∀ (ks T : List Nat), (bump T ks).length = T.length
  | [], _ => rfl
  | k :: r, T => by
    show (bump (bump1 T k) r).length = _
    rw [bump_len r, bump1_len]
theorem bump1_get (T : List Nat) (k i : Nat) (h : k < T.length) : (bump1 T k).getD i 0 = T.getD i 0 + if k = i then 1 else 0 := by
  unfold bump1
  rw [List.getD_eq_getElem?_getD, List.getD_eq_getElem?_getD, List.getD_eq_getElem?_getD, List.getElem?_set]
  by_cases e : k = i
  · subst e
    simp [h]
  · simp [e]
theorem bump_get : ∀ (ks T : List Nat), (∀ k ∈ ks, k < T.length) → ∀ i, (bump T ks).getD i 0 = T.getD i 0 + ks.count i
  | [], _, _, _ => by simp [bump]
  | k :: r, T, h, i => by
    show (bump (bump1 T k) r).getD i 0 = _
    rw [bump_get r (bump1 T k) (fun j hj => by rw [bump1_len]; exact h j (by simp [hj])) i, bump1_get T k i (h k (by simp)), List.count_cons]
    by_cases e : k = i
    · simp [e]; omega
    · simp [e]
theorem bump_take_succ (T ks : List Nat) (j : Nat) (h : j < ks.length) : bump T (ks.take (j + 1)) = bump1 (bump T (ks.take j)) ks[j] := by
  rw [List.take_succ_eq_append_getElem h, bump, List.foldl_append]
  rfl
theorem whP_count (l : List Pd) (pB : Pd → Bool) (i : Nat) : ∀ k, k ≤ l.length → (whP l pB k).count i = if i < k ∧ (l[i]?.map pB) = some true then 1 else 0
  | 0, _ => by simp [whP]
  | k + 1, hk => by
    have h : k < l.length := by omega
    have ih := whP_count l pB i k (by omega)
    cases hp : pB l[k] with
    | true =>
      rw [whP_yes h hp, List.count_append, ih]
      by_cases e : i = k
      · subst e
        simp [hp, h]
      · have : ([k] : List Nat).count i = 0 := by simp [List.count_cons, Ne.symm e]
        rw [this]
        have hi : (i < k + 1) ↔ i < k := by omega
        simp [hi]
    | false =>
      rw [whP_no h hp, ih]
      by_cases e : i = k
      · subst e
        simp [hp, h]
      · have hi : (i < k + 1) ↔ i < k := by omega
        simp [hi]
/-- How many below n are so. -/
def cntF (f : Nat → Pd → Bool) (p : Pd) : Nat → Nat
  | 0 => 0
  | n + 1 => cntF f p n + if f n p = true then 1 else 0
theorem cntF_le (f : Nat → Pd → Bool) (p : Pd) : ∀ n, cntF f p n ≤ n
  | 0 => Nat.le_refl _
  | n + 1 => by
    have := cntF_le f p n
    unfold cntF
    split <;> omega
def timesL (f : Nat → Pd → Bool) (l : List Pd) (n : Nat) : List Nat := l.map fun p => cntF f p n
theorem timesL_len (f : Nat → Pd → Bool) (l : List Pd) (n : Nat) : (timesL f l n).length = l.length := by simp [timesL]
theorem timesL_zero (f : Nat → Pd → Bool) (l : List Pd) : timesL f l 0 = List.replicate l.length 0 := by
  unfold timesL
  induction l with
  | nil => rfl
  | cons a r ih => rw [List.map_cons, ih]; rfl
theorem list_getD_ext {A B : List Nat} (hl : A.length = B.length) (h : ∀ i, A.getD i 0 = B.getD i 0) : A = B := by
  apply List.ext_getElem hl
  intro i h1 h2
  have := h i
  rw [List.getD_eq_getElem?_getD, List.getD_eq_getElem?_getD, List.getElem?_eq_getElem h1, List.getElem?_eq_getElem h2] at this
  exact this
theorem bump_times (f : Nat → Pd → Bool) (l : List Pd) (n : Nat) : bump (timesL f l n) (whP l (f n) l.length) = timesL f l (n + 1) := by
  apply list_getD_ext
  · rw [bump_len, timesL_len, timesL_len]
  intro i
  rw [bump_get _ _ (fun k hk => by rw [timesL_len]; exact whP_lt l (f n) l.length k hk), whP_count l (f n) i l.length (Nat.le_refl _)]
  unfold timesL
  rw [List.getD_eq_getElem?_getD, List.getD_eq_getElem?_getD, List.getElem?_map, List.getElem?_map]
  by_cases h : i < l.length
  · rw [List.getElem?_eq_getElem h]
    simp only [Option.map_some, Option.getD_some, cntF, h, true_and, Option.some.injEq]
  · rw [List.getElem?_eq_none (by omega)]
    simp
theorem bump_bound (f : Nat → Pd → Bool) (l : List Pd) (n : Nat) (ks : List Nat) (hk : ∀ k ∈ ks, k < l.length) (i : Nat) : (bump (timesL f l n) ks).getD i 0 ≤ n + ks.length := by
  rw [bump_get _ _ (fun k h => by rw [timesL_len]; exact hk k h)]
  have h1 : (timesL f l n).getD i 0 ≤ n := by
    unfold timesL
    rw [List.getD_eq_getElem?_getD, List.getElem?_map]
    by_cases h : i < l.length
    · rw [List.getElem?_eq_getElem h]; exact cntF_le f _ n
    · rw [List.getElem?_eq_none (by omega)]; simp
  have := List.count_le_length (a := i) (l := ks)
  omega
theorem rowN_bump1 (T : List Nat) (k : Nat) : rowN (bump1 T k) = (rowN T).set k [.int .i64 ((T.getD k 0 + 1 : Nat) : Int)] := by
  unfold bump1
  rw [rowN_set]

/-- The node of a Pdu sends it just once. -/
theorem cnt_sent (p : Pd) : ∀ n : Nat, cntF (fun n p => sentB (n : Int) p) p n = if 0 ≤ p.frm ∧ p.frm < n then 1 else 0
  | 0 => by
    rw [if_neg (by omega)]; rfl
  | n + 1 => by
    unfold cntF
    rw [cnt_sent p n]
    unfold sentB
    by_cases e : p.frm = n
    · rw [if_neg (by omega), if_pos (by simpa using e), if_pos (by omega)]
    · rw [if_neg (c := (p.frm == (n : Int)) = true) (by simpa using e), Nat.add_zero]
      by_cases h : 0 ≤ p.frm ∧ p.frm < n
      · rw [if_pos h, if_pos (by omega)]
      · rw [if_neg h, if_neg (by omega)]
theorem cnt_pos {f : Nat → Pd → Bool} {p : Pd} : ∀ {n m : Nat}, m < n → f m p = true → 1 ≤ cntF f p n
  | n + 1, m, hm, h => by
    unfold cntF
    by_cases e : m = n
    · subst e; rw [if_pos h]; omega
    · have := cnt_pos (f := f) (p := p) (n := n) (m := m) (by omega) h
      omega
theorem bit_some {x : Int} (h1 : 1 ≤ x) : ∀ n : Nat, x / 2 ^ n = 0 → ∃ m, m < n ∧ x / 2 ^ m % 2 = 1
  | 0, h => by simp at h; omega
  | n + 1, h => by
    by_cases e : x / 2 ^ n % 2 = 1
    · exact ⟨n, by omega, e⟩
    · have h2 : x / 2 ^ (n + 1) = x / 2 ^ n / 2 := by rw [Int.pow_succ, Int.ediv_ediv_of_nonneg (Int.pow_nonneg (by omega))]
      have hz : x / 2 ^ n = 0 := by omega
      obtain ⟨m, hm, hb⟩ := bit_some h1 n hz
      exact ⟨m, by omega, hb⟩
theorem confB_all {c : Cf} (h : confB c = true) {k : Nat} (hk : k < c.l.length) : PlaceP c k c.l[k] ∧ outB c.l[k] = true ∧ inB c.l[k] = true := by
  have hf := confB_fast h
  unfold confB at h
  have h2 := (Bool.and_eq_true_iff.1 h).2
  rw [List.all_eq_true] at h2
  have h3 := h2 k (List.mem_range.2 hk)
  rw [okAt_eq hk, mayB_place] at h3
  obtain ⟨h4, h5⟩ := Bool.and_eq_true_iff.1 h3
  obtain ⟨h6, h7⟩ := Bool.and_eq_true_iff.1 h5
  exact ⟨(placeB_iff hk (fastB_nodes hf).1).1 h4, h6, h7⟩
theorem conf_dst {c : Cf} (h : confB c = true) {p : Pd} (hp : p ∈ c.l) : 1 ≤ p.dst ∧ p.dst ≤ 15 := by
  obtain ⟨k, hk, rfl⟩ := List.getElem_of_mem hp
  have := (confB_all h hk).1.1.1
  exact ⟨this.2.2.1, this.2.2.2.1⟩
theorem conf_sent {c : Cf} (h : confB c = true) {k : Nat} (hk : k < c.l.length) : cntF (fun n p => sentB (n : Int) p) c.l[k] c.nodes.toNat = 1 := by
  have := (confB_all h hk).1.1.1
  have hn := (fastB_nodes (confB_fast h)).1
  rw [cnt_sent, if_pos (by omega)]
theorem conf_heard {c : Cf} (h : confB c = true) {k : Nat} (hk : k < c.l.length) : 1 ≤ cntF (fun n p => hearB c (n : Int) p) c.l[k] c.nodes.toNat := by
  have hp := (confB_all h hk).1
  have hn := (fastB_nodes (confB_fast h)).1
  have hz : c.l[k].dst / 2 ^ c.nodes.toNat = 0 := (bits_law (k := c.nodes.toNat) hp.1.1.2.2.1 (by omega) (by omega)).2 ⟨hp.1.1.2.2.2.1, fun i hi h4 => hp.2.1 i (by omega) h4⟩
  obtain ⟨m, hm, hb⟩ := bit_some hp.1.1.2.2.1 _ hz
  refine cnt_pos (m := m) hm ?_
  unfold hearB inI
  rw [Int.toNat_natCast, hb]
  simp
  omega
/-- Who sends a Pdu does not hear it. -/
theorem conf_apart {c : Cf} (h : confB c = true) {n : Nat} {k : Nat} (hs : k ∈ whP c.l (sentB n) c.l.length) (hh : k ∈ whP c.l (hearB c n) c.l.length) : False := by
  have hk := whP_lt c.l (sentB n) _ k hs
  have h1 : (whP c.l (sentB n) c.l.length).count k ≠ 0 := by have := List.count_pos_iff.2 hs; omega
  have h2 : (whP c.l (hearB c n) c.l.length).count k ≠ 0 := by have := List.count_pos_iff.2 hh; omega
  rw [whP_count _ _ _ _ (Nat.le_refl _), List.getElem?_eq_getElem hk] at h1 h2
  have s1 : sentB n c.l[k] = true := by
    by_cases e : sentB n c.l[k] = true
    · exact e
    · exfalso; apply h1; rw [if_neg (by simp [e])]
  have s2 : hearB c n c.l[k] = true := by
    by_cases e : hearB c n c.l[k] = true
    · exact e
    · exfalso; apply h2; rw [if_neg (by simp [e])]
  have hp := (confB_all h hk).1.1.2
  unfold sentB at s1
  unfold hearB at s2
  have e1 : c.l[k].frm = n := by simpa using s1
  have e2 : c.l[k].dst / 2 ^ n % 2 = 1 := by simpa using (Bool.and_eq_true_iff.1 s2).2
  rw [e1, Int.toNat_natCast] at hp
  omega
theorem seen_base {c : Cf} (h : confB c = true) {y : Int} (hy : c.base ≤ y ∧ y < c.base + c.nodes) : (seen c.l c.l.length y).isSome = false := by
  rw [← Bool.not_eq_true, seen_none y (Nat.le_refl _)]
  rintro ⟨j, hj, _, rfl⟩
  exact (confB_all h hj).1.2.2.1 hy
theorem seen_own {c : Cf} (h : confB c = true) {k : Nat} (hk : k < c.l.length) : ∀ m, k < m → m ≤ c.l.length → seen c.l m c.l[k].id = some (k : Int)
  | 0, h1, _ => absurd h1 (Nat.not_lt_zero _)
  | m + 1, h1, h2 => by
    have hm : m < c.l.length := by omega
    rw [seen_succ hm]
    by_cases e : m = k
    · subst e; simp
    · have hne : ¬ c.l[k].id = c.l[m].id := (confB_all h hm).1.2.2.2.2 k hk (by omega)
      simp only [if_neg hne]
      exact seen_own h hk m (by omega) (by omega)
end Go.Proofs.Ytplpnnjjjfcibaa

/- What ConfOnce carries: two rows of counts, a set of places, a row of places. -/
namespace Go.Proofs.Ytplpnnjjjfcibaa
open Go.ChangeShapes Go.WideShapes Go.ChangeAt Go.RowKit Go.Maps
open CM PD SG

theorem made0_eq (n : Nat) : (rowN (List.replicate n 0)).flatten.toArray = madeCells #[.int .i64 0] n := by
  have h1 : (rowN (List.replicate n 0)).flatten = List.replicate n (Value.int .i64 0) := by
    induction n with
    | zero => rfl
    | succ n ih =>
      rw [List.replicate_succ, List.replicate_succ, ← ih]
      rfl
  rw [h1]
  unfold madeCells
  apply Array.ext
  · simp
  · intro i h2 h3
    simp [Nat.mod_one]
theorem own_made0 (w : World) (base n : Nat) (hb : base ≤ w.heap.size) (hm : n ≤ maxLen) : Own (w.alloc (.cells (madeCells #[.int .i64 0] n) 3)) base 3 1 (some ⟨w.heap.size, 0, none⟩) n (rowN (List.replicate n 0)) := by
  have := Own.lit w base 3 1 (rowN (List.replicate n 0)) hb (by rw [rowN_len, List.length_replicate]; exact hm) (rowN_rows _)
  rw [made0_eq, rowN_len, List.length_replicate] at this
  exact this
theorem own_put1 {W : World} {base g c : Nat} {T : List Nat} (h : Own W base 3 1 (some ⟨g, 0, none⟩) c (rowN T)) {k : Nat} (hk : k < T.length) (x : Nat) : Own (W.setCell ⟨g, k, none⟩ (.int .i64 (x : Int))) base 3 1 (some ⟨g, 0, none⟩) c (rowN (T.set k x)) := by
  obtain ⟨s1, s2⟩ := World.ownsRow.stored h k (.int .i64 (x : Int))
  have := flatten_set (rowN T) 1 (rowN_rows T) k 0 _ (.int .i64 (x : Int)) (rowN_at hk) (by omega)
  rw [Nat.mul_one, Nat.add_zero] at this
  rw [this] at s1
  unfold Own
  rw [← rowN_set]
  rw [List.length_set]
  exact s1
theorem own_get1 {W : World} {base g c : Nat} {T : List Nat} (h : Own W base 3 1 (some ⟨g, 0, none⟩) c (rowN T)) {k : Nat} (hk : k < T.length) : W.cell? ⟨g, k, none⟩ = some (.int .i64 ((T.getD k 0 : Nat) : Int)) ∧ W.frozen? ⟨g, k, none⟩ = false := by
  have h1 := own_at h (rowN_rows T) (rowN_at hk) (j := 0) rfl
  rw [Nat.mul_one, Nat.add_zero] at h1
  refine ⟨?_, World.ownsRow.frozenAt h k⟩
  rw [h1, List.getD_eq_getElem?_getD, List.getElem?_eq_getElem hk]
  rfl
theorem mset_ne {W : World} {bm n : Nat} {s : Int → Bool} (hm : MSet W bm n s) {b : Nat} {cs : Array Value} {t : TypeId} {fz : Nat × Nat} (h : W.heap[b]? = some (.cells cs t fz)) : b ≠ bm := by
  rintro rfl
  obtain ⟨D, ⟨es, clock, hb, _⟩, _⟩ := hm
  rw [h] at hb
  cases hb
theorem heap_mset21 {W W' : World} {bm n : Nat} {s : Int → Bool} (hm : MSet W bm n s) (hg : W.grownBy W' (some bm)) {b : Nat} {cs : Array Value} {t : TypeId} {fz : Nat × Nat} (h : W.heap[b]? = some (.cells cs t fz)) : W'.heap[b]? = some (.cells cs t fz) := by
  rw [hg.block b (Array.getElem?_eq_some_iff.1 h).1 (by simpa using mset_ne hm h)]
  exact h
theorem own_mset {W W' : World} {bm : Nat} (hg : W.grownBy W' (some bm)) {base e sz g c : Nat} {R : List (List Value)} (h : Own W base e sz (some ⟨g, 0, none⟩) c R) (hne : g ≠ bm) : Own W' base e sz (some ⟨g, 0, none⟩) c R := by
  refine World.ownsRow.kept h hg (.inr ?_)
  simp [Value.ownBlock]
  omega
theorem rd_grown {W W' : World} {x : Nat} (hg : W.grownBy W' (some x)) {A : Option Addr} {sz : Nat} {R : List (List Value)} (h : Rd W W.heap.size A sz R) (hne : ∀ g off, A = some ⟨g, off, none⟩ → g ≠ x) : Rd W' W'.heap.size A sz R :=
  Rd.grown h hg (Nat.le_refl _) fun b off e => by simpa using hne b off e
theorem set_grown (W : World) (x j : Nat) (v : Value) : W.grownBy (W.setCell ⟨x, j, none⟩ v) (some x) := ⟨rfl, rfl, rfl, by simp [World.setCell], fun k _ hk => heap_setCell_other W ⟨x, j, none⟩ k v (fun e => hk (by simp [e]))⟩
theorem MSet.set {W : World} {b n : Nat} {s : Int → Bool} (h : MSet W b n s) {x : Nat} (hx : x ≠ b) (j : Nat) (v : Value) : MSet (W.setCell ⟨x, j, none⟩ v) b n s := by
  obtain ⟨D, h, hs⟩ := h
  exact ⟨D, h.kept (row := some x) (set_grown W x j v) (by simp; omega), hs⟩

/-- The two rows of counts. -/
structure O21 (w5 : World) (cap : Nat) (T H : List Nat) (W : World) : Prop where
  t : Own W w5.heap.size 3 1 (some ⟨w5.heap.size, 0, none⟩) cap (rowN T)
  h : Own W w5.heap.size 3 1 (some ⟨w5.heap.size + 1, 0, none⟩) cap (rowN H)
  q : Below w5.heap.size w5 W
theorem O21.lt {w5 : World} {cap : Nat} {T H : List Nat} {W : World} (h : O21 w5 cap T H W) (h0 : 0 < H.length) : w5.heap.size + 1 < W.heap.size := by
  obtain ⟨g, e, _, hg⟩ := Own.ofLen h.h (by rw [rowN_len]; exact h0)
  cases e
  exact hg
theorem O21.below {w5 : World} {cap : Nat} {T H : List Nat} {W W' : World} (h : O21 w5 cap T H W) (q : Below W.heap.size W W') : O21 w5 cap T H W' := ⟨h.t.grown q, h.h.grown q, below_next h.q h.q.size q⟩
theorem O21.put {w5 : World} {cap : Nat} {T H : List Nat} {W W' : World} (h : O21 w5 cap T H W) {bm : Nat} (hg : W.grownBy W' (some bm)) (hb : w5.heap.size + 1 < bm) : O21 w5 cap T H W' :=
  ⟨own_mset hg h.t (by omega), own_mset hg h.h (by omega), h.q.grown hg h.q.size (fun j e => by cases e; omega)⟩
theorem O21.bumpT {w5 : World} {cap : Nat} {T H : List Nat} {W : World} (h : O21 w5 cap T H W) {k : Nat} (hk : k < T.length) : O21 w5 cap (bump1 T k) H (W.setCell ⟨w5.heap.size, k, none⟩ (.int .i64 (((T.getD k 0 + 1 : Nat)) : Int))) :=
  ⟨own_put1 h.t hk _, own_setF h.h (by omega) _ _, h.q.setCell (p := ⟨w5.heap.size, k, none⟩) (Nat.le_refl _) _⟩
theorem O21.bumpH {w5 : World} {cap : Nat} {T H : List Nat} {W : World} (h : O21 w5 cap T H W) {k : Nat} (hk : k < H.length) : O21 w5 cap T (bump1 H k) (W.setCell ⟨w5.heap.size + 1, k, none⟩ (.int .i64 (((H.getD k 0 + 1 : Nat)) : Int))) :=
  ⟨own_setF h.t (by omega) _ _, own_put1 h.h hk _, h.q.setCell (p := ⟨w5.heap.size + 1, k, none⟩) (by simp) _⟩
theorem O21.bumpT' {w5 : World} {cap : Nat} {T H : List Nat} {W : World} (h : O21 w5 cap T H W) {k x : Nat} (hk : k < T.length) (hx : T.getD k 0 = x) : O21 w5 cap (bump1 T k) H (W.setCell ⟨w5.heap.size, k, none⟩ (.int .i64 ((x : Int) + 1))) := by
  have := h.bumpT hk
  rwa [hx] at this
theorem O21.bumpH' {w5 : World} {cap : Nat} {T H : List Nat} {W : World} (h : O21 w5 cap T H W) {k x : Nat} (hk : k < H.length) (hx : H.getD k 0 = x) : O21 w5 cap T (bump1 H k) (W.setCell ⟨w5.heap.size + 1, k, none⟩ (.int .i64 ((x : Int) + 1))) := by
  have := h.bumpH hk
  rwa [hx] at this
/-- The places that are in the first j. -/
def inN (L : List Nat) (j : Nat) : Int → Bool := fun x => (L.take j).any fun k => (k : Int) == x
theorem inN_zero (L : List Nat) : inN L 0 = fun _ => false := by funext x; simp [inN]
theorem inN_succ (L : List Nat) {j : Nat} (h : j < L.length) : inN L (j + 1) = fun y => if y = (L[j] : Int) then true else inN L j y := by
  funext x
  unfold inN
  rw [List.take_succ_eq_append_getElem h, List.any_append]
  by_cases e : x = (L[j] : Int)
  · subst e; simp
  · have : ¬ (L[j] : Int) = x := fun h => e h.symm
    simp [e, this]
theorem inN_full {L : List Nat} {k : Nat} (h : inN L L.length k = true) : k ∈ L := by
  unfold inN at h
  rw [List.take_length, List.any_eq_true] at h
  obtain ⟨j, hj, e⟩ := h
  have : (j : Int) = k := by simpa using e
  obtain rfl : j = k := by omega
  exact hj
theorem wrong_conf {c : Cf} {v : Int} (h : WrongV c v) : (v = -1 ∧ confB c = true) ∨ ((v != -1) = true ∧ confB c = false) := by
  rcases h with ⟨hf, rfl⟩ | ⟨hf, k, hk, _, hn, rfl⟩ | ⟨hf, ha, rfl⟩
  · exact .inr ⟨rfl, by rw [confB, hf]; rfl⟩
  · refine .inr ⟨by simp, ?_⟩
    rw [confB, hf, Bool.true_and, List.all_eq_false]
    exact ⟨k, List.mem_range.2 hk, by simp [hn]⟩
  · exact .inl ⟨rfl, by rw [confB, hf, Bool.true_and, List.all_eq_true]; exact fun k hk => ha k (List.mem_range.1 hk)⟩
end Go.Proofs.Ytplpnnjjjfcibaa

/- The walk of campanilelaw21.ConfOnce. -/
namespace Go.Proofs.Ytplpnnjjjfcibaa
open Go.ChangeShapes Go.WideShapes Go.ChangeAt Go.RowKit Go.Maps
open CM PD SG

set_option maxRecDepth 100000 in
set_option maxHeartbeats 32000000 in
theorem confOnce_walk (c0 : Cf) (w : World) (ho : c0.Raw w) (hcm : c0.c ≤ maxLen) : Calls Try.prog 8 #[.agg c0.cs.toArray] w fun e w' => e = .returned (.bool true) ∧ Below w.heap.size w w' := by
  obtain ⟨w0, hw0⟩ : ∃ w0, w0 = w.alloc (.cells c0.cs.toArray 52) := ⟨_, rfl⟩
  have B0 := hide (World.alloc_heap_new w (.cells c0.cs.toArray 52))
  have Q0 : Hid (Below w.heap.size w w0) := by rw [hw0]; exact hide ((Below.refl _ _).alloc (Nat.le_refl _) _)
  rw [← hw0] at B0
  have FW := hide (few21_any c0 w0 ⟨Rd.next ho.r Q0.out Q0.out.size, fun p hp => (ho.p p hp).next Q0.out, ho.n, ho.base⟩ hcm)
  clear hcm
  go_enter Try.func8, Try.ntmps8
  go_upto_region 1 with fail
  change Code.wp _ _ _ _ (w.alloc (.cells c0.cs.toArray 52))
  rw [← hw0]
  clear hw0
  go_wp2_with (refine wpList_load_row rfl 52 (.tmp 1) (by rfl) w.heap.size (by rfl) 52 c0.cs.toArray (0, 0) _ (by exact B0.out) Try.underlying52 (by rfl) (by kernel_rfl) ?_)
  (with_reducible refine (FW.out).mono ?_)
  rintro e1 w1 ⟨⟨A, n, rfl, hR, hA⟩, q1⟩
  have B1 := hide (heap_below B0.out q1)
  have Q1 := hide (below_next Q0.out Q0.out.size q1)
  have z0 : w.heap.size < w0.heap.size := heap_lt B0.out
  have HR := hide hR
  have HA := hide (show ∀ g off, A = some ⟨g, off, none⟩ → g ≠ w.heap.size from fun g off h => by have := hA g off h; omega)
  have HC := hide (show ∀ W, Rd W W.heap.size A 22 (pdRow (cutCf c0 A n).l) → Below w.heap.size w W → (cutCf c0 A n).Ok W from fun W h q => ho.cut h q)
  generalize cutCf c0 A n = c at *
  have TH := hide (show w1.there w.heap.size 0 8 from there_heap (cs := c0.cs) B1.out)
  clear q1 B0 Q0 FW hR hA ho
  go_wp2_with (refine wpList_store_hid (by rfl) 52 (.tmp 1) (.tmp 20) (by rfl) w.heap.size 0 c.cs (by rfl) (by rfl) (by exact TH.out) (by kernel_rfl) (by simp [Value.oneCell', Cf.cs]) ?_)
  intro w2 e2
  have B2 := hide (show w2.heap[w.heap.size]? = some (.cells c.cs.toArray 52 (0, 0)) by rw [e2.out]; exact whole_heap c.cs (xs := c0.cs) B1.out rfl)
  have Q2 := hide (show Below w.heap.size w w2 by rw [e2.out]; exact Q1.out.trans (below_setCells (g := w.heap.size) _ 0 _ (Nat.le_refl _)))
  have HO := hide (show c.Ok w2 from HC.out w2 (by rw [e2.out]; exact rd_setCells HA.out c.cs 0 w1 HR.out) Q2.out)
  clear e2 TH B1 Q1 HR HA HC z0
  have WR := hide (wrong_any c w2 HO.out)
  go_wp2_with (refine wpList_load_row rfl 52 (.tmp 1) (by rfl) w.heap.size (by rfl) 52 c.cs.toArray (0, 0) _ (by exact B2.out) Try.underlying52 (by rfl) (by kernel_rfl) ?_)
  (with_reducible refine (WR.out).mono ?_)
  rintro e3 w5 ⟨⟨v, rfl, hv⟩, q3⟩
  have B5 := hide (heap_below B2.out q3)
  have Q5 := hide (below_next Q2.out Q2.out.size q3)
  have HO5 := hide (HO.out.next q3)
  have HW := hide (wrong_conf hv)
  clear q3 B2 Q2 HO WR hv
  rcases HW.out with ⟨rfl, hc⟩ | ⟨hne, hc⟩
  case inr =>
    have AL := hide (alive21_any w5)
    have RT := hide (fun W (q : Below w5.heap.size w5 W) => confRight_any c W (HO5.out.next q))
    rw [hc] at RT
    clear hc HW
    go_wp2_with fail
    (with_reducible refine (AL.out).mono ?_)
    rintro e6 w6 ⟨rfl, q6⟩
    have B6 := hide (heap_below B5.out q6)
    have Q6 := hide (below_next Q5.out Q5.out.size q6)
    have R6 := hide (RT.out w6 q6)
    clear q6 RT B5 Q5
    go_wp2_with (refine wpList_load_rowG (by kernel_rfl) 52 (.tmp 1) (by rfl) w.heap.size (by rfl) 52 c.cs.toArray (0, 0) _ (by exact B6.out) Try.underlying52 (by rfl) (by kernel_rfl) ?_)
    (with_reducible refine (R6.out).mono ?_)
    rintro e7 w7 ⟨rfl, q7⟩
    have Q7 := hide (below_next Q6.out Q6.out.size q7)
    go_wp2_with fail
    go_ret
    exact ⟨rfl, Q7.out⟩
  have HC := hide hc
  have hn := (fastB_nodes (confB_fast hc)).1
  have hbn := (fastB_nodes (confB_fast hc)).2
  have hbase := HO5.out.base
  have hl := HO5.out.n
  have SE := hide (fun (W : World) (q : Below w5.heap.size w5 W) (n : Nat) => show Calls Try.prog 27 #[.agg c.cs.toArray, .int .i64 n] W fun e w' => (∃ A cc, e = .returned (.slice A (whP c.l (sentB n) c.l.length).length cc) ∧ NR w' w'.heap.size A (whP c.l (sentB n) c.l.length) ∧ ∀ g off, A = some ⟨g, off, none⟩ → W.heap.size ≤ g) ∧ Below W.heap.size W w' from by
    have := confSent_any c n W (HO5.out.next q)
    rwa [show whichL c (sentB n) = whP c.l (sentB n) c.l.length by unfold whichL; rw [hc]; simp] at this)
  have HE := hide (fun (W : World) (q : Below w5.heap.size w5 W) (n : Nat) => show Calls Try.prog 28 #[.agg c.cs.toArray, .int .i64 n] W fun e w' => (∃ A cc, e = .returned (.slice A (whP c.l (hearB c n) c.l.length).length cc) ∧ NR w' w'.heap.size A (whP c.l (hearB c n) c.l.length) ∧ ∀ g off, A = some ⟨g, off, none⟩ → W.heap.size ≤ g) ∧ Below W.heap.size W w' from by
    have := confHeard_any c n W (HO5.out.next q)
    rwa [show whichL c (hearB c n) = whP c.l (hearB c n) c.l.length by unfold whichL; rw [hc]; simp] at this)
  have FI := hide (fun (W : World) (q : Below w5.heap.size w5 W) (id : Int) (ext : Bool) (hid : 0 ≤ id ∧ id < 4294967296) => confFind_any c id ext false 0 ⟨#[]⟩ W (HO5.out.next q) hid)
  have AL := hide alive21_any
  clear hc HW
  obtain ⟨N, hN⟩ : ∃ N : Nat, c.nodes = N := ⟨c.nodes.toNat, by omega⟩
  have HN := hide hN
  obtain ⟨c0, c1, c2, c3, c4, c5, c6, c7⟩ := cf_cells B5.out
  rw [hN] at c0
  clear c2 c3 c4 c5 c6 c7
  have z5 : w.heap.size < w5.heap.size := heap_lt B5.out
  have hmk := fun W => run_make_row' (P := Try.prog) 23 3 (.int .i64 0) 8 Try.underlying23 (by kernel_rfl) rfl .i64 .i64 c.l.length (by omega) (by omega) W
  have OT := own_made0 w5 w5.heap.size c.l.length (Nat.le_refl _) (by unfold maxLen; omega)
  have q6 : Below w5.heap.size w5 (w5.alloc (.cells (madeCells #[.int .i64 0] c.l.length) 3)) := (Below.refl _ _).alloc (Nat.le_refl _) _
  have OH := own_made0 (w5.alloc (.cells (madeCells #[.int .i64 0] c.l.length) 3)) w5.heap.size c.l.length q6.size (by unfold maxLen; omega)
  have O0 := hide (show O21 w5 c.l.length (timesL (fun n p => sentB (n : Int) p) c.l 0) (timesL (fun n p => hearB c (n : Int) p) c.l 0) ((w5.alloc (.cells (madeCells #[.int .i64 0] c.l.length) 3)).alloc (.cells (madeCells #[.int .i64 0] c.l.length) 3)) from by
    rw [timesL_zero, timesL_zero]
    refine ⟨OT.alloc _, ?_, q6.alloc q6.size _⟩
    simpa using OH)
  clear OT OH q6
  go_wp2_with fail
  clear c0 c1 hmk
  go_loopw [40] (fun vi W => ∃ n : Nat, n ≤ N ∧ vi = .int .i64 n ∧ Hid (O21 w5 c.l.length (timesL (fun n p => sentB (n : Int) p) c.l n) (timesL (fun n p => hearB c (n : Int) p) c.l n) W)) (fun vi _ => N - (intOf vi).toNat)
  case atStart => exact ⟨0, Nat.zero_le _, rfl, O0⟩
  case round =>
    obtain ⟨n, hnN, rfl, hO⟩ := hrel
    clear O0
    by_cases hlt : n < N
    · have hmm := @run_makeMap Try.prog
      have q7 : Below wr.heap.size wr (wr.alloc (.map #[] 0)) := (Below.refl _ _).alloc (Nat.le_refl _) _
      have O7 := hide (hO.out.below q7)
      have M7 := hide (MSet.made wr)
      have z7 : wr.heap.size < (wr.alloc (.map #[] 0)).heap.size := M7.out.lt
      have zB : c.l.length ≠ 0 → w5.heap.size + 1 < wr.heap.size := fun h => hO.out.lt (by rw [timesL_len]; omega)
      have zQ := hO.out.q.size
      have B7 := hide (heap_below B5.out O7.out.q)
      have S7 := hide (SE.out _ O7.out.q n)
      clear q7 hO
      go_wp2_with (refine wpList_load_row rfl 52 (.tmp 1) (by rfl) w.heap.size (by rfl) 52 c.cs.toArray (0, 0) _ (by exact B7.out) Try.underlying52 (by rfl) (by kernel_rfl) ?_)
      clear hmm
      generalize hmb : wr.heap.size = mb at *
      clear hmb
      (with_reducible refine (S7.out).mono ?_)
      rintro e8 w8 ⟨⟨A, cc, rfl, hR, hA⟩, q8⟩
      obtain ⟨L, hL⟩ : ∃ L, L = whP c.l (sentB n) c.l.length := ⟨_, rfl⟩
      rw [← hL] at hR ⊢
      have HL := hide hL
      have hLl := whP_len c.l (sentB n) c.l.length
      have HLt := hide (whP_lt c.l (sentB n) c.l.length)
      rw [← hL] at hLl HLt
      have HA := hide (show ∀ g off, A = some ⟨g, off, none⟩ → g ≠ mb ∧ (c.l.length ≠ 0 → g ≠ w5.heap.size) from fun g off h => by
        have h1 := hA g off h
        exact ⟨by omega, fun h2 => by have := zB h2; omega⟩)
      have R8 := hide hR
      have O8 := hide (show O21 w5 c.l.length (bump (timesL (fun n p => sentB (n : Int) p) c.l n) (L.take 0)) (timesL (fun n p => hearB c (n : Int) p) c.l n) w8 from O7.out.below q8)
      have M8 := hide (show MSet w8 mb 0 (inN L 0) by rw [inN_zero]; exact M7.out.below q8)
      clear hR hA q8 hL O7 M7 S7 B7 z7
      go_wp2_with fail
      go_loopw [48] (fun vi W => ∃ j : Nat, j ≤ L.length ∧ vi = .int .i64 j ∧ Hid (O21 w5 c.l.length (bump (timesL (fun n p => sentB (n : Int) p) c.l n) (L.take j)) (timesL (fun n p => hearB c (n : Int) p) c.l n) W) ∧ Hid (MSet W mb j (inN L j)) ∧ Hid (NR W W.heap.size A L)) (fun vi _ => L.length - (intOf vi).toNat)
      case atStart => exact ⟨0, Nat.zero_le _, rfl, O8, M8, R8⟩
      case round =>
        obtain ⟨j, hj, rfl, hO, hM, hR⟩ := hrel
        clear O8 M8 R8
        by_cases hjl : j < L.length
        · have hji : (j : Int) < (L.length : Int) := by omega
          obtain ⟨rb, ro, hAe, hrb, r0⟩ := NR.at_ hR.out hjl
          have hkm := HLt.out L[j] (List.getElem_mem hjl)
          have HS := hide (inN_succ L hjl)
          have HT := hide (bump_take_succ (timesL (fun n p => sentB (n : Int) p) c.l n) L j hjl)
          generalize L[j] = k at *
          have hki : (k : Int) < (c.l.length : Int) := by omega
          have hl0 : c.l.length ≠ 0 := by omega
          have hne := HA.out rb ro hAe
          have hkT : k < (bump (timesL (fun n p => sentB (n : Int) p) c.l n) (L.take j)).length := by rw [bump_len, timesL_len]; exact hkm
          obtain ⟨x0, f0⟩ := own_get1 hO.out.t hkT
          have hxb := bump_bound (fun n p => sentB (n : Int) p) c.l n (L.take j) (fun i hi => HLt.out i (List.mem_of_mem_take hi)) k
          rw [List.length_take] at hxb
          obtain ⟨x, hx⟩ : ∃ x, (bump (timesL (fun n p => sentB (n : Int) p) c.l n) (L.take j)).getD k 0 = x := ⟨_, rfl⟩
          rw [hx] at x0 hxb
          have hx3 : x ≤ 3000 := by omega
          have O9 := hide (O21.bumpT' hO.out hkT hx)
          rw [← HT.out] at O9
          have M9 := hM.out.set (x := w5.heap.size) (by have := zB hl0; omega) k (.int .i64 ((x : Int) + 1))
          obtain ⟨W10, hput, ms, hg⟩ := M9.put (by unfold maxLen; omega) (k : Int) (i64_wf (by omega) (by omega)) true
          rw [← HS.out] at ms
          have M10 := hide ms
          have O10 := hide (O9.out.put hg (zB hl0))
          have R10 := hide (show NR W10 W10.heap.size A L from rd_grown hg (rd_grown (set_grown wr w5.heap.size k (.int .i64 ((x : Int) + 1))) hR.out (fun g off e => (HA.out g off e).2 hl0)) (fun g off e => (HA.out g off e).1))
          rw [hAe]
          clear hO hM hR ms hg M9 O9 hx hxb HS HT
          go_wp2_with fail
          go_roundw
          case rel => exact ⟨j + 1, by omega, by go_num, O10, M10, by rw [← hAe]; exact R10⟩
          case measure => simp [intOf]; omega
        · obtain rfl : j = L.length := by omega
          have O8 := hide (show O21 w5 c.l.length (timesL (fun n p => sentB (n : Int) p) c.l (n + 1)) (timesL (fun n p => hearB c (n : Int) p) c.l n) wr from by
            have := hO.out
            rw [List.take_length, HL.out, bump_times (fun n p => sentB (n : Int) p)] at this
            exact this)
          have M8 := hide hM.out
          have B8 := hide (heap_below B5.out O8.out.q)
          have S8 := hide (HE.out _ O8.out.q n)
          have zM : mb < wr.heap.size := hM.out.lt
          clear hO hM hR
          go_wp2_with (refine wpList_load_row rfl 52 (.tmp 1) (by rfl) w.heap.size (by rfl) 52 c.cs.toArray (0, 0) _ (by exact B8.out) Try.underlying52 (by rfl) (by kernel_rfl) ?_)
          (with_reducible refine (S8.out).mono ?_)
          rintro e9 w9 ⟨⟨A9, cc9, rfl, hR, hA⟩, q9⟩
          obtain ⟨K, hK⟩ : ∃ K, K = whP c.l (hearB c n) c.l.length := ⟨_, rfl⟩
          rw [← hK] at hR ⊢
          have HK := hide hK
          have hKl := whP_len c.l (hearB c n) c.l.length
          have HKt := hide (whP_lt c.l (hearB c n) c.l.length)
          rw [← hK] at hKl HKt
          have HAP := hide (show ∀ k ∈ K, inN L L.length (k : Int) = false from fun k hk => Bool.eq_false_iff.2 fun h => conf_apart HC.out (n := n) (by rw [← HL.out]; exact inN_full h) (by rw [← HK.out]; exact hk))
          have HA9 := hide (show ∀ g off, A9 = some ⟨g, off, none⟩ → (c.l.length ≠ 0 → g ≠ w5.heap.size + 1) from fun g off h h2 => by
            have h1 := hA g off h
            have := zB h2
            omega)
          have R9 := hide hR
          have O9 := hide (show O21 w5 c.l.length (timesL (fun n p => sentB (n : Int) p) c.l (n + 1)) (bump (timesL (fun n p => hearB c (n : Int) p) c.l n) (K.take 0)) w9 from O8.out.below q9)
          have M9 := hide (M8.out.below q9)
          clear hR hA q9 hK O8 M8 S8 B8 HL HLt
          go_wp2_with fail
          go_loopw [73] (fun vi W => ∃ j : Nat, j ≤ K.length ∧ vi = .int .i64 j ∧ Hid (O21 w5 c.l.length (timesL (fun n p => sentB (n : Int) p) c.l (n + 1)) (bump (timesL (fun n p => hearB c (n : Int) p) c.l n) (K.take j)) W) ∧ Hid (MSet W mb L.length (inN L L.length)) ∧ Hid (NR W W.heap.size A9 K)) (fun vi _ => K.length - (intOf vi).toNat)
          case atStart => exact ⟨0, Nat.zero_le _, rfl, O9, M9, R9⟩
          case round =>
            obtain ⟨j, hj, rfl, hO, hM, hR⟩ := hrel
            clear O9 M9 R9
            by_cases hjl : j < K.length
            · have hji : (j : Int) < (K.length : Int) := by omega
              obtain ⟨rb, ro, hAe, hrb, r0⟩ := NR.at_ hR.out hjl
              have hkm := HKt.out K[j] (List.getElem_mem hjl)
              have hap := HAP.out K[j] (List.getElem_mem hjl)
              have HT := hide (bump_take_succ (timesL (fun n p => hearB c (n : Int) p) c.l n) K j hjl)
              generalize K[j] = k at *
              have hki : (k : Int) < (c.l.length : Int) := by omega
              have hl0 : c.l.length ≠ 0 := by omega
              have hkT : k < (bump (timesL (fun n p => hearB c (n : Int) p) c.l n) (K.take j)).length := by rw [bump_len, timesL_len]; exact hkm
              obtain ⟨x0, f0⟩ := own_get1 hO.out.h hkT
              have hxb := bump_bound (fun n p => hearB c (n : Int) p) c.l n (K.take j) (fun i hi => HKt.out i (List.mem_of_mem_take hi)) k
              rw [List.length_take] at hxb
              obtain ⟨x, hx⟩ : ∃ x, (bump (timesL (fun n p => hearB c (n : Int) p) c.l n) (K.take j)).getD k 0 = x := ⟨_, rfl⟩
              rw [hx] at x0 hxb
              have hx3 : x ≤ 3000 := by omega
              have hget := hM.out.get (k : Int) (i64_wf (by omega) (by omega))
              rw [hap] at hget
              have O10 := hide (O21.bumpH' hO.out hkT hx)
              rw [← HT.out] at O10
              have M10 := hide (hM.out.set (x := w5.heap.size + 1) (by have := zB hl0; omega) k (.int .i64 ((x : Int) + 1)))
              have R10 := hide (show NR _ _ A9 K from rd_grown (set_grown wr (w5.heap.size + 1) k (.int .i64 ((x : Int) + 1))) hR.out (fun g off e => HA9.out g off e hl0))
              rw [hAe]
              clear hO hM hR hx hxb HT hap
              go_wp2_with fail
              go_roundw
              case rel => exact ⟨j + 1, by omega, by go_num, O10, M10, by rw [← hAe]; exact R10⟩
              case measure => simp [intOf]; omega
            · obtain rfl : j = K.length := by omega
              have O9 := hide (show O21 w5 c.l.length (timesL (fun n p => sentB (n : Int) p) c.l (n + 1)) (timesL (fun n p => hearB c (n : Int) p) c.l (n + 1)) wr from by
                have := hO.out
                rw [List.take_length, HK.out, bump_times (fun n p => hearB c (n : Int) p)] at this
                exact this)
              have B9 := hide (heap_below B5.out O9.out.q)
              have hb1 : c.base ≤ c.base + (n : Int) ∧ c.base + (n : Int) < c.base + c.nodes := by omega
              have S9 := hide (FI.out _ O9.out.q (c.base + (n : Int)) false (by omega))
              have HSB := hide (seen_base HC.out hb1)
              obtain ⟨d0, d1, d2, d3, d4, d5, d6, d7⟩ := cf_cells B9.out
              have hn4 : n < 4 := by omega
              clear hO hM hR d0 d1 d3 d4 d5 d6 d7 hb1
              go_wp2_with (refine wpList_load_row rfl 52 (.tmp 1) (by rfl) w.heap.size (by rfl) 52 c.cs.toArray (0, 0) _ (by exact B9.out) Try.underlying52 (by rfl) (by kernel_rfl) ?_)
              (with_reducible refine (S9.out).mono ?_)
              rintro e10 w10 ⟨⟨a, is, rfl, hf⟩, q10⟩
              have his : is = false := by
                rcases hf with ⟨h1, _, h2⟩ | ⟨_, _, _, h2⟩
                · exact h2
                · rw [h2]; exact HSB.out
              subst his
              have O11 := hide (O9.out.below q10)
              clear hf q10 O9 B9 S9 HSB d2
              go_wp2_with fail
              go_roundw
              case rel => exact ⟨n + 1, by omega, by go_num, O11⟩
              case measure => simp [intOf]; omega
    · obtain rfl : n = N := by omega
      have B9 := hide (heap_below B5.out hO.out.q)
      obtain ⟨d0, d1, d2, d3, d4, d5, d6, d7⟩ := cf_cells B9.out
      clear d0 d2 d3 d4 d5 d6 d7 SE HE
      go_wp2_with fail
      clear d1
      go_loopw [113] (fun vi W => ∃ k : Nat, k ≤ c.l.length ∧ vi = .int .i64 k ∧ Hid (O21 w5 c.l.length (timesL (fun n p => sentB (n : Int) p) c.l n) (timesL (fun n p => hearB c (n : Int) p) c.l n) W)) (fun vi _ => c.l.length - (intOf vi).toNat)
      case atStart => exact ⟨0, Nat.zero_le _, rfl, hO⟩
      case round =>
        clear hO B9
        obtain ⟨k, hk, rfl, hO⟩ := hrel
        by_cases hkl : k < c.l.length
        · have hki : (k : Int) < (c.l.length : Int) := by omega
          obtain ⟨pb, po, hca, hpb, hrg⟩ := PdR.at_ (HO5.out.next hO.out.q).r hkl
          have RG := hide hrg
          have hs1 : (timesL (fun n p => sentB (n : Int) p) c.l n).getD k 0 = 1 := by
            unfold timesL
            rw [List.getD_eq_getElem?_getD, List.getElem?_map, List.getElem?_eq_getElem hkl]
            have := conf_sent HC.out hkl
            rw [HN.out, Int.toNat_natCast] at this
            exact this
          obtain ⟨y, hy⟩ : ∃ y, (timesL (fun n p => hearB c (n : Int) p) c.l n).getD k 0 = y := ⟨_, rfl⟩
          have hy1 : 1 ≤ y := by
            rw [← hy]
            unfold timesL
            rw [List.getD_eq_getElem?_getD, List.getElem?_map, List.getElem?_eq_getElem hkl]
            have := conf_heard HC.out hkl
            rw [HN.out, Int.toNat_natCast] at this
            exact this
          have HGT := hide (show ∀ W, O21 w5 c.l.length (timesL (fun n p => sentB (n : Int) p) c.l n) (timesL (fun n p => hearB c (n : Int) p) c.l n) W → W.cell? ⟨w5.heap.size, k, none⟩ = some (.int .i64 1) ∧ W.cell? ⟨w5.heap.size + 1, k, none⟩ = some (.int .i64 (y : Int)) from fun W h => by
            have h1 := (own_get1 h.t (k := k) (by rw [timesL_len]; exact hkl)).1
            have h2 := (own_get1 h.h (k := k) (by rw [timesL_len]; exact hkl)).1
            rw [hs1] at h1
            rw [hy] at h2
            exact ⟨h1, h2⟩)
          have HPO := hide (HO5.out.p c.l[k] (List.getElem_mem hkl))
          have HSO := hide (seen_own HC.out hkl c.l.length hkl (Nat.le_refl _))
          clear hrg hs1 hy
          generalize c.l[k] = p at *
          have hid := HPO.out.id
          rw [hca]
          have q2 : Below wr.heap.size wr (wr.alloc (.cells zPd.cs.toArray 67)) := (Below.refl _ _).alloc (Nat.le_refl _) _
          have g2 := World.alloc_heap_new wr (.cells zPd.cs.toArray 67)
          have TH := hide (show (wr.alloc (.cells zPd.cs.toArray 67)).there wr.heap.size 0 22 from there_heap (cs := zPd.cs) g2)
          go_wp2_with (first | (refine wpList_load_mid rfl 67 (.tmp 116) (by rfl) pb (po + k * 22) (by rfl) p.cs _ (by exact RG.out) Try.underlying67 (by rfl) (by kernel_rfl) ?_) | (refine wpList_store_hid (by rfl) 67 (.tmp 14) (.tmp 117) (by rfl) wr.heap.size 0 p.cs (by rfl) (by rfl) (by exact TH.out) (by kernel_rfl) (by simp [Value.oneCell', Pd.cs, Iv.v, Fv.v]) ?_))
          intro w6 e6
          have s2 : Below wr.heap.size wr w6 := by rw [e6.out]; exact q2.trans (below_setCells (g := wr.heap.size) _ 0 _ (Nat.le_refl _))
          have P6 := hide (show w6.heap[wr.heap.size]? = some (.cells p.cs.toArray 67 (0, 0)) by rw [e6.out]; exact whole_heap p.cs (xs := zPd.cs) g2 rfl)
          have O6 := hide (hO.out.below s2)
          have B6 := hide (heap_below B5.out O6.out.q)
          have S6 := hide (FI.out _ O6.out.q p.id false hid)
          clear e6 TH g2 q2 s2 RG hO
          generalize wr.heap.size = pbx at *
          obtain ⟨⟨p0, _⟩, _⟩ := pd_cells P6.out
          go_wp2_with (refine wpList_load_row rfl 52 (.tmp 1) (by rfl) w.heap.size (by rfl) 52 c.cs.toArray (0, 0) _ (by exact B6.out) Try.underlying52 (by rfl) (by kernel_rfl) ?_)
          (with_reducible refine (S6.out).mono ?_)
          rintro e7 w7 ⟨⟨a, is, rfl, hf⟩, q7⟩
          have hai : a = k ∧ is = true := by
            rcases hf with ⟨h1, _, _⟩ | ⟨_, _, h2, h3⟩
            · rw [HC.out] at h1; cases h1
            · rw [h2, h3, HSO.out]; exact ⟨rfl, rfl⟩
          obtain ⟨rfl, rfl⟩ := hai
          have P7 := hide (heap_below P6.out q7)
          have O7 := hide (O6.out.below q7)
          have B7 := hide (heap_below B5.out O7.out.q)
          have S7 := hide (FI.out _ O7.out.q p.id true hid)
          clear hf q7 P6 O6 B6 S6 p0 HSO
          obtain ⟨⟨p0, _⟩, _⟩ := pd_cells P7.out
          go_wp2_with (refine wpList_load_row rfl 52 (.tmp 1) (by rfl) w.heap.size (by rfl) 52 c.cs.toArray (0, 0) _ (by exact B7.out) Try.underlying52 (by rfl) (by kernel_rfl) ?_)
          (with_reducible refine (S7.out).mono ?_)
          rintro e8 w8 ⟨⟨a, is, rfl, hf⟩, q8⟩
          have his : is = false := by
            rcases hf with ⟨_, _, h2⟩ | ⟨h1, _⟩
            · exact h2
            · cases h1
          subst his
          have O8 := hide (O7.out.below q8)
          obtain ⟨x0, x1⟩ := HGT.out _ O8.out
          clear hf q8 P7 O7 B7 S7 p0
          go_wp2_with fail
          all_goals (first | (exfalso; omega) | skip)
          go_roundw
          case rel => exact ⟨k + 1, by omega, by go_num, O8⟩
          case measure => simp [intOf]; omega
        · obtain rfl : k = c.l.length := by omega
          have A9 := hide (AL.out wr)
          have Q9 := hide (below_next Q5.out Q5.out.size hO.out.q)
          clear hO
          go_wp2_with fail
          (with_reducible refine (A9.out).mono ?_)
          rintro e7 w7 ⟨rfl, q7⟩
          have Q7 := hide (below_next Q9.out Q9.out.size q7)
          go_wp2_with fail
          go_ret
          exact ⟨rfl, Q7.out⟩
end Go.Proofs.Ytplpnnjjjfcibaa
