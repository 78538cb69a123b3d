/- The walk of PduBack. -/
import Derived.Test.YtplpnnjjjfcibaaPdY
namespace Go.Proofs.Ytplpnnjjjfcibaa
open Go.ChangeShapes Go.WideShapes Go.ChangeAt Go.RowKit
open SG PD

def memB (ls : List Int) (y : Int) : Bool := ls.any (fun x => x == y)
theorem memB_snoc (ls : List Int) (x : Int) : (fun y => if y = x then true else memB ls y) = memB (ls ++ [x]) := by
  funext y
  unfold memB
  rw [List.any_append]
  by_cases e : y = x
  · rw [if_pos e]; simp [e]
  · rw [if_neg e]
    have : (x == y) = false := by rw [beq_eq_false_iff_ne]; exact fun e2 => e e2.symm
    simp [this]
theorem memB_mem {ls : List Int} {y : Int} (h : y ∈ ls) : memB ls y = true := by
  unfold memB
  rw [List.any_eq_true]
  exact ⟨y, h, by simp⟩
/-- The keys of the map of all that are a signal's, or tell of a new one. -/
def keyN (L : Ly) : Nat → List Int
  | 0 => []
  | k + 1 => keyN L k ++ (plL (L.sgs.getD k dflt)).map (fun (p : Nat) => (p : Int)) ++ [L.nws.getD k 0]
theorem keyN_len (L : Ly) : ∀ k, (keyN L k).length ≤ 65 * k
  | 0 => by simp [keyN]
  | k + 1 => by
    have := keyN_len L k
    have h2 : (plL (L.sgs.getD k dflt)).length ≤ 64 := by
      by_cases h0 : plL (L.sgs.getD k dflt) = []
      · rw [h0]; simp
      · have := plL_length h0; omega
    rw [keyN, List.length_append, List.length_append, List.length_map, List.length_singleton]
    omega
theorem keyN_sg (L : Ly) {k : Nat} : ∀ {n : Nat}, k < n → ∀ p ∈ plL (L.sgs.getD k dflt), (p : Int) ∈ keyN L n
  | n + 1, h, p, hp => by
    rw [keyN]
    rcases Nat.lt_or_eq_of_le (Nat.le_of_lt_succ h) with h | h
    · exact List.mem_append.2 (.inl (List.mem_append.2 (.inl (keyN_sg L h p hp))))
    · subst h
      exact List.mem_append.2 (.inl (List.mem_append.2 (.inr (List.mem_map.2 ⟨p, hp, rfl⟩))))
theorem keyN_nw (L : Ly) {k : Nat} : ∀ {n : Nat}, k < n → L.nws.getD k 0 ∈ keyN L n
  | n + 1, h => by
    rw [keyN]
    rcases Nat.lt_or_eq_of_le (Nat.le_of_lt_succ h) with h | h
    · exact List.mem_append.2 (.inl (List.mem_append.2 (.inl (keyN_nw L h))))
    · subst h
      exact List.mem_append.2 (.inr (by simp))
theorem key_not {L : Ly} (hn : L.nws.length = L.sgs.length) {q : Nat} (h : memB (keyN L L.sgs.length) (q : Int) = false) : (∀ s ∈ L.sgs, q ∉ plL s) ∧ ∀ a ∈ L.nws, a ≠ (q : Int) := by
  constructor
  · intro s hs hq
    obtain ⟨i, hi, rfl⟩ := List.mem_iff_getElem.1 hs
    have hg : L.sgs.getD i dflt = L.sgs[i] := by rw [List.getD_eq_getElem?_getD, List.getElem?_eq_getElem hi]; rfl
    have := memB_mem (keyN_sg L hi q (by rw [hg]; exact hq))
    rw [h] at this
    cases this
  · intro a ha e
    obtain ⟨i, hi, rfl⟩ := List.mem_iff_getElem.1 ha
    have hg : L.nws.getD i 0 = L.nws[i] := by rw [List.getD_eq_getElem?_getD, List.getElem?_eq_getElem hi]; rfl
    have := memB_mem (keyN_nw L (show i < L.sgs.length by omega))
    rw [hg, e, h] at this
    cases this
theorem MSet.putL {W : World} {b : Nat} {ls : List Int} (h : MSet W b ls.length (memB ls)) (hn : ls.length < maxLen) (x : Int) (hx : (Lit.int .i64 x).wf = true) :
    ∃ W', (Instr.mapUpdate 33 (.map (some b)) (.int .i64 x) (.bool true)).run Try.prog W = .ok () W' ∧ MSet W' b (ls ++ [x]).length (memB (ls ++ [x])) ∧ W.grownBy W' (some b) := by
  obtain ⟨W', h1, h2, h3⟩ := h.put hn x hx true
  refine ⟨W', h1, ?_, h3⟩
  rw [memB_snoc] at h2
  simpa using h2
theorem i64_wfn {x : Int} (h0 : -1 ≤ x) (h1 : x ≤ 1000000) : (Lit.int .i64 x).wf = true := by
  simp [Lit.wf, IntKind.min, IntKind.max, IntKind.bits, IntKind.signed]; omega

set_option maxRecDepth 100000 in
set_option maxHeartbeats 8000000 in
theorem pduBack_walk (L0 : Ly) (A : Option Addr) (c : Nat) (B : Option Addr) (d : Nat) (vs : List Int) (nb : List Bool) (VA : Option Addr) (vc : Nat) (NA : Option Addr) (nc : Nat) (fill : UInt8) (w : World) (hA0 : SgR w w.heap.size A L0.sgs) (hB0 : InR w w.heap.size B L0.nws)
    (hV : InR w w.heap.size VA vs) (hN : BoR w w.heap.size NA nb) (hc0 : L0.sgs.length ≤ c) (hd0 : L0.nws.length ≤ d) (hvc : vs.length ≤ vc) (hnc : nb.length ≤ nc) (hvs : ∀ x ∈ vs, -9223372036854775808 ≤ x ∧ x < 9223372036854775808) :
    Calls Try.prog 4 #[.agg (lyV L0 A c B d), .slice VA vs.length vc, .slice NA nb.length nc, .int .u8 fill.toNat] w fun e w' => e = .returned (.bool true) ∧ Below w.heap.size w w' := by
  have FW := hide (fun W => few_any L0 A c B d W hc0 hd0)
  obtain ⟨L, hL⟩ : ∃ L, L = fewL L0 := ⟨_, rfl⟩
  have hA : SgR w w.heap.size A L.sgs := by
    have := hA0.take 20
    rw [← List.map_take] at this
    rw [hL]; exact this
  have hB : InR w w.heap.size B L.nws := by
    have := hB0.take 20
    unfold inRow at this
    rw [← List.map_take] at this
    rw [hL]; exact this
  have hl20 : L.sgs.length ≤ 20 := by rw [hL]; show (L0.sgs.take 20).length ≤ 20; rw [List.length_take]; omega
  have hn20 : L.nws.length ≤ 20 := by rw [hL]; show (L0.nws.take 20).length ≤ 20; rw [List.length_take]; omega
  have hc : L.sgs.length ≤ c := by rw [hL]; show (L0.sgs.take 20).length ≤ c; rw [List.length_take]; omega
  have hd : L.nws.length ≤ d := by rw [hL]; show (L0.nws.take 20).length ≤ d; rw [List.length_take]; omega
  rw [← hL] at FW
  have UP := hide (fun (W : World) (hb : Below w.heap.size w W) (s : ByteArray) (hz : s.size ≤ 10) => unpack_any L A c B d s W (Rd.next hA hb hb.size) (Rd.next hB hb hb.size) (by omega) (by omega) hc hd (by omega))
  have HA := hide hA
  have HB := hide hB
  have HV := hide hV
  have HN := hide hN
  have HVS := hide hvs
  have AL := hide (fun W => alive15_any W)
  clear hL hA0 hB0 hA hB hV hN hvs
  have q0 : Below w.heap.size w (w.alloc (.cells (lyV L0 A c B d) 25)) := (Below.refl _ _).alloc (Nat.le_refl _) _
  have B0 := hide (World.alloc_heap_new w (.cells (lyV L0 A c B d) 25))
  unfold lyV at *
  obtain ⟨c0, c1, c2⟩ := three_cells B0.out
  go_enter Try.func4, Try.ntmps4
  go_wp2_with fail
  (with_reducible refine (FW.out _).mono ?_)
  rintro e1 w1 ⟨rfl, q1⟩
  have B1 := hide (heap_below B0.out q1)
  have Q1 := hide (below_next q0 q0.size q1)
  clear q0 q1 B0 FW c0 c1 c2
  have TH := hide (show w1.there w.heap.size 0 3 from there_heap (cs := [_, _, _]) B1.out)
  go_wp2_with (refine wpList_store_hid (by rfl) 25 (.tmp 4) (.tmp 21) (by rfl) w.heap.size 0 [.int .i64 L.size, .slice A L.sgs.length c, .slice B L.nws.length d] (by rfl) (by rfl) (by exact TH.out) (by kernel_rfl) (by simp [Value.oneCell']) ?_)
  intro w2 e2
  have B2 := hide (show w2.heap[w.heap.size]? = some (.cells #[.int .i64 L.size, .slice A L.sgs.length c, .slice B L.nws.length d] 25 (0, 0)) by rw [e2.out]; exact whole_heap [.int .i64 L.size, .slice A L.sgs.length c, .slice B L.nws.length d] (xs := [_, _, _]) B1.out rfl)
  have Q2 := hide (show Below w.heap.size w w2 by rw [e2.out]; exact Q1.out.trans (below_setCells (g := w.heap.size) _ 0 _ (Nat.le_refl _)))
  clear TH e2 B1 Q1
  obtain ⟨c0, c1, c2⟩ := three_cells B2.out
  by_cases hok : packB L vs.length nb.length = true
  · have hok2 : rightB L = true ∧ vs.length = L.sgs.length ∧ nb.length = L.sgs.length := by
      unfold packB at hok
      simpa using hok
    obtain ⟨hr, hvl, hnl⟩ := hok2
    have PK := pack_in L A c B d vs nb VA vc NA nc fill w2 (Rd.next HA.out Q2.out Q2.out.size) (Rd.next HB.out Q2.out Q2.out.size) (by omega) (by omega) hc hd (Rd.next HV.out Q2.out Q2.out.size) (Rd.next HN.out Q2.out Q2.out.size) HVS.out hr hvl hnl hvc hnc
    unfold lyV at PK
    replace PK := hide PK
    have HVL := hide hvl
    have HBL := hide hnl
    clear hok hvl hnl
    go_wp2_with fail
    (with_reducible refine (PK.out).mono ?_)
    rintro e3 w3 ⟨hp, q3⟩
    have B3 := hide (heap_below B2.out q3)
    have Q3 := hide (below_next Q2.out Q2.out.size q3)
    clear q3 PK c0 c1 c2 B2 Q2
    obtain ⟨c0, c1, c2⟩ := three_cells B3.out
    rcases hp with ⟨hfit, rfl⟩ | ⟨hfit, rfl⟩
    · obtain ⟨t, ht⟩ : ∃ t : ByteArray, t = ⟨(packF L vs nb fill).toArray⟩ := ⟨_, rfl⟩
      have htl : t.data.toList = packF L vs nb fill := by rw [ht]
      have htz : (t.size : Int) = L.size := by
        rw [ht, size_ofL, packF_length]
        have := (right_iff.1 hr).1
        omega
      have hz8 : t.size ≤ 8 := by have := (right_iff.1 hr).2.1; omega
      have hwt : wellL L t.size = 0 := wellL_zero.2 ⟨hr, htz⟩
      have EV : unV L t.data.toList = vs := by rw [htl]; exact pack_vals hr vs nb fill HVL.out (fun v hv => (HVS.out v hv).2) hfit
      have EN : unN L t.data.toList = L.nws.map (newB (packF L vs nb fill)) := by rw [htl]; rfl
      have NW := hide (fun k (hk : k < L.nws.length) => pack_news hr vs nb fill hk)
      have HNL := hide ((right_iff.1 hr).2.2.2.1)
      have FILL := hide (fun (q : Nat) (hq : q < 8 * t.size) (hm : memB (keyN L L.sgs.length) (q : Int) = false) => show bitL t.data.toList q = fill.toNat.testBit (q % 8) from by
        rw [htl]
        obtain ⟨k1, k2⟩ := key_not HNL.out hm
        exact pack_fill hr vs nb fill (by omega) k1 k2)
      have UT := UP.out _ Q3.out t (by omega)
      unfold UnpV at UT
      rw [hwt, EV, EN] at UT
      replace UT := hide UT
      have HNR := hide (fun k (hk : k < L.nws.length) => show -1 ≤ L.nws[k] ∧ L.nws[k] < 64 from by have := (right_iff.1 hr).2.2.2.2.2.1 _ (List.getElem_mem hk); have := (right_iff.1 hr).2.1; omega)
      rw [← ht]
      generalize packF L vs nb fill = pf at *
      clear ht htl hwt EV EN hr hfit UP HVS
      have hvl2 : (vs.length : Int) = (L.sgs.length : Int) := by rw [HVL.out]
      have hnl2 : (nb.length : Int) = (L.sgs.length : Int) := by rw [HBL.out]
      have hnn2 : (L.nws.length : Int) = (L.sgs.length : Int) := by rw [HNL.out]
      go_wp2_with fail
      (with_reducible refine (UT.out).mono ?_)
      rintro e4 w4 ⟨hu, q4⟩
      rcases hu with ⟨hx, _⟩ | ⟨_, XA, xc, YA, yc, rfl, ox, oy⟩
      · exact absurd rfl hx
      have Q4 := hide (below_next Q3.out Q3.out.size q4)
      have B4 := hide (heap_below B3.out q4)
      have RX := hide (inOwn_rd ox)
      have RY := hide (boOwn_rd oy)
      clear q4 c0 c1 c2 B3 ox oy UT Q3
      obtain ⟨c0, c1, c2⟩ := three_cells B4.out
      go_wp2_with fail
      (with_reducible refine (AL.out _).mono ?_)
      rintro e5 w5 ⟨rfl, q5⟩
      have Q5 := hide (below_next Q4.out Q4.out.size q5)
      have B5 := hide (heap_below B4.out q5)
      have RX5 := hide (Rd.next RX.out q5 q5.size)
      have RY5 := hide (Rd.next RY.out q5 q5.size)
      clear q5 c0 c1 c2 B4 Q4 RX RY
      obtain ⟨c0, c1, c2⟩ := three_cells B5.out
      have hmm := @run_makeMap Try.prog
      have zmb : w.heap.size ≤ w5.heap.size := Q5.out.size
      have M0 : Hid (MSet (w5.alloc (.map #[] 0)) w5.heap.size (keyN L 0).length (memB (keyN L 0))) := hide (MSet.made w5)
      have qm : Below w5.heap.size w5 (w5.alloc (.map #[] 0)) := (Below.refl _ _).alloc (Nat.le_refl _) _
      have B6 := hide (heap_below B5.out qm)
      have Q6 := hide (below_next Q5.out Q5.out.size qm)
      have RX6 := hide (Rd.more (Rd.below RX5.out qm) qm.size)
      have RY6 := hide (Rd.more (Rd.below RY5.out qm) qm.size)
      obtain ⟨d0, d1, d2⟩ := three_cells B6.out
      clear RX5 RY5 B5 Q5 c0 c1 c2
      go_wp2_with fail
      clear hmm d0 d1 d2 qm
      generalize w5.heap.size = mb at *
      generalize w5.alloc (.map #[] 0) = w6 at *
      have KL := hide (keyN_len L)
      go_loopw [98] (fun vi W => ∃ k : Nat, k ≤ L.sgs.length ∧ vi = .int .i64 k ∧ Hid (MSet W mb (keyN L k).length (memB (keyN L k))) ∧ Hid (InR W w6.heap.size XA vs) ∧ Hid (BoR W w6.heap.size YA (L.nws.map (newB pf))) ∧ w6.heap.size ≤ W.heap.size ∧ Hid (W.heap[w.heap.size]? = some (.cells #[.int .i64 L.size, .slice A L.sgs.length c, .slice B L.nws.length d] 25 (0, 0))) ∧ Hid (Below w.heap.size w W)) (fun vi _ => L.sgs.length - (intOf vi).toNat)
      case atStart => exact ⟨0, Nat.zero_le _, rfl, M0, RX6, RY6, Nat.le_refl _, B6, Q6⟩
      case round =>
        obtain ⟨k, hk, rfl, hM, hX, hY, hz, hB, hQ⟩ := hrel
        clear M0 RX6 RY6 B6 Q6
        by_cases hlt : k < L.sgs.length
        · have hkn : k < L.nws.length := by rw [HNL.out]; exact hlt
          have hkv : k < vs.length := by rw [HVL.out]; exact hlt
          have hkb : k < nb.length := by rw [HBL.out]; exact hlt
          have hkm : k < (L.nws.map (newB pf)).length := by simpa using hkn
          have NWK := NW.out k hkn
          have hnr := HNR.out k hkn
          have gs : L.sgs.getD k dflt = L.sgs[k] := by simp [List.getD_eq_getElem?_getD, hlt]
          have gn : L.nws.getD k 0 = L.nws[k] := by simp [List.getD_eq_getElem?_getD, hkn]
          have gb : nb.getD k false = nb[k] := by simp [List.getD_eq_getElem?_getD, hkb]
          have KN : keyN L (k + 1) = keyN L k ++ (plL (L.sgs.getD k dflt)).map (fun (p : Nat) => (p : Int)) ++ [L.nws.getD k 0] := rfl
          rw [gs, gn] at KN
          rw [gb] at NWK
          have KNH := hide KN
          have KLK := KL.out k
          obtain ⟨ab, ao, rfl, hab, s0, s1, s2, s3⟩ := SgR.at_ (Rd.below HA.out hQ.out) hlt
          obtain ⟨vb, vo, rfl, hvb, v0⟩ := InR.at_ (Rd.below HV.out hQ.out) hkv
          obtain ⟨bb, bo, rfl, hbb, b0⟩ := BoR.at_ (Rd.below HN.out hQ.out) hkb
          obtain ⟨nbk, no, rfl, hnbk, nW0⟩ := InR.at_ HB.out hkn
          have nW := hide nW0
          have n0 := cellBelow hQ.out hnbk nW0
          clear nW0
          obtain ⟨xb, xo, rfl, hxb, x0⟩ := InR.at_ hX.out hkv
          obtain ⟨yb, yo, rfl, hyb, y0⟩ := BoR.at_ hY.out hkm
          rw [List.getElem_map] at y0
          have hki : (k : Int) < (L.sgs.length : Int) := by omega
          have hkni : (k : Int) < (L.nws.length : Int) := by omega
          have hkvi : (k : Int) < (vs.length : Int) := by omega
          have hkbi : (k : Int) < (nb.length : Int) := by omega
          have zW : w.heap.size < wr.heap.size := heap_lt hB.out
          have RP := hide (fun W => refPlaces_any L.sgs[k] W)
          generalize vs[k] = v at *
          generalize nb[k] = b at *
          generalize L.nws[k] = a at *
          generalize newB pf a = nv at *
          generalize L.sgs[k] = S at *
          clear gs gn gb KN NW HNR KL hkn hkv hkb hkm
          have th := hide (show (wr.alloc (.cells #[.int .i64 0, .int .i64 0, .bool false, .bool false] 36)).there wr.heap.size 0 4 from there_heap (cs := [_, _, _, _]) (World.alloc_heap_new wr _))
          go_wp2_with (refine wpList_store_hid (by rfl) 36 (.tmp 16) (.tmp 102) (by rfl) wr.heap.size 0 [.int .i64 S.start, .int .i64 S.width, .bool S.big, .bool S.sgn] (by rfl) (by rfl) (by exact th.out) (by kernel_rfl) (by simp [Value.oneCell']) ?_)
          intro w7 e7
          have bs := hide (show w7.heap[wr.heap.size]? = some (.cells #[.int .i64 S.start, .int .i64 S.width, .bool S.big, .bool S.sgn] 36 (0, 0)) by rw [e7.out]; exact whole_heap [.int .i64 S.start, .int .i64 S.width, .bool S.big, .bool S.sgn] (xs := [_, _, _, _]) (World.alloc_heap_new wr _) rfl)
          have qb : Below wr.heap.size wr w7 := by
            rw [e7.out]
            exact ((Below.refl _ _).alloc (Nat.le_refl _) _).trans (below_setCells (g := wr.heap.size) _ 0 _ (Nat.le_refl _))
          have B7 := hide (heap_below hB.out qb)
          have Q7 := hide (below_next hQ.out hQ.out.size qb)
          have M7 := hide (hM.out.below qb)
          have X7 := hide (Rd.below hX.out (qb.mono hz))
          have Y7 := hide (Rd.below hY.out (qb.mono hz))
          have z7 : wr.heap.size < w7.heap.size := heap_lt bs.out
          have v1 := cellBelow qb (by omega : vb < wr.heap.size) v0
          have b1 := cellBelow qb (by omega : bb < wr.heap.size) b0
          have n1 := cellBelow qb (by omega : nbk < wr.heap.size) n0
          have x1 := cellBelow qb (by omega : xb < wr.heap.size) x0
          have y1 := cellBelow qb (by omega : yb < wr.heap.size) y0
          clear th e7 qb hB hQ hM hX hY s0 s1 s2 s3 v0 b0 n0 x0 y0
          obtain ⟨c0, c1, c2⟩ := three_cells B7.out
          obtain ⟨s0, s1, s2, s3⟩ := sg_cells bs.out
          go_wp2_with fail
          clear c0 c1 c2
          go_cut [98, 130] from 98 to 147 (fun vi v W => vi = .int .i64 k ∧ v = .bool false ∧ Hid (Below w7.heap.size w7 W))
          case first =>
            clear s0 s1 s2 s3 M7 X7 Y7 RP KNH FILL
            obtain ⟨c0, c1, c2⟩ := three_cells B7.out
            have f1 := fun s : InW w7 => s.cell (by omega : vb < w7.heap.size) v1
            have f2 := fun s : InW w7 => s.cell (by omega : bb < w7.heap.size) b1
            have f3 := fun s : InW w7 => s.cell (by omega : nbk < w7.heap.size) n1
            have f4 := fun s : InW w7 => s.cell (by omega : xb < w7.heap.size) x1
            have f5 := fun s : InW w7 => s.cell (by omega : yb < w7.heap.size) y1
            have f6 := fun s : InW w7 => s.cell (by omega : w.heap.size < w7.heap.size) c2
            clear v1 b1 n1 x1 y1 c0 c1 c2
            cases b with
            | true =>
              have hnv : nv = true := by rw [NWK]; rfl
              subst hnv
              clear NWK
              refine wp_region_tame (by kernel_rfl) (by kernel_rfl) ?_
              repeat (go_big_quiet_step (fail))
              refine wpQuiet_nil ?_
              rintro _ ⟨sw, rfl⟩
              clear f1 f2 f3 f4 f5 f6
              have qs := hide sw.h
              go_wp2_with fail
              go_meet
              exact ⟨rfl, rfl, qs⟩
            | false =>
              have hnv : decide (a < 0) = nv := by rw [NWK]; simp
              clear NWK
              refine wp_region_tame (by kernel_rfl) (by kernel_rfl) ?_
              repeat (go_big_quiet_step (fail))
              refine wpQuiet_nil ?_
              rintro _ ⟨sw, rfl⟩
              clear f1 f2 f3 f4 f5 f6
              have qs := hide sw.h
              go_wp2_with fail
              go_meet
              exact ⟨rfl, rfl, qs⟩
          case rest =>
            obtain ⟨rfl, rfl, hq⟩ := hcut
            have B8 := hide (heap_below B7.out hq.out)
            have Q8 := hide (below_next Q7.out Q7.out.size hq.out)
            have M8 := hide (M7.out.below hq.out)
            have hz7 : w6.heap.size ≤ w7.heap.size := Nat.le_trans hz (Nat.le_of_lt z7)
            have X8 := hide (Rd.below X7.out (hq.out.mono hz7))
            have Y8 := hide (Rd.below Y7.out (hq.out.mono hz7))
            have bs8 := hide (heap_below bs.out hq.out)
            have n2 := hide (cellBelow hq.out (by omega : nbk < w7.heap.size) n1)
            have hz8 := hq.out.size
            clear s0 s1 s2 s3 M7 X7 Y7 B7 Q7 v1 b1 n1 x1 y1 bs hq NWK
            obtain ⟨s0, s1, s2, s3⟩ := sg_cells bs8.out
            go_wp2_with fail
            (with_reducible refine (RP.out _).mono ?_)
            rintro e9 w9 ⟨⟨PA, pc, rfl, hP⟩, q9⟩
            have B9 := hide (heap_below B8.out q9)
            have Q9 := hide (below_next Q8.out Q8.out.size q9)
            have M9 := hide (M8.out.below q9)
            have X9 := hide (Rd.below X8.out (q9.mono (Nat.le_trans hz7 hz8)))
            have Y9 := hide (Rd.below Y8.out (q9.mono (Nat.le_trans hz7 hz8)))
            have n3 := hide (cellBelow q9 (by omega : nbk < wc.heap.size) n2.out)
            have RP9 := hide hP
            have hz9 := q9.size
            clear s0 s1 s2 s3 M8 X8 Y8 B8 Q8 n2 bs8 q9 hP RP
            obtain ⟨l, hl⟩ : ∃ l, l = plL S := ⟨_, rfl⟩
            have hll : l.length ≤ 64 := by
              rw [hl]
              by_cases h0 : plL S = []
              · rw [h0]; simp
              · have := plL_length h0; omega
            have PLT := hide (fun p (hp : p ∈ l) => show p < 64 from plL_lt (s := S) (by rw [← hl]; exact hp))
            rw [← hl] at RP9 KNH ⊢
            clear hl
            have MS0 : Hid (MSet w9 mb (keyN L k ++ (l.take 0).map (fun (p : Nat) => (p : Int))).length (memB (keyN L k ++ (l.take 0).map (fun (p : Nat) => (p : Int))))) := hide (by have := M9.out; simpa using this)
            have hz69 : w6.heap.size ≤ w9.heap.size := by omega
            clear M9
            go_wp2_with fail
            go_loopw [134] (fun vj W => ∃ j : Nat, j ≤ l.length ∧ vj = .int .i64 j ∧ Hid (MSet W mb (keyN L k ++ (l.take j).map (fun (p : Nat) => (p : Int))).length (memB (keyN L k ++ (l.take j).map (fun (p : Nat) => (p : Int))))) ∧ Hid (NR W w9.heap.size PA l) ∧ Hid (InR W w6.heap.size (some ⟨xb, xo, none⟩) vs) ∧ Hid (BoR W w6.heap.size (some ⟨yb, yo, none⟩) (L.nws.map (newB pf))) ∧ Hid (W.heap[w.heap.size]? = some (.cells #[.int .i64 L.size, .slice (some ⟨ab, ao, none⟩) L.sgs.length c, .slice (some ⟨nbk, no, none⟩) L.nws.length d] 25 (0, 0))) ∧ Hid (Below w.heap.size w W) ∧ w9.heap.size ≤ W.heap.size) (fun vj _ => l.length - (intOf vj).toNat)
            case atStart => exact ⟨0, Nat.zero_le _, rfl, MS0, RP9, X9, Y9, B9, Q9, Nat.le_refl _⟩
            case round =>
              obtain ⟨j, hj, rfl, hM, hR, hX, hY, hB, hQ, hz2⟩ := hrel
              clear MS0 RP9 B9 Q9 X9 Y9
              have hlen : (keyN L k ++ (l.take j).map (fun (p : Nat) => (p : Int))).length ≤ 65 * k + 64 := by
                rw [List.length_append, List.length_map, List.length_take]
                omega
              by_cases hjl : j < l.length
              · obtain ⟨pb3, po3, rfl, hpb3, p0⟩ := hR.out.at_ hjl
                have hlp := PLT.out l[j] (List.getElem_mem hjl)
                have KT : keyN L k ++ (l.take j).map (fun (p : Nat) => (p : Int)) ++ [(l[j] : Int)] = keyN L k ++ (l.take (j + 1)).map (fun (p : Nat) => (p : Int)) := by
                  rw [List.take_succ_eq_append_getElem hjl, List.map_append, List.append_assoc]
                  rfl
                obtain ⟨W2, hput, ms2, hg2⟩ := hM.out.putL (by unfold maxLen; omega) (l[j] : Int) (i64_wf (by omega) (by omega))
                rw [KT] at ms2
                have MS2 := hide ms2
                have R2 := hide (rd_mset hM.out hg2 hz2 hR.out)
                have X2 := hide (rd_mset hM.out hg2 (Nat.le_trans hz69 hz2) hX.out)
                have Y2 := hide (rd_mset hM.out hg2 (Nat.le_trans hz69 hz2) hY.out)
                have B11 := hide (heap_mset hM.out hg2 hB.out)
                have Q11 := hide (hQ.out.grown hg2 hQ.out.size (fun j e => by cases e; omega))
                have hz3 : w9.heap.size ≤ W2.heap.size := Nat.le_trans hz2 hg2.size
                have hji : (j : Int) < (l.length : Int) := by omega
                clear ms2 hg2 hM hR hB hQ hX hY hpb3 KT
                generalize l[j] = pj at *
                go_wp2_with fail
                go_roundw
                case rel => exact ⟨j + 1, by omega, by go_num, MS2, R2, X2, Y2, B11, Q11, hz3⟩
                case measure => simp [intOf]; omega
              · obtain rfl : j = l.length := by omega
                rw [List.take_of_length_le (Nat.le_refl _)] at hlen hM
                obtain ⟨W2, hput, ms2, hg2⟩ := hM.out.putL (by unfold maxLen; omega) a (i64_wfn (by omega) (by omega))
                rw [← KNH.out] at ms2
                have MS2 := hide ms2
                have X2 := hide (rd_mset hM.out hg2 (Nat.le_trans hz69 hz2) hX.out)
                have Y2 := hide (rd_mset hM.out hg2 (Nat.le_trans hz69 hz2) hY.out)
                have B11 := hide (heap_mset hM.out hg2 hB.out)
                have Q11 := hide (hQ.out.grown hg2 hQ.out.size (fun j e => by cases e; omega))
                have hz3 : w6.heap.size ≤ W2.heap.size := Nat.le_trans (Nat.le_trans hz69 hz2) hg2.size
                obtain ⟨c0, c1, c2⟩ := three_cells hB.out
                have n4 := cellBelow hQ.out hnbk nW.out
                clear ms2 hg2 hM hR hB hQ hX hY hlen
                go_wp2_with fail
                go_roundw
                case rel => exact ⟨k + 1, by omega, by go_num, MS2, X2, Y2, hz3, B11, Q11⟩
                case measure => simp [intOf]; omega
        · obtain rfl : k = L.sgs.length := by omega
          clear hX hY NW HNR KL
          obtain ⟨c0, c1, c2⟩ := three_cells hB.out
          go_wp2_with fail
          clear c0 c1 c2
          have hBx := hB
          go_loopw [151] (fun vx W => ∃ x : Nat, x ≤ 8 * t.size ∧ vx = .int .i64 x ∧ Hid (Below wr.heap.size wr W)) (fun vx _ => 8 * t.size - (intOf vx).toNat)
          case atStart => exact ⟨0, Nat.zero_le _, rfl, hide (Below.refl _ _)⟩
          case round =>
            obtain ⟨x, hx, rfl, hq⟩ := hrel
            by_cases hx8 : x < 8 * t.size
            · have hM2 := hide (hM.out.below hq.out)
              have hxi : (x : Int) < 8 * (t.size : Int) := by omega
              have hxb : (x : Int) ≤ 64 := by omega
              obtain ⟨j, hj⟩ : ∃ j, j = x % 8 := ⟨_, rfl⟩
              have hj8 : j < 8 := by omega
              have hji : (x : Int) % 8 = (j : Int) := by omega
              have hjt : (x : Int).tmod 8 = (j : Int) := by rw [Int.tmod_eq_emod_of_nonneg (by omega)]; exact hji
              have hj8i : (j : Int) ≤ 8 := by omega
              have FX := FILL.out x hx8
              rw [← hj] at FX
              have BB := byte_bit ⟨fill.toNat, UInt8.toNat_lt _⟩ ⟨j, hj8⟩
              dsimp only at BB
              have RA := hide (fun W => refBit_any t x W hx8 (by omega))
              have GET := hide (fun s : InW wr => (hM2.out.below s.h).get (x : Int) (i64_wf (by omega) (by omega)))
              clear FILL hj
              cases hin : memB (keyN L L.sgs.length) (x : Int) with
              | true =>
                rw [hin] at GET
                clear hin FX BB RA
                go_wp2_with fail
                have f1 := GET.out
                refine wp_region_tame (by kernel_rfl) (by kernel_rfl) ?_
                repeat (go_big_quiet_step (fail))
                refine wpQuiet_nil ?_
                rintro _ ⟨sw, rfl⟩
                clear f1
                have hq2 := hide (below_next hq.out hq.out.size sw.h)
                go_wp2_with fail
                go_roundw
                case rel => exact ⟨x + 1, by omega, by go_num, hq2⟩
                case measure => simp [intOf]; omega
              | false =>
                have fx := FX hin
                rw [fx] at RA
                obtain ⟨z, hzz⟩ : ∃ z : Int, z = if fill.toNat.testBit j = true then 1 else 0 := ⟨_, rfl⟩
                rw [← hzz] at RA BB
                have HZ := hide hzz
                clear hzz
                rw [hin] at GET
                have hz1 : 0 ≤ z ∧ z ≤ 1 := by rw [HZ.out]; split <;> omega
                have hwz : wrap64 z = z := by unfold wrap64; omega
                clear hin FX fx HZ
                go_wp2_with fail
                have f1 := GET.out
                have f2 := fun s : InW wr => RA.out s.W
                refine wp_region_tame (by kernel_rfl) (by kernel_rfl) ?_
                repeat (go_big_quiet_step ((go_at_call 14; exact tame_same (RA.out _))))
                refine wpQuiet_nil ?_
                rintro _ ⟨sw, rfl⟩
                clear f1 f2
                have hq2 := hide (below_next hq.out hq.out.size sw.h)
                go_wp2_with fail
                go_roundw
                case rel => exact ⟨x + 1, by omega, by go_num, hq2⟩
                case measure => simp [intOf]; omega
            · have hnl : ¬ (x : Int) < 8 * (t.size : Int) := by omega
              have Qf := hide (below_next hQ.out hQ.out.size hq.out)
              go_wp2_with fail
              go_ret
              exact ⟨rfl, Qf.out⟩
    · clear hfit UP
      go_wp2_with fail
      (with_reducible refine (AL.out _).mono ?_)
      rintro e4 w4 ⟨rfl, q4⟩
      have Q4 := hide (below_next Q3.out Q3.out.size q4)
      clear q4
      go_wp2_with fail
      go_ret
      exact ⟨rfl, Q4.out⟩
  · have hok2 : packB L vs.length nb.length = false := by simpa using hok
    have PK := pack_bad L A c B d vs.length nb.length VA vc NA nc fill w2 (Rd.next HA.out Q2.out Q2.out.size) (Rd.next HB.out Q2.out Q2.out.size) (by omega) (by omega) hc hd hok2
    unfold lyV at PK
    replace PK := hide PK
    clear hok hok2
    go_wp2_with fail
    (with_reducible refine (PK.out).mono ?_)
    rintro e3 w3 ⟨rfl, q3⟩
    have Q3 := hide (below_next Q2.out Q2.out.size q3)
    clear q3 PK c0 c1 c2
    go_wp2_with fail
    (with_reducible refine (AL.out _).mono ?_)
    rintro e4 w4 ⟨rfl, q4⟩
    have Q4 := hide (below_next Q3.out Q3.out.size q4)
    clear q4
    go_wp2_with fail
    go_ret
    exact ⟨rfl, Q4.out⟩
end Go.Proofs.Ytplpnnjjjfcibaa
