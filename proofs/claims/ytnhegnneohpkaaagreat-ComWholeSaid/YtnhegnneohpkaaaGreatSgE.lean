/- The walk of signal.Put. -/
import Derived.Test.YtnhegnneohpkaaaGreatMgSgD
namespace Go.Proofs.YtnhegnneohpkaaaGreat
open Go.ChangeShapes Go.WideShapes Go.ChangeAt Go.RowKit
open SG

/-- What Put answers. -/
def putE (s : Sg) (n : Nat) (v : Int) : Int := if wellF n s ≠ 0 then wellF n s else if fitsB s v = true then 0 else 32
def putV (d : ByteArray) (s : Sg) (v : Int) : ByteArray := if putE s d.size v = 0 then ⟨(putF d.data.toList (plL s) v).toArray⟩ else ⟨#[]⟩
theorem well_zero {n : Int} {s : Sg} (h : wellF n s = 0) : plL s ≠ [] ∧ n ≤ 8 ∧ rightS s n = true := by
  unfold wellF at h
  by_cases h1 : plL s = []
  · rw [if_pos h1] at h; omega
  · rw [if_neg h1] at h
    by_cases h2 : 8 < n ∨ rightS s n = false
    · rw [if_pos h2] at h; omega
    · refine ⟨h1, by omega, ?_⟩
      cases hr : rightS s n with
      | true => rfl
      | false => exact absurd (.inr hr) h2
theorem well_cases (n : Int) (s : Sg) : wellF n s = 0 ∨ wellF n s = 1 ∨ wellF n s = 23 := by
  unfold wellF
  split
  · exact .inr (.inl rfl)
  · split
    · exact .inr (.inr rfl)
    · exact .inl rfl

set_option maxRecDepth 100000 in
set_option maxHeartbeats 4000000 in
theorem put_ok (d : ByteArray) (s : Sg) (v : Int) (w : World) (hd : d.size ≤ 1000000) (hv1 : -9223372036854775808 ≤ v) (hv2 : v < 9223372036854775808) (hw : wellF d.size s = 0) (hf : fitsB s v = true) :
    Calls Tryz.prog 73 #[.string d, .agg #[.int .i64 s.start, .int .i64 s.width, .bool s.big, .bool s.sgn], .int .i64 v] w fun e w' => e = .returned (.tuple #[.string ⟨(putF d.data.toList (plL s) v).toArray⟩, .int .i64 0]) ∧ Below w.heap.size w w' := by
  obtain ⟨hne, hd8, hrs⟩ := well_zero hw
  have WL := hide (fun W => sigWell_any d s W hd)
  rw [hw] at WL
  have FT := hide (fun W => fits_any s v W hv1 hv2 hne)
  rw [hf] at FT
  have PS := hide (fun W => places_own s W hne)
  have HP := hide (fun p (hp : p ∈ plL s) => show p < 8 * d.size from by have := (rightS_iff.1 hrs).2.2.2 p hp; omega)
  have hll := (plL_length hne).1
  have hl64 : (plL s).length ≤ 64 := by have := plL_length hne; omega
  have PF := hide (show putF d.data.toList (plL s) v = putN d.data.toList (plL s) v (plL s).length from rfl)
  rw [PF.out]
  clear PF hne hrs hw hf hll
  generalize plL s = l at *
  have hds : d.data.toList.length = d.size := by simp
  obtain ⟨st, wd, bg, sg⟩ := s
  dsimp only at *
  have q0 : Below w.heap.size w (w.alloc (.cells #[.int .i64 st, .int .i64 wd, .bool bg, .bool sg] 23)) := (Below.refl _ _).alloc (Nat.le_refl _) _
  have B0 := hide (World.alloc_heap_new w (.cells #[.int .i64 st, .int .i64 wd, .bool bg, .bool sg] 23))
  go_enter Tryz.func73, Tryz.ntmps73
  go_wp2_with fail
  (with_reducible refine (WL.out _).mono ?_)
  rintro e1 w1 ⟨rfl, q1⟩
  have Q1 := hide (below_next q0 q0.size q1)
  have B1 := hide (heap_below B0.out q1)
  clear q0 q1 B0 WL
  obtain ⟨c0, c1, c2, c3⟩ := sg_cells (s := ⟨st, wd, bg, sg⟩) B1.out
  dsimp only at c0 c1 c2 c3
  go_wp2_with fail
  (with_reducible refine (FT.out _).mono ?_)
  rintro e2 w2 ⟨rfl, q2⟩
  have Q2 := hide (below_next Q1.out Q1.out.size q2)
  have B2 := hide (heap_below B1.out q2)
  clear Q1 q2 B1 FT c0 c1 c2 c3
  have hcap : d.size ≤ grownCap w2 d.size 0 5 := grownCap_ge _ _ _ _
  have hcv := run_bytes_of_string (P := Tryz.prog) w2 9 132 5 d Tryz.underlying9 Tryz.underlying132 Tryz.underlying5
  have Y3 := hide (ByB.made w2.drew d _ hcap)
  generalize grownCap w2 d.size 0 5 = cap at *
  have q3 : Below w2.heap.size w2 (w2.drew.alloc (.cells (bytesRow d cap) 5 ((bytesRow d cap).size, (bytesRow d cap).size + 1))) := (Below.refl _ _).drew.alloc (Nat.le_refl _) _
  have B3 := hide (heap_below B2.out q3)
  have Q3 := hide (below_next Q2.out Q2.out.size q3)
  generalize hw3 : w2.drew.alloc (.cells (bytesRow d cap) 5 ((bytesRow d cap).size, (bytesRow d cap).size + 1)) = w3 at *
  obtain ⟨c0, c1, c2, c3⟩ := sg_cells (s := ⟨st, wd, bg, sg⟩) B3.out
  dsimp only at c0 c1 c2 c3
  obtain ⟨d0, d1, d2, d3⟩ := sg_cells (s := ⟨st, wd, bg, sg⟩) B2.out
  dsimp only at d0 d1 d2 d3
  go_wp2_with fail
  (with_reducible refine (PS.out _).mono ?_)
  rintro e4 w4 ⟨g, c, rfl, ho, q4⟩
  have O4 := hide ho
  have Y4 := hide ((hw3 ▸ Y3.out : ByB w3 w2.heap.size d.data.toList).below q4)
  have Q4 := hide (below_next Q3.out Q3.out.size q4)
  have hgb : w2.heap.size < w3.heap.size := (hw3 ▸ Y3.out : ByB w3 w2.heap.size d.data.toList).lt
  have hgw : w.heap.size ≤ w2.heap.size := Q2.out.size
  clear ho q4 Q3 B3 hw3 Y3 c0 c1 c2 c3 d0 d1 d2 d3 B2 q3 hcv PS
  generalize w2.heap.size = gb at *
  go_wp2_with fail
  go_loopw [28] (fun vi W => ∃ k : Nat, k ≤ l.length ∧ vi = .int .i64 k ∧ Hid (ByB W gb (putN d.data.toList l v k)) ∧ Hid (Own W w3.heap.size 3 1 (some ⟨g, 0, none⟩) c (rowN l)) ∧ Hid (Below w.heap.size w W)) (fun vi _ => l.length - (intOf vi).toNat)
  case atStart => exact ⟨0, Nat.zero_le _, rfl, Y4, O4, Q4⟩
  case round =>
    obtain ⟨k, hk, rfl, hY, hO, hQ⟩ := hrel
    clear Y4 O4 Q4
    by_cases hlt : k < l.length
    · have hp := HP.out l[k] (List.getElem_mem hlt)
      have hml := putN_length d.data.toList l v k
      have NX := hide (show putN d.data.toList l v (k + 1) = setB (putN d.data.toList l v k) l[k] (vbit v k) by rw [putN]; congr 1; simp [List.getD_eq_getElem?_getD, hlt])
      generalize putN d.data.toList l v k = m at *
      obtain ⟨ck, fk⟩ := nOwn_cell hO.out hlt
      generalize l[k] = p at *
      obtain ⟨a, ha⟩ : ∃ a, a = p / 8 := ⟨_, rfl⟩
      obtain ⟨j, hj⟩ : ∃ j, j = p % 8 := ⟨_, rfl⟩
      have ham : a < m.length := by omega
      have hj8 : j < 8 := by omega
      have hai : (p : Int) / 8 = (a : Int) := by omega
      have hji : (p : Int) % 8 = (j : Int) := by omega
      obtain ⟨ca, fa⟩ := hY.out.cell ham
      obtain ⟨b, hb⟩ : ∃ b, b = vbit v k := ⟨_, rfl⟩
      obtain ⟨bi, hbi⟩ : ∃ bi : Int, bi = if b then 1 else 0 := ⟨_, rfl⟩
      have hb1 : 0 ≤ bi := by rw [hbi]; split <;> omega
      have hb2 : bi ≤ 1 := by rw [hbi]; split <;> omega
      have HBI := hide hbi
      have hand : bits .and .i64 (v / 2 ^ k) 1 = bi := by
        rw [and_one_i64, hbi, hb]
        unfold vbit
        have := Int.emod_two_eq (v / 2 ^ k)
        by_cases h1 : v / 2 ^ k % 2 = 1
        · rw [if_pos (by simpa using h1)]; exact h1
        · rw [if_neg (by simpa using h1)]; omega
      have NX2 := hide (show putN d.data.toList l v (k + 1) = m.set a (UInt8.ofNat (setN m[a].toNat j b)) by
        rw [NX.out]; unfold setB; rw [← ha, ← hj, ← hb]
        congr 3
        simp [List.getD_eq_getElem?_getD, ham])
      have hx : m[a].toNat < 256 := UInt8.toNat_lt _
      have BS := byte_set ⟨m[a].toNat, hx⟩ ⟨j, hj8⟩ b
      have SL := setN_lt ⟨m[a].toNat, hx⟩ ⟨j, hj8⟩ b
      dsimp only at BS SL
      rw [← hbi] at BS
      have eU : (UInt8.ofNat (setN m[a].toNat j b)).toNat = setN m[a].toNat j b := by rw [UInt8.toNat_ofNat', Nat.mod_eq_of_lt SL]
      have hwu : ∀ z : Int, IntKind.u8.wrap z = z % 256 := fun z => by simp [IntKind.wrap, IntKind.bits, IntKind.signed]
      have SETS := hide (fun (W : World) (h : ByB W gb m) => show ByB (W.setCell ⟨gb, a, none⟩ (.int .u8 (bits .or .u8 (bits .andNot .u8 (m[a].toNat : Int) (2 ^ j % 256)) (bi * 2 ^ j % 256)))) gb (putN d.data.toList l v (k + 1)) from by
        have YN := h.set ham (UInt8.ofNat (setN m[a].toNat j b))
        rw [← NX2.out, eU, ← BS, hwu, hwu] at YN
        exact YN)
      have hk64 : (k : Int) ≤ 64 := by omega
      have hwa : IntKind.i64.wrap (a : Int) = (a : Int) := IntWalk.i64_in _ (by omega)
      have hjt : (p : Int).tmod 8 = (j : Int) := by rw [Int.tmod_eq_emod_of_nonneg (by omega)]; exact hji
      have had : (a : Int) < (d.size : Int) := by omega
      have hj8i : (j : Int) ≤ 8 := by omega
      have CA := hide (fun (W : World) (h : ByB W gb m) => (h.cell ham))
      clear NX hb ha hj HP fa ca BS SL eU NX2 hx hbi HBI hml hwu
      generalize (m[a].toNat : Int) = x at *
      go_wp2_with fail
      refine wp_region_L [0, 1, 2, 3, 4, 5, 6, 7, 8, 9, 10, 11, 12, 13, 14, 15, 16] [(7, fun W => W.cell? ⟨gb, a, none⟩ = some (.int .u8 x))] (by kernel_rfl) ?_
      replace hY : Hid (ByB wr.drew gb m) := hide hY.out.drew
      replace hO : Hid (Own wr.drew w3.heap.size 3 1 (some ⟨g, 0, none⟩) c (rowN l)) := hide hO.out.drew
      replace hQ : Hid (Below w.heap.size w wr.drew) := hide hQ.out.drew
      clear ck fk hand
      generalize wr.drew = wx at *
      have ca := hide (CA.out _ hY.out).1
      refine wpAnyL_pure (i := 0) (v := .slice (some ⟨gb, 0, none⟩) d.size cap) rfl rfl (by kernel_rfl) (by kernel_rfl) (by kernel_rfl) (by kernel_rfl) (by kernel_rfl) (fun _ _ _ h => h) rfl (fun W => by go_simp) ?_
      go_simp
      refine wpAnyL_pure (i := 1) (v := .int .i64 p) rfl rfl (by kernel_rfl) (by kernel_rfl) (by kernel_rfl) (by kernel_rfl) (by kernel_rfl) (fun _ _ _ h => h) rfl (fun W => by go_simp) ?_
      go_simp
      refine wpAnyL_pure (i := 2) (v := .int .i64 a) rfl rfl (by kernel_rfl) (by kernel_rfl) (by kernel_rfl) (by kernel_rfl) (by kernel_rfl) (fun _ _ _ h => h) rfl (fun W => by go_simp) ?_
      go_simp
      refine wpAnyL_pure (i := 3) (v := .slice (some ⟨gb, 0, none⟩) d.size cap) rfl rfl (by kernel_rfl) (by kernel_rfl) (by kernel_rfl) (by kernel_rfl) (by kernel_rfl) (fun _ _ _ h => h) rfl (fun W => by go_simp) ?_
      go_simp
      refine wpAnyL_pure (i := 4) (v := .int .i64 p) rfl rfl (by kernel_rfl) (by kernel_rfl) (by kernel_rfl) (by kernel_rfl) (by kernel_rfl) (fun _ _ _ h => h) rfl (fun W => by go_simp) ?_
      go_simp
      refine wpAnyL_pure (i := 5) (v := .int .i64 a) rfl rfl (by kernel_rfl) (by kernel_rfl) (by kernel_rfl) (by kernel_rfl) (by kernel_rfl) (fun _ _ _ h => h) rfl (fun W => by go_simp) ?_
      go_simp
      refine wpAnyL_pure (i := 6) (v := .pointer (some ⟨gb, a, none⟩)) rfl rfl (by kernel_rfl) (by kernel_rfl) (by kernel_rfl) (by kernel_rfl) (by kernel_rfl) (fun _ _ _ h => h) rfl (fun W => by go_simp) ?_
      go_simp
      refine wpAnyL_load (i := 7) (v := .int .u8 x) rfl rfl (by kernel_rfl) (by kernel_rfl) (by kernel_rfl) (by kernel_rfl) (by kernel_rfl) (fun _ _ _ h => h) rfl (fun W h => by (have hc0 := h; clear h; go_simp)) (ca.out) ?_
      go_simp
      refine wpAnyL_pure (i := 8) (v := .int .i64 p) rfl rfl (by kernel_rfl) (by kernel_rfl) (by kernel_rfl) (by kernel_rfl) (by kernel_rfl) (fun _ _ _ h => h) rfl (fun W => by go_simp) ?_
      go_simp
      refine wpAnyL_pure (i := 9) (v := .int .i64 j) rfl rfl (by kernel_rfl) (by kernel_rfl) (by kernel_rfl) (by kernel_rfl) (by kernel_rfl) (fun _ _ _ h => h) rfl (fun W => by go_simp) ?_
      go_simp
      refine wpAnyL_pure (i := 10) (v := .int .u8 (IntKind.u8.wrap (2 ^ j))) rfl rfl (by kernel_rfl) (by kernel_rfl) (by kernel_rfl) (by kernel_rfl) (by kernel_rfl) (fun _ _ _ h => h) rfl (fun W => by go_simp) ?_
      go_simp
      refine wpAnyL_pure (i := 11) (v := .int .u8 (bits .andNot .u8 x (IntKind.u8.wrap (2 ^ j)))) rfl rfl (by kernel_rfl) (by kernel_rfl) (by kernel_rfl) (by kernel_rfl) (by kernel_rfl) (fun _ _ _ h => h) rfl (fun W => by go_simp) ?_
      go_simp
      refine wpAnyL_pure (i := 12) (v := .int .u8 bi) rfl rfl (by kernel_rfl) (by kernel_rfl) (by kernel_rfl) (by kernel_rfl) (by kernel_rfl) (fun _ _ _ h => h) rfl (fun W => by go_simp) ?_
      go_simp
      refine wpAnyL_pure (i := 13) (v := .int .i64 p) rfl rfl (by kernel_rfl) (by kernel_rfl) (by kernel_rfl) (by kernel_rfl) (by kernel_rfl) (fun _ _ _ h => h) rfl (fun W => by go_simp) ?_
      go_simp
      refine wpAnyL_pure (i := 14) (v := .int .i64 j) rfl rfl (by kernel_rfl) (by kernel_rfl) (by kernel_rfl) (by kernel_rfl) (by kernel_rfl) (fun _ _ _ h => h) rfl (fun W => by go_simp) ?_
      go_simp
      refine wpAnyL_pure (i := 15) (v := .int .u8 (IntKind.u8.wrap (bi * 2 ^ j))) rfl rfl (by kernel_rfl) (by kernel_rfl) (by kernel_rfl) (by kernel_rfl) (by kernel_rfl) (fun _ _ _ h => h) rfl (fun W => by go_simp) ?_
      go_simp
      refine wpAnyL_pure (i := 16) (v := .int .u8 (bits .or .u8 (bits .andNot .u8 x (IntKind.u8.wrap (2 ^ j))) (IntKind.u8.wrap (bi * 2 ^ j)))) rfl rfl (by kernel_rfl) (by kernel_rfl) (by kernel_rfl) (by kernel_rfl) (by kernel_rfl) (fun _ _ _ h => h) rfl (fun W => by go_simp) ?_
      go_simp
      refine wpAnyL_one (i := 17) (by kernel_rfl) ?_
      refine wpOp_do rfl rfl ?_
      go_simp
      refine ⟨keepsL_all (by kernel_rfl) (by kernel_rfl), ?_⟩
      go_simp
      refine wpAnyL_one (i := 18) (by kernel_rfl) ?_
      refine wpOp_do rfl rfl ?_
      have cc := CA.out _ hY.out
      have cc1 := cc.1
      have cc2 := cc.2
      go_simp
      refine ⟨keepsL_all (by kernel_rfl) (by kernel_rfl), ?_⟩
      go_simp
      refine wpAnyL_done (by kernel_rfl) ?_ _
      have YN := hide (SETS.out _ hY.out)
      have ON := hide (own_setj hO.out hgb a (.int .u8 (bits .or .u8 (bits .andNot .u8 x (2 ^ j % 256)) (bi * 2 ^ j % 256))))
      have QN := hide (hQ.out.setCell (p := ⟨gb, a, none⟩) hgw (.int .u8 (bits .or .u8 (bits .andNot .u8 x (2 ^ j % 256)) (bi * 2 ^ j % 256))))
      clear cc cc1 cc2 ca SETS CA
      go_wp2_with fail
      go_roundw
      case rel => exact ⟨k + 1, by omega, by go_num, YN, ON, QN⟩
      case measure => simp [intOf]; omega
    · obtain rfl : k = l.length := by omega
      have hcv2 : (convert 132 9 (.slice (some ⟨gb, 0, none⟩) d.size cap)).run Tryz.prog wr = .ok (.string ⟨(putN d.data.toList l v l.length).toArray⟩) wr :=
        run_bytes_str wr _ _ _ Tryz.underlying132 Tryz.underlying5 Tryz.underlying9 gb d.size cap _ (by rw [putN_length, hds]) (fun i hi => (hY.out.cell hi).1)
      clear HP
      go_wp2_with fail
      refine bodyPost_ret (v := .tuple #[.string ⟨(putN d.data.toList l v l.length).toArray⟩, .int .i64 0]) (by simp [results, Tryz.results73, go_sem]) rfl ⟨rfl, hQ.out⟩

set_option maxRecDepth 100000 in
theorem put_bad (d : ByteArray) (s : Sg) (v : Int) (w : World) (hd : d.size ≤ 1000000) (hw : wellF d.size s ≠ 0) :
    Calls Tryz.prog 73 #[.string d, .agg #[.int .i64 s.start, .int .i64 s.width, .bool s.big, .bool s.sgn], .int .i64 v] w fun e w' => e = .returned (.tuple #[.string ⟨#[]⟩, .int .i64 (wellF d.size s)]) ∧ Below w.heap.size w w' := by
  have WL := hide (fun W => sigWell_any d s W hd)
  generalize wellF d.size s = x at *
  have hx : (x == 0) = false := by rw [beq_eq_false_iff_ne]; exact hw
  have hx2 : (x != 0) = true := by simp [bne, hx]
  clear hw
  obtain ⟨st, wd, bg, sg⟩ := s
  dsimp only at *
  have q0 : Below w.heap.size w (w.alloc (.cells #[.int .i64 st, .int .i64 wd, .bool bg, .bool sg] 23)) := (Below.refl _ _).alloc (Nat.le_refl _) _
  go_enter Tryz.func73, Tryz.ntmps73
  go_wp2_with fail
  (with_reducible refine (WL.out _).mono ?_)
  rintro e1 w1 ⟨rfl, q1⟩
  have q := below_next q0 q0.size q1
  clear q0 q1 WL
  go_wp2_with fail
  refine bodyPost_ret (v := .tuple #[.string ⟨#[]⟩, .int .i64 x]) (by simp [results, Tryz.results73, go_sem]) rfl ⟨rfl, q⟩
set_option maxRecDepth 100000 in
theorem put_range (d : ByteArray) (s : Sg) (v : Int) (w : World) (hd : d.size ≤ 1000000) (hv1 : -9223372036854775808 ≤ v) (hv2 : v < 9223372036854775808) (hw : wellF d.size s = 0) (hf : fitsB s v = false) :
    Calls Tryz.prog 73 #[.string d, .agg #[.int .i64 s.start, .int .i64 s.width, .bool s.big, .bool s.sgn], .int .i64 v] w fun e w' => e = .returned (.tuple #[.string ⟨#[]⟩, .int .i64 32]) ∧ Below w.heap.size w w' := by
  have WL := hide (fun W => sigWell_any d s W hd)
  rw [hw] at WL
  have FT := hide (fun W => fits_any s v W hv1 hv2 (well_zero hw).1)
  rw [hf] at FT
  clear hw hf
  obtain ⟨st, wd, bg, sg⟩ := s
  dsimp only at *
  have q0 : Below w.heap.size w (w.alloc (.cells #[.int .i64 st, .int .i64 wd, .bool bg, .bool sg] 23)) := (Below.refl _ _).alloc (Nat.le_refl _) _
  have B0 := hide (World.alloc_heap_new w (.cells #[.int .i64 st, .int .i64 wd, .bool bg, .bool sg] 23))
  go_enter Tryz.func73, Tryz.ntmps73
  go_wp2_with fail
  (with_reducible refine (WL.out _).mono ?_)
  rintro e1 w1 ⟨rfl, q1⟩
  have Q1 := hide (below_next q0 q0.size q1)
  have B1 := hide (heap_below B0.out q1)
  clear q0 q1 B0 WL
  obtain ⟨c0, c1, c2, c3⟩ := sg_cells (s := ⟨st, wd, bg, sg⟩) B1.out
  dsimp only at c0 c1 c2 c3
  go_wp2_with fail
  (with_reducible refine (FT.out _).mono ?_)
  rintro e2 w2 ⟨rfl, q2⟩
  have q := below_next Q1.out Q1.out.size q2
  clear Q1 q2 B1 FT c0 c1 c2 c3
  go_wp2_with fail
  refine bodyPost_ret (v := .tuple #[.string ⟨#[]⟩, .int .i64 32]) (by simp [results, Tryz.results73, go_sem]) rfl ⟨rfl, q⟩

/-- Put, of any bytes, signal, value. -/
theorem put_any (d : ByteArray) (s : Sg) (v : Int) (w : World) (hd : d.size ≤ 1000000) (hv1 : -9223372036854775808 ≤ v) (hv2 : v < 9223372036854775808) :
    Calls Tryz.prog 73 #[.string d, .agg #[.int .i64 s.start, .int .i64 s.width, .bool s.big, .bool s.sgn], .int .i64 v] w fun e w' => e = .returned (.tuple #[.string (putV d s v), .int .i64 (putE s d.size v)]) ∧ Below w.heap.size w w' := by
  by_cases hw : wellF d.size s = 0
  · cases hf : fitsB s v with
    | true =>
      have e1 : putE s d.size v = 0 := by unfold putE; rw [if_neg (by simpa using hw), if_pos hf]
      have e2 : putV d s v = ⟨(putF d.data.toList (plL s) v).toArray⟩ := by unfold putV; rw [if_pos e1]
      rw [e1, e2]
      exact put_ok d s v w hd hv1 hv2 hw hf
    | false =>
      have e1 : putE s d.size v = 32 := by unfold putE; rw [if_neg (by simpa using hw), if_neg (by simp [hf])]
      have e2 : putV d s v = ⟨#[]⟩ := by unfold putV; rw [if_neg (by omega)]
      rw [e1, e2]
      exact put_range d s v w hd hv1 hv2 hw hf
  · have e1 : putE s d.size v = wellF d.size s := by unfold putE; rw [if_pos hw]
    have e2 : putV d s v = ⟨#[]⟩ := by unfold putV; rw [if_neg (by rw [e1]; exact hw)]
    rw [e1, e2]
    exact put_bad d s v w hd hw
end Go.Proofs.YtnhegnneohpkaaaGreat
