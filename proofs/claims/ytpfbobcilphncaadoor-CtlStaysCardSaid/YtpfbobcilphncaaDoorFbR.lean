/- The walks of the reference's Head, Sum and Bits. -/
import Derived.Test.YtpfbobcilphncaaDoorCrA
import Derived.Test.YtpfbobcilphncaaDoorStA
import Derived.Test.YtpfbobcilphncaaDoorMgCrP
import Derived.Test.YtpfbobcilphncaaDoorMgFrR
namespace Go.Proofs.YtpfbobcilphncaaDoor
open Go.ChangeShapes Go.WideShapes Go.ChangeAt Go.RowKit
open FP (bit bitsOf Fr bitB idPart dataPart headF crcOf stuffF sumF bitsF tenF)

theorem bytes_get {l : List UInt8} {i : Nat} {c : UInt8} (h : l[i]? = some c) : ∃ hi : i < (⟨l.toArray⟩ : ByteArray).size, (⟨l.toArray⟩ : ByteArray)[i] = c := by
  have hl : i < l.length := (List.getElem?_eq_some_iff.1 h).1
  refine ⟨by simpa [ByteArray.size] using hl, ?_⟩
  have := (List.getElem?_eq_some_iff.1 h).2
  simpa [ByteArray.getElem_eq_getElem_data] using this
theorem bytes_extract (l : List UInt8) (a b : Nat) : (⟨l.toArray⟩ : ByteArray).extract a b = ⟨(l.extract a b).toArray⟩ := by
  rw [ByteArray.ext_iff]
  simp [ByteArray.data_extract]
theorem toList_of (l : List UInt8) : (⟨l.toArray⟩ : ByteArray).data.toList = l := rfl
theorem size_of (l : List UInt8) : (⟨l.toArray⟩ : ByteArray).size = l.length := by simp [ByteArray.size]
theorem str_app (a b : List UInt8) : (⟨a.toArray⟩ : ByteArray) ++ ⟨b.toArray⟩ = ⟨(a ++ b).toArray⟩ := by rw [ByteArray.ext_iff]; simp
theorem str_of (s : ByteArray) : s = ⟨s.data.toList.toArray⟩ := by rw [ByteArray.ext_iff]
theorem long_parts (id : Nat) : (bitsOf id 29).extract 0 11 = bitsOf (id / 262144) 11 ∧ (bitsOf id 29).extract 11 29 = bitsOf (id % 262144) 18 := by
  have h := FP.bitsOf_append id 11 18
  have h2 := FP.bitsOf_mod id 18
  rw [show (2 : Nat) ^ 18 = 262144 from rfl] at h h2
  rw [show (29 : Nat) = 11 + 18 from rfl, h, h2]
  constructor
  · simp [List.extract_eq_take_drop, FP.bitsOf_length]
  · rw [List.extract_eq_take_drop, List.drop_append, FP.bitsOf_length, List.drop_of_length_le (by simp [FP.bitsOf_length]), List.take_of_length_le (by simp [FP.bitsOf_length])]
    simp
theorem str_len (n k : Nat) : (⟨(bitsOf n k).toArray⟩ : ByteArray).size = k := by rw [size_of, FP.bitsOf_length]
theorem dataPart_take (data : ByteArray) (j : Nat) (h : j < data.size) : dataPart (data.data.toList.take (j + 1)) = dataPart (data.data.toList.take j) ++ bitsOf data[j].toNat 8 := by
  rw [List.take_succ_eq_append_getElem (by rw [Array.length_toList]; exact h), dataPart_snoc]; rfl

set_option maxRecDepth 100000 in
set_option maxHeartbeats 2000000 in
theorem refHead_any (f : Fr) (w : World) (hr : FP.rightB f = true) :
    Calls Tryd.prog 25 #[.agg #[.int .u32 f.id, .bool f.ext, .bool f.rem, .int .i64 f.dlc, .string f.data]] w fun e w' => e = .returned (.string ⟨(headF f).toArray⟩) ∧ Below w.heap.size w w' := by
  obtain ⟨hs, hd0, hd8, hid⟩ := FP.right_size hr
  clear hr
  have HF := hide (show (⟨(headF f).toArray⟩ : ByteArray) = ⟨(headF f).toArray⟩ from rfl)
  generalize hHF : (⟨(headF f).toArray⟩ : ByteArray) = hf
  replace HF : Hid (hf = ⟨(48 :: (idPart f ++ (bitB f.rem :: (48 :: 48 :: (bitsOf f.dlc.toNat 4 ++ dataPart f.data.data.toList))))).toArray⟩) := by rw [← hHF]; exact hide rfl
  clear hHF
  obtain ⟨id, ext, rem, dlc, data⟩ := f
  dsimp only at *
  obtain ⟨d, rfl⟩ : ∃ d : Nat, dlc = d := ⟨dlc.toNat, by omega⟩
  have HSL := hide (show data.data.toList.length = data.size from Array.length_toList)
  have B11 := hide (fun W => refOf_any id 11 id 11 rfl rfl (by omega) (by omega) W)
  have B4 := hide (fun W => refOf_any d 4 d 4 rfl rfl (by omega) (by omega) W)
  have h11 := str_len id 11
  have h4 := str_len d 4
  have q0 : Below w.heap.size w (w.alloc (.cells #[.int .u32 id, .bool ext, .bool rem, .int .i64 d, .string data] 24)) := (Below.refl _ _).alloc (Nat.le_refl _) _
  generalize e11 : (⟨(bitsOf id 11).toArray⟩ : ByteArray) = s11 at *
  generalize e4 : (⟨(bitsOf d 4).toArray⟩ : ByteArray) = s4 at *
  have E11 := hide e11
  have E4 := hide e4
  clear e11 e4
  have hdd : ((d : Int)).toNat = d := by omega
  rw [hdd] at HF
  clear hdd
  obtain ⟨base, hbase⟩ : ∃ base, base = 48 :: (idPart ⟨id, ext, rem, d, data⟩ ++ (bitB rem :: 48 :: 48 :: bitsOf d 4)) := ⟨_, rfl⟩
  replace HF : Hid (hf = ⟨(base ++ dataPart data.data.toList).toArray⟩) := by rw [HF.out, hbase]; simp [Hid]
  have HBS := hide hbase
  clear hbase
  cases ext with
  | false =>
    cases rem
    all_goals
      go_enter Tryd.func25, Tryd.ntmps25
      go_wp2_with fail
      refine (B11.out _).mono ?_
      rintro e1 w1 ⟨rfl, rfl⟩
      go_wp2_with fail
      refine (B4.out _).mono ?_
      rintro e1 w1 ⟨rfl, rfl⟩
      go_wp2_with fail
      go_loop [4, 6] (fun vs vi => ∃ (j : Nat) (t : ByteArray), j ≤ data.size ∧ vi = .int .i64 j ∧ vs = .string t ∧ t.size ≤ 39 + 8 * j ∧ Hid (t.data.toList = base ++ dataPart (data.data.toList.take j))) (fun _ vi => data.size - (intOf vi).toNat)
      case atStart => exact ⟨0, _, Nat.zero_le _, rfl, rfl, by simp [ByteArray.size_append, h11, h4]; try decide, by rw [HBS.out, ← E11.out, ← E4.out]; simp [Hid, dataPart, idPart]; try rfl⟩
      case round =>
        obtain ⟨j, t, hj, rfl, rfl, ht, HT⟩ := hrel
        by_cases hlt : j < data.size
        · have B8 := hide (fun (N : Int) (hN : N = (data[j].toNat : Int)) W => refOf_any N 8 data[j].toNat 8 hN rfl (by have := UInt8.toNat_lt data[j]; omega) (by omega) W)
          have h8 := str_len data[j].toNat 8
          have NX := hide (dataPart_take data j hlt)
          generalize e8 : (⟨(bitsOf data[j].toNat 8).toArray⟩ : ByteArray) = s8 at *
          have E8 := hide (show s8.data.toList = bitsOf data[j].toNat 8 by rw [← e8])
          clear e8
          go_wp2_with fail
          (with_reducible refine (B8.out _ ?_ _).mono ?_)
          · first | exact wrap_byte _ | rfl
          rintro e1 w1 ⟨rfl, rfl⟩
          go_wp2_with fail
          go_round
          case rel => exact ⟨j + 1, t ++ s8, by omega, by go_num, rfl, by rw [ByteArray.size_append]; omega, by rw [NX.out, ← List.append_assoc, ← HT.out, ← E8.out]; simp [Hid]⟩
          case measure => simp [intOf]; omega
        · obtain rfl : j = data.size := by omega
          have HT2 := hide (show hf = t by
            rw [HF.out, ByteArray.ext_iff, ← Array.toList_inj, HT.out, List.take_of_length_le (by rw [HSL.out]; exact Nat.le_refl _)])
          go_wp2_with fail
          go_ret
          exact ⟨by rw [HT2.out]; rfl, q0⟩
  | true =>
    have B29 := hide (fun W => refOf_any id 29 id 29 rfl rfl (by omega) (by omega) W)
    have h29 := str_len id 29
    obtain ⟨lp1, lp2⟩ := long_parts id
    have x1 : (⟨(bitsOf id 29).toArray⟩ : ByteArray).extract 0 11 = ⟨(bitsOf (id / 262144) 11).toArray⟩ := by rw [bytes_extract, lp1]
    have x2 : (⟨(bitsOf id 29).toArray⟩ : ByteArray).extract 11 29 = ⟨(bitsOf (id % 262144) 18).toArray⟩ := by rw [bytes_extract, lp2]
    have hy1 := str_len (id / 262144) 11
    have hy2 := str_len (id % 262144) 18
    clear lp1 lp2
    generalize (⟨(bitsOf id 29).toArray⟩ : ByteArray) = s29 at *
    generalize ey1 : (⟨(bitsOf (id / 262144) 11).toArray⟩ : ByteArray) = y1 at *
    generalize ey2 : (⟨(bitsOf (id % 262144) 18).toArray⟩ : ByteArray) = y2 at *
    have EY1 := hide ey1
    have EY2 := hide ey2
    clear ey1 ey2
    cases rem
    all_goals
      go_enter Tryd.func25, Tryd.ntmps25
      go_wp2_with fail
      refine (B11.out _).mono ?_
      rintro e1 w1 ⟨rfl, rfl⟩
      go_wp2_with fail
      refine (B29.out _).mono ?_
      rintro e1 w1 ⟨rfl, rfl⟩
      go_wp2_with fail
      go_quiet (fail)
      go_wp2_with fail
      refine (B4.out _).mono ?_
      rintro e1 w1 ⟨rfl, rfl⟩
      go_wp2_with fail
      go_loop [4, 6] (fun vs vi => ∃ (j : Nat) (t : ByteArray), j ≤ data.size ∧ vi = .int .i64 j ∧ vs = .string t ∧ t.size ≤ 39 + 8 * j ∧ Hid (t.data.toList = base ++ dataPart (data.data.toList.take j))) (fun _ vi => data.size - (intOf vi).toNat)
      case atStart => exact ⟨0, _, Nat.zero_le _, rfl, rfl, by simp [ByteArray.size_append, h4, hy1, hy2]; try decide, by rw [HBS.out, ← EY1.out, ← EY2.out, ← E4.out]; simp [Hid, dataPart, idPart]; try rfl⟩
      case round =>
        obtain ⟨j, t, hj, rfl, rfl, ht, HT⟩ := hrel
        by_cases hlt : j < data.size
        · have B8 := hide (fun (N : Int) (hN : N = (data[j].toNat : Int)) W => refOf_any N 8 data[j].toNat 8 hN rfl (by have := UInt8.toNat_lt data[j]; omega) (by omega) W)
          have h8 := str_len data[j].toNat 8
          have NX := hide (dataPart_take data j hlt)
          generalize e8 : (⟨(bitsOf data[j].toNat 8).toArray⟩ : ByteArray) = s8 at *
          have E8 := hide (show s8.data.toList = bitsOf data[j].toNat 8 by rw [← e8])
          clear e8
          go_wp2_with fail
          (with_reducible refine (B8.out _ ?_ _).mono ?_)
          · first | exact wrap_byte _ | rfl
          rintro e1 w1 ⟨rfl, rfl⟩
          go_wp2_with fail
          go_round
          case rel => exact ⟨j + 1, t ++ s8, by omega, by go_num, rfl, by rw [ByteArray.size_append]; omega, by rw [NX.out, ← List.append_assoc, ← HT.out, ← E8.out]; simp [Hid]⟩
          case measure => simp [intOf]; omega
        · obtain rfl : j = data.size := by omega
          have HT2 := hide (show hf = t by
            rw [HF.out, ByteArray.ext_iff, ← Array.toList_inj, HT.out, List.take_of_length_le (by rw [HSL.out]; exact Nat.le_refl _)])
          go_wp2_with fail
          go_ret
          exact ⟨by rw [HT2.out]; rfl, below_drewN q0 _⟩

theorem sum_str (l : List UInt8) : (⟨(sumF l).toArray⟩ : ByteArray) = ⟨l.toArray⟩ ++ ⟨(bitsOf (crcOf l) 15).toArray⟩ := by rw [str_app]; rfl

set_option maxRecDepth 100000 in
set_option maxHeartbeats 1000000 in
theorem refSum_any (l : List UInt8) (w : World) (hb : ∀ c ∈ l, c = 48 ∨ c = 49) (hs : l.length ≤ 3900) :
    Calls Tryd.prog 24 #[.string ⟨l.toArray⟩] w fun e w' => e = .returned (.string ⟨(sumF l).toArray⟩) ∧ Below w.heap.size w w' := by
  have RC := hide (fun W => refCrc_any ⟨l.toArray⟩ W hb (by rw [size_of]; omega))
  have L := FP.crcOf_lt l
  have SS := hide (sum_str l)
  have hB := str_len (crcOf l) 15
  have hL := size_of l
  rw [toList_of] at RC
  rw [SS.out]
  have BO := hide (fun W => refOf_any (crcOf l) 15 (crcOf l) 15 rfl rfl (by omega) (by omega) W)
  clear SS hb
  generalize (⟨(bitsOf (crcOf l) 15).toArray⟩ : ByteArray) = bs at *
  generalize (⟨l.toArray⟩ : ByteArray) = s at *
  generalize crcOf l = r at *
  go_enter Tryd.func24, Tryd.ntmps24
  go_wp2_with fail
  refine (RC.out _).mono ?_
  rintro e1 w1 ⟨rfl, q1⟩
  go_wp2_with fail
  refine (BO.out _).mono ?_
  rintro e2 w2 ⟨rfl, rfl⟩
  go_wp2_with fail
  go_ret
  exact ⟨rfl, q1⟩

theorem extract_one (s : ByteArray) (k : Nat) (h : k < s.size) : s.extract k (k + 1) = ⟨#[s[k]]⟩ := by
  rw [ByteArray.ext_iff, ByteArray.data_extract]
  have hk : k < s.data.size := h
  apply Array.ext
  · rw [Array.size_extract]
    show min (k + 1) s.data.size - k = 1
    omega
  · intro i h1 h2
    have : i = 0 := by
      have : i < 1 := h2
      omega
    subst this
    rw [Array.getElem_extract]
    rfl
theorem stuffS_step (s : ByteArray) (k : Nat) (h : k < s.size) : stuffF (s.data.toList.take (k + 1)) = (FP.ssStep (FP.stuffS (s.data.toList.take k)) s[k]).out := by
  unfold stuffF
  rw [List.take_succ_eq_append_getElem (by rw [Array.length_toList]; exact h), FP.stuffS_snoc]; rfl

set_option maxRecDepth 100000 in
set_option maxHeartbeats 2000000 in
theorem refStuff_any (s : ByteArray) (w : World) (hb : ∀ c ∈ s.data.toList, c = 48 ∨ c = 49) (hs : s.size ≤ 1000) :
    Calls Tryd.prog 23 #[.string s] w fun e w' => e = .returned (.string ⟨(stuffF s.data.toList).toArray⟩) ∧ Below w.heap.size w w' := by
  have LS := hide (show s.data.toList.length = s.size from Array.length_toList)
  have HB := hide hb
  have BT := hide (fun j (hj : j < s.size) => show s[j] = 48 ∨ s[j] = 49 from HB.out _ (List.getElem_mem (l := s.data.toList) (by rw [LS.out]; exact hj)))
  have INV := hide (fun j (hj : j ≤ s.size) => show FP.SInv (FP.stuffS (s.data.toList.take j)) j from by
    have := FP.stuff_inv (s.data.toList.take j) (fun c hc => HB.out c (List.mem_of_mem_take hc))
    rwa [List.length_take, LS.out, Nat.min_eq_left hj] at this)
  have E := hide (show s.data.toList.take s.size = s.data.toList from List.take_of_length_le (by rw [LS.out]; exact Nat.le_refl _))
  have ST := hide (fun k (h : k < s.size) => show FP.stuffS (s.data.toList.take (k + 1)) = FP.ssStep (FP.stuffS (s.data.toList.take k)) s[k] from by rw [List.take_succ_eq_append_getElem (by rw [LS.out]; exact h), FP.stuffS_snoc]; rfl)
  clear hb
  go_enter Tryd.func23, Tryd.ntmps23
  go_wp2_with fail
  go_loopw [3, 4, 5] (fun vo vf vi W => ∃ (k fr : Nat) (t : ByteArray), k ≤ s.size ∧ vi = .int .i64 k ∧ vo = .string t ∧ vf = .int .i64 fr ∧ Hid (t.data.toList = (FP.stuffS (s.data.toList.take k)).out ∧ fr = (FP.stuffS (s.data.toList.take k)).fr) ∧ Below w.heap.size w W) (fun _ _ vi _ => s.size - (intOf vi).toNat)
  case atStart => exact ⟨0, 0, ⟨#[]⟩, Nat.zero_le _, rfl, rfl, rfl, hide ⟨rfl, rfl⟩, Below.refl _ _⟩
  case round =>
    obtain ⟨k, fr, t, hk, rfl, rfl, rfl, H, q⟩ := hrel
    have I := hide (INV.out k hk)
    by_cases hlt : k < s.size
    · have SN := hide (ST.out k hlt)
      have B1 := BT.out k hlt
      generalize FP.stuffS (s.data.toList.take k) = ss at *
      have EQ := hide (I.out.equal s[k])
      have L := show t.size ≤ 2000 by have h1 := I.out.len; have h2 := H.out.1; have h3 : t.data.toList.length = t.size := Array.length_toList; rw [h2] at h3; omega
      have F := show fr ≤ t.size by have h1 := I.out.fr; have h2 := H.out.1; have h3 : t.data.toList.length = t.size := Array.length_toList; rw [h2] at h3; have h4 := H.out.2; omega
      obtain ⟨k1, hk1⟩ : ∃ k1 : Nat, (k : Int) + 1 = k1 := ⟨k + 1, by omega⟩
      have hk2 : k ≤ k1 := by omega
      have hk3 : k1 ≤ s.size := by omega
      have hx : s.extract k k1 = ⟨#[s[k]]⟩ := by
        have e : k1 = k + 1 := by omega
        subst e
        exact extract_one s k hlt
      have hy : (⟨#[s[k]]⟩ : ByteArray).size = 1 := rfl
      have TX := hide (show (t ++ ⟨#[s[k]]⟩).data.toList = ss.out ++ [s[k]] by rw [← H.out.1]; simp)
      have RE := hide (fun W => refEqual_any (t ++ ⟨#[s[k]]⟩) fr W (by rw [ByteArray.size_append, hy]; omega) (by rw [ByteArray.size_append, hy]; omega))
      rw [TX.out, H.out.2, EQ.out, ← H.out.2] at RE
      have hsz : (t ++ ⟨#[s[k]]⟩).size = t.size + 1 := by rw [ByteArray.size_append, hy]
      generalize hts : t ++ ⟨#[s[k]]⟩ = ts at *
      by_cases h5 : FP.ssN ss s[k] = 5
      · have ST5 := hide (FP.ssStep_five h5)
        rw [decide_eq_true h5] at RE
        have OL := hide (show ss.out.length + 1 = ts.size by
          have h2 := H.out.1
          have h3 : t.data.toList.length = t.size := Array.length_toList
          rw [h2] at h3
          omega)
        have HTS : Hid (ts.data.toList = ss.out ++ [s[k]]) := by rw [← hts]; rw [← hts] at TX; exact TX
        have HTT := hide hts
        clear h5 EQ H TX I F
        rcases B1 with hb | hb
        · have e1 : ((s[k].toNat : Int) == 48) = true := by rw [hb]; rfl
          have NX : Hid ((ts ++ ⟨#[49]⟩).data.toList = (FP.stuffS (s.data.toList.take (k + 1))).out ∧ ts.size = (FP.stuffS (s.data.toList.take (k + 1))).fr) := by
            obtain ⟨_, _, t3, t4⟩ := ST5.out
            rw [SN.out, t3, t4, OL.out]
            refine hide ⟨?_, rfl⟩
            rw [ByteArray.data_append, Array.toList_append, HTS.out, hb]
            rfl
          clear SN ST5 HTS hb OL
          go_wp2_with fail
          refine (RE.out _).mono ?_
          rintro e2 w2 ⟨rfl, q2⟩
          go_wp2_with fail
          go_roundw
          case rel => exact ⟨k + 1, ts.size, ts ++ ⟨#[49]⟩, by omega, by go_num, rfl, by congr 1; omega, NX, below_next q q.size q2⟩
          case measure => simp [intOf]; omega
        · have e1 : ((s[k].toNat : Int) == 48) = false := by rw [hb]; rfl
          have NX : Hid ((ts ++ ⟨#[48]⟩).data.toList = (FP.stuffS (s.data.toList.take (k + 1))).out ∧ ts.size = (FP.stuffS (s.data.toList.take (k + 1))).fr) := by
            obtain ⟨_, _, t3, t4⟩ := ST5.out
            rw [SN.out, t3, t4, OL.out]
            refine hide ⟨?_, rfl⟩
            rw [ByteArray.data_append, Array.toList_append, HTS.out, hb]
            rfl
          clear SN ST5 HTS hb OL
          go_wp2_with fail
          refine (RE.out _).mono ?_
          rintro e2 w2 ⟨rfl, q2⟩
          go_wp2_with fail
          go_roundw
          case rel => exact ⟨k + 1, ts.size, ts ++ ⟨#[48]⟩, by omega, by go_num, rfl, by congr 1; omega, NX, below_next q q.size q2⟩
          case measure => simp [intOf]; omega
      · rw [decide_eq_false h5] at RE
        have NX : Hid (ts.data.toList = (FP.stuffS (s.data.toList.take (k + 1))).out ∧ fr = (FP.stuffS (s.data.toList.take (k + 1))).fr) := by
          obtain ⟨_, _, t3, t4⟩ := FP.ssStep_less h5
          rw [SN.out, t3, t4, ← H.out.2]
          exact hide ⟨by rw [← hts]; rw [← hts] at TX; exact TX.out, rfl⟩
        have HTT := hide hts
        clear h5 EQ H TX I F SN
        go_wp2_with fail
        refine (RE.out _).mono ?_
        rintro e2 w2 ⟨rfl, q2⟩
        go_wp2_with fail
        go_roundw
        case rel => exact ⟨k + 1, fr, ts, by omega, by go_num, rfl, rfl, NX, below_next q q.size q2⟩
        case measure => simp [intOf]; omega
    · obtain rfl : k = s.size := by omega
      have T := hide (show (⟨(stuffF s.data.toList).toArray⟩ : ByteArray) = t by
        rw [ByteArray.ext_iff, ← Array.toList_inj, H.out.1, E.out]; rfl)
      go_wp2_with fail
      go_ret
      exact ⟨by rw [T.out]; rfl, q⟩

set_option maxRecDepth 100000 in
set_option maxHeartbeats 1000000 in
theorem refBits_any (f : Fr) (w : World) (hr : FP.rightB f = true) :
    Calls Tryd.prog 11 #[.agg #[.int .u32 f.id, .bool f.ext, .bool f.rem, .int .i64 f.dlc, .string f.data]] w fun e w' => e = .returned (.string ⟨(bitsF f).toArray⟩) ∧ Below w.heap.size w w' := by
  have q0 : Below w.heap.size w (w.alloc (.cells #[.int .u32 f.id, .bool f.ext, .bool f.rem, .int .i64 f.dlc, .string f.data] 24)) := (Below.refl _ _).alloc (Nat.le_refl _) _
  have hL := FP.head_le hr
  have hB := FP.bits_len hr
  have HD := hide (fun W => refHead_any f W hr)
  have SM := hide (fun W => refSum_any (headF f) W (FP.head_bits f) (by omega))
  have SF := hide (fun W => refStuff_any ⟨(sumF (headF f)).toArray⟩ W (FP.sum_bits (FP.head_bits f)) (by rw [size_of, FP.sum_length]; omega))
  rw [toList_of] at SF
  have hs := size_of (stuffF (sumF (headF f)))
  have E : (⟨(bitsF f).toArray⟩ : ByteArray) = ⟨(stuffF (sumF (headF f))).toArray⟩ ++ ⟨#[49, 49, 49, 49, 49, 49, 49, 49, 49, 49]⟩ := by
    unfold bitsF tenF; rw [← str_app]
  rw [E]
  have hsz : (⟨(stuffF (sumF (headF f))).toArray⟩ : ByteArray).size ≤ 1000 := by omega
  clear E hr hL hB hs
  generalize (⟨(stuffF (sumF (headF f))).toArray⟩ : ByteArray) = t at *
  generalize sumF (headF f) = t2 at *
  generalize headF f = t1 at *
  obtain ⟨id, ext, rem, dlc, data⟩ := f
  dsimp only at *
  go_enter Tryd.func11, Tryd.ntmps11
  go_wp2_with fail
  refine (HD.out _).mono ?_
  rintro e1 w1 ⟨rfl, q1⟩
  go_wp2_with fail
  refine (SM.out _).mono ?_
  rintro e2 w2 ⟨rfl, q2⟩
  go_wp2_with fail
  refine (SF.out _).mono ?_
  rintro e3 w3 ⟨rfl, q3⟩
  go_wp2_with fail
  go_ret
  exact ⟨rfl, below_next (below_next (below_next q0 q0.size q1) (below_next q0 q0.size q1).size q2) (below_next (below_next q0 q0.size q1) (below_next q0 q0.size q1).size q2).size q3⟩
end Go.Proofs.YtpfbobcilphncaaDoor
