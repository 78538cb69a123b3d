/- The walk of frame.Parse. -/
import Derived.Test.YthkilodnghiocaaGreatDoorMgRdE
import Derived.Test.YthkilodnghiocaaGreatDoorRdC
namespace Go.Proofs.YthkilodnghiocaaGreatDoor
open Go.ChangeShapes Go.WideShapes Go.ChangeAt Go.RowKit
open FP (bit bitsOf numOf Fr headF sizeE sizeV fxN dlN rawF readB sizedB readV readE fr0 parseF stuffedF SR PR tailE headOf sumF crcOf)

theorem frRead_any (s : ByteArray) (w : World) (hb : ∀ c ∈ s.data.toList, c = 48 ∨ c = 49) (hs : s.size ≤ 4000) :
    Calls Tryz.prog 45 #[.string s] w fun e w' => e = .returned (.tuple #[.agg #[.int .u32 (readV s.data.toList).id, .bool (readV s.data.toList).ext, .bool (readV s.data.toList).rem, .int .i64 (readV s.data.toList).dlc, .string (readV s.data.toList).data], .int .i64 (readE s.data.toList : Nat)]) ∧ Below w.heap.size w w' := by
  cases hz : sizedB s.data.toList with
  | true => exact frRead_sized s w hb hs hz
  | false =>
    have LS : s.data.toList.length = s.size := Array.length_toList
    have hr : readB s.data.toList = false := by unfold readB; rw [hz]; rfl
    obtain ⟨r1, r2⟩ := FP.read_not hr
    rw [r1, r2]
    refine frRead_no s w (sizeV s.data.toList : Nat) (sizeE s.data.toList : Nat) (by unfold maxLen; omega) ?_ (fun W => frSize_any s W hb hs)
    by_cases he : sizeE s.data.toList = 0
    · right
      refine ⟨by rw [he]; rfl, ?_⟩
      rw [bne_iff_ne]
      intro h
      unfold sizedB at hz
      rw [decide_eq_true he, decide_eq_true (show sizeV s.data.toList = s.data.toList.length by omega)] at hz
      cases hz
    · left
      rw [bne_iff_ne]; omega

set_option maxRecDepth 100000 in
theorem parseNo_any (e0 : Int) (w : World) : Calls Tryz.prog 42 #[.int .i64 e0] w fun e w' => e = .returned (.tuple #[.agg #[.int .u32 0, .bool false, .bool false, .int .i64 0, .string ⟨#[]⟩], .int .i64 0, .int .i64 e0]) ∧ Below w.heap.size w w' := by
  have q0 : Below w.heap.size w (w.alloc (.cells #[.int .u32 0, .bool false, .bool false, .int .i64 0, .string ⟨#[]⟩] 45)) := (Below.refl _ _).alloc (Nat.le_refl _) _
  have B0 := hide (World.alloc_heap_new w (.cells #[.int .u32 0, .bool false, .bool false, .int .i64 0, .string ⟨#[]⟩] 45))
  go_enter Tryz.func42, Tryz.ntmps42
  go_wp2_with (refine wpList_store_hid (by rfl) 45 (.tmp 2) (.tmp 5) (by rfl) w.heap.size 0 [.int .u32 0, .bool false, .bool false, .int .i64 0, .string ⟨#[]⟩] (by rfl) (by rfl) (by exact frThere (id := 0) B0.out) (by kernel_rfl) (by simp [Value.oneCell']) ?_)
  intro W2 e2
  have C2 := whole_heap [.int .u32 0, .bool false, .bool false, .int .i64 0, .string ⟨#[]⟩] (xs := [_, _, _, _, _]) B0.out rfl
  have q2 := q0.trans (below_setCells (g := w.heap.size) [.int .u32 0, .bool false, .bool false, .int .i64 0, .string ⟨#[]⟩] 0 _ (Nat.le_refl _))
  rw [← e2.out] at C2 q2
  clear e2 B0 q0
  obtain ⟨y0, y1, y2, y3, y4⟩ := frCells (id := 0) C2
  have Q2 := hide q2
  clear C2 q2
  go_wp2
  refine bodyPost_ret (v := .tuple #[.agg #[.int .u32 0, .bool false, .bool false, .int .i64 0, .string ⟨#[]⟩], .int .i64 0, .int .i64 e0]) (by simp [results, Tryz.results42, go_sem, y0, y1, y2, y3, y4]) rfl ⟨rfl, Q2.out⟩

theorem tail_step (s : List UInt8) (n : Nat) {i : Nat} (h : i < 10) : tailE s n (10 - i) = if s.length ≤ n + i then 3 else if i ≠ 1 ∧ s[n + i]? ≠ some 49 then 12 else tailE s n (10 - (i + 1)) := by
  obtain ⟨j, hj⟩ : ∃ j, 10 - i = j + 1 := ⟨9 - i, by omega⟩
  rw [hj, show 10 - (i + 1) = j by omega]
  conv => lhs; unfold tailE
  rw [show 9 - j = i by omega]
theorem tail_zero (s : List UInt8) (n : Nat) : tailE s n (10 - 10) = 0 := rfl

set_option maxRecDepth 100000 in
set_option maxHeartbeats 1000000 in
theorem frParse_no (s : ByteArray) (w : World) (hs : s.size ≤ maxLen) (hR : bitRow s.data.toList = false) :
    Calls Tryz.prog 24 #[.string s] w fun e w' => e = .returned (.tuple #[.agg #[.int .u32 0, .bool false, .bool false, .int .i64 0, .string ⟨#[]⟩], .int .i64 0, .int .i64 1]) ∧ Below w.heap.size w w' := by
  have RT := hide (fun W => bitsRight_any s W hs)
  rw [hR] at RT
  have q0 : Below w.heap.size w (w.alloc (.cells #[.int .u32 0, .bool false, .bool false, .int .i64 0, .string ⟨#[]⟩] 45)) := (Below.refl _ _).alloc (Nat.le_refl _) _
  have B0 := hide (World.alloc_heap_new w (.cells #[.int .u32 0, .bool false, .bool false, .int .i64 0, .string ⟨#[]⟩] 45))
  clear hR hs
  go_enter Tryz.func24, Tryz.ntmps24
  go_wp2_with fail
  refine (RT.out _).mono ?_
  rintro e1 w1 ⟨rfl, q1⟩
  have C1 := hide (heap_below B0.out q1)
  have Q1 := hide (below_next q0 q0.size q1)
  clear q0 q1 B0
  go_wp2_with (refine wpList_store_hid (by rfl) 45 (.tmp 2) (.tmp 14) (by rfl) w.heap.size 0 [.int .u32 0, .bool false, .bool false, .int .i64 0, .string ⟨#[]⟩] (by rfl) (by rfl) (by exact frThere (id := 0) C1.out) (by kernel_rfl) (by simp [Value.oneCell']) ?_)
  intro W2 e2
  have C2 := whole_heap [.int .u32 0, .bool false, .bool false, .int .i64 0, .string ⟨#[]⟩] (xs := [_, _, _, _, _]) C1.out rfl
  have q2 := Q1.out.trans (below_setCells (g := w.heap.size) [.int .u32 0, .bool false, .bool false, .int .i64 0, .string ⟨#[]⟩] 0 _ (Nat.le_refl _))
  rw [← e2.out] at C2 q2
  clear e2 C1 Q1
  obtain ⟨y0, y1, y2, y3, y4⟩ := frCells (id := 0) C2
  have Q2 := hide q2
  clear C2 q2
  go_wp2
  refine bodyPost_ret (v := .tuple #[.agg #[.int .u32 0, .bool false, .bool false, .int .i64 0, .string ⟨#[]⟩], .int .i64 0, .int .i64 1]) (by simp [results, Tryz.results24, go_sem, y0, y1, y2, y3, y4]) rfl ⟨rfl, Q2.out⟩

set_option maxRecDepth 100000 in
set_option maxHeartbeats 4000000 in
theorem frParse_any (s : ByteArray) (w : World) (hb : ∀ c ∈ s.data.toList, c = 48 ∨ c = 49) (hs : s.size ≤ 4000) :
    Calls Tryz.prog 24 #[.string s] w fun e w' => e = .returned (.tuple #[.agg #[.int .u32 (parseF s.data.toList).f.id, .bool (parseF s.data.toList).f.ext, .bool (parseF s.data.toList).f.rem, .int .i64 (parseF s.data.toList).f.dlc, .string (parseF s.data.toList).f.data], .int .i64 (parseF s.data.toList).n, .int .i64 (parseF s.data.toList).e]) ∧ Below w.heap.size w w' := by
  have LS := hide (show s.data.toList.length = s.size from Array.length_toList)
  have RT := hide (fun W => bitsRight_any s W (by unfold maxLen; omega))
  have hbr : bitRow s.data.toList = true := bitRow_iff.2 ⟨by rw [LS.out]; omega, hb⟩
  rw [hbr] at RT
  have SF := hide (fun W => frStuffed_any s W hb hs)
  have OK := hide (fun h => FP.stuffed_ok s.data.toList 0 0 [] 0 h hb (by simp))
  have PF := hide (show parseF s.data.toList = (if (stuffedF s.data.toList 0 0 [] 0).e ≠ 0 then ⟨(stuffedF s.data.toList 0 0 [] 0).e, fr0, 0⟩ else
    if sumF (headOf (stuffedF s.data.toList 0 0 [] 0).bits) ≠ (stuffedF s.data.toList 0 0 [] 0).bits then ⟨11, fr0, 0⟩ else
    if tailE s.data.toList (stuffedF s.data.toList 0 0 [] 0).n 10 ≠ 0 then ⟨tailE s.data.toList (stuffedF s.data.toList 0 0 [] 0).n 10, fr0, 0⟩ else
    if readB (headOf (stuffedF s.data.toList 0 0 [] 0).bits) then ⟨0, rawF (headOf (stuffedF s.data.toList 0 0 [] 0).bits), (stuffedF s.data.toList 0 0 [] 0).n + 10⟩ else ⟨12, fr0, 0⟩) from rfl)
  have TS := hide (fun n i (h : i < 10) => tail_step s.data.toList n h)
  have GS := hide (fun j (h : j < s.size) => get_some s j h)
  have BT := hide (fun j (hj : j < s.size) => show s[j] = 48 ∨ s[j] = 49 from hb _ (List.getElem_mem (l := s.data.toList) (by rw [LS.out]; exact hj)))
  generalize parseF s.data.toList = pr at *
  generalize stuffedF s.data.toList 0 0 [] 0 = R at *
  obtain ⟨re, bits, n⟩ := R
  dsimp only at *
  have q0 : Below w.heap.size w (w.alloc (.cells #[.int .u32 0, .bool false, .bool false, .int .i64 0, .string ⟨#[]⟩] 45)) := (Below.refl _ _).alloc (Nat.le_refl _) _
  have B0 := hide (World.alloc_heap_new w (.cells #[.int .u32 0, .bool false, .bool false, .int .i64 0, .string ⟨#[]⟩] 45))
  have NO := hide (fun e0 W => parseNo_any e0 W)
  clear hb hbr
  by_cases he : re = 0
  · subst he
    obtain ⟨o1, o2, o3, o4, o5⟩ := OK.out rfl
    have hn4 : n ≤ 4000 := by have := LS.out; omega
    have hl15 : 15 ≤ bits.length := by omega
    have hsv := FP.sizeV_bd bits
    have hlm : bits.length ≤ 118 := by omega
    have CK := hide (fun W => crcCheck_any ⟨bits.toArray⟩ W (bitRow_iff.2 ⟨by rw [toList_of]; omega, by rw [toList_of]; exact o3⟩) (by rw [size_of]; omega))
    rw [toList_of, size_of, decide_eq_true hl15, Bool.true_and] at CK
    have CL := hide (FP.crc_law hl15 o3)
    have hhb : ∀ c ∈ headOf bits, c = 48 ∨ c = 49 := fun c hc => o3 c (List.mem_of_mem_take hc)
    have hhl : (headOf bits).length ≤ 118 := by unfold headOf; rw [List.length_take]; omega
    have RD := hide (fun W => frRead_any ⟨(headOf bits).toArray⟩ W (by rw [toList_of]; exact hhb) (by rw [size_of]; omega))
    rw [toList_of] at RD
    have RY := hide (fun h => FP.read_yes (l := headOf bits) h)
    have RN := hide (fun h => FP.read_not (l := headOf bits) h)
    have hsz := size_of bits
    obtain ⟨m, hm⟩ : ∃ m : Nat, (bits.length : Int) - 15 = m := ⟨bits.length - 15, by omega⟩
    have EX := hide (show (⟨bits.toArray⟩ : ByteArray).extract 0 m = ⟨(headOf bits).toArray⟩ by
      rw [bytes_extract]
      unfold headOf
      rw [List.extract_eq_take_drop, show m - 0 = bits.length - 15 by omega, List.drop_zero])
    have hml : m ≤ bits.length := by omega
    have hPF := PF.out
    rw [if_neg (fun x => x rfl)] at hPF
    replace PF := hide hPF
    clear OK o1 o2 o3 o4 o5 hhb hPF
    generalize headOf bits = hd at *
    generalize hbs : (⟨bits.toArray⟩ : ByteArray) = bs at *
    generalize hhs : (⟨hd.toArray⟩ : ByteArray) = hs9 at *
    rw [← hsz] at hm hml hl15 hlm
    have HB := hide hbs
    have HS := hide hhs
    clear hbs hhs hsz
    by_cases hc : crcOf bits = 0
    · have hP := PF.out
      rw [if_neg (fun x => x (CL.out.1 hc))] at hP
      replace PF := hide hP
      rw [decide_eq_true hc] at CK
      clear hc CL hP
      go_enter Tryz.func24, Tryz.ntmps24
      go_wp2_with fail
      refine (RT.out _).mono ?_
      rintro e1 w1 ⟨rfl, q1⟩
      have C1 := hide (heap_below B0.out q1)
      have Q1 := hide (below_next q0 q0.size q1)
      clear q0 q1 B0
      go_wp2_with fail
      refine (SF.out _).mono ?_
      rintro e2 w2 ⟨rfl, q2⟩
      have C2 := hide (heap_below C1.out q2)
      have Q2 := hide (below_next Q1.out Q1.out.size q2)
      clear C1 Q1 q2
      go_wp2_with fail
      refine (CK.out _).mono ?_
      rintro e3 w3 ⟨rfl, q3⟩
      have C3 := hide (heap_below C2.out q3)
      have Q3 := hide (below_next Q2.out Q2.out.size q3)
      clear C2 Q2 q3
      go_wp2_with fail
      go_loopw [39] (fun vi W => ∃ i : Nat, i ≤ 10 ∧ vi = .int .i64 i ∧ Hid (tailE s.data.toList n 10 = tailE s.data.toList n (10 - i)) ∧ Hid (W.heap[w.heap.size]? = some (.cells #[.int .u32 0, .bool false, .bool false, .int .i64 0, .string ⟨#[]⟩] 45 (0, 0))) ∧ Hid (Below w.heap.size w W)) (fun vi _ => 10 - (intOf vi).toNat)
      case atStart => exact ⟨0, Nat.zero_le _, rfl, rfl, C3, Q3⟩
      case round =>
        clear C3 Q3
        obtain ⟨i, hi, rfl, hT, C3, Q3⟩ := hrel
        by_cases hlt : i < 10
        · have hT2 := hT.out
          rw [TS.out n i hlt, LS.out] at hT2
          by_cases hsh : s.size ≤ n + i
          · rw [if_pos hsh] at hT2
            have hsh' : decide ((s.size : Int) ≤ n + i) = true := decide_eq_true (by omega)
            have hsh'' : (s.size : Int) ≤ n + i := by omega
            have hP := PF.out
            rw [if_pos (by rw [hT2]; decide), hT2] at hP
            have HP := hide hP
            clear hT2 hT PF hP TS
            go_wp2_with fail
            refine (NO.out _ _).mono ?_
            rintro ex wx ⟨rfl, qx⟩
            have Cx := hide (heap_below C3.out qx)
            have Qx := hide (below_next Q3.out Q3.out.size qx)
            clear qx C3 Q3
            go_wp2_with (refine wpList_store_hid (by rfl) 45 (.tmp 2) (.tmp 51) (by rfl) w.heap.size 0 [.int .u32 0, .bool false, .bool false, .int .i64 0, .string ⟨#[]⟩] (by rfl) (by rfl) (by exact frThere (id := 0) Cx.out) (by kernel_rfl) (by simp [Value.oneCell']) ?_)
            intro We ee
            have Cz := whole_heap [.int .u32 0, .bool false, .bool false, .int .i64 0, .string ⟨#[]⟩] (xs := [_, _, _, _, _]) Cx.out rfl
            have qz := Qx.out.trans (below_setCells (g := w.heap.size) [.int .u32 0, .bool false, .bool false, .int .i64 0, .string ⟨#[]⟩] 0 _ (Nat.le_refl _))
            rw [← ee.out] at Cz qz
            clear ee Cx Qx
            obtain ⟨y0, y1, y2, y3, y4⟩ := frCells (id := 0) Cz
            have Qz := hide qz
            clear Cz qz
            go_wp2_with fail
            refine bodyPost_ret (v := .tuple #[.agg #[.int .u32 0, .bool false, .bool false, .int .i64 0, .string ⟨#[]⟩], .int .i64 0, .int .i64 3]) (by simp [results, Tryz.results24, go_sem, y0, y1, y2, y3, y4]) rfl ⟨by rw [HP.out]; rfl, Qz.out⟩
          · rw [if_neg hsh] at hT2
            have hsh' : decide ((s.size : Int) ≤ n + i) = false := decide_eq_false (by omega)
            have hni : n + i < s.size := by omega
            have hni' : (n : Int) + i < s.size := by omega
            have hn0 : (0 : Int) ≤ (n : Int) + i := by omega
            have bA := bit_eq (BT.out (n + i) hni)
            rw [← GS.out (n + i) hni] at bA
            by_cases h1 : i = 1
            · have e1 : ((i : Int) != 1) = false := by rw [h1]; rfl
              rw [if_neg (fun x => x.1 h1)] at hT2
              have HT := hide hT2
              clear hT2 hT bA h1
              go_wp2_with fail
              refine wp_region_tame (by kernel_rfl) (by kernel_rfl) ?_
              repeat (go_big_quiet_step (fail))
              refine wpQuiet_nil ?_
              rintro _ ⟨sw, rfl⟩
              have C4 := hide (heap_below C3.out sw.h)
              have Q4 := hide (below_next Q3.out Q3.out.size sw.h)
              clear C3 Q3
              go_wp2_with fail
              go_roundw
              case rel => exact ⟨i + 1, by omega, by go_num, HT, C4, Q4⟩
              case measure => simp [intOf]; omega
            · have hi10 : (i : Int) < 10 := by omega
              have e1 : ((i : Int) != 1) = true := by rw [bne_iff_ne]; omega
              have hti : ∀ h, (⟨#[49, 49, 49, 49, 49, 49, 49, 49, 49, 49]⟩ : ByteArray)[i]'h = 49 := fun h => by
                have : i = 0 ∨ i = 1 ∨ i = 2 ∨ i = 3 ∨ i = 4 ∨ i = 5 ∨ i = 6 ∨ i = 7 ∨ i = 8 ∨ i = 9 := by omega
                rcases this with rfl | rfl | rfl | rfl | rfl | rfl | rfl | rfl | rfl | rfl <;> rfl
              by_cases hA : s.data.toList[n + i]? = some 49
              · rw [if_neg (fun x => x.2 hA)] at hT2
                have HT := hide hT2
                rw [decide_eq_true hA] at bA
                have bB : ((s[n + i].toNat : Int) != 49) = false := by unfold bne; rw [bA]; rfl
                clear hT2 hT hA h1
                go_wp2_with fail
                refine wp_region_tame (by kernel_rfl) (by kernel_rfl) ?_
                repeat (go_big_quiet_step (fail))
                refine wpQuiet_nil ?_
                rintro _ ⟨sw, rfl⟩
                have C4 := hide (heap_below C3.out sw.h)
                have Q4 := hide (below_next Q3.out Q3.out.size sw.h)
                clear C3 Q3
                go_wp2_with fail
                go_roundw
                case rel => exact ⟨i + 1, by omega, by go_num, HT, C4, Q4⟩
                case measure => simp [intOf]; omega
              · rw [if_pos ⟨h1, hA⟩] at hT2
                have hP := PF.out
                rw [if_pos (by rw [hT2]; decide), hT2] at hP
                have HP := hide hP
                rw [decide_eq_false hA] at bA
                have bB : ((s[n + i].toNat : Int) != 49) = true := by unfold bne; rw [bA]; rfl
                clear hT2 hT hA h1 hP PF TS
                go_wp2_with fail
                refine wp_region_tame (by kernel_rfl) (by kernel_rfl) ?_
                repeat (go_big_quiet_step (fail))
                refine wpQuiet_nil ?_
                rintro _ ⟨sw, rfl⟩
                have C4 := hide (heap_below C3.out sw.h)
                have Q4 := hide (below_next Q3.out Q3.out.size sw.h)
                clear C3 Q3
                go_wp2_with fail
                refine (NO.out _ _).mono ?_
                rintro ex wx ⟨rfl, qx⟩
                have Cx := hide (heap_below C4.out qx)
                have Qx := hide (below_next Q4.out Q4.out.size qx)
                clear qx C4 Q4
                go_wp2_with (refine wpList_store_hid (by rfl) 45 (.tmp 2) (.tmp 69) (by rfl) w.heap.size 0 [.int .u32 0, .bool false, .bool false, .int .i64 0, .string ⟨#[]⟩] (by rfl) (by rfl) (by exact frThere (id := 0) Cx.out) (by kernel_rfl) (by simp [Value.oneCell']) ?_)
                intro We ee
                have Cz := whole_heap [.int .u32 0, .bool false, .bool false, .int .i64 0, .string ⟨#[]⟩] (xs := [_, _, _, _, _]) Cx.out rfl
                have qz := Qx.out.trans (below_setCells (g := w.heap.size) [.int .u32 0, .bool false, .bool false, .int .i64 0, .string ⟨#[]⟩] 0 _ (Nat.le_refl _))
                rw [← ee.out] at Cz qz
                clear ee Cx Qx
                obtain ⟨y0, y1, y2, y3, y4⟩ := frCells (id := 0) Cz
                have Qz := hide qz
                clear Cz qz
                go_wp2_with fail
                refine bodyPost_ret (v := .tuple #[.agg #[.int .u32 0, .bool false, .bool false, .int .i64 0, .string ⟨#[]⟩], .int .i64 0, .int .i64 12]) (by simp [results, Tryz.results24, go_sem, y0, y1, y2, y3, y4]) rfl ⟨by rw [HP.out]; rfl, Qz.out⟩
        · obtain rfl : i = 10 := by omega
          have hT2 := hT.out
          rw [tail_zero] at hT2
          have hP := PF.out
          rw [if_neg (fun x => x hT2)] at hP
          have z0 : w.heap.size < wr.heap.size := heap_lt C3.out
          have em := EX.out
          have hms : (m : Int) ≤ bs.size := by omega
          cases hr : readB hd with
          | true =>
            rw [hr, if_pos rfl] at hP
            have HP := hide hP
            obtain ⟨r1, r2⟩ := RY.out hr
            rw [r1, r2] at RD
            clear hr hT2 hT hP PF TS r1 r2 RY RN
            generalize rawF hd = f at *
            obtain ⟨id, ext, rem, dlc, data⟩ := f
            dsimp only at *
            go_wp2_with fail
            refine (RD.out _).mono ?_
            rintro e5 w5 ⟨rfl, q5⟩
            have C5 := hide (heap_below C3.out q5)
            have Q5 := hide (below_next Q3.out Q3.out.size q5)
            have al := (Below.refl w5.heap.size w5).alloc (Nat.le_refl _) (.cells #[.int .u32 0, .bool false, .bool false, .int .i64 0, .string ⟨#[]⟩] 45)
            have F5 := hide (World.alloc_heap_new w5 (.cells #[.int .u32 0, .bool false, .bool false, .int .i64 0, .string ⟨#[]⟩] 45))
            clear q5 C3 Q3 em
            go_wp2_with (refine wpList_store_hid (by rfl) 45 (.tmp 10) (.tmp 80) (by rfl) w5.heap.size 0 [.int .u32 id, .bool ext, .bool rem, .int .i64 dlc, .string data] (by rfl) (by rfl) (by exact frThere (id := 0) F5.out) (by kernel_rfl) (by simp [Value.oneCell']) ?_)
            intro W6 e6
            have F6 := whole_heap [.int .u32 id, .bool ext, .bool rem, .int .i64 dlc, .string data] (xs := [_, _, _, _, _]) F5.out rfl
            have b6 := al.trans (below_setCells (g := w5.heap.size) [.int .u32 id, .bool ext, .bool rem, .int .i64 dlc, .string data] 0 _ (Nat.le_refl _))
            rw [← e6.out] at F6 b6
            have C6 := hide (heap_below C5.out b6)
            have Q6 := hide (below_next Q5.out Q5.out.size b6)
            replace F6 := hide F6
            clear e6 b6 al F5 C5 Q5
            obtain ⟨f0, f1, f2, f3, f4⟩ := frCells F6.out
            have hn10 : IntKind.i64.wrap ((n : Int) + 10) = (n : Int) + 10 := IntWalk.i64_in _ (by omega)
            go_wp2_with (refine wpList_store_hid (by rfl) 45 (.tmp 2) (.tmp 90) (by rfl) w.heap.size 0 [.int .u32 id, .bool ext, .bool rem, .int .i64 dlc, .string data] (by rfl) (by rfl) (by exact frThere (id := 0) C6.out) (by kernel_rfl) (by simp [Value.oneCell']) ?_)
            intro We ee
            have Cz := whole_heap [.int .u32 id, .bool ext, .bool rem, .int .i64 dlc, .string data] (xs := [_, _, _, _, _]) C6.out rfl
            have qz := Q6.out.trans (below_setCells (g := w.heap.size) [.int .u32 id, .bool ext, .bool rem, .int .i64 dlc, .string data] 0 _ (Nat.le_refl _))
            rw [← ee.out] at Cz qz
            clear ee C6 Q6
            obtain ⟨y0, y1, y2, y3, y4⟩ := frCells  Cz
            have Qz := hide qz
            clear Cz qz
            go_wp2_with fail
            refine bodyPost_ret (v := .tuple #[.agg #[.int .u32 id, .bool ext, .bool rem, .int .i64 dlc, .string data], .int .i64 ((n : Int) + 10), .int .i64 0]) (by simp [results, Tryz.results24, go_sem, y0, y1, y2, y3, y4]) rfl ⟨by rw [HP.out]; simp, Qz.out⟩
          | false =>
            rw [hr] at hP
            have HP := hide hP
            obtain ⟨r1, r2⟩ := RN.out hr
            rw [r1, r2] at RD
            clear hr hT2 hT hP PF TS r1 r2 RY RN
            go_wp2_with fail
            refine (RD.out _).mono ?_
            rintro e5 w5 ⟨rfl, q5⟩
            have C5 := hide (heap_below C3.out q5)
            have Q5 := hide (below_next Q3.out Q3.out.size q5)
            have al := (Below.refl w5.heap.size w5).alloc (Nat.le_refl _) (.cells #[.int .u32 0, .bool false, .bool false, .int .i64 0, .string ⟨#[]⟩] 45)
            have F5 := hide (World.alloc_heap_new w5 (.cells #[.int .u32 0, .bool false, .bool false, .int .i64 0, .string ⟨#[]⟩] 45))
            clear q5 C3 Q3 em
            go_wp2_with (refine wpList_store_hid (by rfl) 45 (.tmp 10) (.tmp 80) (by rfl) w5.heap.size 0 [.int .u32 0, .bool false, .bool false, .int .i64 0, .string ⟨#[]⟩] (by rfl) (by rfl) (by exact frThere (id := 0) F5.out) (by kernel_rfl) (by simp [Value.oneCell']) ?_)
            intro W6 e6
            have F6 := whole_heap [.int .u32 0, .bool false, .bool false, .int .i64 0, .string ⟨#[]⟩] (xs := [_, _, _, _, _]) F5.out rfl
            have b6 := al.trans (below_setCells (g := w5.heap.size) [.int .u32 0, .bool false, .bool false, .int .i64 0, .string ⟨#[]⟩] 0 _ (Nat.le_refl _))
            rw [← e6.out] at F6 b6
            have C6 := hide (heap_below C5.out b6)
            have Q6 := hide (below_next Q5.out Q5.out.size b6)
            replace F6 := hide F6
            clear e6 b6 al F5 C5 Q5
            go_wp2_with fail
            refine (NO.out _ _).mono ?_
            rintro ex wx ⟨rfl, qx⟩
            have Cx := hide (heap_below C6.out qx)
            have Qx := hide (below_next Q6.out Q6.out.size qx)
            clear qx C6 Q6
            go_wp2_with (refine wpList_store_hid (by rfl) 45 (.tmp 2) (.tmp 87) (by rfl) w.heap.size 0 [.int .u32 0, .bool false, .bool false, .int .i64 0, .string ⟨#[]⟩] (by rfl) (by rfl) (by exact frThere (id := 0) Cx.out) (by kernel_rfl) (by simp [Value.oneCell']) ?_)
            intro We ee
            have Cz := whole_heap [.int .u32 0, .bool false, .bool false, .int .i64 0, .string ⟨#[]⟩] (xs := [_, _, _, _, _]) Cx.out rfl
            have qz := Qx.out.trans (below_setCells (g := w.heap.size) [.int .u32 0, .bool false, .bool false, .int .i64 0, .string ⟨#[]⟩] 0 _ (Nat.le_refl _))
            rw [← ee.out] at Cz qz
            clear ee Cx Qx
            obtain ⟨y0, y1, y2, y3, y4⟩ := frCells (id := 0) Cz
            have Qz := hide qz
            clear Cz qz
            go_wp2_with fail
            refine bodyPost_ret (v := .tuple #[.agg #[.int .u32 0, .bool false, .bool false, .int .i64 0, .string ⟨#[]⟩], .int .i64 0, .int .i64 12]) (by simp [results, Tryz.results24, go_sem, y0, y1, y2, y3, y4]) rfl ⟨by rw [HP.out]; rfl, Qz.out⟩
    · have hP := PF.out
      rw [if_pos (fun x => hc (CL.out.2 x))] at hP
      have HP := hide hP
      rw [decide_eq_false hc] at CK
      clear hc CL hP PF RD RY RN TS GS BT
      go_enter Tryz.func24, Tryz.ntmps24
      go_wp2_with fail
      refine (RT.out _).mono ?_
      rintro e1 w1 ⟨rfl, q1⟩
      have C1 := hide (heap_below B0.out q1)
      have Q1 := hide (below_next q0 q0.size q1)
      clear q0 q1 B0
      go_wp2_with fail
      refine (SF.out _).mono ?_
      rintro e2 w2 ⟨rfl, q2⟩
      have C2 := hide (heap_below C1.out q2)
      have Q2 := hide (below_next Q1.out Q1.out.size q2)
      clear C1 Q1 q2
      go_wp2_with fail
      refine (CK.out _).mono ?_
      rintro e3 w3 ⟨rfl, q3⟩
      have C3 := hide (heap_below C2.out q3)
      have Q3 := hide (below_next Q2.out Q2.out.size q3)
      clear C2 Q2 q3
      go_wp2_with fail
      refine (NO.out _ _).mono ?_
      rintro ex wx ⟨rfl, qx⟩
      have Cx := hide (heap_below C3.out qx)
      have Qx := hide (below_next Q3.out Q3.out.size qx)
      clear qx C3 Q3
      go_wp2_with (refine wpList_store_hid (by rfl) 45 (.tmp 2) (.tmp 36) (by rfl) w.heap.size 0 [.int .u32 0, .bool false, .bool false, .int .i64 0, .string ⟨#[]⟩] (by rfl) (by rfl) (by exact frThere (id := 0) Cx.out) (by kernel_rfl) (by simp [Value.oneCell']) ?_)
      intro We ee
      have Cz := whole_heap [.int .u32 0, .bool false, .bool false, .int .i64 0, .string ⟨#[]⟩] (xs := [_, _, _, _, _]) Cx.out rfl
      have qz := Qx.out.trans (below_setCells (g := w.heap.size) [.int .u32 0, .bool false, .bool false, .int .i64 0, .string ⟨#[]⟩] 0 _ (Nat.le_refl _))
      rw [← ee.out] at Cz qz
      clear ee Cx Qx
      obtain ⟨y0, y1, y2, y3, y4⟩ := frCells (id := 0) Cz
      have Qz := hide qz
      clear Cz qz
      go_wp2_with fail
      refine bodyPost_ret (v := .tuple #[.agg #[.int .u32 0, .bool false, .bool false, .int .i64 0, .string ⟨#[]⟩], .int .i64 0, .int .i64 11]) (by simp [results, Tryz.results24, go_sem, y0, y1, y2, y3, y4]) rfl ⟨by rw [HP.out]; rfl, Qz.out⟩
  · have hP := PF.out
    rw [if_pos he] at hP
    have HP := hide hP
    have he' : ((re : Int) != 0) = true := by rw [bne_iff_ne]; omega
    clear PF he OK TS GS BT hP
    generalize hbs : (⟨bits.toArray⟩ : ByteArray) = bs at *
    go_enter Tryz.func24, Tryz.ntmps24
    go_wp2_with fail
    refine (RT.out _).mono ?_
    rintro e1 w1 ⟨rfl, q1⟩
    have C1 := hide (heap_below B0.out q1)
    have Q1 := hide (below_next q0 q0.size q1)
    clear q0 q1 B0
    go_wp2_with fail
    refine (SF.out _).mono ?_
    rintro e2 w2 ⟨rfl, q2⟩
    have C2 := hide (heap_below C1.out q2)
    have Q2 := hide (below_next Q1.out Q1.out.size q2)
    clear C1 Q1 q2
    go_wp2_with fail
    refine (NO.out _ _).mono ?_
    rintro ex wx ⟨rfl, qx⟩
    have Cx := hide (heap_below C2.out qx)
    have Qx := hide (below_next Q2.out Q2.out.size qx)
    clear qx C2 Q2
    go_wp2_with (refine wpList_store_hid (by rfl) 45 (.tmp 2) (.tmp 27) (by rfl) w.heap.size 0 [.int .u32 0, .bool false, .bool false, .int .i64 0, .string ⟨#[]⟩] (by rfl) (by rfl) (by exact frThere (id := 0) Cx.out) (by kernel_rfl) (by simp [Value.oneCell']) ?_)
    intro We ee
    have Cz := whole_heap [.int .u32 0, .bool false, .bool false, .int .i64 0, .string ⟨#[]⟩] (xs := [_, _, _, _, _]) Cx.out rfl
    have qz := Qx.out.trans (below_setCells (g := w.heap.size) [.int .u32 0, .bool false, .bool false, .int .i64 0, .string ⟨#[]⟩] 0 _ (Nat.le_refl _))
    rw [← ee.out] at Cz qz
    clear ee Cx Qx
    obtain ⟨y0, y1, y2, y3, y4⟩ := frCells (id := 0) Cz
    have Qz := hide qz
    clear Cz qz
    go_wp2_with fail
    refine bodyPost_ret (v := .tuple #[.agg #[.int .u32 0, .bool false, .bool false, .int .i64 0, .string ⟨#[]⟩], .int .i64 0, .int .i64 re]) (by simp [results, Tryz.results24, go_sem, y0, y1, y2, y3, y4]) rfl ⟨by rw [HP.out]; rfl, Qz.out⟩
end Go.Proofs.YthkilodnghiocaaGreatDoor
