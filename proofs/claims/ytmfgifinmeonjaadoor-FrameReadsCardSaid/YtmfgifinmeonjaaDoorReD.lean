/- The walks of the reference's Read of heads at every row, and Parse. -/
import Derived.Test.YtmfgifinmeonjaaDoorReB
import Derived.Test.YtmfgifinmeonjaaDoorReC
namespace Go.Proofs.YtmfgifinmeonjaaDoor
open Go.ChangeShapes Go.WideShapes Go.ChangeAt Go.RowKit
open FP (bit bitsOf numOf Fr headF sizeE sizeV fxN dlN rawF readB sizedB fr0 parseF stuffedF SR PR tailE headOf sumF crcOf)

def refRd (l : List UInt8) : Fr := if sizedB l then rawF l else fr0

set_option maxRecDepth 100000 in
set_option maxHeartbeats 4000000 in
theorem ref04Read_no (s : ByteArray) (w : World) (v e0 : Int) (hs : s.size ≤ maxLen) (h : (e0 != 0) = true ∨ (e0 != 0) = false ∧ (v != (s.size : Int)) = true)
    (SZ : ∀ W, Calls Tryd.prog 32 #[.string s] W fun e w' => e = .returned (.tuple #[.int .i64 v, .int .i64 e0]) ∧ W = w') :
    Calls Tryd.prog 33 #[.string s] w fun e w' => e = .returned (.tuple #[.agg #[.int .u32 0, .bool false, .bool false, .int .i64 0, .string ⟨#[]⟩], .bool false]) ∧ Below w.heap.size w w' := by
  have S := hide SZ
  clear SZ
  unfold maxLen at hs
  have q0 : Below w.heap.size w (w.alloc (.cells #[.int .u32 0, .bool false, .bool false, .int .i64 0, .string ⟨#[]⟩] 24)) := (Below.refl _ _).alloc (Nat.le_refl _) _
  have B0 := hide (World.alloc_heap_new w (.cells #[.int .u32 0, .bool false, .bool false, .int .i64 0, .string ⟨#[]⟩] 24))
  rcases h with h | ⟨h1, h⟩
  all_goals
    go_enter Tryd.func33, Tryd.ntmps33
    go_wp2_with fail
    refine (S.out _).mono ?_
    rintro e1 w1 ⟨rfl, rfl⟩
    go_wp2_with (refine wpList_store_hid (by rfl) 24 (.tmp 2) (.tmp 23) (by rfl) w.heap.size 0 [.int .u32 0, .bool false, .bool false, .int .i64 0, .string ⟨#[]⟩] (by rfl) (by rfl) (by exact frThere (id := 0) B0.out) (by kernel_rfl) (by simp [Value.oneCell']) ?_)
    intro W2 e2
    have C2 := whole_heap [.int .u32 0, .bool false, .bool false, .int .i64 0, .string ⟨#[]⟩] (xs := [_, _, _, _, _]) B0.out rfl
    have q2 := q0.trans (below_setCells (g := w.heap.size) [.int .u32 0, .bool false, .bool false, .int .i64 0, .string ⟨#[]⟩] 0 _ (Nat.le_refl _))
    rw [← e2.out] at C2 q2
    clear e2
    obtain ⟨y0, y1, y2, y3, y4⟩ := frCells (id := 0) C2
    have Q2 := hide q2
    clear C2 q2
    go_wp2
    refine bodyPost_ret (v := .tuple #[.agg #[.int .u32 0, .bool false, .bool false, .int .i64 0, .string ⟨#[]⟩], .bool false]) (by simp [results, Tryd.results33, go_sem, y0, y1, y2, y3, y4]) rfl ⟨rfl, Q2.out⟩

theorem ref04Read_any (s : ByteArray) (w : World) (hb : ∀ c ∈ s.data.toList, c = 48 ∨ c = 49) (hs : s.size ≤ 4000) :
    Calls Tryd.prog 33 #[.string s] w fun e w' => e = .returned (.tuple #[.agg #[.int .u32 (refRd s.data.toList).id, .bool (refRd s.data.toList).ext, .bool (refRd s.data.toList).rem, .int .i64 (refRd s.data.toList).dlc, .string (refRd s.data.toList).data], .bool (readB s.data.toList)]) ∧ Below w.heap.size w w' := by
  cases hz : sizedB s.data.toList with
  | true =>
    have h : refRd s.data.toList = rawF s.data.toList := by unfold refRd; rw [hz]; rfl
    rw [h]
    exact ref04Read_sized s w hb hs hz
  | false =>
    have LS : s.data.toList.length = s.size := Array.length_toList
    have hr : readB s.data.toList = false := by unfold readB; rw [hz]; rfl
    have h : refRd s.data.toList = fr0 := by unfold refRd; rw [hz]; rfl
    rw [hr, h]
    refine ref04Read_no s w (sizeV s.data.toList : Nat) (sizeE s.data.toList : Nat) (by unfold maxLen; omega) ?_ (fun W => refSize_any s W hb hs)
    by_cases he : sizeE s.data.toList = 0
    · right
      refine ⟨by rw [he]; rfl, ?_⟩
      rw [bne_iff_ne]
      intro h
      unfold sizedB at hz
      rw [decide_eq_true he, decide_eq_true (show sizeV s.data.toList = s.data.toList.length by omega)] at hz
      cases hz
    · left
      rw [bne_iff_ne]; omega

/-- The reference's memory: the answer's box (zero), what was unstuffed (block g). -/
structure PgM (w : World) (g : Nat) (x y z : Value) (W : World) : Prop where
  q : Below w.heap.size w W
  zb : W.heap[w.heap.size]? = some (.cells #[.int .u32 0, .bool false, .bool false, .int .i64 0, .string ⟨#[]⟩] 24 (0, 0))
  tb : W.heap[g]? = some (.cells #[x, y, z] 74 (0, 0))
  hg : w.heap.size + 1 ≤ g
theorem PgM.below {w W W' : World} {g : Nat} {x y z : Value} (h : PgM w g x y z W) (q : Below W.heap.size W W') : PgM w g x y z W' :=
  ⟨below_next h.q h.q.size q, heap_below h.zb q, heap_below h.tb q, h.hg⟩
theorem PgM.drew {w W : World} {g : Nat} {x y z : Value} (h : PgM w g x y z W) : PgM w g x y z W.drew := ⟨h.q.drew, h.zb, h.tb, h.hg⟩
theorem PgM.lt {w W : World} {g : Nat} {x y z : Value} (h : PgM w g x y z W) : g < W.heap.size := heap_lt h.tb

set_option maxRecDepth 100000 in
set_option maxHeartbeats 4000000 in
theorem ref04Parse_any (s : ByteArray) (w : World) (hb : ∀ c ∈ s.data.toList, c = 48 ∨ c = 49) (hs : s.size ≤ 4000) :
    Calls Tryd.prog 34 #[.string s] w fun e w' => e = .returned (.tuple #[.agg #[.int .u32 (parseF s.data.toList).f.id, .bool (parseF s.data.toList).f.ext, .bool (parseF s.data.toList).f.rem, .int .i64 (parseF s.data.toList).f.dlc, .string (parseF s.data.toList).f.data], .int .i64 (parseF s.data.toList).n, .int .i64 (parseF s.data.toList).e]) ∧ Below w.heap.size w w' := by
  have LS := hide (show s.data.toList.length = s.size from Array.length_toList)
  have SF := hide (fun W => refStuffed_any s W hb hs)
  have OK := hide (fun h => FP.stuffed_ok s.data.toList 0 0 [] 0 h hb (by simp))
  have PF := hide (show parseF s.data.toList = (if (stuffedF s.data.toList 0 0 [] 0).e ≠ 0 then ⟨(stuffedF s.data.toList 0 0 [] 0).e, fr0, 0⟩ else
    if sumF (headOf (stuffedF s.data.toList 0 0 [] 0).bits) ≠ (stuffedF s.data.toList 0 0 [] 0).bits then ⟨11, fr0, 0⟩ else
    if tailE s.data.toList (stuffedF s.data.toList 0 0 [] 0).n 10 ≠ 0 then ⟨tailE s.data.toList (stuffedF s.data.toList 0 0 [] 0).n 10, fr0, 0⟩ else
    if readB (headOf (stuffedF s.data.toList 0 0 [] 0).bits) then ⟨0, rawF (headOf (stuffedF s.data.toList 0 0 [] 0).bits), (stuffedF s.data.toList 0 0 [] 0).n + 10⟩ else ⟨12, fr0, 0⟩) from rfl)
  have TS := hide (fun n i (h : i < 10) => tail_step s.data.toList n h)
  have GS := hide (fun j (h : j < s.size) => get_some s j h)
  have BT := hide (fun j (hj : j < s.size) => show s[j] = 48 ∨ s[j] = 49 from hb _ (List.getElem_mem (l := s.data.toList) (by rw [LS.out]; exact hj)))
  generalize parseF s.data.toList = pr at *
  generalize stuffedF s.data.toList 0 0 [] 0 = R at *
  obtain ⟨re, bits, n⟩ := R
  dsimp only at *
  have q0 : Below w.heap.size w (w.alloc (.cells #[.int .u32 0, .bool false, .bool false, .int .i64 0, .string ⟨#[]⟩] 24)) := (Below.refl _ _).alloc (Nat.le_refl _) _
  have B0 := hide (World.alloc_heap_new w (.cells #[.int .u32 0, .bool false, .bool false, .int .i64 0, .string ⟨#[]⟩] 24))
  clear hb
  by_cases he : re = 0
  · subst he
    obtain ⟨o1, o2, o3, o4, o5⟩ := OK.out rfl
    have hn4 : n ≤ 4000 := by have := LS.out; omega
    have hl15 : 15 ≤ bits.length := by omega
    have hsv := FP.sizeV_bd bits
    have hlm : bits.length ≤ 118 := by omega
    have hhb : ∀ c ∈ headOf bits, c = 48 ∨ c = 49 := fun c hc => o3 c (List.mem_of_mem_take hc)
    have hhl : (headOf bits).length ≤ 118 := by unfold headOf; rw [List.length_take]; omega
    have SM := hide (fun W => refSum_any (headOf bits) W hhb (by omega))
    have RD := hide (fun W => ref04Read_any ⟨(headOf bits).toArray⟩ W (by rw [toList_of]; exact hhb) (by rw [size_of]; omega))
    rw [toList_of] at RD
    have RY := hide (fun (h : readB (headOf bits) = true) => show refRd (headOf bits) = rawF (headOf bits) from by
      unfold refRd
      unfold readB at h
      rw [Bool.and_eq_true] at h
      rw [h.1]; rfl)
    have hsz := size_of bits
    obtain ⟨m, hm⟩ : ∃ m : Nat, (bits.length : Int) - 15 = m := ⟨bits.length - 15, by omega⟩
    have EX := hide (show (⟨bits.toArray⟩ : ByteArray).extract 0 m = ⟨(headOf bits).toArray⟩ by
      rw [bytes_extract]
      unfold headOf
      rw [List.extract_eq_take_drop, show m - 0 = bits.length - 15 by omega, List.drop_zero])
    have hml : m ≤ bits.length := by omega
    have hPF := PF.out
    rw [if_neg (fun x => x rfl)] at hPF
    replace PF := hide hPF
    clear OK o1 o2 o3 o4 o5 hhb hPF
    generalize headOf bits = hd at *
    generalize hsf : (⟨(sumF hd).toArray⟩ : ByteArray) = sf at *
    generalize hbs : (⟨bits.toArray⟩ : ByteArray) = bs at *
    generalize hhs : (⟨hd.toArray⟩ : ByteArray) = hs9 at *
    rw [← hsz] at hm hml hl15 hlm
    have HB := hide hbs
    have HS := hide hhs
    have EQ : (sf.toList == bs.toList) = decide (sumF hd = bits) := by
      rw [← hsf, ← hbs, Lib.toList_data, Lib.toList_data, Bool.eq_iff_iff]
      simp
    clear hbs hhs hsz hsf
    have em := EX.out
    by_cases hc : sumF hd = bits
    · have hP := PF.out
      rw [if_neg (fun x => x hc)] at hP
      replace PF := hide hP
      rw [decide_eq_true hc] at EQ
      have EN : (!sf.toList == bs.toList) = false := by rw [EQ]; rfl
      clear hc hP
      go_enter Tryd.func34, Tryd.ntmps34
      go_wp2_with fail
      refine (SF.out _).mono ?_
      rintro e2 w2 ⟨rfl, q2⟩
      have C2 := hide (heap_below B0.out q2)
      have Q2 := hide (below_next q0 q0.size q2)
      have hz2 : w.heap.size + 1 ≤ w2.heap.size := heap_lt C2.out
      have al := (Below.refl w2.heap.size w2).alloc (Nat.le_refl _) (.cells #[.string ⟨#[]⟩, .int .i64 0, .int .i64 0] 74)
      have F2 := hide (World.alloc_heap_new w2 (.cells #[.string ⟨#[]⟩, .int .i64 0, .int .i64 0] 74))
      clear q2 q0 B0
      go_wp2_with (refine wpList_store_hid (by rfl) 74 (.tmp 5) (.tmp 11) (by rfl) w2.heap.size 0 [.string bs, .int .i64 n, .int .i64 0] (by rfl) (by rfl) (by exact (show World.there _ w2.heap.size 0 3 from there_heap (cs := [_, _, _]) F2.out)) (by kernel_rfl) (by simp [Value.oneCell']) ?_)
      intro W3 e3
      have F3 := whole_heap [.string bs, .int .i64 n, .int .i64 0] (xs := [_, _, _]) F2.out rfl
      have b3 := al.trans (below_setCells (g := w2.heap.size) [.string bs, .int .i64 n, .int .i64 0] 0 _ (Nat.le_refl _))
      rw [← e3.out] at F3 b3
      have M : Hid (PgM w w2.heap.size (.string bs) (.int .i64 n) (.int .i64 0) W3) := hide ⟨below_next Q2.out Q2.out.size b3, heap_below C2.out b3, F3, hz2⟩
      obtain ⟨g, hgg⟩ : ∃ g, g = w2.heap.size := ⟨_, rfl⟩
      rw [← hgg] at M ⊢
      clear hgg hz2 e3 F3 b3 al F2 C2 Q2
      obtain ⟨t0, t1, t2, _⟩ := three_t M.out.tb
      go_wp2_with fail
      have m0 := fun s : InW W3 => s.cell M.out.lt t0
      refine wp_region_tame (by kernel_rfl) (by kernel_rfl) ?_
      repeat (go_big_quiet_step ((go_at_call 41; exact tame_of (SM.out _))))
      refine wpQuiet_nil ?_
      rintro _ ⟨sw, rfl⟩
      have M4 := hide (M.out.below sw.h)
      clear m0 t0 t1 t2 M
      go_wp2_with fail
      go_loopw [7] (fun vi W => ∃ i : Nat, i ≤ 10 ∧ vi = .int .i64 i ∧ Hid (tailE s.data.toList n 10 = tailE s.data.toList n (10 - i)) ∧ Hid (PgM w g (.string bs) (.int .i64 n) (.int .i64 0) W)) (fun vi _ => 10 - (intOf vi).toNat)
      case atStart => exact ⟨0, Nat.zero_le _, rfl, rfl, M4⟩
      case round =>
        clear M4
        obtain ⟨i, hi, rfl, hT, M⟩ := hrel
        obtain ⟨t0, t1, t2, _⟩ := three_t M.out.tb
        by_cases hlt : i < 10
        · have hT2 := hT.out
          rw [TS.out n i hlt, LS.out] at hT2
          by_cases hsh : s.size ≤ n + i
          · rw [if_pos hsh] at hT2
            have hsh' : decide ((s.size : Int) ≤ n + i) = true := decide_eq_true (by omega)
            have hsh'' : (s.size : Int) ≤ n + i := by omega
            have hP := PF.out
            rw [if_pos (by rw [hT2]; decide), hT2] at hP
            have HP := hide hP
            clear hT2 hT PF hP TS
            go_wp2_with (refine wpList_store_hid (by rfl) 24 (.tmp 2) (.tmp 42) (by rfl) w.heap.size 0 [.int .u32 0, .bool false, .bool false, .int .i64 0, .string ⟨#[]⟩] (by rfl) (by rfl) (by exact frThere (id := 0) M.out.zb) (by kernel_rfl) (by simp [Value.oneCell']) ?_)
            intro We ee
            have Cz := whole_heap [.int .u32 0, .bool false, .bool false, .int .i64 0, .string ⟨#[]⟩] (xs := [_, _, _, _, _]) M.out.zb rfl
            have qz := M.out.q.trans (below_setCells (g := w.heap.size) [.int .u32 0, .bool false, .bool false, .int .i64 0, .string ⟨#[]⟩] 0 _ (Nat.le_refl _))
            rw [← ee.out] at Cz qz
            clear ee M
            obtain ⟨y0, y1, y2, y3, y4⟩ := frCells (id := 0) Cz
            have Qz := hide qz
            clear Cz qz
            go_wp2_with fail
            refine bodyPost_ret (v := .tuple #[.agg #[.int .u32 0, .bool false, .bool false, .int .i64 0, .string ⟨#[]⟩], .int .i64 0, .int .i64 3]) (by simp [results, Tryd.results34, go_sem, y0, y1, y2, y3, y4]) rfl ⟨by rw [HP.out]; rfl, Qz.out⟩
          · rw [if_neg hsh] at hT2
            have hsh' : decide ((s.size : Int) ≤ n + i) = false := decide_eq_false (by omega)
            have hni : n + i < s.size := by omega
            have hni' : (n : Int) + i < s.size := by omega
            have hn0 : (0 : Int) ≤ (n : Int) + i := by omega
            have bA := bit_eq (BT.out (n + i) hni)
            rw [← GS.out (n + i) hni] at bA
            by_cases h1 : i = 1
            · have e1 : ((i : Int) != 1) = false := by rw [h1]; rfl
              rw [if_neg (fun x => x.1 h1)] at hT2
              have HT := hide hT2
              clear hT2 hT bA h1
              go_wp2_with fail
              go_roundw
              case rel => exact ⟨i + 1, by omega, by go_num, HT, M⟩
              case measure => simp [intOf]; omega
            · have e1 : ((i : Int) != 1) = true := by rw [bne_iff_ne]; omega
              by_cases hA : s.data.toList[n + i]? = some 49
              · rw [if_neg (fun x => x.2 hA)] at hT2
                have HT := hide hT2
                rw [decide_eq_true hA] at bA
                have bB : ((s[n + i].toNat : Int) != 49) = false := by unfold bne; rw [bA]; rfl
                clear hT2 hT hA h1
                go_wp2_with fail
                go_roundw
                case rel => exact ⟨i + 1, by omega, by go_num, HT, M⟩
                case measure => simp [intOf]; omega
              · rw [if_pos ⟨h1, hA⟩] at hT2
                have hP := PF.out
                rw [if_pos (by rw [hT2]; decide), hT2] at hP
                have HP := hide hP
                rw [decide_eq_false hA] at bA
                have bB : ((s[n + i].toNat : Int) != 49) = true := by unfold bne; rw [bA]; rfl
                clear hT2 hT hA h1 hP PF TS
                go_wp2_with (refine wpList_store_hid (by rfl) 24 (.tmp 2) (.tmp 54) (by rfl) w.heap.size 0 [.int .u32 0, .bool false, .bool false, .int .i64 0, .string ⟨#[]⟩] (by rfl) (by rfl) (by exact frThere (id := 0) M.out.zb) (by kernel_rfl) (by simp [Value.oneCell']) ?_)
                intro We ee
                have Cz := whole_heap [.int .u32 0, .bool false, .bool false, .int .i64 0, .string ⟨#[]⟩] (xs := [_, _, _, _, _]) M.out.zb rfl
                have qz := M.out.q.trans (below_setCells (g := w.heap.size) [.int .u32 0, .bool false, .bool false, .int .i64 0, .string ⟨#[]⟩] 0 _ (Nat.le_refl _))
                rw [← ee.out] at Cz qz
                clear ee M
                obtain ⟨y0, y1, y2, y3, y4⟩ := frCells (id := 0) Cz
                have Qz := hide qz
                clear Cz qz
                go_wp2_with fail
                refine bodyPost_ret (v := .tuple #[.agg #[.int .u32 0, .bool false, .bool false, .int .i64 0, .string ⟨#[]⟩], .int .i64 0, .int .i64 12]) (by simp [results, Tryd.results34, go_sem, y0, y1, y2, y3, y4]) rfl ⟨by rw [HP.out]; rfl, Qz.out⟩
        · obtain rfl : i = 10 := by omega
          have hT2 := hT.out
          rw [tail_zero] at hT2
          have hP := PF.out
          rw [if_neg (fun x => x hT2)] at hP
          generalize hrf : refRd hd = f at *
          cases hr : readB hd with
          | true =>
            rw [hr, if_pos rfl, ← RY.out hr] at hP
            rw [hr] at RD
            have HP := hide hP
            clear hr hT2 hT hP PF TS RY hrf
            obtain ⟨id, ext, rem, dlc, data⟩ := f
            dsimp only at *
            go_wp2_with fail
            refine (RD.out _).mono ?_
            rintro e5 w5 ⟨rfl, q5⟩
            have M5 := hide (M.out.below q5)
            have al := (Below.refl w5.heap.size w5).alloc (Nat.le_refl _) (.cells #[.int .u32 0, .bool false, .bool false, .int .i64 0, .string ⟨#[]⟩] 24)
            have F5 := hide (World.alloc_heap_new w5 (.cells #[.int .u32 0, .bool false, .bool false, .int .i64 0, .string ⟨#[]⟩] 24))
            clear q5 M t0 t1 t2
            go_wp2_with (refine wpList_store_hid (by rfl) 24 (.tmp 8) (.tmp 58) (by rfl) w5.heap.size 0 [.int .u32 id, .bool ext, .bool rem, .int .i64 dlc, .string data] (by rfl) (by rfl) (by exact frThere (id := 0) F5.out) (by kernel_rfl) (by simp [Value.oneCell']) ?_)
            intro W6 e6
            have F6 := whole_heap [.int .u32 id, .bool ext, .bool rem, .int .i64 dlc, .string data] (xs := [_, _, _, _, _]) F5.out rfl
            have b6 := al.trans (below_setCells (g := w5.heap.size) [.int .u32 id, .bool ext, .bool rem, .int .i64 dlc, .string data] 0 _ (Nat.le_refl _))
            rw [← e6.out] at F6 b6
            have M6 := hide (M5.out.below b6)
            replace F6 := hide F6
            clear e6 b6 al F5 M5
            obtain ⟨f0, f1, f2, f3, f4⟩ := frCells F6.out
            have hn10 : IntKind.i64.wrap ((n : Int) + 10) = (n : Int) + 10 := IntWalk.i64_in _ (by omega)
            go_upto_region 17 with fail
            clear f0 f1 f2 f3 f4
            refine wp_region_L [0, 1, 2, 3] [(0, fun W => W.heap[w5.heap.size]? = some (.cells #[.int .u32 id, .bool ext, .bool rem, .int .i64 dlc, .string data] 24 (0, 0))), (2, fun W => W.heap[g]? = some (.cells #[.string bs, .int .i64 n, .int .i64 0] 74 (0, 0)))] (by kernel_rfl) ?_
            replace M6 : Hid (PgM w g (.string bs) (.int .i64 n) (.int .i64 0) W6.drew) := hide M6.out.drew
            replace F6 : Hid (W6.drew.heap[w5.heap.size]? = some (.cells #[.int .u32 id, .bool ext, .bool rem, .int .i64 dlc, .string data] 24 (0, 0))) := F6
            generalize W6.drew = W7 at *
            refine wpAnyL_load (i := 0) (v := .agg #[.int .u32 id, .bool ext, .bool rem, .int .i64 dlc, .string data]) rfl rfl (by kernel_rfl) (by kernel_rfl) (by kernel_rfl) (by kernel_rfl) (by kernel_rfl) (fun _ _ _ h => h) rfl (fun W h => exec_heap W w5.heap.size 24 _ _ h Tryd.underlying24 rfl (by kernel_rfl) _ _ (.tmp 8) (by rfl) (by rfl)) (F6.out) ?_
            go_simp
            refine wpAnyL_pure (i := 1) (v := .pointer (some ⟨g, 1, none⟩)) rfl rfl (by kernel_rfl) (by kernel_rfl) (by kernel_rfl) (by kernel_rfl) (by kernel_rfl) (fun _ _ _ h => h) rfl (fun W => by go_simp) ?_
            go_simp
            refine wpAnyL_load (i := 2) (v := .int .i64 n) rfl rfl (by kernel_rfl) (by kernel_rfl) (by kernel_rfl) (by kernel_rfl) (by kernel_rfl) (fun _ _ _ h => h) rfl (fun W h => by (have hc0 : W.cell? ⟨g, 1, none⟩ = some (.int .i64 n) := by simp [World.cell?, h]); clear h; go_simp) (M6.out.tb) ?_
            go_simp
            refine wpAnyL_pure (i := 3) (v := .int .i64 ((n : Int) + 10)) rfl rfl (by kernel_rfl) (by kernel_rfl) (by kernel_rfl) (by kernel_rfl) (by kernel_rfl) (fun _ _ _ h => h) rfl (fun W => by go_simp) ?_
            go_simp
            refine wpAnyL_one (i := 4) (by kernel_rfl) ?_
            refine wpOp_do rfl rfl ?_
            refine wp_store_as 24 (.tmp 2) (.tmp 63) rfl w.heap.size 0 [.int .u32 id, .bool ext, .bool rem, .int .i64 dlc, .string data] (by rfl) (by rfl) (by exact frThere (id := 0) M6.out.zb) (by kernel_rfl) (by simp [Value.oneCell']) ?_
            intro We ee
            have Cz := whole_heap [.int .u32 id, .bool ext, .bool rem, .int .i64 dlc, .string data] (xs := [_, _, _, _, _]) M6.out.zb rfl
            have qz := M6.out.q.trans (below_setCells (g := w.heap.size) [.int .u32 id, .bool ext, .bool rem, .int .i64 dlc, .string data] 0 _ (Nat.le_refl _))
            have Tz := other_heap (b := w.heap.size) (x := g) (by have := M6.out.hg; omega) [.int .u32 id, .bool ext, .bool rem, .int .i64 dlc, .string data] 0 _ M6.out.tb
            rw [← ee] at Cz qz Tz
            clear ee
            refine ⟨keepsL_mk (by kernel_rfl) (.past (by kernel_rfl) (.cons Tz .nil)), ?_⟩
            refine wpAnyL_one (i := 5) (by kernel_rfl) ?_
            refine wpOp_do rfl rfl ?_
            go_simp
            refine ⟨keepsL_all (by kernel_rfl) (by kernel_rfl), ?_⟩
            refine wpAnyL_one (i := 6) (by kernel_rfl) ?_
            refine wpOp_do rfl rfl ?_
            go_simp
            refine ⟨keepsL_all (by kernel_rfl) (by kernel_rfl), ?_⟩
            refine wpAnyL_done (by kernel_rfl) ?_ _
            obtain ⟨y0, y1, y2, y3, y4⟩ := frCells Cz
            have Qz := hide qz
            clear Cz qz
            go_wp2_with fail
            refine bodyPost_ret (v := .tuple #[.agg #[.int .u32 id, .bool ext, .bool rem, .int .i64 dlc, .string data], .int .i64 ((n : Int) + 10), .int .i64 0]) (by simp [results, Tryd.results34, go_sem, y0, y1, y2, y3, y4]) rfl ⟨by rw [HP.out]; simp, Qz.out⟩
          | false =>
            rw [hr] at hP RD
            have HP := hide hP
            clear hr hT2 hT hP PF TS RY hrf
            obtain ⟨id, ext, rem, dlc, data⟩ := f
            dsimp only at *
            go_wp2_with fail
            refine (RD.out _).mono ?_
            rintro e5 w5 ⟨rfl, q5⟩
            have M5 := hide (M.out.below q5)
            have al := (Below.refl w5.heap.size w5).alloc (Nat.le_refl _) (.cells #[.int .u32 0, .bool false, .bool false, .int .i64 0, .string ⟨#[]⟩] 24)
            have F5 := hide (World.alloc_heap_new w5 (.cells #[.int .u32 0, .bool false, .bool false, .int .i64 0, .string ⟨#[]⟩] 24))
            clear q5 M t0 t1 t2
            go_wp2_with (refine wpList_store_hid (by rfl) 24 (.tmp 8) (.tmp 58) (by rfl) w5.heap.size 0 [.int .u32 id, .bool ext, .bool rem, .int .i64 dlc, .string data] (by rfl) (by rfl) (by exact frThere (id := 0) F5.out) (by kernel_rfl) (by simp [Value.oneCell']) ?_)
            intro W6 e6
            have F6 := whole_heap [.int .u32 id, .bool ext, .bool rem, .int .i64 dlc, .string data] (xs := [_, _, _, _, _]) F5.out rfl
            have b6 := al.trans (below_setCells (g := w5.heap.size) [.int .u32 id, .bool ext, .bool rem, .int .i64 dlc, .string data] 0 _ (Nat.le_refl _))
            rw [← e6.out] at F6 b6
            have M6 := hide (M5.out.below b6)
            replace F6 := hide F6
            clear e6 b6 al F5 M5
            clear F6
            go_wp2_with (refine wpList_store_hid (by rfl) 24 (.tmp 2) (.tmp 62) (by rfl) w.heap.size 0 [.int .u32 0, .bool false, .bool false, .int .i64 0, .string ⟨#[]⟩] (by rfl) (by rfl) (by exact frThere (id := 0) M6.out.zb) (by kernel_rfl) (by simp [Value.oneCell']) ?_)
            intro We ee
            have Cz := whole_heap [.int .u32 0, .bool false, .bool false, .int .i64 0, .string ⟨#[]⟩] (xs := [_, _, _, _, _]) M6.out.zb rfl
            have qz := M6.out.q.trans (below_setCells (g := w.heap.size) [.int .u32 0, .bool false, .bool false, .int .i64 0, .string ⟨#[]⟩] 0 _ (Nat.le_refl _))
            rw [← ee.out] at Cz qz
            clear ee M6
            obtain ⟨y0, y1, y2, y3, y4⟩ := frCells (id := 0) Cz
            have Qz := hide qz
            clear Cz qz
            go_wp2_with fail
            refine bodyPost_ret (v := .tuple #[.agg #[.int .u32 0, .bool false, .bool false, .int .i64 0, .string ⟨#[]⟩], .int .i64 0, .int .i64 12]) (by simp [results, Tryd.results34, go_sem, y0, y1, y2, y3, y4]) rfl ⟨by rw [HP.out]; rfl, Qz.out⟩
    · have hP := PF.out
      rw [if_pos hc] at hP
      have HP := hide hP
      rw [decide_eq_false hc] at EQ
      have EN : (!sf.toList == bs.toList) = true := by rw [EQ]; rfl
      clear hc hP PF RD RY TS GS BT
      go_enter Tryd.func34, Tryd.ntmps34
      go_wp2_with fail
      refine (SF.out _).mono ?_
      rintro e2 w2 ⟨rfl, q2⟩
      have C2 := hide (heap_below B0.out q2)
      have Q2 := hide (below_next q0 q0.size q2)
      have hz2 : w.heap.size + 1 ≤ w2.heap.size := heap_lt C2.out
      have al := (Below.refl w2.heap.size w2).alloc (Nat.le_refl _) (.cells #[.string ⟨#[]⟩, .int .i64 0, .int .i64 0] 74)
      have F2 := hide (World.alloc_heap_new w2 (.cells #[.string ⟨#[]⟩, .int .i64 0, .int .i64 0] 74))
      clear q2 q0 B0
      go_wp2_with (refine wpList_store_hid (by rfl) 74 (.tmp 5) (.tmp 11) (by rfl) w2.heap.size 0 [.string bs, .int .i64 n, .int .i64 0] (by rfl) (by rfl) (by exact (show World.there _ w2.heap.size 0 3 from there_heap (cs := [_, _, _]) F2.out)) (by kernel_rfl) (by simp [Value.oneCell']) ?_)
      intro W3 e3
      have F3 := whole_heap [.string bs, .int .i64 n, .int .i64 0] (xs := [_, _, _]) F2.out rfl
      have b3 := al.trans (below_setCells (g := w2.heap.size) [.string bs, .int .i64 n, .int .i64 0] 0 _ (Nat.le_refl _))
      rw [← e3.out] at F3 b3
      have M : Hid (PgM w w2.heap.size (.string bs) (.int .i64 n) (.int .i64 0) W3) := hide ⟨below_next Q2.out Q2.out.size b3, heap_below C2.out b3, F3, hz2⟩
      obtain ⟨g, hgg⟩ : ∃ g, g = w2.heap.size := ⟨_, rfl⟩
      rw [← hgg] at M ⊢
      clear hgg hz2 e3 F3 b3 al F2 C2 Q2
      obtain ⟨t0, t1, t2, _⟩ := three_t M.out.tb
      go_wp2_with fail
      have m0 := fun s : InW W3 => s.cell M.out.lt t0
      refine wp_region_tame (by kernel_rfl) (by kernel_rfl) ?_
      repeat (go_big_quiet_step ((go_at_call 41; exact tame_of (SM.out _))))
      refine wpQuiet_nil ?_
      rintro _ ⟨sw, rfl⟩
      have M4 := hide (M.out.below sw.h)
      clear m0 t0 t1 t2 M
      go_wp2_with (refine wpList_store_hid (by rfl) 24 (.tmp 2) (.tmp 30) (by rfl) w.heap.size 0 [.int .u32 0, .bool false, .bool false, .int .i64 0, .string ⟨#[]⟩] (by rfl) (by rfl) (by exact frThere (id := 0) M4.out.zb) (by kernel_rfl) (by simp [Value.oneCell']) ?_)
      intro We ee
      have Cz := whole_heap [.int .u32 0, .bool false, .bool false, .int .i64 0, .string ⟨#[]⟩] (xs := [_, _, _, _, _]) M4.out.zb rfl
      have qz := M4.out.q.trans (below_setCells (g := w.heap.size) [.int .u32 0, .bool false, .bool false, .int .i64 0, .string ⟨#[]⟩] 0 _ (Nat.le_refl _))
      rw [← ee.out] at Cz qz
      clear ee M4
      obtain ⟨y0, y1, y2, y3, y4⟩ := frCells (id := 0) Cz
      have Qz := hide qz
      clear Cz qz
      go_wp2_with fail
      refine bodyPost_ret (v := .tuple #[.agg #[.int .u32 0, .bool false, .bool false, .int .i64 0, .string ⟨#[]⟩], .int .i64 0, .int .i64 11]) (by simp [results, Tryd.results34, go_sem, y0, y1, y2, y3, y4]) rfl ⟨by rw [HP.out]; rfl, Qz.out⟩
  · have hP := PF.out
    rw [if_pos he] at hP
    have HP := hide hP
    have he' : ((re : Int) != 0) = true := by rw [bne_iff_ne]; omega
    clear PF he OK TS GS BT hP
    generalize hbs : (⟨bits.toArray⟩ : ByteArray) = bs at *
    go_enter Tryd.func34, Tryd.ntmps34
    go_wp2_with fail
    refine (SF.out _).mono ?_
    rintro e2 w2 ⟨rfl, q2⟩
    have C2 := hide (heap_below B0.out q2)
    have Q2 := hide (below_next q0 q0.size q2)
    have hz2 : w.heap.size + 1 ≤ w2.heap.size := heap_lt C2.out
    have al := (Below.refl w2.heap.size w2).alloc (Nat.le_refl _) (.cells #[.string ⟨#[]⟩, .int .i64 0, .int .i64 0] 74)
    have F2 := hide (World.alloc_heap_new w2 (.cells #[.string ⟨#[]⟩, .int .i64 0, .int .i64 0] 74))
    clear q2 q0 B0
    go_wp2_with (refine wpList_store_hid (by rfl) 74 (.tmp 5) (.tmp 11) (by rfl) w2.heap.size 0 [.string bs, .int .i64 n, .int .i64 re] (by rfl) (by rfl) (by exact (show World.there _ w2.heap.size 0 3 from there_heap (cs := [_, _, _]) F2.out)) (by kernel_rfl) (by simp [Value.oneCell']) ?_)
    intro W3 e3
    have F3 := whole_heap [.string bs, .int .i64 n, .int .i64 re] (xs := [_, _, _]) F2.out rfl
    have b3 := al.trans (below_setCells (g := w2.heap.size) [.string bs, .int .i64 n, .int .i64 re] 0 _ (Nat.le_refl _))
    rw [← e3.out] at F3 b3
    have M : Hid (PgM w w2.heap.size (.string bs) (.int .i64 n) (.int .i64 re) W3) := hide ⟨below_next Q2.out Q2.out.size b3, heap_below C2.out b3, F3, hz2⟩
    obtain ⟨g, hgg⟩ : ∃ g, g = w2.heap.size := ⟨_, rfl⟩
    rw [← hgg] at M ⊢
    clear hgg hz2 e3 F3 b3 al F2 C2 Q2
    obtain ⟨t0, t1, t2, _⟩ := three_t M.out.tb
    go_upto_region 3 with fail
    clear t0 t1 t2
    refine wp_region_L [0, 1, 2] [(2, fun W => W.heap[g]? = some (.cells #[.string bs, .int .i64 n, .int .i64 re] 74 (0, 0)))] (by kernel_rfl) ?_
    replace M : Hid (PgM w g (.string bs) (.int .i64 n) (.int .i64 re) W3.drew) := hide M.out.drew
    generalize W3.drew = W4 at *
    refine wpAnyL_pure (i := 0) (v := .agg #[.int .u32 0, .bool false, .bool false, .int .i64 0, .string ⟨#[]⟩]) rfl rfl (by kernel_rfl) (by kernel_rfl) (by kernel_rfl) (by kernel_rfl) (by kernel_rfl) (fun _ _ _ h => h) rfl (fun W => by go_simp) ?_
    go_simp
    refine wpAnyL_pure (i := 1) (v := .pointer (some ⟨g, 2, none⟩)) rfl rfl (by kernel_rfl) (by kernel_rfl) (by kernel_rfl) (by kernel_rfl) (by kernel_rfl) (fun _ _ _ h => h) rfl (fun W => by go_simp) ?_
    go_simp
    refine wpAnyL_load (i := 2) (v := .int .i64 re) rfl rfl (by kernel_rfl) (by kernel_rfl) (by kernel_rfl) (by kernel_rfl) (by kernel_rfl) (fun _ _ _ h => h) rfl (fun W h => by (have hc0 : W.cell? ⟨g, 2, none⟩ = some (.int .i64 re) := by simp [World.cell?, h]); clear h; go_simp) (M.out.tb) ?_
    go_simp
    refine wpAnyL_one (i := 3) (by kernel_rfl) ?_
    refine wpOp_do rfl rfl ?_
    refine wp_store_as 24 (.tmp 2) (.tmp 15) rfl w.heap.size 0 [.int .u32 0, .bool false, .bool false, .int .i64 0, .string ⟨#[]⟩] (by rfl) (by rfl) (by exact frThere (id := 0) M.out.zb) (by kernel_rfl) (by simp [Value.oneCell']) ?_
    intro We ee
    have Cz := whole_heap [.int .u32 0, .bool false, .bool false, .int .i64 0, .string ⟨#[]⟩] (xs := [_, _, _, _, _]) M.out.zb rfl
    have qz := M.out.q.trans (below_setCells (g := w.heap.size) [.int .u32 0, .bool false, .bool false, .int .i64 0, .string ⟨#[]⟩] 0 _ (Nat.le_refl _))
    have Tz := other_heap (b := w.heap.size) (x := g) (by have := M.out.hg; omega) [.int .u32 0, .bool false, .bool false, .int .i64 0, .string ⟨#[]⟩] 0 _ M.out.tb
    rw [← ee] at Cz qz Tz
    clear ee
    refine ⟨keepsL_mk (by kernel_rfl) (.cons Tz .nil), ?_⟩
    refine wpAnyL_one (i := 4) (by kernel_rfl) ?_
    refine wpOp_do rfl rfl ?_
    go_simp
    refine ⟨keepsL_mk (by kernel_rfl) (.cons Tz .nil), ?_⟩
    refine wpAnyL_one (i := 5) (by kernel_rfl) ?_
    refine wpOp_do rfl rfl ?_
    go_simp
    refine ⟨keepsL_all (by kernel_rfl) (by kernel_rfl), ?_⟩
    refine wpAnyL_done (by kernel_rfl) ?_ _
    obtain ⟨y0, y1, y2, y3, y4⟩ := frCells (id := 0) Cz
    have Qz := hide qz
    clear Cz qz
    go_wp2_with fail
    refine bodyPost_ret (v := .tuple #[.agg #[.int .u32 0, .bool false, .bool false, .int .i64 0, .string ⟨#[]⟩], .int .i64 0, .int .i64 re]) (by simp [results, Tryd.results34, go_sem, y0, y1, y2, y3, y4]) rfl ⟨by rw [HP.out]; rfl, Qz.out⟩
end Go.Proofs.YtmfgifinmeonjaaDoor
