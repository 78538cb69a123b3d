/- The reference's Field, First, Less of package 05. -/
import Derived.Test.YtpfbobcilphncaaGreatDoorMgPrK
namespace Go.Proofs.YtpfbobcilphncaaGreatDoor
open Go.ChangeShapes Go.WideShapes Go.ChangeAt Go.RowKit
open FP (bit bitsOf Fr bitB idPart dataPart headF)

namespace PP
/-- The first place at which two rows are unlike; -1: nowhere. -/
def firstF : List UInt8 → List UInt8 → Int
  | a :: x, b :: y => if a = b then (if firstF x y < 0 then -1 else firstF x y + 1) else 0
  | _, _ => -1
theorem firstF_at : ∀ (k : Nat) (x y : List UInt8) (a b : UInt8), x.take k = y.take k → x[k]? = some a → y[k]? = some b → a ≠ b → firstF x y = k
  | 0, [], _, _, _, _, h, _, _ => by simp at h
  | 0, _ :: _, [], _, _, _, _, h, _ => by simp at h
  | 0, c :: x, d :: y, a, b, _, h1, h2, h3 => by
    simp only [List.getElem?_cons_zero, Option.some.injEq] at h1 h2
    subst h1 h2
    simp [firstF, h3]
  | k + 1, [], _, _, _, _, h, _, _ => by simp at h
  | k + 1, _ :: _, [], _, _, _, _, h, _ => by simp at h
  | k + 1, c :: x, d :: y, a, b, ht, h1, h2, h3 => by
    simp only [List.take_succ_cons, List.cons.injEq] at ht
    obtain ⟨rfl, ht⟩ := ht
    simp only [List.getElem?_cons_succ] at h1 h2
    have := firstF_at k x y a b ht h1 h2 h3
    simp only [firstF, if_true]
    rw [this, if_neg (by omega)]
    rfl
theorem firstF_none : ∀ (x y : List UInt8), x.take (min x.length y.length) = y.take (min x.length y.length) → firstF x y = -1
  | [], y, _ => by simp [firstF]
  | _ :: _, [], _ => by simp [firstF]
  | c :: x, d :: y, ht => by
    simp only [List.length_cons, Nat.succ_min_succ, List.take_succ_cons, List.cons.injEq] at ht
    obtain ⟨rfl, ht⟩ := ht
    have := firstF_none x y ht
    simp only [firstF, if_true]
    rw [this, if_pos (by omega)]
theorem firstF_self (x : List UInt8) : firstF x x = -1 := firstF_none x x rfl
theorem firstF_symm : ∀ (x y : List UInt8), firstF x y = firstF y x
  | [], [] => rfl
  | [], _ :: _ => rfl
  | _ :: _, [] => rfl
  | a :: x, b :: y => by
    unfold firstF
    by_cases h : a = b
    · rw [if_pos h, if_pos h.symm, firstF_symm x y]
    · rw [if_neg h, if_neg (Ne.symm h)]
theorem firstF_neg {F G : List UInt8} (hF : Fld F) (hG : Fld G) : firstF F G < 0 ↔ F = G := by
  rcases fld_or hF hG with rfl | ⟨k, a, b, h1, h2, h3, h4⟩
  · simp [firstF_self]
  · rw [firstF_at k F G a b h1 h2 h3 h4]
    refine ⟨fun h => by omega, fun h => ?_⟩
    subst h
    rw [h2] at h3
    exact absurd (Option.some.inj h3) h4
end PP

theorem byte_take (s : ByteArray) (k : Nat) (h : k < s.size) : s.data.toList.take (k + 1) = s.data.toList.take k ++ [s[k]] := by
  rw [List.take_succ_eq_append_getElem (by simpa using h)]; rfl
theorem byte_get (s : ByteArray) (k : Nat) (h : k < s.size) : s.data.toList[k]? = some s[k] := by
  rw [List.getElem?_eq_getElem (by simpa using h)]; rfl
theorem int_byte {a b : UInt8} : (((a.toNat : Int) == (b.toNat : Int)) = true ↔ a = b) := by
  rw [beq_iff_eq, Int.ofNat_inj]
  exact ⟨fun h => UInt8.toNat_inj.1 h, fun h => by rw [h]⟩

set_option maxRecDepth 100000 in
set_option maxHeartbeats 1000000 in
theorem refFirst_any (s t : ByteArray) (w : World) (hs : s.size ≤ 1000) (_ht : t.size ≤ 1000) :
    Calls Tryz.prog 32 #[.string s, .string t] w fun e w' => e = .returned (.int .i64 (PP.firstF s.data.toList t.data.toList)) ∧ Below w.heap.size w w' := by
  have hls := hide (show s.data.toList.length = s.size from Array.length_toList)
  have hlt := hide (show t.data.toList.length = t.size from Array.length_toList)
  go_enter Tryz.func32, Tryz.ntmps32
  go_wp2
  go_loopw [5] (fun i W => ∃ k : Nat, k ≤ s.size ∧ k ≤ t.size ∧ i = .int .i64 k ∧ Hid (s.data.toList.take k = t.data.toList.take k) ∧ Below w.heap.size w W) (fun i _ => s.size - (intOf i).toNat)
  case atStart => exact ⟨0, Nat.zero_le _, Nat.zero_le _, rfl, hide rfl, Below.refl _ _⟩
  case round =>
    obtain ⟨k, hk, hk2, rfl, HT, q⟩ := hrel
    by_cases h1 : k < s.size
    · by_cases h2 : k < t.size
      · have i1 : (k : Int) < (s.size : Int) := by omega
        have i2 : (k : Int) < (t.size : Int) := by omega
        have i0 : (0 : Int) ≤ (k : Int) := by omega
        by_cases he : s[k] = t[k]
        · have hb : ((s[k].toNat : Int) == (t[k].toNat : Int)) = true := int_byte.2 he
          have hb' : ((s[k].toNat : Int) != (t[k].toNat : Int)) = false := by simp [bne, hb]
          have HT2 := hide (show s.data.toList.take (k + 1) = t.data.toList.take (k + 1) by rw [byte_take s k h1, byte_take t k h2, HT.out, he])
          clear he
          go_wp2_with fail
          go_quiet (fail)
          go_wp2
          go_roundw
          case rel => exact ⟨k + 1, by omega, by omega, by go_num, HT2, below_drewN q _⟩
          case measure => simp [intOf]; omega
        · have hb : ((s[k].toNat : Int) == (t[k].toNat : Int)) = false := by rw [← Bool.not_eq_true, int_byte]; exact he
          have hb' : ((s[k].toNat : Int) != (t[k].toNat : Int)) = true := by simp [bne, hb]
          have HE := hide (PP.firstF_at k s.data.toList t.data.toList s[k] t[k] HT.out (byte_get s k h1) (byte_get t k h2) he)
          clear he
          go_wp2_with fail
          go_quiet (fail)
          go_wp2
          go_ret
          exact ⟨by rw [HE.out]; rfl, below_drewN q _⟩
      · have HE := hide (PP.firstF_none s.data.toList t.data.toList (by rw [hls.out, hlt.out, show min s.size t.size = k by omega]; exact HT.out))
        go_wp2
        go_ret
        exact ⟨by rw [HE.out]; rfl, q⟩
    · have HE := hide (PP.firstF_none s.data.toList t.data.toList (by rw [hls.out, hlt.out, show min s.size t.size = k by omega]; exact HT.out))
      go_wp2
      go_ret
      exact ⟨by rw [HE.out]; rfl, q⟩

theorem head_field (f : Fr) : headF f = 48 :: (fieldF f ++ (if f.ext then [48, 48] else [48]) ++ (bitsOf f.dlc.toNat 4 ++ dataPart f.data.data.toList)) := by
  unfold headF idPart fieldF
  have l1 := FP.bitsOf_length (f.id / 2 ^ 18) 11
  cases f.ext
  · simp
  · have e := FP.bitsOf_append f.id 11 18
    have e2 := FP.bitsOf_mod f.id 18
    simp only [if_true]
    rw [e, show (262144 : Nat) = 2 ^ 18 by decide, e2]
    simp [l1]

theorem field_len (f : Fr) : (fieldF f).length = if f.ext then 32 else 13 := by
  unfold fieldF
  split <;> simp [FP.bitsOf_length]

set_option maxRecDepth 100000 in
set_option maxHeartbeats 1000000 in
theorem refField_any (f : Fr) (w : World) (hr : FP.rightB f = true) :
    Calls Tryz.prog 31 #[.agg #[.int .u32 f.id, .bool f.ext, .bool f.rem, .int .i64 f.dlc, .string f.data]] w fun e w' => e = .returned (.string (fstr f)) ∧ Below w.heap.size w w' := by
  have H := hide (fun W => refHeadA_any f W hr)
  have E := head_field f
  have hl := field_len f
  have q0 : Below w.heap.size w (w.alloc (.cells #[.int .u32 f.id, .bool f.ext, .bool f.rem, .int .i64 f.dlc, .string f.data] 24)) := (Below.refl _ _).alloc (Nat.le_refl _) _
  have hx : Hid ((⟨(headF f).toArray⟩ : ByteArray).extract 1 (if f.ext then 33 else 14) = fstr f) := by
    rw [str_cut, E]
    unfold fstr
    congr 2
    cases hx : f.ext
    · rw [hx] at hl
      simp [List.extract_eq_take_drop, hl]
    · rw [hx] at hl
      simp [List.extract_eq_take_drop, hl]
  have hz : (if f.ext then 33 else 14) ≤ (⟨(headF f).toArray⟩ : ByteArray).size := by
    rw [E]
    simp only [ByteArray.size, List.size_toArray, List.length_cons, List.length_append, hl, FP.bitsOf_length]
    split <;> omega
  generalize (⟨(headF f).toArray⟩ : ByteArray) = S at *
  generalize fstr f = T at *
  obtain ⟨id, ext, rem, dlc, data⟩ := f
  dsimp only at *
  clear hr E hl
  cases ext
  all_goals
    simp only [if_true, if_false, Bool.false_eq_true] at hz hx
    first | have hzi : (33 : Int) ≤ (S.size : Int) := by omega | have hzi : (14 : Int) ≤ (S.size : Int) := by omega
    go_enter Tryz.func31, Tryz.ntmps31
    go_wp2_with fail
    (with_reducible refine (H.out _).mono ?_)
    rintro e1 w1 ⟨rfl, q1⟩
    obtain ⟨hc, hz1⟩ := bcell q1
    go_wp2
    go_ret
    exact ⟨by rw [← hx.out]; rfl, below_next q0 q0.size q1⟩

theorem refLess_eq {f g : Fr} (hf : FP.rightB f = true) (hg : FP.rightB g = true) :
    (PP.firstF (fieldF f) (fieldF g) < 0 ∧ lessB f g = false) ∨ ∃ (k : Nat) (a : UInt8), PP.firstF (fieldF f) (fieldF g) = k ∧ (fieldF f)[k]? = some a ∧ lessB f g = ((a.toNat : Int) == 48) := by
  rw [PP.lessB_bl hf hg]
  rcases PP.fld_or (PP.fld_of f) (PP.fld_of g) with h | ⟨k, a, b, h1, h2, h3, h4⟩
  · left
    rw [h, PP.firstF_self, PP.bl_irrefl]
    exact ⟨by omega, rfl⟩
  · right
    refine ⟨k, a, PP.firstF_at k _ _ a b h1 h2 h3 h4, h2, ?_⟩
    rw [PP.bl_first k _ _ h1 a b h2 h3 h4]
    rcases (PP.fld_of f).bits a (List.mem_of_getElem? h2) with rfl | rfl <;> rcases (PP.fld_of g).bits b (List.mem_of_getElem? h3) with rfl | rfl
    · exact absurd rfl h4
    · rfl
    · rfl
    · exact absurd rfl h4

set_option maxRecDepth 100000 in
set_option maxHeartbeats 1000000 in
theorem refLess_any (f g : Fr) (w : World) (hf : FP.rightB f = true) (hg : FP.rightB g = true) :
    Calls Tryz.prog 16 #[.agg #[.int .u32 f.id, .bool f.ext, .bool f.rem, .int .i64 f.dlc, .string f.data], .agg #[.int .u32 g.id, .bool g.ext, .bool g.rem, .int .i64 g.dlc, .string g.data]] w fun e w' => e = .returned (.bool (lessB f g)) ∧ Below w.heap.size w w' := by
  have HF := hide (fun W => refField_any f W hf)
  have HG := hide (fun W => refField_any g W hg)
  have lf := field_len f
  have lg := field_len g
  have sf : (fstr f).size ≤ 1000 := by unfold fstr; simp only [ByteArray.size, List.size_toArray, lf]; split <;> omega
  have sg : (fstr g).size ≤ 1000 := by unfold fstr; simp only [ByteArray.size, List.size_toArray, lg]; split <;> omega
  have FI := hide (fun W => refFirst_any (fstr f) (fstr g) W sf sg)
  have CASES := refLess_eq hf hg
  have e1 : (fstr f).data.toList = fieldF f := rfl
  have e2 : (fstr g).data.toList = fieldF g := rfl
  rw [e1, e2] at FI
  have hat : ∀ (k : Nat) (a : UInt8), (fieldF f)[k]? = some a → ∃ h : k < (fstr f).size, (fstr f)[k] = a := fun k a h => by
    obtain ⟨h1, h2⟩ := List.getElem?_eq_some_iff.1 h
    refine ⟨by simpa [fstr, ByteArray.size] using h1, ?_⟩
    rw [← h2]; rfl
  have q0 : Below w.heap.size w ((w.alloc (.cells #[.int .u32 f.id, .bool f.ext, .bool f.rem, .int .i64 f.dlc, .string f.data] 24)).alloc (.cells #[.int .u32 g.id, .bool g.ext, .bool g.rem, .int .i64 g.dlc, .string g.data] 24)) := ((Below.refl _ _).alloc (Nat.le_refl _) _).alloc (by simp) _
  generalize PP.firstF (fieldF f) (fieldF g) = X at *
  generalize lessB f g = B at *
  have HAT := hide hat
  clear hat e1 e2 lf lg hf hg
  generalize fieldF f = FF at *
  generalize fstr f = S at *
  generalize fstr g = T at *
  clear sf sg
  obtain ⟨id, ext, rem, dlc, data⟩ := f
  obtain ⟨id', ext', rem', dlc', data'⟩ := g
  dsimp only at *
  rcases CASES with ⟨h1, rfl⟩ | ⟨k, a, rfl, h2, hB⟩
  · go_enter Tryz.func16, Tryz.ntmps16
    go_wp2_with fail
    (with_reducible refine (HF.out _).mono ?_)
    rintro e1 w1 ⟨rfl, q1⟩
    have q1' := below_next q0 q0.size q1
    obtain ⟨hc, hz1⟩ := bcell q1
    go_wp2_with fail
    (with_reducible refine (HG.out _).mono ?_)
    rintro e1 w2 ⟨rfl, q2⟩
    have q2' := below_next q1' q1'.size q2
    go_wp2_with fail
    (with_reducible refine (FI.out _).mono ?_)
    rintro e1 w3 ⟨rfl, q3⟩
    have q3' := below_next q2' q2'.size q3
    go_wp2
    go_ret
    exact ⟨rfl, q3'⟩
  · obtain ⟨hk, hka⟩ := HAT.out k a h2
    have HB := hide hB
    have HKA := hide hka
    clear hB h2 hka
    have i0 : (0 : Int) ≤ (k : Int) := by omega
    have i1 : (k : Int) < (S.size : Int) := by omega
    go_enter Tryz.func16, Tryz.ntmps16
    go_wp2_with fail
    (with_reducible refine (HF.out _).mono ?_)
    rintro e1 w1 ⟨rfl, q1⟩
    have q1' := below_next q0 q0.size q1
    obtain ⟨hc, hz1⟩ := bcell q1
    go_wp2_with fail
    (with_reducible refine (HG.out _).mono ?_)
    rintro e1 w2 ⟨rfl, q2⟩
    have q2' := below_next q1' q1'.size q2
    go_wp2_with fail
    (with_reducible refine (FI.out _).mono ?_)
    rintro e1 w3 ⟨rfl, q3⟩
    have q3' := below_next q2' q2'.size q3
    go_wp2
    go_ret
    exact ⟨by rw [HB.out, ← HKA.out]; rfl, q3'⟩
end Go.Proofs.YtpfbobcilphncaaGreatDoor
