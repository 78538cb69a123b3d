/- The walks of package prio: of, field, Less, well. -/
import Derived.Test.YtbdgifngldipcaaFrA
import Derived.Lib.Strings
namespace Go.Proofs.Ytbdgifngldipcaa
open Go.ChangeShapes Go.WideShapes Go.ChangeAt Go.RowKit
open FP (bit bitsOf Fr bitB)

def fieldF (f : Fr) : List UInt8 := if f.ext then (bitsOf f.id 29).take 11 ++ [49, 49] ++ (bitsOf f.id 29).drop 11 ++ [bitB f.rem] else bitsOf f.id 11 ++ [bitB f.rem] ++ [48]
def lessB (f g : Fr) : Bool := FP.rightB f && FP.rightB g && Op.bytesLess (fieldF f) (fieldF g)

set_option maxRecDepth 100000 in
theorem prOf_any (N K : Int) (n k : Nat) (hN : N = n) (hK : K = k) (hk : k ≤ 64) (hn : n < 2 ^ k) (h32 : n < 4294967296) (w : World) :
    Calls Try.prog 82 #[.int .u32 N, .int .i64 K] w fun e w' => e = .returned (.string ⟨(bitsOf n k).toArray⟩) ∧ Below w.heap.size w w' := by
  subst hN
  subst hK
  have O := hide (bitsOf_any n k w hk hn)
  have wn : IntKind.u64.wrap (n : Int) = (n : Int) := IntWalk.u64_in _ (by omega)
  go_enter Try.func82, Try.ntmps82
  go_wp2_with fail
  refine O.out.mono ?_
  rintro e w1 ⟨rfl, q⟩
  go_wp2
  go_ret
  exact ⟨rfl, q⟩

theorem str_cut (l : List UInt8) (a b : Nat) : (⟨l.toArray⟩ : ByteArray).extract a b = ⟨(l.extract a b).toArray⟩ := by
  rw [ByteArray.ext_iff]
  simp [ByteArray.data_extract]
theorem str_app (l r : List UInt8) : (⟨l.toArray⟩ : ByteArray) ++ ⟨r.toArray⟩ = ⟨(l ++ r).toArray⟩ := by
  rw [ByteArray.ext_iff]
  simp

set_option maxRecDepth 100000 in
set_option maxHeartbeats 1000000 in
theorem field_any (f : Fr) (w : World) (hr : FP.rightB f = true) :
    Calls Try.prog 55 #[.agg #[.int .u32 f.id, .bool f.ext, .bool f.rem, .int .i64 f.dlc, .string f.data]] w fun e w' => e = .returned (.string ⟨(fieldF f).toArray⟩) ∧ Below w.heap.size w w' := by
  obtain ⟨id, ext, rem, dlc, data⟩ := f
  have hid : id < (if ext then 536870912 else 2048) := by simp [FP.rightB] at hr; exact hr.1.1.1
  clear hr
  dsimp only
  have q0 : Below w.heap.size w (w.alloc (.cells #[.int .u32 id, .bool ext, .bool rem, .int .i64 dlc, .string data] 39)) := (Below.refl _ _).alloc (Nat.le_refl _) _
  cases ext
  · have hid' : id < 2048 := by simpa using hid
    clear hid
    have O := hide (fun W => prOf_any id 11 id 11 rfl rfl (by omega) (by omega) (by omega) W)
    have hl : (⟨(bitsOf id 11).toArray⟩ : ByteArray).size = 11 := by simp [ByteArray.size, FP.bitsOf_length]
    have hE : fieldF ⟨id, false, rem, dlc, data⟩ = bitsOf id 11 ++ [bitB rem] ++ [48] := rfl
    have HE := hide hE
    have SA := hide str_app
    clear hE
    cases rem
    all_goals
      go_enter Try.func55, Try.ntmps55
      go_wp2_with fail
      refine (O.out _).mono ?_
      rintro e1 w1 ⟨rfl, q1⟩
      go_wp2
      go_ret
      refine ⟨?_, below_next q0 q0.size q1⟩
      rw [HE.out]
      simp [bitB, ByteArray.ext_iff]
      done
  · have hid' : id < 536870912 := by simpa using hid
    clear hid
    have O := hide (fun W => prOf_any id 29 id 29 rfl rfl (by omega) (by omega) (by omega) W)
    have hE : (⟨(fieldF ⟨id, true, rem, dlc, data⟩).toArray⟩ : ByteArray) = (⟨(bitsOf id 29).toArray⟩ : ByteArray).extract 0 11 ++ ⟨#[49, 49]⟩ ++ (⟨(bitsOf id 29).toArray⟩ : ByteArray).extract 11 29 ++ ⟨#[bitB rem]⟩ := by
      have e : fieldF ⟨id, true, rem, dlc, data⟩ = (bitsOf id 29).take 11 ++ [49, 49] ++ (bitsOf id 29).drop 11 ++ [bitB rem] := rfl
      rw [e, str_cut, str_cut, show (⟨#[49, 49]⟩ : ByteArray) = ⟨([49, 49] : List UInt8).toArray⟩ from rfl, show (⟨#[bitB rem]⟩ : ByteArray) = ⟨([bitB rem] : List UInt8).toArray⟩ from rfl, str_app, str_app, str_app]
      simp only [List.extract_eq_take_drop, List.drop_zero]
      rw [show (29 - 11 : Nat) = (List.drop 11 (bitsOf id 29)).length by simp [FP.bitsOf_length], List.take_length]
    rw [hE]
    clear hE
    have hsz : (⟨(bitsOf id 29).toArray⟩ : ByteArray).size = 29 := by simp [ByteArray.size, FP.bitsOf_length]
    generalize (⟨(bitsOf id 29).toArray⟩ : ByteArray) = S at *
    have h11 : (11 : Int) ≤ (S.size : Int) := by omega
    have h11' : 11 ≤ S.size := by omega
    have h29 : S.size ≤ 29 := by omega
    have hx : S.extract 11 S.size = S.extract 11 29 := by rw [hsz]
    have x1 : (S.extract 0 11).size ≤ 29 := by rw [ByteArray.size_extract]; omega
    have x2 : (S.extract 11 29).size ≤ 29 := by rw [ByteArray.size_extract]; omega
    generalize S.extract 11 29 = T2 at *
    obtain ⟨T1, hT1⟩ : ∃ T, S.extract 0 11 = T := ⟨_, rfl⟩
    rw [hT1] at x1 ⊢
    clear hsz
    cases rem
    all_goals
      go_enter Try.func55, Try.ntmps55
      go_wp2_with fail
      refine (O.out _).mono ?_
      rintro e1 w1 ⟨rfl, q1⟩
      go_wp2_with fail
      go_quiet (fail)
      go_wp2
      go_ret
      exact ⟨rfl, below_drewN (below_next q0 q0.size q1) _⟩

theorem lessB_str (f g : Fr) (hf : FP.rightB f = true) (hg : FP.rightB g = true) : lessB f g = Op.bytesLess (⟨(fieldF f).toArray⟩ : ByteArray).toList (⟨(fieldF g).toArray⟩ : ByteArray).toList := by
  unfold lessB
  rw [hf, hg, Lib.toList_data, Lib.toList_data]
  rfl

set_option maxRecDepth 100000 in
set_option maxHeartbeats 2000000 in
theorem Less_any (f g : Fr) (w : World) (hf : f.id < 4294967296) (hg : g.id < 4294967296) :
    Calls Try.prog 26 #[.agg #[.int .u32 f.id, .bool f.ext, .bool f.rem, .int .i64 f.dlc, .string f.data], .agg #[.int .u32 g.id, .bool g.ext, .bool g.rem, .int .i64 g.dlc, .string g.data]] w fun e w' => e = .returned (.bool (lessB f g)) ∧ Below w.heap.size w w' := by
  have RF := hide (fun W => frRight_any f W hf)
  have RG := hide (fun W => frRight_any g W hg)
  have FF := hide (fun W => field_any f W)
  have FG := hide (fun W => field_any g W)
  have q0 : Below w.heap.size w ((w.alloc (.cells #[.int .u32 f.id, .bool f.ext, .bool f.rem, .int .i64 f.dlc, .string f.data] 39)).alloc (.cells #[.int .u32 g.id, .bool g.ext, .bool g.rem, .int .i64 g.dlc, .string g.data] 39)) := ((Below.refl _ _).alloc (Nat.le_refl _) _).alloc (by simp) _
  have HE : Hid (FP.rightB f = true → FP.rightB g = true → lessB f g = Op.bytesLess (⟨(fieldF f).toArray⟩ : ByteArray).toList (⟨(fieldF g).toArray⟩ : ByteArray).toList) := lessB_str f g
  have HN : Hid (FP.rightB f = false ∨ FP.rightB g = false → lessB f g = false) := fun h => by unfold lessB; rcases h with h | h <;> simp [h]
  generalize (⟨(fieldF f).toArray⟩ : ByteArray) = SF at *
  generalize (⟨(fieldF g).toArray⟩ : ByteArray) = SG at *
  generalize lessB f g = L at *
  rcases h1 : FP.rightB f with _ | _
  · have hL := HN.out (.inl h1)
    rw [h1] at RF
    subst hL
    clear HE HN FF FG RG h1
    obtain ⟨id, ext, rem, dlc, data⟩ := f
    obtain ⟨id', ext', rem', dlc', data'⟩ := g
    dsimp only at *
    go_enter Try.func26, Try.ntmps26
    go_wp2_with fail
    refine wp_region_tame (by kernel_rfl) (by kernel_rfl) ?_
    generalize hW : (w.alloc (.cells #[.int .u32 id, .bool ext, .bool rem, .int .i64 dlc, .string data] 39)).alloc (.cells #[.int .u32 id', .bool ext', .bool rem', .int .i64 dlc', .string data'] 39) = W0 at *
    have z0 : W0.heap.size = w.heap.size + 2 := by rw [← hW]; simp
    have m00 := fun s : InW W0 => s.cell (b := w.heap.size) (o := 0) (v := .int .u32 id) (by omega) (by rw [← hW]; simp [go_sem])
    have m01 := fun s : InW W0 => s.cell (b := w.heap.size) (o := 1) (v := .bool ext) (by omega) (by rw [← hW]; simp [go_sem])
    have m02 := fun s : InW W0 => s.cell (b := w.heap.size) (o := 2) (v := .bool rem) (by omega) (by rw [← hW]; simp [go_sem])
    have m03 := fun s : InW W0 => s.cell (b := w.heap.size) (o := 3) (v := .int .i64 dlc) (by omega) (by rw [← hW]; simp [go_sem])
    have m04 := fun s : InW W0 => s.cell (b := w.heap.size) (o := 4) (v := .string data) (by omega) (by rw [← hW]; simp [go_sem])
    have m10 := fun s : InW W0 => s.cell (b := w.heap.size + 1) (o := 0) (v := .int .u32 id') (by omega) (by rw [← hW]; simp [go_sem])
    have m11 := fun s : InW W0 => s.cell (b := w.heap.size + 1) (o := 1) (v := .bool ext') (by omega) (by rw [← hW]; simp [go_sem])
    have m12 := fun s : InW W0 => s.cell (b := w.heap.size + 1) (o := 2) (v := .bool rem') (by omega) (by rw [← hW]; simp [go_sem])
    have m13 := fun s : InW W0 => s.cell (b := w.heap.size + 1) (o := 3) (v := .int .i64 dlc') (by omega) (by rw [← hW]; simp [go_sem])
    have m14 := fun s : InW W0 => s.cell (b := w.heap.size + 1) (o := 4) (v := .string data') (by omega) (by rw [← hW]; simp [go_sem])
    have Z0 := hide z0
    clear hW z0
    repeat (go_big_quiet_step (first | (go_at_call 53; exact tame_of (RF.out _))))
    refine wpQuiet_nil ?_
    rintro _ ⟨s, rfl⟩
    have hs := s.h
    clear m00 m01 m02 m03 m04 m10 m11 m12 m13 m14
    go_wp2
    go_ret
    exact ⟨rfl, q0.trans (hs.mono (by have := Z0.out; omega))⟩
  · rw [h1] at RF
    have FF' := hide (fun W => FF.out W h1)
    rcases h2 : FP.rightB g with _ | _
    · have hL := HN.out (.inr h2)
      rw [h2] at RG
      subst hL
      clear HE HN FF FG FF' h1 h2
      obtain ⟨id, ext, rem, dlc, data⟩ := f
      obtain ⟨id', ext', rem', dlc', data'⟩ := g
      dsimp only at *
      go_enter Try.func26, Try.ntmps26
      go_wp2_with fail
      refine wp_region_tame (by kernel_rfl) (by kernel_rfl) ?_
      generalize hW : (w.alloc (.cells #[.int .u32 id, .bool ext, .bool rem, .int .i64 dlc, .string data] 39)).alloc (.cells #[.int .u32 id', .bool ext', .bool rem', .int .i64 dlc', .string data'] 39) = W0 at *
      have z0 : W0.heap.size = w.heap.size + 2 := by rw [← hW]; simp
      have m00 := fun s : InW W0 => s.cell (b := w.heap.size) (o := 0) (v := .int .u32 id) (by omega) (by rw [← hW]; simp [go_sem])
      have m01 := fun s : InW W0 => s.cell (b := w.heap.size) (o := 1) (v := .bool ext) (by omega) (by rw [← hW]; simp [go_sem])
      have m02 := fun s : InW W0 => s.cell (b := w.heap.size) (o := 2) (v := .bool rem) (by omega) (by rw [← hW]; simp [go_sem])
      have m03 := fun s : InW W0 => s.cell (b := w.heap.size) (o := 3) (v := .int .i64 dlc) (by omega) (by rw [← hW]; simp [go_sem])
      have m04 := fun s : InW W0 => s.cell (b := w.heap.size) (o := 4) (v := .string data) (by omega) (by rw [← hW]; simp [go_sem])
      have m10 := fun s : InW W0 => s.cell (b := w.heap.size + 1) (o := 0) (v := .int .u32 id') (by omega) (by rw [← hW]; simp [go_sem])
      have m11 := fun s : InW W0 => s.cell (b := w.heap.size + 1) (o := 1) (v := .bool ext') (by omega) (by rw [← hW]; simp [go_sem])
      have m12 := fun s : InW W0 => s.cell (b := w.heap.size + 1) (o := 2) (v := .bool rem') (by omega) (by rw [← hW]; simp [go_sem])
      have m13 := fun s : InW W0 => s.cell (b := w.heap.size + 1) (o := 3) (v := .int .i64 dlc') (by omega) (by rw [← hW]; simp [go_sem])
      have m14 := fun s : InW W0 => s.cell (b := w.heap.size + 1) (o := 4) (v := .string data') (by omega) (by rw [← hW]; simp [go_sem])
      have Z0 := hide z0
      clear hW z0
      repeat (go_big_quiet_step (first | (go_at_call 53; with_reducible exact tame_of (RF.out _)) | (go_at_call 53; exact tame_of (RG.out _))))
      refine wpQuiet_nil ?_
      rintro _ ⟨s, rfl⟩
      have hs := s.h
      clear m00 m01 m02 m03 m04 m10 m11 m12 m13 m14
      go_wp2
      go_ret
      exact ⟨rfl, q0.trans (hs.mono (by have := Z0.out; omega))⟩
    · have hL := HE.out h1 h2
      have FG' := hide (fun W => FG.out W h2)
      rw [h2] at RG
      subst hL
      clear HE HN FF FG h1 h2
      obtain ⟨id, ext, rem, dlc, data⟩ := f
      obtain ⟨id', ext', rem', dlc', data'⟩ := g
      dsimp only at *
      go_enter Try.func26, Try.ntmps26
      go_wp2_with fail
      refine wp_region_tame (by kernel_rfl) (by kernel_rfl) ?_
      generalize hW : (w.alloc (.cells #[.int .u32 id, .bool ext, .bool rem, .int .i64 dlc, .string data] 39)).alloc (.cells #[.int .u32 id', .bool ext', .bool rem', .int .i64 dlc', .string data'] 39) = W0 at *
      have z0 : W0.heap.size = w.heap.size + 2 := by rw [← hW]; simp
      have m00 := fun s : InW W0 => s.cell (b := w.heap.size) (o := 0) (v := .int .u32 id) (by omega) (by rw [← hW]; simp [go_sem])
      have m01 := fun s : InW W0 => s.cell (b := w.heap.size) (o := 1) (v := .bool ext) (by omega) (by rw [← hW]; simp [go_sem])
      have m02 := fun s : InW W0 => s.cell (b := w.heap.size) (o := 2) (v := .bool rem) (by omega) (by rw [← hW]; simp [go_sem])
      have m03 := fun s : InW W0 => s.cell (b := w.heap.size) (o := 3) (v := .int .i64 dlc) (by omega) (by rw [← hW]; simp [go_sem])
      have m04 := fun s : InW W0 => s.cell (b := w.heap.size) (o := 4) (v := .string data) (by omega) (by rw [← hW]; simp [go_sem])
      have m10 := fun s : InW W0 => s.cell (b := w.heap.size + 1) (o := 0) (v := .int .u32 id') (by omega) (by rw [← hW]; simp [go_sem])
      have m11 := fun s : InW W0 => s.cell (b := w.heap.size + 1) (o := 1) (v := .bool ext') (by omega) (by rw [← hW]; simp [go_sem])
      have m12 := fun s : InW W0 => s.cell (b := w.heap.size + 1) (o := 2) (v := .bool rem') (by omega) (by rw [← hW]; simp [go_sem])
      have m13 := fun s : InW W0 => s.cell (b := w.heap.size + 1) (o := 3) (v := .int .i64 dlc') (by omega) (by rw [← hW]; simp [go_sem])
      have m14 := fun s : InW W0 => s.cell (b := w.heap.size + 1) (o := 4) (v := .string data') (by omega) (by rw [← hW]; simp [go_sem])
      have Z0 := hide z0
      clear hW z0
      repeat (go_big_quiet_step (first | (go_at_call 53; with_reducible exact tame_of (RF.out _)) | (go_at_call 53; exact tame_of (RG.out _)) | (go_at_call 55; with_reducible exact tame_of (FF'.out _)) | (go_at_call 55; exact tame_of (FG'.out _))))
      refine wpQuiet_nil ?_
      rintro _ ⟨s, rfl⟩
      have hs := s.h
      clear m00 m01 m02 m03 m04 m10 m11 m12 m13 m14
      go_wp2
      go_ret
      exact ⟨rfl, q0.trans (hs.mono (by have := Z0.out; omega))⟩

set_option maxRecDepth 100000 in
theorem well1_any (f : Fr) (w : World) (hf : f.id < 4294967296) :
    Calls Try.prog 84 #[.agg #[.int .u32 f.id, .bool f.ext, .bool f.rem, .int .i64 f.dlc, .string f.data]] w fun e w' => e = .returned (.bool (!FP.rightB f)) ∧ Below w.heap.size w w' := by
  have R := hide (fun W => frRight_any f W hf)
  have q0 : Below w.heap.size w (w.alloc (.cells #[.int .u32 f.id, .bool f.ext, .bool f.rem, .int .i64 f.dlc, .string f.data] 39)) := (Below.refl _ _).alloc (Nat.le_refl _) _
  generalize FP.rightB f = B at *
  obtain ⟨id, ext, rem, dlc, data⟩ := f
  dsimp only at *
  go_enter Try.func84, Try.ntmps84
  go_wp2_with fail
  refine (R.out _).mono ?_
  rintro e1 w1 ⟨rfl, q1⟩
  go_wp2
  go_ret
  exact ⟨rfl, below_next q0 q0.size q1⟩

/-! ### slices of frames -/
def FrR (w : World) (B : Nat) (A : Option Addr) (l : List Fr) : Prop := Rd w B A 5 (l.map frc)
theorem FrR.at_ {w : World} {B : Nat} {A : Option Addr} {l : List Fr} (h : FrR w B A l) {k : Nat} (hk : k < l.length) :
    ∃ b off, A = some ⟨b, off, none⟩ ∧ b < B ∧ w.cell? ⟨b, off + k * 5, none⟩ = some (.int .u32 l[k].id) ∧ w.cell? ⟨b, off + k * 5 + 1, none⟩ = some (.bool l[k].ext) ∧ w.cell? ⟨b, off + k * 5 + 2, none⟩ = some (.bool l[k].rem) ∧
      w.cell? ⟨b, off + k * 5 + 3, none⟩ = some (.int .i64 l[k].dlc) ∧ w.cell? ⟨b, off + k * 5 + 4, none⟩ = some (.string l[k].data) := by
  obtain ⟨b, off, e, hb, hc⟩ := h (by rw [List.length_map]; omega)
  have hx : (l.map frc)[k]? = some (frc l[k]) := by simp [hk]
  exact ⟨b, off, e, hb, hc k _ 0 _ hx rfl, hc k _ 1 _ hx rfl, hc k _ 2 _ hx rfl, hc k _ 3 _ hx rfl, hc k _ 4 _ hx rfl⟩
theorem FrR.next {w w' : World} {B : Nat} {A : Option Addr} {l : List Fr} (h : FrR w B A l) (hb : Below B w w') (hB : B ≤ w'.heap.size) : FrR w' w'.heap.size A l := Rd.next h hb hB

def wellB (l : List Fr) : Bool := l.all FP.rightB

/-- The first place; -1: none. -/
def idxF (p : Fr → Bool) (l : List Fr) : Int := if l.all (fun f => !p f) then -1 else ((l.findIdx p : Nat) : Int)

set_option maxRecDepth 100000 in
set_option maxHeartbeats 2000000 in
theorem indexFr_any (fid : Nat) (p : Fr → Bool) (hp : ∀ (args : Array Value) (w : World), (callFunc fid args).run Try.prog w = .ok (.enter fid args) w) (l : List Fr) (A : Option Addr) (c : Nat) (w : World) (hr : FrR w w.heap.size A l) (hl : l.length ≤ 1000)
    (hc : Hid (∀ f ∈ l, ∀ w', Below w.heap.size w w' → Calls Try.prog fid #[.agg #[.int .u32 f.id, .bool f.ext, .bool f.rem, .int .i64 f.dlc, .string f.data]] w' fun e w'' => e = .returned (.bool (p f)) ∧ Below w'.heap.size w' w'')) :
    Calls Try.prog 95 #[.slice A l.length c, .func (.func fid) #[] #[]] w fun e w' => e = .returned (.int .i64 (idxF p l)) ∧ Below w.heap.size w w' := by
  go_enter Try.func95, Try.ntmps95
  go_wp2
  go_loopw [8] (fun i W => ∃ k : Nat, k ≤ l.length ∧ i = .int .i64 k ∧ Hid (∀ f ∈ l.take k, p f = false) ∧ Below w.heap.size w W) (fun i _ => l.length - (intOf i).toNat)
  case atStart => exact ⟨0, Nat.zero_le _, rfl, hide (by simp), Below.refl _ _⟩
  case round =>
    obtain ⟨k, hk, rfl, hinv, q⟩ := hrel
    by_cases hlt : k < l.length
    · obtain ⟨b, off, rfl, hbs, d0, d1, d2, d3, d4⟩ := hr.at_ hlt
      have c0 := cellBelow q hbs d0
      have c1 := cellBelow q hbs d1
      have c2 := cellBelow q hbs d2
      have c3 := cellBelow q hbs d3
      have c4 := cellBelow q hbs d4
      clear d0 d1 d2 d3 d4
      have C := hide (hc.out l[k] (List.getElem_mem hlt) wr q)
      rcases hpk : p l[k] with _ | _
      · have hT := hide (show ∀ f ∈ l.take (k + 1), p f = false by
          intro f hf
          rw [List.take_succ_eq_append_getElem hlt, List.mem_append] at hf
          rcases hf with hf | hf
          · exact hinv.out f hf
          · rw [List.mem_singleton.1 hf]; exact hpk)
        rw [hpk] at C
        clear hpk
        go_wp2_with fail
        refine C.out.mono ?_
        rintro e1 w1 ⟨rfl, q1⟩
        go_wp2
        go_roundw
        case rel => exact ⟨k + 1, by omega, by go_num, hT, below_next q q.size q1⟩
        case measure => simp [intOf]; omega
      · have hE := hide (show idxF p l = (k : Int) by
          unfold idxF
          rw [if_neg (by
            rw [List.all_eq_true]
            intro h
            have := h l[k] (List.getElem_mem hlt)
            simp [hpk] at this)]
          congr 1
          rw [List.findIdx_eq hlt]
          exact ⟨hpk, fun j hj => by
            have := hinv.out l[j] (by rw [List.mem_take_iff_getElem]; exact ⟨j, by omega, rfl⟩)
            simp [this]⟩)
        rw [hpk] at C
        clear hpk
        go_wp2_with fail
        refine C.out.mono ?_
        rintro e1 w1 ⟨rfl, q1⟩
        go_wp2
        go_ret
        exact ⟨by rw [hE.out]; rfl, below_next q q.size q1⟩
    · have hE := hide (show idxF p l = -1 by
        unfold idxF
        rw [if_pos]
        rw [List.all_eq_true]
        intro f hf
        have h2 := hinv.out f (by rw [List.take_of_length_le (by omega)]; exact hf)
        simp [h2])
      go_wp2
      go_ret
      exact ⟨by rw [hE.out]; rfl, q⟩

theorem idxF_nonneg (p : Fr → Bool) (l : List Fr) : 0 ≤ idxF p l ↔ l.any p = true := by
  unfold idxF
  by_cases h : l.all (fun f => !p f) = true
  · rw [if_pos h]
    have : l.any p = false := by
      rw [List.any_eq_false]
      intro x hx
      have := List.all_eq_true.1 h x hx
      simpa using this
    simp [this]
  · rw [if_neg h]
    have h' : l.all (fun f => !p f) = false := by simpa using h
    obtain ⟨x, hx, hp⟩ := List.all_eq_false.1 h'
    have : l.any p = true := List.any_eq_true.2 ⟨x, hx, by simpa using hp⟩
    simp [this]

set_option maxRecDepth 100000 in
theorem containsFr_any (fid : Nat) (p : Fr → Bool) (hp : ∀ (args : Array Value) (w : World), (callFunc fid args).run Try.prog w = .ok (.enter fid args) w) (l : List Fr) (A : Option Addr) (c : Nat) (w : World) (hr : FrR w w.heap.size A l) (hl : l.length ≤ 1000)
    (hc : Hid (∀ f ∈ l, ∀ w', Below w.heap.size w w' → Calls Try.prog fid #[.agg #[.int .u32 f.id, .bool f.ext, .bool f.rem, .int .i64 f.dlc, .string f.data]] w' fun e w'' => e = .returned (.bool (p f)) ∧ Below w'.heap.size w' w'')) :
    Calls Try.prog 83 #[.slice A l.length c, .func (.func fid) #[] #[]] w fun e w' => e = .returned (.bool (l.any p)) ∧ Below w.heap.size w w' := by
  have I := hide (indexFr_any fid p hp l A c w hr hl hc)
  have H := idxF_nonneg p l
  generalize idxF p l = X at *
  rcases hb : l.any p with _ | _
  · have hx : X < 0 := by
      rcases Int.lt_or_le X 0 with h | h
      · exact h
      · rw [H.1 h] at hb; cases hb
    clear H hb hr hp hc
    go_enter Try.func83, Try.ntmps83
    go_wp2_with fail
    refine I.out.mono ?_
    rintro e1 w1 ⟨rfl, q1⟩
    go_wp2
    go_ret
    refine ⟨?_, q1⟩
    refine ret_bool ?_
    (simp <;> omega)
  · have hx : 0 ≤ X := H.2 hb
    clear H hb hr hp hc
    go_enter Try.func83, Try.ntmps83
    go_wp2_with fail
    refine I.out.mono ?_
    rintro e1 w1 ⟨rfl, q1⟩
    go_wp2
    go_ret
    refine ⟨?_, q1⟩
    refine ret_bool ?_
    (simp <;> omega)

theorem well_not (l : List Fr) : (l.any fun f => !FP.rightB f) = !wellB l := by
  unfold wellB
  induction l with
  | nil => rfl
  | cons x l ih => simp only [List.any_cons, List.all_cons, ih]; cases FP.rightB x <;> simp

set_option maxRecDepth 100000 in
theorem well_any (l : List Fr) (A : Option Addr) (c : Nat) (w : World) (hr : FrR w w.heap.size A l) (hl : l.length ≤ 1000) (hid : ∀ f ∈ l, f.id < 4294967296) :
    Calls Try.prog 56 #[.slice A l.length c] w fun e w' => e = .returned (.bool (wellB l)) ∧ Below w.heap.size w w' := by
  have I := containsFr_any 84 (fun f => !FP.rightB f) (fun _ _ => rfl) l A c w hr hl (hide (fun f hf w' _ => well1_any f w' (hid f hf)))
  rw [well_not] at I
  have I := hide I
  generalize wellB l = X at *
  clear hid
  go_enter Try.func56, Try.ntmps56
  go_wp2_with fail
  refine I.out.mono ?_
  rintro e1 w1 ⟨rfl, q1⟩
  go_wp2
  go_ret
  exact ⟨rfl, q1⟩
end Go.Proofs.Ytbdgifngldipcaa
