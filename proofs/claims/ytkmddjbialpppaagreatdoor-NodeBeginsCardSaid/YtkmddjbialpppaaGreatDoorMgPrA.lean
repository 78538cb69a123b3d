import Derived.Test.YtkmddjbialpppaaGreatDoorMgCoZ
import Derived.Lib.Strings
import Derived.Test.YtkmddjbialpppaaGreatDoorMgSnB
import Derived.Test.YtkmddjbialpppaaGreatDoorMgFin
import Derived.Test.YtkmddjbialpppaaGreatDoorRows
import Derived.Test.YtkmddjbialpppaaGreatDoorMem
import Derived.ProofKit
import Derived.OpenShut
import Derived.Deep.Slices
import Derived.Deep.Fields
import Derived.Lib.Builder
import Derived.Lib.AppendStr
import Derived.Lib.UnsafeStr
import Derived.Lib.Slices
import Derived.Laws.Externs
import Derived.RegionTactic
namespace Go.Proofs.YtkmddjbialpppaaGreatDoor
open Go.ChangeShapes Go.WideShapes Go.ChangeAt Go.RowKit
open FP (bit aY Fr dT)
def dA (f : Fr) : List UInt8 := if f.ext then (aY f.id 29).take 11 ++ [49, 49] ++ (aY f.id 29).drop 11 ++ [dT f.rem] else aY f.id 11 ++ [dT f.rem] ++ [48]
def gH (f g : Fr) : Bool := FP.rightB f && FP.rightB g && Op.bytesLess (dA f) (dA g)
set_option maxRecDepth 100000 in
theorem prOf_any (N K : Int) (n k : Nat) (hN : N = n) (hK : K = k) (hk : k ≤ 64) (hn : n < 2 ^ k) (h32 : n < 4294967296) (w : World) :
    Calls Tryz.prog 248 #[.int .u32 N, .int .i64 K] w fun e w' => e = .returned (.string ⟨(aY n k).toArray⟩) ∧ Below w.heap.size w w' := by
  subst hN
  subst hK
  have O := aA (jY n k w hk hn)
  have wn : IntKind.u64.wrap (n : Int) = (n : Int) := IntWalk.u64_in _ (by omega)
  go_enter Tryz.func248, Tryz.ntmps248
  go_wp2_with fail
  refine O.out.mono ?_
  rintro e w1 ⟨rfl, q⟩
  go_wp2
  go_ret
  exact ⟨rfl, q⟩
theorem str_cut (l : List UInt8) (a b : Nat) : (⟨l.toArray⟩ : ByteArray).extract a b = ⟨(l.extract a b).toArray⟩ := by
  rw [ByteArray.ext_iff]
  simp [ByteArray.data_extract]
theorem str_appP (l r : List UInt8) : (⟨l.toArray⟩ : ByteArray) ++ ⟨r.toArray⟩ = ⟨(l ++ r).toArray⟩ := by
  rw [ByteArray.ext_iff]
  simp
set_option maxRecDepth 100000 in
set_option maxHeartbeats 1000000 in
theorem field_any (f : Fr) (w : World) (hr : FP.rightB f = true) :
    Calls Tryz.prog 224 #[.agg #[.int .u32 f.id, .bool f.ext, .bool f.rem, .int .i64 f.dlc, .string f.data]] w fun e w' => e = .returned (.string ⟨(dA f).toArray⟩) ∧ Below w.heap.size w w' := by
  obtain ⟨id, ext, rem, dlc, data⟩ := f
  have hid : id < (if ext then 536870912 else 2048) := by simp [FP.rightB] at hr; exact hr.1.1.1
  clear hr
  dsimp only
  have q0 : Below w.heap.size w (w.alloc (.cells #[.int .u32 id, .bool ext, .bool rem, .int .i64 dlc, .string data] 35)) := (Below.refl _ _).alloc (Nat.le_refl _) _
  cases ext
  · have hid' : id < 2048 := by simpa using hid
    clear hid
    have O := aA (fun W => prOf_any id 11 id 11 rfl rfl (by omega) (by omega) (by omega) W)
    have hl : (⟨(aY id 11).toArray⟩ : ByteArray).size = 11 := by simp [ByteArray.size, FP.bitsOf_length]
    have hE : dA ⟨id, false, rem, dlc, data⟩ = aY id 11 ++ [dT rem] ++ [48] := rfl
    have HE := aA hE
    have SA := aA str_appP
    clear hE
    cases rem
    all_goals
      go_enter Tryz.func224, Tryz.ntmps224
      go_wp2_with fail
      refine (O.out _).mono ?_
      rintro e1 w1 ⟨rfl, q1⟩
      go_wp2
      go_ret
      refine ⟨?_, aC q0 q0.size q1⟩
      rw [HE.out]
      simp [dT, ByteArray.ext_iff]
      done
  · have hid' : id < 536870912 := by simpa using hid
    clear hid
    have O := aA (fun W => prOf_any id 29 id 29 rfl rfl (by omega) (by omega) (by omega) W)
    have hE : (⟨(dA ⟨id, true, rem, dlc, data⟩).toArray⟩ : ByteArray) = (⟨(aY id 29).toArray⟩ : ByteArray).extract 0 11 ++ ⟨#[49, 49]⟩ ++ (⟨(aY id 29).toArray⟩ : ByteArray).extract 11 29 ++ ⟨#[dT rem]⟩ := by
      have e : dA ⟨id, true, rem, dlc, data⟩ = (aY id 29).take 11 ++ [49, 49] ++ (aY id 29).drop 11 ++ [dT rem] := rfl
      rw [e, str_cut, str_cut, show (⟨#[49, 49]⟩ : ByteArray) = ⟨([49, 49] : List UInt8).toArray⟩ from rfl, show (⟨#[dT rem]⟩ : ByteArray) = ⟨([dT rem] : List UInt8).toArray⟩ from rfl, str_appP, str_appP, str_appP]
      simp only [List.extract_eq_take_drop, List.drop_zero]
      rw [show (29 - 11 : Nat) = (List.drop 11 (aY id 29)).length by simp [FP.bitsOf_length], List.take_length]
    rw [hE]
    clear hE
    have hsz : (⟨(aY id 29).toArray⟩ : ByteArray).size = 29 := by simp [ByteArray.size, FP.bitsOf_length]
    generalize (⟨(aY id 29).toArray⟩ : ByteArray) = S at *
    have h11 : (11 : Int) ≤ (S.size : Int) := by omega
    have h11' : 11 ≤ S.size := by omega
    have h29 : S.size ≤ 29 := by omega
    have hx : S.extract 11 S.size = S.extract 11 29 := by rw [hsz]
    have x1 : (S.extract 0 11).size ≤ 29 := by rw [ByteArray.size_extract]; omega
    have x2 : (S.extract 11 29).size ≤ 29 := by rw [ByteArray.size_extract]; omega
    generalize S.extract 11 29 = T2 at *
    obtain ⟨T1, hT1⟩ : ∃ T, S.extract 0 11 = T := ⟨_, rfl⟩
    rw [hT1] at x1 ⊢
    clear hsz
    cases rem
    all_goals
      go_enter Tryz.func224, Tryz.ntmps224
      go_wp2_with fail
      refine (O.out _).mono ?_
      rintro e1 w1 ⟨rfl, q1⟩
      go_wp2_with fail
      go_quiet (fail)
      go_wp2
      go_ret
      exact ⟨rfl, below_drewN (aC q0 q0.size q1) _⟩
theorem lessB_str (f g : Fr) (hf : FP.rightB f = true) (hg : FP.rightB g = true) : gH f g = Op.bytesLess (⟨(dA f).toArray⟩ : ByteArray).toList (⟨(dA g).toArray⟩ : ByteArray).toList := by
  unfold gH
  rw [hf, hg, Lib.toList_data, Lib.toList_data]
  rfl
set_option maxRecDepth 100000 in
set_option maxHeartbeats 2000000 in
theorem Less_any (f g : Fr) (w : World) (hf : f.id < 4294967296) (hg : g.id < 4294967296) :
    Calls Tryz.prog 182 #[.agg #[.int .u32 f.id, .bool f.ext, .bool f.rem, .int .i64 f.dlc, .string f.data], .agg #[.int .u32 g.id, .bool g.ext, .bool g.rem, .int .i64 g.dlc, .string g.data]] w fun e w' => e = .returned (.bool (gH f g)) ∧ Below w.heap.size w w' := by
  have RF := aA (fun W => eL f W hf)
  have RG := aA (fun W => eL g W hg)
  have FF := aA (fun W => field_any f W)
  have FG := aA (fun W => field_any g W)
  have q0 : Below w.heap.size w ((w.alloc (.cells #[.int .u32 f.id, .bool f.ext, .bool f.rem, .int .i64 f.dlc, .string f.data] 35)).alloc (.cells #[.int .u32 g.id, .bool g.ext, .bool g.rem, .int .i64 g.dlc, .string g.data] 35)) := ((Below.refl _ _).alloc (Nat.le_refl _) _).alloc (by simp) _
  have HE : Hid (FP.rightB f = true → FP.rightB g = true → gH f g = Op.bytesLess (⟨(dA f).toArray⟩ : ByteArray).toList (⟨(dA g).toArray⟩ : ByteArray).toList) := lessB_str f g
  have HN : Hid (FP.rightB f = false ∨ FP.rightB g = false → gH f g = false) := fun h => by unfold gH; rcases h with h | h <;> simp [h]
  generalize (⟨(dA f).toArray⟩ : ByteArray) = SF at *
  generalize (⟨(dA g).toArray⟩ : ByteArray) = SG at *
  generalize gH f g = L at *
  rcases h1 : FP.rightB f with _ | _
  · have hL := HN.out (.inl h1)
    rw [h1] at RF
    subst hL
    clear HE HN FF FG RG h1
    obtain ⟨id, ext, rem, dlc, data⟩ := f
    obtain ⟨id', ext', rem', dlc', data'⟩ := g
    dsimp only at *
    go_enter Tryz.func182, Tryz.ntmps182
    go_wp2_with fail
    refine bF (by kernel_rfl) (by kernel_rfl) ?_
    generalize hW : (w.alloc (.cells #[.int .u32 id, .bool ext, .bool rem, .int .i64 dlc, .string data] 35)).alloc (.cells #[.int .u32 id', .bool ext', .bool rem', .int .i64 dlc', .string data'] 35) = W0 at *
    have z0 : W0.heap.size = w.heap.size + 2 := by rw [← hW]; simp
    have m00 := fun s : InW W0 => s.cell (b := w.heap.size) (o := 0) (v := .int .u32 id) (by omega) (by rw [← hW]; simp [go_sem])
    have m01 := fun s : InW W0 => s.cell (b := w.heap.size) (o := 1) (v := .bool ext) (by omega) (by rw [← hW]; simp [go_sem])
    have m02 := fun s : InW W0 => s.cell (b := w.heap.size) (o := 2) (v := .bool rem) (by omega) (by rw [← hW]; simp [go_sem])
    have m03 := fun s : InW W0 => s.cell (b := w.heap.size) (o := 3) (v := .int .i64 dlc) (by omega) (by rw [← hW]; simp [go_sem])
    have m04 := fun s : InW W0 => s.cell (b := w.heap.size) (o := 4) (v := .string data) (by omega) (by rw [← hW]; simp [go_sem])
    have m10 := fun s : InW W0 => s.cell (b := w.heap.size + 1) (o := 0) (v := .int .u32 id') (by omega) (by rw [← hW]; simp [go_sem])
    have m11 := fun s : InW W0 => s.cell (b := w.heap.size + 1) (o := 1) (v := .bool ext') (by omega) (by rw [← hW]; simp [go_sem])
    have m12 := fun s : InW W0 => s.cell (b := w.heap.size + 1) (o := 2) (v := .bool rem') (by omega) (by rw [← hW]; simp [go_sem])
    have m13 := fun s : InW W0 => s.cell (b := w.heap.size + 1) (o := 3) (v := .int .i64 dlc') (by omega) (by rw [← hW]; simp [go_sem])
    have m14 := fun s : InW W0 => s.cell (b := w.heap.size + 1) (o := 4) (v := .string data') (by omega) (by rw [← hW]; simp [go_sem])
    have Z0 := aA z0
    clear hW z0
    repeat (go_big_quiet_step (first | (go_at_call 85; exact cO (RF.out _))))
    refine wpQuiet_nil ?_
    rintro _ ⟨s, rfl⟩
    have hs := s.h
    clear m00 m01 m02 m03 m04 m10 m11 m12 m13 m14
    go_wp2
    go_ret
    exact ⟨rfl, q0.trans (hs.mono (by have := Z0.out; omega))⟩
  · rw [h1] at RF
    have FF' := aA (fun W => FF.out W h1)
    rcases h2 : FP.rightB g with _ | _
    · have hL := HN.out (.inr h2)
      rw [h2] at RG
      subst hL
      clear HE HN FF FG FF' h1 h2
      obtain ⟨id, ext, rem, dlc, data⟩ := f
      obtain ⟨id', ext', rem', dlc', data'⟩ := g
      dsimp only at *
      go_enter Tryz.func182, Tryz.ntmps182
      go_wp2_with fail
      refine bF (by kernel_rfl) (by kernel_rfl) ?_
      generalize hW : (w.alloc (.cells #[.int .u32 id, .bool ext, .bool rem, .int .i64 dlc, .string data] 35)).alloc (.cells #[.int .u32 id', .bool ext', .bool rem', .int .i64 dlc', .string data'] 35) = W0 at *
      have z0 : W0.heap.size = w.heap.size + 2 := by rw [← hW]; simp
      have m00 := fun s : InW W0 => s.cell (b := w.heap.size) (o := 0) (v := .int .u32 id) (by omega) (by rw [← hW]; simp [go_sem])
      have m01 := fun s : InW W0 => s.cell (b := w.heap.size) (o := 1) (v := .bool ext) (by omega) (by rw [← hW]; simp [go_sem])
      have m02 := fun s : InW W0 => s.cell (b := w.heap.size) (o := 2) (v := .bool rem) (by omega) (by rw [← hW]; simp [go_sem])
      have m03 := fun s : InW W0 => s.cell (b := w.heap.size) (o := 3) (v := .int .i64 dlc) (by omega) (by rw [← hW]; simp [go_sem])
      have m04 := fun s : InW W0 => s.cell (b := w.heap.size) (o := 4) (v := .string data) (by omega) (by rw [← hW]; simp [go_sem])
      have m10 := fun s : InW W0 => s.cell (b := w.heap.size + 1) (o := 0) (v := .int .u32 id') (by omega) (by rw [← hW]; simp [go_sem])
      have m11 := fun s : InW W0 => s.cell (b := w.heap.size + 1) (o := 1) (v := .bool ext') (by omega) (by rw [← hW]; simp [go_sem])
      have m12 := fun s : InW W0 => s.cell (b := w.heap.size + 1) (o := 2) (v := .bool rem') (by omega) (by rw [← hW]; simp [go_sem])
      have m13 := fun s : InW W0 => s.cell (b := w.heap.size + 1) (o := 3) (v := .int .i64 dlc') (by omega) (by rw [← hW]; simp [go_sem])
      have m14 := fun s : InW W0 => s.cell (b := w.heap.size + 1) (o := 4) (v := .string data') (by omega) (by rw [← hW]; simp [go_sem])
      have Z0 := aA z0
      clear hW z0
      repeat (go_big_quiet_step (first | (go_at_call 85; with_reducible exact cO (RF.out _)) | (go_at_call 85; exact cO (RG.out _))))
      refine wpQuiet_nil ?_
      rintro _ ⟨s, rfl⟩
      have hs := s.h
      clear m00 m01 m02 m03 m04 m10 m11 m12 m13 m14
      go_wp2
      go_ret
      exact ⟨rfl, q0.trans (hs.mono (by have := Z0.out; omega))⟩
    · have hL := HE.out h1 h2
      have FG' := aA (fun W => FG.out W h2)
      rw [h2] at RG
      subst hL
      clear HE HN FF FG h1 h2
      obtain ⟨id, ext, rem, dlc, data⟩ := f
      obtain ⟨id', ext', rem', dlc', data'⟩ := g
      dsimp only at *
      go_enter Tryz.func182, Tryz.ntmps182
      go_wp2_with fail
      refine bF (by kernel_rfl) (by kernel_rfl) ?_
      generalize hW : (w.alloc (.cells #[.int .u32 id, .bool ext, .bool rem, .int .i64 dlc, .string data] 35)).alloc (.cells #[.int .u32 id', .bool ext', .bool rem', .int .i64 dlc', .string data'] 35) = W0 at *
      have z0 : W0.heap.size = w.heap.size + 2 := by rw [← hW]; simp
      have m00 := fun s : InW W0 => s.cell (b := w.heap.size) (o := 0) (v := .int .u32 id) (by omega) (by rw [← hW]; simp [go_sem])
      have m01 := fun s : InW W0 => s.cell (b := w.heap.size) (o := 1) (v := .bool ext) (by omega) (by rw [← hW]; simp [go_sem])
      have m02 := fun s : InW W0 => s.cell (b := w.heap.size) (o := 2) (v := .bool rem) (by omega) (by rw [← hW]; simp [go_sem])
      have m03 := fun s : InW W0 => s.cell (b := w.heap.size) (o := 3) (v := .int .i64 dlc) (by omega) (by rw [← hW]; simp [go_sem])
      have m04 := fun s : InW W0 => s.cell (b := w.heap.size) (o := 4) (v := .string data) (by omega) (by rw [← hW]; simp [go_sem])
      have m10 := fun s : InW W0 => s.cell (b := w.heap.size + 1) (o := 0) (v := .int .u32 id') (by omega) (by rw [← hW]; simp [go_sem])
      have m11 := fun s : InW W0 => s.cell (b := w.heap.size + 1) (o := 1) (v := .bool ext') (by omega) (by rw [← hW]; simp [go_sem])
      have m12 := fun s : InW W0 => s.cell (b := w.heap.size + 1) (o := 2) (v := .bool rem') (by omega) (by rw [← hW]; simp [go_sem])
      have m13 := fun s : InW W0 => s.cell (b := w.heap.size + 1) (o := 3) (v := .int .i64 dlc') (by omega) (by rw [← hW]; simp [go_sem])
      have m14 := fun s : InW W0 => s.cell (b := w.heap.size + 1) (o := 4) (v := .string data') (by omega) (by rw [← hW]; simp [go_sem])
      have Z0 := aA z0
      clear hW z0
      repeat (go_big_quiet_step (first | (go_at_call 85; with_reducible exact cO (RF.out _)) | (go_at_call 85; exact cO (RG.out _)) | (go_at_call 224; with_reducible exact cO (FF'.out _)) | (go_at_call 224; exact cO (FG'.out _))))
      refine wpQuiet_nil ?_
      rintro _ ⟨s, rfl⟩
      have hs := s.h
      clear m00 m01 m02 m03 m04 m10 m11 m12 m13 m14
      go_wp2
      go_ret
      exact ⟨rfl, q0.trans (hs.mono (by have := Z0.out; omega))⟩
end Go.Proofs.YtkmddjbialpppaaGreatDoor

namespace Go.Proofs.YtkmddjbialpppaaGreatDoor
open Go.ChangeShapes Go.WideShapes Go.ChangeAt Go.RowKit
open FP (bit aY Fr dT)
attribute [local go_sem] Oper.semAt_some
def fstr (f : Fr) : ByteArray := ⟨(dA f).toArray⟩
def SF (l : List Fr) (j : Nat) : ByteArray := if h : j < l.length then fstr l[j] else ⟨#[]⟩
end Go.Proofs.YtkmddjbialpppaaGreatDoor
namespace Go.Proofs.YtkmddjbialpppaaGreatDoor
open FP (bit aY Fr dT)
namespace PP
abbrev bl := Op.bytesLess
end PP
end Go.Proofs.YtkmddjbialpppaaGreatDoor
namespace Go.Proofs.YtkmddjbialpppaaGreatDoor
open FP (bit aY Fr dT numOf)
namespace PP
theorem lessB_bl {f g : Fr} (hf : FP.rightB f = true) (hg : FP.rightB g = true) : gH f g = bl (dA f) (dA g) := by simp [gH, hf, hg]
def FL (l : List Fr) (j : Nat) : List UInt8 := if h : j < l.length then dA l[j] else dA ⟨0, false, false, 0, ⟨#[]⟩⟩
end PP
end Go.Proofs.YtkmddjbialpppaaGreatDoor
namespace Go.Proofs.YtkmddjbialpppaaGreatDoor
open Go.ChangeShapes Go.WideShapes Go.ChangeAt Go.RowKit Go.Deep
theorem ownK : ownKnob Tryz.prog.godebug = none := by kernel_rfl
theorem laidOut : laidOutB Tryz.prog = true := by kernel_rfl
section
variable {H : Type} {enc : TypeId × Value → H} {P : Program}
theorem jV (hl : laidOutB P = true) {W W' : World} {sp : Nat → Bool} : ∀ {ts : List TypeId} {vs : List Value} {ds : List (DataW H)} {ps : List MemPlace},
    (ts.all fun t => P.readableRec t && decide (t < P.types.size)) = true → DataW.TrodAll enc P W 0 (fun _ => true) true ts vs ds ps → (∀ x ∈ ps, W.sameAt W' x) → (∀ x ∈ ps, sp x.block = true) → DataW.TrodAll enc P W' 0 sp true ts vs ds ps
  | [], [], [], ps, _, h, _, _ => h
  | t :: ts, v :: vs, d :: ds, ps, hr, h, hs, hp => by
    obtain ⟨p, q, h1, h2, rfl⟩ := h
    simp only [List.all_cons, Bool.and_eq_true, decide_eq_true_eq] at hr
    exact ⟨p, q, WideElems.Trod_stays hl hr.1.1 hr.1.2 h1 (fun x hx => hs x (by simp [hx])) (fun x hx => hp x (by simp [hx])),
      jV hl hr.2 h2 (fun x hx => hs x (by simp [hx])) (fun x hx => hp x (by simp [hx])), rfl⟩
  | [], [], _ :: _, _, _, h, _, _ => h.elim
  | [], _ :: _, [], _, _, h, _, _ => h.elim
  | [], _ :: _, _ :: _, _, _, h, _, _ => h.elim
  | _ :: _, [], [], _, _, h, _, _ => h.elim
  | _ :: _, [], _ :: _, _, _, h, _, _ => h.elim
  | _ :: _, _ :: _, [], _, _, h, _, _ => h.elim
theorem law_post {f : Func} {s : ChangeSpec} {W W' : World} {args : Array Value} {ds gs : List (DataW H)} {before : List MemPlace} {tb : TypeId} (hl : laidOutB P = true) (hvs : s.vars = [])
    (hW : DataW.Whole enc P f.params.toList s.vars false W args.toList ds gs before)
    (hts : (f.params.toList.all fun t => P.readableRec t && decide (t < P.types.size)) = true)
    (hres : f.resultTypes = #[tb]) (hub : P.underlying tb = some .bool)
    (hfn : s.fn H (ds ++ gs) = { results := [.lit (.bool true)], args := ds }) (hfv : gs = [])
    (hb : Below W.heap.size W W') :
    s.post enc P f false true false false W args (.bool true) W' := by
  subst hfv
  have hlt : ∀ p ∈ before, p.block < W.heap.size := fun p hp => hW.lt p hp
  have hW0 := hW
  obtain ⟨p, q, hA, hV, rfl, hfz, hnd⟩ := hW
  rw [hvs] at hV
  obtain ⟨_, rfl⟩ := trodVars_none hV
  have hres' : (Value.bool true).resultList f.resultTypes.size = [.bool true] := by rw [hres]; rfl
  have hargs : ∀ sp : Nat → Bool, (∀ x ∈ p ++ [], sp x.block = true) → DataW.TrodAll enc P W' 0 sp true f.params.toList args.toList ds p := fun sp hsp =>
    jV hl hts hA (fun x hx => hb.same (hlt x (by simp [hx]))) (fun x hx => hsp x (by simp [hx]))
  have hrs : ∀ (b : Nat) (sp : Nat → Bool) (hd : Bool), DataW.TrodAll enc P W' b sp hd f.resultTypes.toList [.bool true] [.lit (.bool true)] [] := fun b sp hd => by
    rw [hres]; exact trodAll_cons_mk (shut_bool hub _) trodAll_mk0
  refine ⟨ds, [], p ++ [], [], p, [], hW0, ?_, ?_, ?_, World.keptBut_mono (fun x hx => ⟨hx, ?_⟩) (hb.frame (· ∈ p ++ [])), fun h => by cases h⟩
  · rw [hfn, hres']; exact hrs _ _ _
  · rw [hfn]; exact hargs _ (fun x hx => by simpa using hlt x hx)
  · rw [hfn, hvs]; rfl
  · simpa using hx
theorem cell_lt {w : World} {a : Addr} {v : Value} (h : w.cell? a = some v) : a.block < w.heap.size := by
  unfold World.cell? at h
  by_cases hlt : a.block < w.heap.size
  · exact hlt
  · rw [Array.getElem?_eq_none (by omega)] at h; simp at h
theorem list_of {α : Type} {n : Nat} {Q : Nat → α → Prop} (h : ∀ i, i < n → ∃ x, Q i x) : ∃ l : List α, l.length = n ∧ ∀ i (hi : i < l.length), Q i l[i] := by
  induction n with
  | zero => exact ⟨[], rfl, fun i hi => absurd hi (by simp)⟩
  | succ n ih =>
    obtain ⟨l, hl, hq⟩ := ih (fun i hi => h i (by omega))
    obtain ⟨x, hx⟩ := h n (by omega)
    refine ⟨l ++ [x], by simp [hl], fun i hi => ?_⟩
    by_cases e : i < l.length
    · rw [List.getElem_append_left e]; exact hq i e
    · have : i = n := by simp at hi; omega
      subst this
      rw [List.getElem_append_right (by omega)]
      simpa [hl] using hx
def Dec {α : Type} (enc : TypeId × Value → H) (P : Program) (e : TypeId) (ec : α → List Value) (wf : α → Prop) : Prop :=
  ∀ (w : World) (base : Nat) (sp : Nat → Bool) (held : Bool) (n : Nat) (cs : List Value) (x : DataW H × List MemPlace), DataW.trod enc P w base sp held n e cs = some x → ∃ a : α, cs = ec a ∧ wf a
theorem iE {α : Type} {t e : TypeId} {ec : α → List Value} {wf : α → Prop} {sz : Nat} (ht : P.underlying t = some (.slice e)) (hc : P.cellsOf e = sz) (hsz : 0 < sz) (hd : Dec enc P e ec wf) (hlen : ∀ a, (ec a).length = sz)
    {w : World} {base : Nat} {sp : Nat → Bool} {held : Bool} {fuel : Nat} {cs : List Value} {x : DataW H × List MemPlace} (h : DataW.trod enc P w base sp held fuel t cs = some x) :
    ∃ (A : Option Addr) (c : Nat) (l : List α), cs = [.slice A l.length c] ∧ l.length ≤ c ∧ c ≤ maxLen ∧ Rd w w.heap.size A sz (l.map ec) ∧ ∀ a ∈ l, wf a := by
  rcases open_slice ht h with ⟨rfl, _⟩ | ⟨a, len, cap, m, n, D, Pl, rfl, _, hlc, hcm, hm, _, hel⟩
  · exact ⟨none, 0, [], rfl, by simp, by simp, Rd.nil, by simp⟩
  · have hlm : len ≤ m := by rw [hm]; split <;> omega
    rw [hc] at hel
    obtain ⟨l, hl, hq⟩ := list_of (n := len) (Q := fun i (x : α) => wf x ∧ ∀ j v, (ec x)[j]? = some v → w.cell? ((a.add (i * sz)).add j) = some v) (fun i hi => by
      obtain ⟨cs', hcs, htr⟩ := hel i (by omega)
      obtain ⟨_, hcl, hat⟩ := World.cells?_some hcs
      obtain ⟨x, hx, hwf⟩ := hd _ _ _ _ _ _ _ htr
      refine ⟨x, hwf, fun j v hj => ?_⟩
      rw [hx] at hcl hat
      have hjl : j < (ec x).length := (List.getElem?_eq_some_iff.1 hj).1
      rw [hat j (by omega)]; exact hj)
    refine ⟨some a, cap, l, by rw [hl], by omega, hcm, fun hn => ?_, fun x hx => ?_⟩
    · rw [List.length_map] at hn
      have h0 : 0 < (ec l[0]).length := by rw [hlen]; exact hsz
      have hc0 := (hq 0 hn).2 0 (ec l[0])[0] (List.getElem?_eq_getElem h0)
      obtain ⟨b, off, spot⟩ := a
      have hspot : spot = none := by simpa [Addr.add] using World.cell?_spot hc0
      subst hspot
      refine ⟨b, off, rfl, ?_, fun k row j v hk hj => ?_⟩
      · have := cell_lt hc0; simpa [Addr.add] using this
      · rw [List.getElem?_map] at hk
        obtain ⟨y, hy, rfl⟩ := Option.map_eq_some_iff.1 hk
        obtain ⟨hkl, rfl⟩ := List.getElem?_eq_some_iff.1 hy
        have := (hq k hkl).2 j v hj
        rw [Go.WideShapes.add_plain, Go.WideShapes.add_plain] at this
        exact this
    · obtain ⟨i, hi, rfl⟩ := List.mem_iff_getElem.1 hx
      exact (hq i hi).1
theorem open_struct {α : Type} {t : TypeId} {fs : Array Field} {ec : α → List Value} {wf : α → Prop} (ht : P.underlying t = some (.struct fs)) (hd : Dec enc P t ec wf)
    {w W : World} {r : Reach} {b0 base : Nat} {sp : Nat → Bool} {held : Bool} {v : Value} {d : DataW H} {p : List MemPlace} (hv : Value.okWide P W r b0 t v) (h : DataW.Trod enc P w base sp held t v d p) :
    ∃ a : α, v = .agg (ec a).toArray ∧ wf a := by
  obtain ⟨cs, rfl, _⟩ := okWide_struct ht hv
  obtain ⟨fuel, hf⟩ := h
  obtain ⟨a, ha, hw⟩ := hd _ _ _ _ _ _ _ hf
  refine ⟨a, ?_, hw⟩
  simp only [Value.cells] at ha
  rw [← ha]
theorem fO {t : TypeId} {fs : Array Field} (ht : P.underlying t = some (.struct fs)) (hone : oneCellFields P fs = true) (hC : P.cellsOf t = fs.size) {w : World} {base : Nat} {sp : Nat → Bool} {held : Bool} {fuel : Nat} {cs : List Value} {x : DataW H × List MemPlace}
    (h : DataW.trod enc P w base sp held fuel t cs = some x) : ∃ m, cs.length = fs.size ∧ ∀ (i : Nat) (f : Field) (c : Value), fs[i]? = some f → cs[i]? = some c → ∃ y, DataW.trod enc P w base sp held m f.type [c] = some y := by
  obtain ⟨xs, m, _, _, hlen, hxl, hg⟩ := DataW.trod_struct ht h
  refine ⟨m, hlen.trans hC, fun i f c hf hc => ?_⟩
  obtain ⟨ho, hk⟩ := hone_of hone i f hf
  have h1 := hg i f hf
  rw [ho, hk] at h1
  have hi : i < fs.size := (Array.getElem?_eq_some_iff.1 hf).1
  have hil : i < cs.length := by omega
  have hd : (cs.drop i).take 1 = [c] := by
    rw [List.drop_eq_getElem_cons hil]
    have : cs[i] = c := by rw [List.getElem?_eq_getElem hil] at hc; exact Option.some.inj hc
    rw [this]; rfl
  rw [hd] at h1
  exact ⟨xs[i]'(by omega), by rw [h1, List.getElem?_eq_getElem (by omega)]⟩
end
end Go.Proofs.YtkmddjbialpppaaGreatDoor
namespace Go.Proofs.YtkmddjbialpppaaGreatDoor
open Go.ChangeShapes Go.WideShapes Go.ChangeAt Go.RowKit
open FP (bit aY Fr dT)
def sh (a : Nat) (r : Bool) : Fr := ⟨a, false, r, 0, ⟨#[]⟩⟩
def lo (N : Nat) : Fr := ⟨N, true, false, 0, ⟨#[]⟩⟩
end Go.Proofs.YtkmddjbialpppaaGreatDoor
namespace Go.Proofs.YtkmddjbialpppaaGreatDoor
open Go.ChangeShapes Go.WideShapes Go.ChangeAt Go.RowKit
def BT (t : TypeId) : Prop := liesAt Tryz.prog Tryz.prog.depth t (2 / Tryz.prog.cellsOf t) 0 314 1 = true ∧ t ≠ 5
theorem bld_info : (Tryz.prog.info? 314).map (·.size) = some 2 := by kernel_rfl
set_option maxRecDepth 100000 in
set_option maxHeartbeats 400000 in
theorem cc_used (b : Nat) (w : World) (h0 : w.cell? ⟨b, 0, none⟩ = some (.pointer (some ⟨b, 0, none⟩))) :
    Calls Tryz.prog 247 #[.pointer (some ⟨b, 0, none⟩)] w fun e w' => e = .returned (.tuple #[]) ∧ w' = w := by
  obtain ⟨j, hj, _⟩ := Option.map_eq_some_iff.1 bld_info
  go_enter Tryz.func247, Tryz.ntmps247
  go_wp2
  rw [Lib.run_neq_ptr_same w _ Tryz.underlying312 hj]
  go_wp2
  go_end0
  exact ⟨rfl, rfl⟩
set_option maxRecDepth 100000 in
set_option maxHeartbeats 400000 in
theorem cc_fresh (t b : Nat) (ht : BT t) (w : World) (h0 : w.cell? ⟨b, 0, none⟩ = some (.pointer none)) (hsh : w.shape? b = some (t, 2)) (hfz : w.frozen? ⟨b, 0, none⟩ = false) :
    Calls Tryz.prog 247 #[.pointer (some ⟨b, 0, none⟩)] w fun e w' => e = .returned (.tuple #[]) ∧ w' = w.setCell ⟨b, 0, none⟩ (.pointer (some ⟨b, 0, none⟩)) := by
  obtain ⟨j, hj, hjs⟩ := Option.map_eq_some_iff.1 bld_info
  have e1 := Lib.run_to_unsafe w (P := Tryz.prog) ⟨b, 0, none⟩ Tryz.underlying312 Tryz.underlying369 hj (by rw [hjs]; decide) hsh (Nat.zero_lt_succ 1)
  have e2 := Lib.run_from_unsafe w (P := Tryz.prog) ⟨b, 0, none⟩ Tryz.underlying369 Tryz.underlying312 hj hsh ht.1
  have E1 := aA e1
  have E2 := aA e2
  clear e1 e2 hsh
  go_enter Tryz.func247, Tryz.ntmps247
  go_wp2
  rw [E1.out]
  simp only [Result.andThen]
  rw [Oper.upon_value]
  go_wp2
  rw [run_callFunc_extern Tryz.func269 (by kernel_rfl) (by kernel_rfl) (by kernel_rfl) (e := Extern.AbiNoEscape.same) (by kernel_rfl)]
  rw [Lib.run_noEscape]
  simp only [Result.andThen]
  rw [Oper.upon_value]
  go_wp2
  rw [E2.out]
  simp only [Result.andThen]
  rw [Oper.upon_value]
  go_wp2
  go_end0
  exact ⟨rfl, rfl⟩
theorem cc_any (t b B : Nat) (ht : BT t) (bs : List Value) (w : World) (h : Lib.IsBuilder t 5 B b bs w) :
    Calls Tryz.prog 247 #[.pointer (some ⟨b, 0, none⟩)] w fun e w' => e = .returned (.tuple #[]) ∧ Lib.BuilderAt t 5 B b (.pointer (some ⟨b, 0, none⟩)) bs w' ∧ Below B w w' := by
  rcases h with h | h
  · exact (cc_fresh t b ht w h.cell0 h.shape h.frozen0).mono fun _ _ ⟨a, c⟩ => by subst c; exact ⟨a, h.used _, (Below.refl B w).setCell (p := ⟨b, 0, none⟩) h.1 _⟩
  · exact (cc_used b w h.cell0).mono fun _ _ ⟨a, c⟩ => by subst c; exact ⟨a, h, Below.refl B _⟩
set_option maxRecDepth 100000 in
set_option maxHeartbeats 400000 in
theorem ws_any (t b B : Nat) (ht : BT t) (l : List UInt8) (s : ByteArray) (w : World) (h : Lib.IsBuilder t 5 B b (Lib.byteCells l) w) (hlen : l.length + s.size ≤ 1000000) (hBw : B ≤ w.heap.size) :
    Calls Tryz.prog 219 #[.pointer (some ⟨b, 0, none⟩), .string s] w fun e w' => e = .returned (.tuple #[.int .i64 s.size, .nilIface]) ∧ Lib.IsBuilder t 5 B b (Lib.byteCells (l ++ s.data.toList)) w' ∧ Below B w w' := by
  obtain ⟨i0, hi, hz0, hz1, hz2⟩ := info_parts (P := Tryz.prog) (e := 5) (z := .int .u8 0) (size := 1) (bytes := 1) (by kernel_rfl)
  have CC := aA (cc_any t b B ht _ w h)
  have BL : (Lib.byteCells l).length = l.length := Lib.byteCells_length l
  go_enter Tryz.func219, Tryz.ntmps219
  go_wp2_with fail
  refine CC.out.mono ?_
  rintro e w1 ⟨rfl, ⟨hB, v, hbk, hown, hne⟩, hb1⟩
  have c1 : w1.cell? ⟨b, 1, none⟩ = some v := by rw [Lib.cell_of_heap hbk]; rfl
  have HK := aA hbk
  have HO := aA hown
  clear hbk hown CC h
  go_wp2_with (at_builtin; refine Lib.wpList_append_own_string _ rfl _ _ 140 9 rfl B 5 i0 Tryz.underlying140 Tryz.underlying9 hi hz0 hz1 hz2 _ _ _ rfl HO.out s rfl ?c3 ?c4 ?c5 ?_)
  case c3 => unfold maxLen; omega
  case c4 => omega
  case c5 => have := hb1.size; omega
  intro v' w2 hown' hgrow _
  have hlt : b < w1.heap.size := by
    rcases Nat.lt_or_ge b w1.heap.size with h' | h'
    · exact h'
    · have := HK.out; simp [Array.getElem?_eq_none h'] at this
  have hb2 : w2.heap[b]? = some (.cells #[.pointer (some ⟨b, 0, none⟩), v] t (0, 0)) := by
    rw [hgrow.block b hlt (fun e => hne e.symm)]
    exact HK.out
  have d1 : w2.cell? ⟨b, 1, none⟩ = some v := by rw [Lib.cell_of_heap hb2]; rfl
  have f1 : w2.frozen? ⟨b, 1, none⟩ = false := Lib.frozen_of_heap hb2 1
  obtain ⟨ao, n', cap, rfl⟩ : ∃ ao n' cap, v' = .slice ao n' cap := by
    rcases hown'.2 with ⟨hv, _⟩ | ⟨g, cap, cur, hv, _⟩
    · exact ⟨_, _, _, hv⟩
    · exact ⟨_, _, _, hv⟩
  have q : Below B w (w2.setCell ⟨b, 1, none⟩ (.slice ao n' cap)) := (hb1.grown hgrow (by have := hb1.size; omega) (fun k hk => (HO.out.lt k hk).1)).setCell (p := ⟨b, 1, none⟩) hB _
  have r : Lib.IsBuilder t 5 B b (Lib.byteCells (l ++ s.data.toList)) (w2.setCell ⟨b, 1, none⟩ (.slice ao n' cap)) := by
    right
    refine Lib.BuilderAt.put (T := t) (e := 5) hB hb2 ?_ ht.2
    have e : Lib.byteCells (l ++ s.data.toList) = Lib.byteCells l ++ Lib.strCells s := by simp [Lib.byteCells, Lib.strCells]
    rw [e, List.length_append, Lib.strCells_length, Lib.byteCells_length]
    simpa [BL] using hown'
  have Q := aA q
  have R := aA r
  clear q r hown' hgrow hb2 hlt BL hi hz0 hz1 hz2
  go_wp2
  go_ret2
  exact ⟨rfl, R.out, Q.out⟩
set_option maxRecDepth 100000 in
set_option maxHeartbeats 1000000 in
theorem bstr_any (t b B : Nat) (l : List UInt8) (w : World) (h : Lib.IsBuilder t 5 B b (Lib.byteCells l) w) (h0 : l ≠ []) :
    Calls Tryz.prog 220 #[.pointer (some ⟨b, 0, none⟩)] w fun e w' => e = .returned (.string ⟨l.toArray⟩) ∧ Below B w w' := by
  obtain ⟨p, hB, v, hbk, hown, hne⟩ : ∃ p, Lib.BuilderAt t 5 B b p (Lib.byteCells l) w := by
    rcases h with h | h
    · exact ⟨_, h⟩
    · exact ⟨_, h⟩
  have hl0 : 0 < l.length := List.length_pos_iff.2 h0
  rw [Lib.byteCells_length] at hown
  obtain ⟨g, cap, hv, hbg, _⟩ := World.ownsRow.form hown hl0
  subst hv
  obtain ⟨cur, hg, hcap, hcs⟩ : ∃ cur, w.heap[g]? = some (.cells cur 5 (0, 0)) ∧ l.length ≤ cap ∧ cap ≤ maxLen ∧ cur.size = cap * 1 := by
    rcases hown.2 with ⟨h', _⟩ | ⟨g', cap', cur, h', _, hg, hnc, hcm, hcs, _⟩
    · simp at h'
    · simp only [Value.slice.injEq, Option.some.injEq, Addr.mk.injEq, and_true, true_and] at h'
      obtain ⟨rfl, rfl⟩ := h'
      exact ⟨cur, hg, hnc, hcm, hcs⟩
  have c1 : w.drew.cell? ⟨b, 1, none⟩ = some (.slice (some ⟨g, 0, none⟩) l.length cap) := by
    have : w.drew.heap[b]? = some (.cells #[p, .slice (some ⟨g, 0, none⟩) l.length cap] t (0, 0)) := hbk
    rw [Lib.cell_of_heap this]; rfl
  have hSD : (Builtin.unsafeSliceData_ #[140] 354 #[.slice (some ⟨g, 0, none⟩) l.length cap]).run Tryz.prog w.drew = .ok (.pointer (some ⟨g, 0, none⟩)) w.drew :=
    Lib.run_unsafeSliceData_row _ _ _ _ _ _ (by omega)
  have hUS : (Builtin.unsafeString_ #[354, 3] 9 #[.pointer (some ⟨g, 0, none⟩), .int .i64 l.length]).run Tryz.prog w.drew = .ok (.string ⟨l.toArray⟩) (w.drew.freeze ⟨g, 0, none⟩ l.length) := by
    refine Lib.run_unsafeString_row w.drew 354 3 9 5 Tryz.underlying354 (by kernel_rfl) g cur.size (by have hg' : w.drew.heap[g]? = some (.cells cur 5 (0, 0)) := hg; simp [World.shape?, hg']) l h0 (by omega) (by have := hcs.1; unfold maxLen at this; omega) ?_
    intro j x hx
    exact hown.cells (g := g) rfl j (.int .u8 x.toNat) (by simp [Lib.byteCells, hx])
  clear hown hbk hg hcs hcap hl0 h0
  go_enter Tryz.func220, Tryz.ntmps220
  go_wp2
  go_region
  all_goals
    go_wp2
    go_ret
    exact ⟨rfl, Lib.below_freeze (Below.drew (Below.refl B w)) (p := ⟨g, 0, none⟩) hbg _⟩
theorem bldAt_keep {t e B b : Nat} {p : Value} {bs : List Value} {w w' : World} (h : Lib.BuilderAt t e B b p bs w) (hb : Below w.heap.size w w') : Lib.BuilderAt t e B b p bs w' := by
  have hlt := h.lt
  obtain ⟨hB, v, hbk, hown, hne⟩ := h
  refine ⟨hB, v, (hb.block b hlt).trans hbk, World.ownsRow.kept (row := none) hown ⟨hb.os, hb.tape, hb.output, hb.size, fun k hk _ => hb.block k hk⟩ ?_, hne⟩
  cases hv : v.ownBlock
  · exact .inl rfl
  · exact .inr (by simp)
theorem bld_keep {t e B b : Nat} {bs : List Value} {w w' : World} (h : Lib.IsBuilder t e B b bs w) (hb : Below w.heap.size w w') : Lib.IsBuilder t e B b bs w' :=
  h.elim (fun x => .inl (bldAt_keep x hb)) (fun x => .inr (bldAt_keep x hb))
end Go.Proofs.YtkmddjbialpppaaGreatDoor
