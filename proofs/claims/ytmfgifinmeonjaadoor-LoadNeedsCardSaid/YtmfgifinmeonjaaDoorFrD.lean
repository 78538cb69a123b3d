/- few and alive of the frame statements. -/
import Derived.Test.YtmfgifinmeonjaaDoorFrC
namespace Go.Proofs.YtmfgifinmeonjaaDoor
open Go.ChangeShapes Go.WideShapes Go.ChangeAt Go.RowKit
open FP (bit bitsOf Fr bitB idPart dataPart headF)

def cutF (f : Fr) : Fr := { f with data := f.data.extract 0 (min f.data.size 12) }

set_option maxRecDepth 100000 in
set_option maxHeartbeats 1000000 in
theorem few04_any (f : Fr) (w : World) (hs : f.data.size ≤ maxLen) :
    Calls Tryd.prog 10 #[.agg #[.int .u32 f.id, .bool f.ext, .bool f.rem, .int .i64 f.dlc, .string f.data]] w fun e w' => e = .returned (.agg #[.int .u32 f.id, .bool f.ext, .bool f.rem, .int .i64 f.dlc, .string (f.data.extract 0 (min f.data.size 12))]) ∧ Below w.heap.size w w' := by
  obtain ⟨id, ext, rem, dlc, data⟩ := f
  dsimp only at *
  unfold maxLen at hs
  obtain ⟨m, em, hm⟩ := run_min (P := Tryd.prog) (data.size : Int) 12
  obtain ⟨k, hk⟩ : ∃ k : Nat, k = min data.size 12 := ⟨_, rfl⟩
  have hmk : m = k := by omega
  subst hmk
  have hkl : k ≤ data.size := by omega
  rw [← hk]
  clear hk em
  go_enter Tryd.func10, Tryd.ntmps10
  go_wp2
  refine bodyPost_ret (v := .agg #[.int .u32 id, .bool ext, .bool rem, .int .i64 dlc, .string (data.extract 0 k)]) (by simp [results, Tryd.results10, go_sem]) rfl ⟨rfl, ?_⟩
  exact ((Below.refl _ _).alloc (Nat.le_refl _) _).alloc (by simp) _

set_option maxRecDepth 100000 in
theorem alive04_any (w : World) : Calls Tryd.prog 14 #[] w fun e w' => e = .returned (.bool true) ∧ Below w.heap.size w w' := by
  have H := hide (fun W => Head_any ⟨5, false, false, 0, ⟨#[]⟩⟩ W (by decide))
  have hV : headV ⟨5, false, false, 0, ⟨#[]⟩⟩ = ⟨#[48, 48, 48, 48, 48, 48, 48, 48, 48, 49, 48, 49, 48, 48, 48, 48, 48, 48, 48]⟩ := by decide +kernel
  have hE : headE ⟨5, false, false, 0, ⟨#[]⟩⟩ = 0 := by decide +kernel
  rw [hV, hE] at H
  clear hV hE
  go_enter Tryd.func14, Tryd.ntmps14
  go_wp2_with fail
  refine (H.out _).mono ?_
  rintro e1 w1 ⟨rfl, q1⟩
  go_wp2
  go_ret
  exact ⟨rfl, q1⟩
end Go.Proofs.YtmfgifinmeonjaaDoor
