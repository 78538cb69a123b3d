/- The walk of pdu.mark. -/
import Derived.Test.YtplpnnjjjfcibaaPdC
import Derived.Shelf.Strings.Repeat
import Derived.WalkKit
import Derived.Test.YtplpnnjjjfcibaaChecked
import Derived.Test.YtplpnnjjjfcibaaMem
namespace Go.Proofs.Ytplpnnjjjfcibaa
open Go.ChangeShapes Go.WideShapes Go.ChangeAt Go.RowKit
open SG PD

/-- A single bit as a signal. -/
def oneS (p : Nat) : Sg := ⟨p, 1, false, false⟩
theorem oneS_pl {p : Nat} (h : p < 64) : plL (oneS p) = [p] := by
  have hr : rawL (oneS p) = [p] := by
    unfold rawL oneS
    simp [seqL, List.range_succ, atN]
  unfold plL
  rw [hr, if_pos]
  refine ⟨?_, by simpa using h⟩
  rw [may_iff]
  unfold oneS
  refine ⟨?_, ?_, ?_, ?_, ?_⟩ <;> simp <;> omega
theorem oneS_well {p n : Nat} (h : p < 8 * n) (hn : n ≤ 8) : wellF n (oneS p) = 0 := by
  have hp : plL (oneS p) = [p] := oneS_pl (by omega)
  have hr : rightS (oneS p) n = true := by
    rw [rightS_iff, hp]
    refine ⟨by simp, by omega, by omega, ?_⟩
    intro q hq
    rw [List.mem_singleton] at hq
    omega
  unfold wellF
  rw [if_neg (by rw [hp]; simp), if_neg]
  rintro (h1 | h1)
  · omega
  · rw [hr] at h1; cases h1
theorem oneS_put (l : List UInt8) {p : Nat} (h : p < 64) (v : Int) : putF l (plL (oneS p)) v = setB l p (vbit v 0) := by
  rw [oneS_pl h]
  rfl

set_option maxRecDepth 100000 in
theorem mark_any (d : ByteArray) (p : Nat) (b : Bool) (w : World) (hp : p < 8 * d.size) (hd : d.size ≤ 8) :
    Calls Try.prog 39 #[.string d, .int .i64 p, .bool b] w fun e w' => e = .returned (.string ⟨(setB d.data.toList p b).toArray⟩) ∧ Below w.heap.size w w' := by
  cases b with
  | true =>
    have PT := hide (fun W => put_ok d (oneS p) 1 W (by omega) (by omega) (by omega) (oneS_well hp hd) (by unfold fitsB oneS; simp))
    rw [oneS_put _ (by omega)] at PT
    have e1 : vbit 1 0 = true := by decide
    rw [e1] at PT
    unfold oneS at PT
    go_enter Try.func39, Try.ntmps39
    go_wp2_with fail
    (with_reducible refine (PT.out _).mono ?_)
    rintro e1 w1 ⟨rfl, q1⟩
    go_wp2_with fail
    go_ret
    exact ⟨rfl, q1⟩
  | false =>
    have PT := hide (fun W => put_ok d (oneS p) 0 W (by omega) (by omega) (by omega) (oneS_well hp hd) (by unfold fitsB oneS; simp))
    rw [oneS_put _ (by omega)] at PT
    have e1 : vbit 0 0 = false := by decide
    rw [e1] at PT
    unfold oneS at PT
    go_enter Try.func39, Try.ntmps39
    go_wp2_with fail
    (with_reducible refine (PT.out _).mono ?_)
    rintro e1 w1 ⟨rfl, q1⟩
    go_wp2_with fail
    go_ret
    exact ⟨rfl, q1⟩
end Go.Proofs.Ytplpnnjjjfcibaa

/- DERIVED: the shelf's contract of strings.Repeat at this dump, in plain words (written by the kit's lay-shelf.mjs and lay-plain.mjs; one seat's numbers). -/
namespace Go.Proofs
open Go.Shelf
def Try.lays105_ren : Go.Shelf.Ren := ⟨fun | 105 => 37 | 212 => 71 | 99 => 72 | 165 => 73 | 166 => 74 | 170 => 75 | 169 => 76 | 263 => 100 | 264 => 101 | 206 => 102 | 240 => 103 | 241 => 104 | 276 => 114 | 277 => 115 | n => n, fun | 9 => 9 | 3 => 3 | 4 => 4 | 20 => 20 | 0 => 0 | 46 => 118 | 109 => 119 | 5 => 5 | 72 => 124 | 76 => 128 | 51 => 50 | 146 => 158 | 53 => 133 | 148 => 160 | 70 => 122 | 37 => 87 | 75 => 127 | 127 => 162 | 164 => 175 | 80 => 131 | n => n, fun | n => n⟩
theorem Try.lays105 : Go.Proofs.Lays.n105 Try.prog Try.lays105_ren := {
  mixed := by kernel_rfl
  f99 := Try.func72.trans (congrArg some (by kernel_rfl))
  f105 := Try.func37.trans (congrArg some (by kernel_rfl))
  f165 := Try.func73.trans (congrArg some (by kernel_rfl))
  f166 := Try.func74.trans (congrArg some (by kernel_rfl))
  f169 := Try.func76.trans (congrArg some (by kernel_rfl))
  f170 := Try.func75.trans (congrArg some (by kernel_rfl))
  f206 := Try.func102.trans (congrArg some (by kernel_rfl))
  f212 := Try.func71.trans (congrArg some (by kernel_rfl))
  f240 := Try.func103.trans (congrArg some (by kernel_rfl))
  f241 := Try.func104.trans (congrArg some (by kernel_rfl))
  f263 := Try.func100.trans (congrArg some (by kernel_rfl))
  f264 := Try.func101.trans (congrArg some (by kernel_rfl))
  f276 := Try.func114.trans (congrArg some (by kernel_rfl))
  f277 := Try.func115.trans (congrArg some (by kernel_rfl))
  t0 := Try.underlying0
  a0 := Try.isAgg0
  z0 := Try.sizeOf0
  v0 := Try.zeroValue0
  t3 := Try.underlying3
  a3 := Try.isAgg3
  z3 := Try.sizeOf3
  v3 := Try.zeroValue3
  t4 := Try.underlying4
  a4 := Try.isAgg4
  z4 := Try.sizeOf4
  v4 := Try.zeroValue4
  t5 := Try.underlying5
  a5 := Try.isAgg5
  z5 := Try.sizeOf5
  v5 := Try.zeroValue5
  t9 := Try.underlying9
  a9 := Try.isAgg9
  z9 := Try.sizeOf9
  v9 := Try.zeroValue9
  t20 := Try.underlying20
  a20 := Try.isAgg20
  z20 := Try.sizeOf20
  v20 := Try.zeroValue20
  t37 := Try.underlying87
  a37 := Try.isAgg87
  z37 := Try.sizeOf87
  v37 := Try.zeroValue87
  t46 := Try.underlying118
  a46 := Try.isAgg118
  z46 := Try.sizeOf118
  v46 := Try.zeroValue118
  t51 := Try.underlying50
  a51 := Try.isAgg50
  z51 := Try.sizeOf50
  v51 := Try.zeroValue50
  t53 := Try.underlying133
  a53 := Try.isAgg133
  z53 := Try.sizeOf133
  v53 := Try.zeroValue133
  t70 := Try.underlying122
  a70 := Try.isAgg122
  z70 := Try.sizeOf122
  v70 := Try.zeroValue122
  t72 := Try.underlying124
  a72 := Try.isAgg124
  z72 := Try.sizeOf124
  v72 := Try.zeroValue124
  t75 := Try.underlying127
  a75 := Try.isAgg127
  z75 := Try.sizeOf127
  v75 := Try.zeroValue127
  t76 := Try.underlying128
  a76 := Try.isAgg128
  z76 := Try.sizeOf128
  v76 := Try.zeroValue128
  t109 := Try.underlying119
  a109 := Try.isAgg119
  z109 := Try.sizeOf119
  v109 := Try.zeroValue119
  t127 := Try.underlying162
  a127 := Try.isAgg162
  z127 := Try.sizeOf162
  v127 := Try.zeroValue162
  t146 := Try.underlying158
  a146 := Try.isAgg158
  z146 := Try.sizeOf158
  v146 := Try.zeroValue158
  t148 := Try.underlying160
  a148 := Try.isAgg160
  z148 := Try.sizeOf160
  v148 := Try.zeroValue160
  t164 := Try.underlying175
  a164 := Try.isAgg175
  z164 := Try.sizeOf175
  v164 := Try.zeroValue175 }
theorem Try.Builder_Extra_105 : Builder.Extra Try.prog Try.lays105_ren := {
  sizeBuilder := by kernel_rfl
  liesBuilder := by kernel_rfl
  t5 := Try.underlying5
  a5 := Try.isAgg5
  z5 := Try.sizeOf5
  v5 := Try.zeroValue5
  infoByte := by kernel_rfl
  cellsByte := by kernel_rfl
  sizeByte := by kernel_rfl
  neB5 := by decide }
end Go.Proofs

/- strings.Repeat of one byte. -/
namespace Go.Proofs.Ytplpnnjjjfcibaa
open Go.ChangeShapes Go.WideShapes Go.ChangeAt Go.RowKit

theorem repeat_one (c : UInt8) (n : Nat) : Lib.repeatL [c] n = List.replicate n c := by
  induction n with
  | zero => rfl
  | succ n ih => rw [Lib.repeatL, ih, List.replicate_succ]; rfl

theorem repeat_any (c : UInt8) (n : Nat) (w : World) (hn : n ≤ 1000) :
    Calls Try.prog 37 #[.string ⟨#[c]⟩, .int .i64 n] w fun e w' => e = .returned (.string ⟨(List.replicate n c).toArray⟩) ∧ Below w.heap.size w w' := by
  have h := Any.strings_Repeat Try.lays105 Try.Builder_Extra_105 ⟨#[c]⟩ n w (by omega) (by show 1 * n ≤ 140737488355328; omega)
  have e : Lib.repeatL (⟨#[c]⟩ : ByteArray).data.toList n = List.replicate n c := repeat_one c n
  rw [e] at h
  exact h
end Go.Proofs.Ytplpnnjjjfcibaa
