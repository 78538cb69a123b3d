/- The walk of pdu.mark. -/
import Derived.Test.YtnhegnneohpkaaaGreatPdC
import Derived.Ground.NamesProg
import Derived.Shelf.Strings.Repeat
import Derived.Test.YtnhegnneohpkaaaGreatChecked
import Derived.Test.YtnhegnneohpkaaaGreatMem
namespace Go.Proofs.YtnhegnneohpkaaaGreat
open Go.ChangeShapes Go.WideShapes Go.ChangeAt Go.RowKit
open SG PD

/-- A single bit as a signal. -/
def oneS (p : Nat) : Sg := ⟨p, 1, false, false⟩
theorem oneS_pl {p : Nat} (h : p < 64) : plL (oneS p) = [p] := by
  have hr : rawL (oneS p) = [p] := by
    unfold rawL oneS
    simp [seqL, List.range_succ, atN]
  unfold plL
  rw [hr, if_pos]
  refine ⟨?_, by simpa using h⟩
  rw [may_iff]
  unfold oneS
  refine ⟨?_, ?_, ?_, ?_, ?_⟩ <;> simp <;> omega
theorem oneS_well {p n : Nat} (h : p < 8 * n) (hn : n ≤ 8) : wellF n (oneS p) = 0 := by
  have hp : plL (oneS p) = [p] := oneS_pl (by omega)
  have hr : rightS (oneS p) n = true := by
    rw [rightS_iff, hp]
    refine ⟨by simp, by omega, by omega, ?_⟩
    intro q hq
    rw [List.mem_singleton] at hq
    omega
  unfold wellF
  rw [if_neg (by rw [hp]; simp), if_neg]
  rintro (h1 | h1)
  · omega
  · rw [hr] at h1; cases h1
theorem oneS_put (l : List UInt8) {p : Nat} (h : p < 64) (v : Int) : putF l (plL (oneS p)) v = setB l p (vbit v 0) := by
  rw [oneS_pl h]
  rfl

set_option maxRecDepth 100000 in
theorem mark_any (d : ByteArray) (p : Nat) (b : Bool) (w : World) (hp : p < 8 * d.size) (hd : d.size ≤ 8) :
    Calls Tryz.prog 74 #[.string d, .int .i64 p, .bool b] w fun e w' => e = .returned (.string ⟨(setB d.data.toList p b).toArray⟩) ∧ Below w.heap.size w w' := by
  cases b with
  | true =>
    have PT := hide (fun W => put_ok d (oneS p) 1 W (by omega) (by omega) (by omega) (oneS_well hp hd) (by unfold fitsB oneS; simp))
    rw [oneS_put _ (by omega)] at PT
    have e1 : vbit 1 0 = true := by decide
    rw [e1] at PT
    unfold oneS at PT
    go_enter Tryz.func74, Tryz.ntmps74
    go_wp2_with fail
    (with_reducible refine (PT.out _).mono ?_)
    rintro e1 w1 ⟨rfl, q1⟩
    go_wp2_with fail
    go_ret
    exact ⟨rfl, q1⟩
  | false =>
    have PT := hide (fun W => put_ok d (oneS p) 0 W (by omega) (by omega) (by omega) (oneS_well hp hd) (by unfold fitsB oneS; simp))
    rw [oneS_put _ (by omega)] at PT
    have e1 : vbit 0 0 = false := by decide
    rw [e1] at PT
    unfold oneS at PT
    go_enter Tryz.func74, Tryz.ntmps74
    go_wp2_with fail
    (with_reducible refine (PT.out _).mono ?_)
    rintro e1 w1 ⟨rfl, q1⟩
    go_wp2_with fail
    go_ret
    exact ⟨rfl, q1⟩
end Go.Proofs.YtnhegnneohpkaaaGreat

/-
  DERIVED: THE SHELF's CONTRACTS AT THIS DUMP, IN PLAIN WORDS (tools/lay-plain.mjs out of 'TryzShelf.lean', which tools/lay-shelf.mjs wrote): THE SAME DECLARATIONS UNDER THE SAME NAMES: 'import', 'namespace', 'open', 'def', 'theorem' AND NOTHING ELSE: no command of the shelf's: FOR A HAND-IN. Each laying: the table of numbers ('.._ren') and one theorem, a field a fact of the dump's own or the kernel's comparison; each contract: ONE APPLICATION.
-/
namespace Go.Proofs
open Go.Shelf
def Tryz.lays105_ren : Go.Shelf.Ren := ⟨fun | 105 => 72 | 212 => 96 | 99 => 97 | 165 => 98 | 166 => 99 | 170 => 100 | 169 => 101 | 263 => 115 | 264 => 116 | 206 => 117 | 240 => 118 | 241 => 119 | 276 => 120 | 277 => 121 | n => n, fun | 9 => 9 | 3 => 3 | 4 => 4 | 20 => 20 | 0 => 0 | 46 => 154 | 109 => 155 | 5 => 5 | 72 => 160 | 76 => 164 | 51 => 175 | 146 => 176 | 53 => 169 | 148 => 178 | 70 => 158 | 37 => 132 | 75 => 163 | 127 => 180 | 164 => 181 | 80 => 167 | n => n, fun | n => n⟩
theorem Tryz.lays105 : Go.Proofs.Lays.n105 Tryz.prog Tryz.lays105_ren := {
  mixed := by kernel_rfl
  f99 := Tryz.func97.trans (congrArg some (by kernel_rfl))
  f105 := Tryz.func72.trans (congrArg some (by kernel_rfl))
  f165 := Tryz.func98.trans (congrArg some (by kernel_rfl))
  f166 := Tryz.func99.trans (congrArg some (by kernel_rfl))
  f169 := Tryz.func101.trans (congrArg some (by kernel_rfl))
  f170 := Tryz.func100.trans (congrArg some (by kernel_rfl))
  f206 := Tryz.func117.trans (congrArg some (by kernel_rfl))
  f212 := Tryz.func96.trans (congrArg some (by kernel_rfl))
  f240 := Tryz.func118.trans (congrArg some (by kernel_rfl))
  f241 := Tryz.func119.trans (congrArg some (by kernel_rfl))
  f263 := Tryz.func115.trans (congrArg some (by kernel_rfl))
  f264 := Tryz.func116.trans (congrArg some (by kernel_rfl))
  f276 := Tryz.func120.trans (congrArg some (by kernel_rfl))
  f277 := Tryz.func121.trans (congrArg some (by kernel_rfl))
  t0 := Tryz.underlying0
  a0 := Tryz.isAgg0
  z0 := Tryz.sizeOf0
  v0 := Tryz.zeroValue0
  t3 := Tryz.underlying3
  a3 := Tryz.isAgg3
  z3 := Tryz.sizeOf3
  v3 := Tryz.zeroValue3
  t4 := Tryz.underlying4
  a4 := Tryz.isAgg4
  z4 := Tryz.sizeOf4
  v4 := Tryz.zeroValue4
  t5 := Tryz.underlying5
  a5 := Tryz.isAgg5
  z5 := Tryz.sizeOf5
  v5 := Tryz.zeroValue5
  t9 := Tryz.underlying9
  a9 := Tryz.isAgg9
  z9 := Tryz.sizeOf9
  v9 := Tryz.zeroValue9
  t20 := Tryz.underlying20
  a20 := Tryz.isAgg20
  z20 := Tryz.sizeOf20
  v20 := Tryz.zeroValue20
  t37 := Tryz.underlying132
  a37 := Tryz.isAgg132
  z37 := Tryz.sizeOf132
  v37 := Tryz.zeroValue132
  t46 := Tryz.underlying154
  a46 := Tryz.isAgg154
  z46 := Tryz.sizeOf154
  v46 := Tryz.zeroValue154
  t51 := Tryz.underlying175
  a51 := Tryz.isAgg175
  z51 := Tryz.sizeOf175
  v51 := Tryz.zeroValue175
  t53 := Tryz.underlying169
  a53 := Tryz.isAgg169
  z53 := Tryz.sizeOf169
  v53 := Tryz.zeroValue169
  t70 := Tryz.underlying158
  a70 := Tryz.isAgg158
  z70 := Tryz.sizeOf158
  v70 := Tryz.zeroValue158
  t72 := Tryz.underlying160
  a72 := Tryz.isAgg160
  z72 := Tryz.sizeOf160
  v72 := Tryz.zeroValue160
  t75 := Tryz.underlying163
  a75 := Tryz.isAgg163
  z75 := Tryz.sizeOf163
  v75 := Tryz.zeroValue163
  t76 := Tryz.underlying164
  a76 := Tryz.isAgg164
  z76 := Tryz.sizeOf164
  v76 := Tryz.zeroValue164
  t109 := Tryz.underlying155
  a109 := Tryz.isAgg155
  z109 := Tryz.sizeOf155
  v109 := Tryz.zeroValue155
  t127 := Tryz.underlying180
  a127 := Tryz.isAgg180
  z127 := Tryz.sizeOf180
  v127 := Tryz.zeroValue180
  t146 := Tryz.underlying176
  a146 := Tryz.isAgg176
  z146 := Tryz.sizeOf176
  v146 := Tryz.zeroValue176
  t148 := Tryz.underlying178
  a148 := Tryz.isAgg178
  z148 := Tryz.sizeOf178
  v148 := Tryz.zeroValue178
  t164 := Tryz.underlying181
  a164 := Tryz.isAgg181
  z164 := Tryz.sizeOf181
  v164 := Tryz.zeroValue181 }
theorem Tryz.Builder_Extra_105 : Builder.Extra Tryz.prog Tryz.lays105_ren := {
  sizeBuilder := by kernel_rfl
  liesBuilder := by kernel_rfl
  t5 := Tryz.underlying5
  a5 := Tryz.isAgg5
  z5 := Tryz.sizeOf5
  v5 := Tryz.zeroValue5
  infoByte := by kernel_rfl
  cellsByte := by kernel_rfl
  sizeByte := by kernel_rfl
  neB5 := by decide }
end Go.Proofs

/- strings.Repeat of one byte. -/
namespace Go.Proofs.YtnhegnneohpkaaaGreat
open Go.ChangeShapes Go.WideShapes Go.ChangeAt Go.RowKit

theorem repeat_one (c : UInt8) (n : Nat) : Lib.repeatL [c] n = List.replicate n c := by
  induction n with
  | zero => rfl
  | succ n ih => rw [Lib.repeatL, ih, List.replicate_succ]; rfl

theorem repeat_any (c : UInt8) (n : Nat) (w : World) (hn : n ≤ 1000) :
    Calls Tryz.prog 72 #[.string ⟨#[c]⟩, .int .i64 n] w fun e w' => e = .returned (.string ⟨(List.replicate n c).toArray⟩) ∧ Below w.heap.size w w' := by
  have h := Any.strings_Repeat Tryz.lays105 Tryz.Builder_Extra_105 ⟨#[c]⟩ n w (by omega) (by show 1 * n ≤ 140737488355328; omega)
  have e : Lib.repeatL (⟨#[c]⟩ : ByteArray).data.toList n = List.replicate n c := repeat_one c n
  rw [e] at h
  exact h
end Go.Proofs.YtnhegnneohpkaaaGreat
