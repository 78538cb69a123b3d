/-
  DERIVED: THE SHELF's CONTRACTS AT THIS DUMP, IN PLAIN WORDS (tools/lay-plain.mjs out of 'TrydShelf.lean', which tools/lay-shelf.mjs wrote): THE SAME DECLARATIONS UNDER THE SAME NAMES: 'import', 'namespace', 'open', 'def', 'theorem' AND NOTHING ELSE: no command of the shelf's: FOR A HAND-IN. Each laying: the table of numbers ('.._ren') and one theorem, a field a fact of the dump's own or the kernel's comparison; each contract: ONE APPLICATION.
-/
import Derived.Test.YtmfgifinmeonjaaDoorChecked
import Derived.WalkKit
import Derived.Ground.NamesProg
import Derived.Shelf.Strings.SlTrimAscii
namespace Go.Proofs
open Go.Shelf
def Tryd.lays161_ren : Go.Shelf.Ren := ⟨fun | 161 => 67 | 231 => 76 | 227 => 77 | 233 => 78 | 235 => 79 | 228 => 83 | 197 => 84 | 151 => 85 | 260 => 86 | 152 => 87 | 137 => 88 | 119 => 89 | 224 => 90 | 225 => 91 | 217 => 92 | 266 => 93 | n => n, fun | 9 => 9 | 4 => 4 | 3 => 3 | 5 => 5 | 117 => 115 | 116 => 114 | 0 => 0 | 124 => 118 | 105 => 123 | 21 => 21 | 119 => 127 | 46 => 67 | 139 => 130 | 138 => 129 | n => n, fun | 3 => 0 | 4 => 1 | n => n⟩
theorem Tryd.lays161 : Go.Proofs.Lays.n161 Tryd.prog Tryd.lays161_ren := {
  mixed := by kernel_rfl
  f119 := Tryd.func89.trans (congrArg some (by kernel_rfl))
  f137 := Tryd.func88.trans (congrArg some (by kernel_rfl))
  f151 := Tryd.func85.trans (congrArg some (by kernel_rfl))
  f152 := Tryd.func87.trans (congrArg some (by kernel_rfl))
  f161 := Tryd.func67.trans (congrArg some (by kernel_rfl))
  f197 := Tryd.func84.trans (congrArg some (by kernel_rfl))
  f217 := Tryd.func92.trans (congrArg some (by kernel_rfl))
  f224 := Tryd.func90.trans (congrArg some (by kernel_rfl))
  f225 := Tryd.func91.trans (congrArg some (by kernel_rfl))
  f227 := Tryd.func77.trans (congrArg some (by kernel_rfl))
  f228 := Tryd.func83.trans (congrArg some (by kernel_rfl))
  f231 := Tryd.func76.trans (congrArg some (by kernel_rfl))
  f233 := Tryd.func78.trans (congrArg some (by kernel_rfl))
  f235 := Tryd.func79.trans (congrArg some (by kernel_rfl))
  f260 := Tryd.func86.trans (congrArg some (by kernel_rfl))
  f266 := Tryd.func93.trans (congrArg some (by kernel_rfl))
  t0 := Tryd.underlying0
  a0 := Tryd.isAgg0
  z0 := Tryd.sizeOf0
  v0 := Tryd.zeroValue0
  t3 := Tryd.underlying3
  a3 := Tryd.isAgg3
  z3 := Tryd.sizeOf3
  v3 := Tryd.zeroValue3
  t4 := Tryd.underlying4
  a4 := Tryd.isAgg4
  z4 := Tryd.sizeOf4
  v4 := Tryd.zeroValue4
  t5 := Tryd.underlying5
  a5 := Tryd.isAgg5
  z5 := Tryd.sizeOf5
  v5 := Tryd.zeroValue5
  t9 := Tryd.underlying9
  a9 := Tryd.isAgg9
  z9 := Tryd.sizeOf9
  v9 := Tryd.zeroValue9
  t21 := Tryd.underlying21
  a21 := Tryd.isAgg21
  z21 := Tryd.sizeOf21
  v21 := Tryd.zeroValue21
  t46 := Tryd.underlying67
  a46 := Tryd.isAgg67
  z46 := Tryd.sizeOf67
  v46 := Tryd.zeroValue67
  t105 := Tryd.underlying123
  a105 := Tryd.isAgg123
  z105 := Tryd.sizeOf123
  v105 := Tryd.zeroValue123
  t116 := Tryd.underlying114
  a116 := Tryd.isAgg114
  z116 := Tryd.sizeOf114
  t117 := Tryd.underlying115
  a117 := Tryd.isAgg115
  z117 := Tryd.sizeOf115
  v117 := Tryd.zeroValue115
  t119 := Tryd.underlying127
  a119 := Tryd.isAgg127
  z119 := Tryd.sizeOf127
  t124 := Tryd.underlying118
  a124 := Tryd.isAgg118
  z124 := Tryd.sizeOf118
  v124 := Tryd.zeroValue118
  t138 := Tryd.underlying129
  a138 := Tryd.isAgg129
  z138 := Tryd.sizeOf129
  v138 := Tryd.zeroValue129
  t139 := Tryd.underlying130
  a139 := Tryd.isAgg130
  z139 := Tryd.sizeOf130
  v139 := Tryd.zeroValue130
  g3 := by kernel_rfl
  g4 := by kernel_rfl }
end Go.Proofs
