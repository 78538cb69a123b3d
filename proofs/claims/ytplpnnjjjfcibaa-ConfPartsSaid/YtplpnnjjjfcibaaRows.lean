/-
  No cell of these rows narrows 'for every input' (looked for: loops, veiled, ifaces, maps, wideKeys, modest, calm, conditions, laid).
  DERIVED. THE GIVEN ROWS OF THIS SEAT. 7 by the template 'for every input the law returns true; each argument reads behind the call as it read before'; 0 by the template 'total and deterministic' (their statements: YtplpnnjjjfcibaaTotals.lean).
  GIVEN WITH THE SEED: the statements are not yours to turn. If you find one false, say at which input.
  Laid BY PROGRAM, IN A SANDBOX (cutbox-rows.mjs): the forced cells as the released guide's own fill.sh prints them over the translation 10fbe68086cabb22… (all of the seat's roots in one cut). By AI agents, Wed Nov 11 2026. No macro, syntax, notation, axiom, sorry.
-/
import Derived.Test.YtplpnnjjjfcibaaChecked
import GoSem.Claim
import GoSem.ClaimJoined
import GoSem.ClaimMapViews
import Derived.JoinedTies
import Derived.KernelRfl
namespace Go.Proofs.Ytplpnnjjjfcibaa
/- THE CELL 'sum', in the pinned program and in every row, IS THE sha256 OF THE DUMP (.gsa) THAT YtplpnnjjjfcibaaProg.lean LOADS. Nothing in Lean hashes anything: it is a label: what it is worth is what the hold of that sum in a sandbox is worth. -/
noncomputable def Try.pinned : Pinned := { name := "ytplpnnjjjfcibaa", sum := "10fbe68086cabb224dcc7246dd5d0365d62b9261c9f1f6150034d2c6a507e889", checked := Try.checked }
namespace Rows
def none {H : Type} : Left H := { results := [], args := [] }

/-- 'campanilelaw15.PduOne': WHATEVER THE INPUT: true; the input reads as it did. -/
def pduOneSpec : ChangeSpec := { name := "pduOne", fn := fun _ => fun
  | [d1, d2, d3, d4] => { results := [.lit (.bool true)], args := [d1, d2, d3, d4] }
  | _ => none }
def pduOneRow : OpenClaim := { program := "ytplpnnjjjfcibaa", sum := "10fbe68086cabb224dcc7246dd5d0365d62b9261c9f1f6150034d2c6a507e889", func := "campanile/campanilelaw15.PduOne", spec := "pduOne", inPlace := ["internal/abi.NoEscape", "internal/bytealg.MakeNoZero"], unfollowed := true, recurses := true, apart := false }
def PduOneSaid : Prop := pduOneRow.holds Try.pinned (OpenSpec.ofChange pduOneSpec)

/-- ITS FALSE NEIGHBOUR: 'it returns false'. Refute it at one input. -/
def pduOneWrong : ChangeSpec := { name := "pduOne", fn := fun _ => fun
  | [d1, d2, d3, d4] => { results := [.lit (.bool false)], args := [d1, d2, d3, d4] }
  | _ => none }
def PduOneWrongFalsely : Prop := pduOneRow.holds Try.pinned (OpenSpec.ofChange pduOneWrong)

/-- 'campanilelaw15.PduBack': WHATEVER THE INPUT: true; the input reads as it did. -/
def pduBackSpec : ChangeSpec := { name := "pduBack", fn := fun _ => fun
  | [d1, d2, d3, d4] => { results := [.lit (.bool true)], args := [d1, d2, d3, d4] }
  | _ => none }
def pduBackRow : OpenClaim := { program := "ytplpnnjjjfcibaa", sum := "10fbe68086cabb224dcc7246dd5d0365d62b9261c9f1f6150034d2c6a507e889", func := "campanile/campanilelaw15.PduBack", spec := "pduBack", inPlace := ["internal/abi.NoEscape", "internal/bytealg.MakeNoZero"], unfollowed := true, recurses := true, apart := false }
def PduBackSaid : Prop := pduBackRow.holds Try.pinned (OpenSpec.ofChange pduBackSpec)

/-- ITS FALSE NEIGHBOUR: 'it returns false'. Refute it at one input. -/
def pduBackWrong : ChangeSpec := { name := "pduBack", fn := fun _ => fun
  | [d1, d2, d3, d4] => { results := [.lit (.bool false)], args := [d1, d2, d3, d4] }
  | _ => none }
def PduBackWrongFalsely : Prop := pduBackRow.holds Try.pinned (OpenSpec.ofChange pduBackWrong)

/-- 'campanilelaw15.PduPacks': WHATEVER THE INPUT: true; the input reads as it did. -/
def pduPacksSpec : ChangeSpec := { name := "pduPacks", fn := fun _ => fun
  | [d1, d2, d3, d4, d5] => { results := [.lit (.bool true)], args := [d1, d2, d3, d4, d5] }
  | _ => none }
def pduPacksRow : OpenClaim := { program := "ytplpnnjjjfcibaa", sum := "10fbe68086cabb224dcc7246dd5d0365d62b9261c9f1f6150034d2c6a507e889", func := "campanile/campanilelaw15.PduPacks", spec := "pduPacks", inPlace := ["internal/abi.NoEscape", "internal/bytealg.MakeNoZero"], unfollowed := true, recurses := true, apart := false }
def PduPacksSaid : Prop := pduPacksRow.holds Try.pinned (OpenSpec.ofChange pduPacksSpec)

/-- ITS FALSE NEIGHBOUR: 'it returns false'. Refute it at one input. -/
def pduPacksWrong : ChangeSpec := { name := "pduPacks", fn := fun _ => fun
  | [d1, d2, d3, d4, d5] => { results := [.lit (.bool false)], args := [d1, d2, d3, d4, d5] }
  | _ => none }
def PduPacksWrongFalsely : Prop := pduPacksRow.holds Try.pinned (OpenSpec.ofChange pduPacksWrong)

/-- 'campanilelaw15.PduAgain': WHATEVER THE INPUT: true; the input reads as it did. -/
def pduAgainSpec : ChangeSpec := { name := "pduAgain", fn := fun _ => fun
  | [d1, d2] => { results := [.lit (.bool true)], args := [d1, d2] }
  | _ => none }
def pduAgainRow : OpenClaim := { program := "ytplpnnjjjfcibaa", sum := "10fbe68086cabb224dcc7246dd5d0365d62b9261c9f1f6150034d2c6a507e889", func := "campanile/campanilelaw15.PduAgain", spec := "pduAgain", inPlace := ["internal/abi.NoEscape", "internal/bytealg.MakeNoZero"], unfollowed := true, recurses := true, apart := false }
def PduAgainSaid : Prop := pduAgainRow.holds Try.pinned (OpenSpec.ofChange pduAgainSpec)

/-- ITS FALSE NEIGHBOUR: 'it returns false'. Refute it at one input. -/
def pduAgainWrong : ChangeSpec := { name := "pduAgain", fn := fun _ => fun
  | [d1, d2] => { results := [.lit (.bool false)], args := [d1, d2] }
  | _ => none }
def PduAgainWrongFalsely : Prop := pduAgainRow.holds Try.pinned (OpenSpec.ofChange pduAgainWrong)

/-- 'campanilelaw21.ConfWhy': WHATEVER THE INPUT: true; the input reads as it did. -/
def confWhySpec : ChangeSpec := { name := "confWhy", fn := fun _ => fun
  | [d] => { results := [.lit (.bool true)], args := [d] }
  | _ => none }
def confWhyRow : OpenClaim := { program := "ytplpnnjjjfcibaa", sum := "10fbe68086cabb224dcc7246dd5d0365d62b9261c9f1f6150034d2c6a507e889", func := "campanile/campanilelaw21.ConfWhy", spec := "confWhy", unfollowed := true, recurses := true, apart := false }
def ConfWhySaid : Prop := confWhyRow.holds Try.pinned (OpenSpec.ofChange confWhySpec)

/-- ITS FALSE NEIGHBOUR: 'it returns false'. Refute it at one input. -/
def confWhyWrong : ChangeSpec := { name := "confWhy", fn := fun _ => fun
  | [d] => { results := [.lit (.bool false)], args := [d] }
  | _ => none }
def ConfWhyWrongFalsely : Prop := confWhyRow.holds Try.pinned (OpenSpec.ofChange confWhyWrong)

/-- 'campanilelaw21.ConfOnce': WHATEVER THE INPUT: true; the input reads as it did. -/
def confOnceSpec : ChangeSpec := { name := "confOnce", fn := fun _ => fun
  | [d] => { results := [.lit (.bool true)], args := [d] }
  | _ => none }
def confOnceRow : OpenClaim := { program := "ytplpnnjjjfcibaa", sum := "10fbe68086cabb224dcc7246dd5d0365d62b9261c9f1f6150034d2c6a507e889", func := "campanile/campanilelaw21.ConfOnce", spec := "confOnce", unfollowed := true, recurses := true, apart := false }
def ConfOnceSaid : Prop := confOnceRow.holds Try.pinned (OpenSpec.ofChange confOnceSpec)

/-- ITS FALSE NEIGHBOUR: 'it returns false'. Refute it at one input. -/
def confOnceWrong : ChangeSpec := { name := "confOnce", fn := fun _ => fun
  | [d] => { results := [.lit (.bool false)], args := [d] }
  | _ => none }
def ConfOnceWrongFalsely : Prop := confOnceRow.holds Try.pinned (OpenSpec.ofChange confOnceWrong)

/-- 'campanilelaw21.ConfParts': WHATEVER THE INPUT: true; the input reads as it did. -/
def confPartsSpec : ChangeSpec := { name := "confParts", fn := fun _ => fun
  | [d1, d2, d3, d4] => { results := [.lit (.bool true)], args := [d1, d2, d3, d4] }
  | _ => none }
def confPartsRow : OpenClaim := { program := "ytplpnnjjjfcibaa", sum := "10fbe68086cabb224dcc7246dd5d0365d62b9261c9f1f6150034d2c6a507e889", func := "campanile/campanilelaw21.ConfParts", spec := "confParts", unfollowed := true, recurses := true, apart := false }
def ConfPartsSaid : Prop := confPartsRow.holds Try.pinned (OpenSpec.ofChange confPartsSpec)

/-- ITS FALSE NEIGHBOUR: 'it returns false'. Refute it at one input. -/
def confPartsWrong : ChangeSpec := { name := "confParts", fn := fun _ => fun
  | [d1, d2, d3, d4] => { results := [.lit (.bool false)], args := [d1, d2, d3, d4] }
  | _ => none }
def ConfPartsWrongFalsely : Prop := confPartsRow.holds Try.pinned (OpenSpec.ofChange confPartsWrong)

/- THE SECOND FORM. 'bulk': how many values and letters a reading holds, each counted each time it is reached (what is shared counts as often as it is met; a slice's spare places count too). A statement '..UptoSaid' is the law's where the arguments, and the package variables that the reading takes, are together of bulk at most 1048576: NARROWER than '..Said'. Prove '..Said' where nothing that the law and all that it calls make is longer than what came in: it says more and counts as full. Else prove '..UptoSaid'. A law counts once. -/
mutual
def uptoBulk {H : Type} : DataW H → Nat
  | .lit (.string bytes) => bytes.length + 1
  | .lit _ => 1
  | .nil => 1
  | .ptr d => uptoBulk d + 1
  | .slice elems spare => uptoBulkAll elems + uptoBulkAll spare + 1
  | .agg parts => uptoBulkAll parts + 1
  | .iface _ d => uptoBulk d + 1
  | .map entries => uptoBulkEntries entries + 1
  | .held _ => 1
def uptoBulkAll {H : Type} : List (DataW H) → Nat
  | [] => 0
  | d :: r => uptoBulk d + uptoBulkAll r
def uptoBulkEntries {H : Type} : List (Lit × DataW H) → Nat
  | [] => 0
  | x :: r => uptoBulkEntry x + uptoBulkEntries r
def uptoBulkEntry {H : Type} : Lit × DataW H → Nat
  | (.string bytes, d) => bytes.length + uptoBulk d + 1
  | (_, d) => uptoBulk d + 1
 end
def uptoSmall : (H : Type) → List (DataW H) → Bool := fun _ ds => decide (uptoBulkAll ds ≤ 1048576)
def OpenSpec.upto (s : _root_.Go.ChangeSpec) : _root_.Go.OpenSpec := { _root_.Go.OpenSpec.ofChange s with cond := some uptoSmall }

/-- 'campanilelaw15.PduOne', WHERE WHAT IT READS IS OF BULK AT MOST 1048576: true; the input reads as it did. -/
def pduOneUptoRow : OpenClaim := { program := "ytplpnnjjjfcibaa", sum := "10fbe68086cabb224dcc7246dd5d0365d62b9261c9f1f6150034d2c6a507e889", func := "campanile/campanilelaw15.PduOne", spec := "pduOne", inPlace := ["internal/abi.NoEscape", "internal/bytealg.MakeNoZero"], unfollowed := true, recurses := true, apart := false, narrowed := true }
def PduOneUptoSaid : Prop := pduOneUptoRow.holds Try.pinned (OpenSpec.upto pduOneSpec)

/-- 'campanilelaw15.PduBack', WHERE WHAT IT READS IS OF BULK AT MOST 1048576: true; the input reads as it did. -/
def pduBackUptoRow : OpenClaim := { program := "ytplpnnjjjfcibaa", sum := "10fbe68086cabb224dcc7246dd5d0365d62b9261c9f1f6150034d2c6a507e889", func := "campanile/campanilelaw15.PduBack", spec := "pduBack", inPlace := ["internal/abi.NoEscape", "internal/bytealg.MakeNoZero"], unfollowed := true, recurses := true, apart := false, narrowed := true }
def PduBackUptoSaid : Prop := pduBackUptoRow.holds Try.pinned (OpenSpec.upto pduBackSpec)

/-- 'campanilelaw15.PduPacks', WHERE WHAT IT READS IS OF BULK AT MOST 1048576: true; the input reads as it did. -/
def pduPacksUptoRow : OpenClaim := { program := "ytplpnnjjjfcibaa", sum := "10fbe68086cabb224dcc7246dd5d0365d62b9261c9f1f6150034d2c6a507e889", func := "campanile/campanilelaw15.PduPacks", spec := "pduPacks", inPlace := ["internal/abi.NoEscape", "internal/bytealg.MakeNoZero"], unfollowed := true, recurses := true, apart := false, narrowed := true }
def PduPacksUptoSaid : Prop := pduPacksUptoRow.holds Try.pinned (OpenSpec.upto pduPacksSpec)

/-- 'campanilelaw15.PduAgain', WHERE WHAT IT READS IS OF BULK AT MOST 1048576: true; the input reads as it did. -/
def pduAgainUptoRow : OpenClaim := { program := "ytplpnnjjjfcibaa", sum := "10fbe68086cabb224dcc7246dd5d0365d62b9261c9f1f6150034d2c6a507e889", func := "campanile/campanilelaw15.PduAgain", spec := "pduAgain", inPlace := ["internal/abi.NoEscape", "internal/bytealg.MakeNoZero"], unfollowed := true, recurses := true, apart := false, narrowed := true }
def PduAgainUptoSaid : Prop := pduAgainUptoRow.holds Try.pinned (OpenSpec.upto pduAgainSpec)

/-- 'campanilelaw21.ConfWhy', WHERE WHAT IT READS IS OF BULK AT MOST 1048576: true; the input reads as it did. -/
def confWhyUptoRow : OpenClaim := { program := "ytplpnnjjjfcibaa", sum := "10fbe68086cabb224dcc7246dd5d0365d62b9261c9f1f6150034d2c6a507e889", func := "campanile/campanilelaw21.ConfWhy", spec := "confWhy", unfollowed := true, recurses := true, apart := false, narrowed := true }
def ConfWhyUptoSaid : Prop := confWhyUptoRow.holds Try.pinned (OpenSpec.upto confWhySpec)

/-- 'campanilelaw21.ConfOnce', WHERE WHAT IT READS IS OF BULK AT MOST 1048576: true; the input reads as it did. -/
def confOnceUptoRow : OpenClaim := { program := "ytplpnnjjjfcibaa", sum := "10fbe68086cabb224dcc7246dd5d0365d62b9261c9f1f6150034d2c6a507e889", func := "campanile/campanilelaw21.ConfOnce", spec := "confOnce", unfollowed := true, recurses := true, apart := false, narrowed := true }
def ConfOnceUptoSaid : Prop := confOnceUptoRow.holds Try.pinned (OpenSpec.upto confOnceSpec)

/-- 'campanilelaw21.ConfParts', WHERE WHAT IT READS IS OF BULK AT MOST 1048576: true; the input reads as it did. -/
def confPartsUptoRow : OpenClaim := { program := "ytplpnnjjjfcibaa", sum := "10fbe68086cabb224dcc7246dd5d0365d62b9261c9f1f6150034d2c6a507e889", func := "campanile/campanilelaw21.ConfParts", spec := "confParts", unfollowed := true, recurses := true, apart := false, narrowed := true }
def ConfPartsUptoSaid : Prop := confPartsUptoRow.holds Try.pinned (OpenSpec.upto confPartsSpec)

end Rows
end Go.Proofs.Ytplpnnjjjfcibaa
