/-
  No cell of these rows narrows 'for every input' (looked for: loops, veiled, ifaces, maps, wideKeys, modest, calm, conditions, laid).
  DERIVED. THE GIVEN ROWS OF THIS SEAT. 11 by the template 'for every input the law returns true; each argument reads behind the call as it read before'; 0 by the template 'total and deterministic' (their statements: YtbdgifngldipcaaTotals.lean).
  GIVEN WITH THE SEED: the statements are not yours to turn. If you find one false, say at which input.
  Laid BY PROGRAM, IN A SANDBOX (cutbox-rows.mjs): the forced cells as the released guide's own fill.sh prints them over the translation a4246c52b3404847… (all of the seat's roots in one cut). By AI agents, Wed Nov 11 2026. No macro, syntax, notation, axiom, sorry.
-/
import Derived.Test.YtbdgifngldipcaaChecked
import GoSem.Claim
import GoSem.ClaimJoined
import GoSem.ClaimMapViews
import Derived.JoinedTies
import Derived.KernelRfl
namespace Go.Proofs.Ytbdgifngldipcaa
/- THE CELL 'sum', in the pinned program and in every row, IS THE sha256 OF THE DUMP (.gsa) THAT YtbdgifngldipcaaProg.lean LOADS. Nothing in Lean hashes anything: it is a label: what it is worth is what the hold of that sum in a sandbox is worth. -/
noncomputable def Try.pinned : Pinned := { name := "ytbdgifngldipcaa", sum := "a4246c52b34048473378fbe9a03cea4959ad4e80b49a0776d437a29033113c26", checked := Try.checked }
namespace Rows
def none {H : Type} : Left H := { results := [], args := [] }

/-- 'campanilelaw22.LoadMore': WHATEVER THE INPUT: true; the input reads as it did. -/
def loadMoreSpec : ChangeSpec := { name := "loadMore", fn := fun _ => fun
  | [d1, d2, d3] => { results := [.lit (.bool true)], args := [d1, d2, d3] }
  | _ => none }
def loadMoreRow : OpenClaim := { program := "ytbdgifngldipcaa", sum := "a4246c52b34048473378fbe9a03cea4959ad4e80b49a0776d437a29033113c26", func := "campanile/campanilelaw22.LoadMore", spec := "loadMore", unfollowed := true, recurses := true, apart := false }
def LoadMoreSaid : Prop := loadMoreRow.holds Try.pinned (OpenSpec.ofChange loadMoreSpec)

/-- ITS FALSE NEIGHBOUR: 'it returns false'. Refute it at one input. -/
def loadMoreWrong : ChangeSpec := { name := "loadMore", fn := fun _ => fun
  | [d1, d2, d3] => { results := [.lit (.bool false)], args := [d1, d2, d3] }
  | _ => none }
def LoadMoreWrongFalsely : Prop := loadMoreRow.holds Try.pinned (OpenSpec.ofChange loadMoreWrong)

/-- 'campanilelaw22.LoadOne': WHATEVER THE INPUT: true; the input reads as it did. -/
def loadOneSpec : ChangeSpec := { name := "loadOne", fn := fun _ => fun
  | [d1, d2, d3] => { results := [.lit (.bool true)], args := [d1, d2, d3] }
  | _ => none }
def loadOneRow : OpenClaim := { program := "ytbdgifngldipcaa", sum := "a4246c52b34048473378fbe9a03cea4959ad4e80b49a0776d437a29033113c26", func := "campanile/campanilelaw22.LoadOne", spec := "loadOne", unfollowed := true, recurses := true, apart := false }
def LoadOneSaid : Prop := loadOneRow.holds Try.pinned (OpenSpec.ofChange loadOneSpec)

/-- ITS FALSE NEIGHBOUR: 'it returns false'. Refute it at one input. -/
def loadOneWrong : ChangeSpec := { name := "loadOne", fn := fun _ => fun
  | [d1, d2, d3] => { results := [.lit (.bool false)], args := [d1, d2, d3] }
  | _ => none }
def LoadOneWrongFalsely : Prop := loadOneRow.holds Try.pinned (OpenSpec.ofChange loadOneWrong)

/-- 'campanilelaw22.LoadLeast': WHATEVER THE INPUT: true; the input reads as it did. -/
def loadLeastSpec : ChangeSpec := { name := "loadLeast", fn := fun _ => fun
  | [d1, d2, d3] => { results := [.lit (.bool true)], args := [d1, d2, d3] }
  | _ => none }
def loadLeastRow : OpenClaim := { program := "ytbdgifngldipcaa", sum := "a4246c52b34048473378fbe9a03cea4959ad4e80b49a0776d437a29033113c26", func := "campanile/campanilelaw22.LoadLeast", spec := "loadLeast", unfollowed := true, recurses := true, apart := false }
def LoadLeastSaid : Prop := loadLeastRow.holds Try.pinned (OpenSpec.ofChange loadLeastSpec)

/-- ITS FALSE NEIGHBOUR: 'it returns false'. Refute it at one input. -/
def loadLeastWrong : ChangeSpec := { name := "loadLeast", fn := fun _ => fun
  | [d1, d2, d3] => { results := [.lit (.bool false)], args := [d1, d2, d3] }
  | _ => none }
def LoadLeastWrongFalsely : Prop := loadLeastRow.holds Try.pinned (OpenSpec.ofChange loadLeastWrong)

/-- 'campanilelaw04.FrameKinds': WHATEVER THE INPUT: true; the input reads as it did. -/
def frameKindsSpec : ChangeSpec := { name := "frameKinds", fn := fun _ => fun
  | [d] => { results := [.lit (.bool true)], args := [d] }
  | _ => none }
def frameKindsRow : OpenClaim := { program := "ytbdgifngldipcaa", sum := "a4246c52b34048473378fbe9a03cea4959ad4e80b49a0776d437a29033113c26", func := "campanile/campanilelaw04.FrameKinds", spec := "frameKinds", inPlace := ["internal/abi.NoEscape"], apart := false }
def FrameKindsSaid : Prop := frameKindsRow.holds Try.pinned (OpenSpec.ofChange frameKindsSpec)

/-- ITS FALSE NEIGHBOUR: 'it returns false'. Refute it at one input. -/
def frameKindsWrong : ChangeSpec := { name := "frameKinds", fn := fun _ => fun
  | [d] => { results := [.lit (.bool false)], args := [d] }
  | _ => none }
def FrameKindsWrongFalsely : Prop := frameKindsRow.holds Try.pinned (OpenSpec.ofChange frameKindsWrong)

/-- 'campanilelaw05.PrioKinds': WHATEVER THE INPUT: true; the input reads as it did. -/
def prioKindsSpec : ChangeSpec := { name := "prioKinds", fn := fun _ => fun
  | [d1, d2, d3] => { results := [.lit (.bool true)], args := [d1, d2, d3] }
  | _ => none }
def prioKindsRow : OpenClaim := { program := "ytbdgifngldipcaa", sum := "a4246c52b34048473378fbe9a03cea4959ad4e80b49a0776d437a29033113c26", func := "campanile/campanilelaw05.PrioKinds", spec := "prioKinds", unfollowed := true, recurses := true, apart := false }
def PrioKindsSaid : Prop := prioKindsRow.holds Try.pinned (OpenSpec.ofChange prioKindsSpec)

/-- ITS FALSE NEIGHBOUR: 'it returns false'. Refute it at one input. -/
def prioKindsWrong : ChangeSpec := { name := "prioKinds", fn := fun _ => fun
  | [d1, d2, d3] => { results := [.lit (.bool false)], args := [d1, d2, d3] }
  | _ => none }
def PrioKindsWrongFalsely : Prop := prioKindsRow.holds Try.pinned (OpenSpec.ofChange prioKindsWrong)

/-- 'campanilelaw05.PrioLeft': WHATEVER THE INPUT: true; the input reads as it did. -/
def prioLeftSpec : ChangeSpec := { name := "prioLeft", fn := fun _ => fun
  | [d] => { results := [.lit (.bool true)], args := [d] }
  | _ => none }
def prioLeftRow : OpenClaim := { program := "ytbdgifngldipcaa", sum := "a4246c52b34048473378fbe9a03cea4959ad4e80b49a0776d437a29033113c26", func := "campanile/campanilelaw05.PrioLeft", spec := "prioLeft", unfollowed := true, recurses := true, apart := false }
def PrioLeftSaid : Prop := prioLeftRow.holds Try.pinned (OpenSpec.ofChange prioLeftSpec)

/-- ITS FALSE NEIGHBOUR: 'it returns false'. Refute it at one input. -/
def prioLeftWrong : ChangeSpec := { name := "prioLeft", fn := fun _ => fun
  | [d] => { results := [.lit (.bool false)], args := [d] }
  | _ => none }
def PrioLeftWrongFalsely : Prop := prioLeftRow.holds Try.pinned (OpenSpec.ofChange prioLeftWrong)

/-- 'campanilelaw05.PrioContests': WHATEVER THE INPUT: true; the input reads as it did. -/
def prioContestsSpec : ChangeSpec := { name := "prioContests", fn := fun _ => fun
  | [d1, d2, d3] => { results := [.lit (.bool true)], args := [d1, d2, d3] }
  | _ => none }
def prioContestsRow : OpenClaim := { program := "ytbdgifngldipcaa", sum := "a4246c52b34048473378fbe9a03cea4959ad4e80b49a0776d437a29033113c26", func := "campanile/campanilelaw05.PrioContests", spec := "prioContests", inPlace := ["internal/bytealg.abigen_runtime_cmpstring"], unfollowed := true, recurses := true, apart := false }
def PrioContestsSaid : Prop := prioContestsRow.holds Try.pinned (OpenSpec.ofChange prioContestsSpec)

/-- ITS FALSE NEIGHBOUR: 'it returns false'. Refute it at one input. -/
def prioContestsWrong : ChangeSpec := { name := "prioContests", fn := fun _ => fun
  | [d1, d2, d3] => { results := [.lit (.bool false)], args := [d1, d2, d3] }
  | _ => none }
def PrioContestsWrongFalsely : Prop := prioContestsRow.holds Try.pinned (OpenSpec.ofChange prioContestsWrong)

/-- 'campanilelaw05.PrioOrder': WHATEVER THE INPUT: true; the input reads as it did. -/
def prioOrderSpec : ChangeSpec := { name := "prioOrder", fn := fun _ => fun
  | [d] => { results := [.lit (.bool true)], args := [d] }
  | _ => none }
def prioOrderRow : OpenClaim := { program := "ytbdgifngldipcaa", sum := "a4246c52b34048473378fbe9a03cea4959ad4e80b49a0776d437a29033113c26", func := "campanile/campanilelaw05.PrioOrder", spec := "prioOrder", inPlace := ["internal/bytealg.abigen_runtime_cmpstring"], unfollowed := true, recurses := true, apart := false }
def PrioOrderSaid : Prop := prioOrderRow.holds Try.pinned (OpenSpec.ofChange prioOrderSpec)

/-- ITS FALSE NEIGHBOUR: 'it returns false'. Refute it at one input. -/
def prioOrderWrong : ChangeSpec := { name := "prioOrder", fn := fun _ => fun
  | [d] => { results := [.lit (.bool false)], args := [d] }
  | _ => none }
def PrioOrderWrongFalsely : Prop := prioOrderRow.holds Try.pinned (OpenSpec.ofChange prioOrderWrong)

/-- 'campanilelaw09.BoxOrder': WHATEVER THE INPUT: true; the input reads as it did. -/
def boxOrderSpec : ChangeSpec := { name := "boxOrder", fn := fun _ => fun
  | [d] => { results := [.lit (.bool true)], args := [d] }
  | _ => none }
def boxOrderRow : OpenClaim := { program := "ytbdgifngldipcaa", sum := "a4246c52b34048473378fbe9a03cea4959ad4e80b49a0776d437a29033113c26", func := "campanile/campanilelaw09.BoxOrder", spec := "boxOrder", unfollowed := true, recurses := true, apart := false }
def BoxOrderSaid : Prop := boxOrderRow.holds Try.pinned (OpenSpec.ofChange boxOrderSpec)

/-- ITS FALSE NEIGHBOUR: 'it returns false'. Refute it at one input. -/
def boxOrderWrong : ChangeSpec := { name := "boxOrder", fn := fun _ => fun
  | [d] => { results := [.lit (.bool false)], args := [d] }
  | _ => none }
def BoxOrderWrongFalsely : Prop := boxOrderRow.holds Try.pinned (OpenSpec.ofChange boxOrderWrong)

/-- 'campanilelaw09.BoxCalls': WHATEVER THE INPUT: true; the input reads as it did. -/
def boxCallsSpec : ChangeSpec := { name := "boxCalls", fn := fun _ => fun
  | [d1, d2, d3, d4] => { results := [.lit (.bool true)], args := [d1, d2, d3, d4] }
  | _ => none }
def boxCallsRow : OpenClaim := { program := "ytbdgifngldipcaa", sum := "a4246c52b34048473378fbe9a03cea4959ad4e80b49a0776d437a29033113c26", func := "campanile/campanilelaw09.BoxCalls", spec := "boxCalls", unfollowed := true, recurses := true, apart := false }
def BoxCallsSaid : Prop := boxCallsRow.holds Try.pinned (OpenSpec.ofChange boxCallsSpec)

/-- ITS FALSE NEIGHBOUR: 'it returns false'. Refute it at one input. -/
def boxCallsWrong : ChangeSpec := { name := "boxCalls", fn := fun _ => fun
  | [d1, d2, d3, d4] => { results := [.lit (.bool false)], args := [d1, d2, d3, d4] }
  | _ => none }
def BoxCallsWrongFalsely : Prop := boxCallsRow.holds Try.pinned (OpenSpec.ofChange boxCallsWrong)

/-- 'campanilelaw09.BoxDrops': WHATEVER THE INPUT: true; the input reads as it did. -/
def boxDropsSpec : ChangeSpec := { name := "boxDrops", fn := fun _ => fun
  | [d1, d2] => { results := [.lit (.bool true)], args := [d1, d2] }
  | _ => none }
def boxDropsRow : OpenClaim := { program := "ytbdgifngldipcaa", sum := "a4246c52b34048473378fbe9a03cea4959ad4e80b49a0776d437a29033113c26", func := "campanile/campanilelaw09.BoxDrops", spec := "boxDrops", unfollowed := true, recurses := true, apart := false }
def BoxDropsSaid : Prop := boxDropsRow.holds Try.pinned (OpenSpec.ofChange boxDropsSpec)

/-- ITS FALSE NEIGHBOUR: 'it returns false'. Refute it at one input. -/
def boxDropsWrong : ChangeSpec := { name := "boxDrops", fn := fun _ => fun
  | [d1, d2] => { results := [.lit (.bool false)], args := [d1, d2] }
  | _ => none }
def BoxDropsWrongFalsely : Prop := boxDropsRow.holds Try.pinned (OpenSpec.ofChange boxDropsWrong)

/- THE SECOND FORM. 'bulk': how many values and letters a reading holds, each counted each time it is reached (what is shared counts as often as it is met; a slice's spare places count too). A statement '..UptoSaid' is the law's where the arguments, and the package variables that the reading takes, are together of bulk at most 1048576: NARROWER than '..Said'. Prove '..Said' where nothing that the law and all that it calls make is longer than what came in: it says more and counts as full. Else prove '..UptoSaid'. A law counts once. -/
mutual
def uptoBulk {H : Type} : DataW H → Nat
  | .lit (.string bytes) => bytes.length + 1
  | .lit _ => 1
  | .nil => 1
  | .ptr d => uptoBulk d + 1
  | .slice elems spare => uptoBulkAll elems + uptoBulkAll spare + 1
  | .agg parts => uptoBulkAll parts + 1
  | .iface _ d => uptoBulk d + 1
  | .map entries => uptoBulkEntries entries + 1
  | .held _ => 1
def uptoBulkAll {H : Type} : List (DataW H) → Nat
  | [] => 0
  | d :: r => uptoBulk d + uptoBulkAll r
def uptoBulkEntries {H : Type} : List (Lit × DataW H) → Nat
  | [] => 0
  | x :: r => uptoBulkEntry x + uptoBulkEntries r
def uptoBulkEntry {H : Type} : Lit × DataW H → Nat
  | (.string bytes, d) => bytes.length + uptoBulk d + 1
  | (_, d) => uptoBulk d + 1
 end
def uptoSmall : (H : Type) → List (DataW H) → Bool := fun _ ds => decide (uptoBulkAll ds ≤ 1048576)
def OpenSpec.upto (s : _root_.Go.ChangeSpec) : _root_.Go.OpenSpec := { _root_.Go.OpenSpec.ofChange s with cond := some uptoSmall }

/-- 'campanilelaw22.LoadMore', WHERE WHAT IT READS IS OF BULK AT MOST 1048576: true; the input reads as it did. -/
def loadMoreUptoRow : OpenClaim := { program := "ytbdgifngldipcaa", sum := "a4246c52b34048473378fbe9a03cea4959ad4e80b49a0776d437a29033113c26", func := "campanile/campanilelaw22.LoadMore", spec := "loadMore", unfollowed := true, recurses := true, apart := false, narrowed := true }
def LoadMoreUptoSaid : Prop := loadMoreUptoRow.holds Try.pinned (OpenSpec.upto loadMoreSpec)

/-- 'campanilelaw22.LoadOne', WHERE WHAT IT READS IS OF BULK AT MOST 1048576: true; the input reads as it did. -/
def loadOneUptoRow : OpenClaim := { program := "ytbdgifngldipcaa", sum := "a4246c52b34048473378fbe9a03cea4959ad4e80b49a0776d437a29033113c26", func := "campanile/campanilelaw22.LoadOne", spec := "loadOne", unfollowed := true, recurses := true, apart := false, narrowed := true }
def LoadOneUptoSaid : Prop := loadOneUptoRow.holds Try.pinned (OpenSpec.upto loadOneSpec)

/-- 'campanilelaw22.LoadLeast', WHERE WHAT IT READS IS OF BULK AT MOST 1048576: true; the input reads as it did. -/
def loadLeastUptoRow : OpenClaim := { program := "ytbdgifngldipcaa", sum := "a4246c52b34048473378fbe9a03cea4959ad4e80b49a0776d437a29033113c26", func := "campanile/campanilelaw22.LoadLeast", spec := "loadLeast", unfollowed := true, recurses := true, apart := false, narrowed := true }
def LoadLeastUptoSaid : Prop := loadLeastUptoRow.holds Try.pinned (OpenSpec.upto loadLeastSpec)

/-- 'campanilelaw04.FrameKinds', WHERE WHAT IT READS IS OF BULK AT MOST 1048576: true; the input reads as it did. -/
def frameKindsUptoRow : OpenClaim := { program := "ytbdgifngldipcaa", sum := "a4246c52b34048473378fbe9a03cea4959ad4e80b49a0776d437a29033113c26", func := "campanile/campanilelaw04.FrameKinds", spec := "frameKinds", inPlace := ["internal/abi.NoEscape"], apart := false, narrowed := true }
def FrameKindsUptoSaid : Prop := frameKindsUptoRow.holds Try.pinned (OpenSpec.upto frameKindsSpec)

/-- 'campanilelaw05.PrioKinds', WHERE WHAT IT READS IS OF BULK AT MOST 1048576: true; the input reads as it did. -/
def prioKindsUptoRow : OpenClaim := { program := "ytbdgifngldipcaa", sum := "a4246c52b34048473378fbe9a03cea4959ad4e80b49a0776d437a29033113c26", func := "campanile/campanilelaw05.PrioKinds", spec := "prioKinds", unfollowed := true, recurses := true, apart := false, narrowed := true }
def PrioKindsUptoSaid : Prop := prioKindsUptoRow.holds Try.pinned (OpenSpec.upto prioKindsSpec)

/-- 'campanilelaw05.PrioLeft', WHERE WHAT IT READS IS OF BULK AT MOST 1048576: true; the input reads as it did. -/
def prioLeftUptoRow : OpenClaim := { program := "ytbdgifngldipcaa", sum := "a4246c52b34048473378fbe9a03cea4959ad4e80b49a0776d437a29033113c26", func := "campanile/campanilelaw05.PrioLeft", spec := "prioLeft", unfollowed := true, recurses := true, apart := false, narrowed := true }
def PrioLeftUptoSaid : Prop := prioLeftUptoRow.holds Try.pinned (OpenSpec.upto prioLeftSpec)

/-- 'campanilelaw05.PrioContests', WHERE WHAT IT READS IS OF BULK AT MOST 1048576: true; the input reads as it did. -/
def prioContestsUptoRow : OpenClaim := { program := "ytbdgifngldipcaa", sum := "a4246c52b34048473378fbe9a03cea4959ad4e80b49a0776d437a29033113c26", func := "campanile/campanilelaw05.PrioContests", spec := "prioContests", inPlace := ["internal/bytealg.abigen_runtime_cmpstring"], unfollowed := true, recurses := true, apart := false, narrowed := true }
def PrioContestsUptoSaid : Prop := prioContestsUptoRow.holds Try.pinned (OpenSpec.upto prioContestsSpec)

/-- 'campanilelaw05.PrioOrder', WHERE WHAT IT READS IS OF BULK AT MOST 1048576: true; the input reads as it did. -/
def prioOrderUptoRow : OpenClaim := { program := "ytbdgifngldipcaa", sum := "a4246c52b34048473378fbe9a03cea4959ad4e80b49a0776d437a29033113c26", func := "campanile/campanilelaw05.PrioOrder", spec := "prioOrder", inPlace := ["internal/bytealg.abigen_runtime_cmpstring"], unfollowed := true, recurses := true, apart := false, narrowed := true }
def PrioOrderUptoSaid : Prop := prioOrderUptoRow.holds Try.pinned (OpenSpec.upto prioOrderSpec)

/-- 'campanilelaw09.BoxOrder', WHERE WHAT IT READS IS OF BULK AT MOST 1048576: true; the input reads as it did. -/
def boxOrderUptoRow : OpenClaim := { program := "ytbdgifngldipcaa", sum := "a4246c52b34048473378fbe9a03cea4959ad4e80b49a0776d437a29033113c26", func := "campanile/campanilelaw09.BoxOrder", spec := "boxOrder", unfollowed := true, recurses := true, apart := false, narrowed := true }
def BoxOrderUptoSaid : Prop := boxOrderUptoRow.holds Try.pinned (OpenSpec.upto boxOrderSpec)

/-- 'campanilelaw09.BoxCalls', WHERE WHAT IT READS IS OF BULK AT MOST 1048576: true; the input reads as it did. -/
def boxCallsUptoRow : OpenClaim := { program := "ytbdgifngldipcaa", sum := "a4246c52b34048473378fbe9a03cea4959ad4e80b49a0776d437a29033113c26", func := "campanile/campanilelaw09.BoxCalls", spec := "boxCalls", unfollowed := true, recurses := true, apart := false, narrowed := true }
def BoxCallsUptoSaid : Prop := boxCallsUptoRow.holds Try.pinned (OpenSpec.upto boxCallsSpec)

/-- 'campanilelaw09.BoxDrops', WHERE WHAT IT READS IS OF BULK AT MOST 1048576: true; the input reads as it did. -/
def boxDropsUptoRow : OpenClaim := { program := "ytbdgifngldipcaa", sum := "a4246c52b34048473378fbe9a03cea4959ad4e80b49a0776d437a29033113c26", func := "campanile/campanilelaw09.BoxDrops", spec := "boxDrops", unfollowed := true, recurses := true, apart := false, narrowed := true }
def BoxDropsUptoSaid : Prop := boxDropsUptoRow.holds Try.pinned (OpenSpec.upto boxDropsSpec)

end Rows
end Go.Proofs.Ytbdgifngldipcaa
