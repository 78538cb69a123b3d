import Derived.Test.YtkmddjbialpppaaGreatDoorRows
import Derived.ProofKit
import Derived.JoinedOf
import Derived.KernelRfl
namespace Go.Proofs.YtkmddjbialpppaaGreatDoor
def nodeBeginsJ0 (P : Program) (f : FuncId) (fn : Func) (s : ChangeSpec) (c : OpenClaim) : Bool := c.wf (OpenSpec.ofChange s)
set_option maxRecDepth 100000 in
theorem nodeBeginsH0 : nodeBeginsJ0 Tryz.pinned.checked.prog 3 Tryz.f3 Rows.nodeBeginsSpec Rows.nodeBeginsRow = true := by kernel_rfl
def nodeBeginsJ1 (P : Program) (f : FuncId) (fn : Func) (s : ChangeSpec) (c : OpenClaim) : Bool := laidOutB P
set_option maxRecDepth 100000 in
theorem nodeBeginsH1 : nodeBeginsJ1 Tryz.pinned.checked.prog 3 Tryz.f3 Rows.nodeBeginsSpec Rows.nodeBeginsRow = true := by kernel_rfl
def nodeBeginsJ2 (P : Program) (f : FuncId) (fn : Func) (s : ChangeSpec) (c : OpenClaim) : Bool := mapsRowed P
set_option maxRecDepth 100000 in
theorem nodeBeginsH2 : nodeBeginsJ2 Tryz.pinned.checked.prog 3 Tryz.f3 Rows.nodeBeginsSpec Rows.nodeBeginsRow = true := by kernel_rfl
def nodeBeginsJ3 (P : Program) (f : FuncId) (fn : Func) (s : ChangeSpec) (c : OpenClaim) : Bool := fn.params.all (P.readableRec ·)
set_option maxRecDepth 100000 in
theorem nodeBeginsH3 : nodeBeginsJ3 Tryz.pinned.checked.prog 3 Tryz.f3 Rows.nodeBeginsSpec Rows.nodeBeginsRow = true := by kernel_rfl
def nodeBeginsJ4 (P : Program) (f : FuncId) (fn : Func) (s : ChangeSpec) (c : OpenClaim) : Bool := namedTie P c.named s.vars
set_option maxRecDepth 100000 in
theorem nodeBeginsH4 : nodeBeginsJ4 Tryz.pinned.checked.prog 3 Tryz.f3 Rows.nodeBeginsSpec Rows.nodeBeginsRow = true := by kernel_rfl
def nodeBeginsJ5 (P : Program) (f : FuncId) (fn : Func) (s : ChangeSpec) (c : OpenClaim) : Bool := (c.stops == [])
set_option maxRecDepth 100000 in
theorem nodeBeginsH5 : nodeBeginsJ5 Tryz.pinned.checked.prog 3 Tryz.f3 Rows.nodeBeginsSpec Rows.nodeBeginsRow = true := by kernel_rfl
def nodeBeginsJ6 (P : Program) (f : FuncId) (fn : Func) (s : ChangeSpec) (c : OpenClaim) : Bool := (P.stops == [])
set_option maxRecDepth 100000 in
theorem nodeBeginsH6 : nodeBeginsJ6 Tryz.pinned.checked.prog 3 Tryz.f3 Rows.nodeBeginsSpec Rows.nodeBeginsRow = true := by kernel_rfl
def nodeBeginsJ7 (P : Program) (f : FuncId) (fn : Func) (s : ChangeSpec) (c : OpenClaim) : Bool := (c.knobs == [])
set_option maxRecDepth 100000 in
theorem nodeBeginsH7 : nodeBeginsJ7 Tryz.pinned.checked.prog 3 Tryz.f3 Rows.nodeBeginsSpec Rows.nodeBeginsRow = true := by kernel_rfl
def nodeBeginsJ8 (P : Program) (f : FuncId) (fn : Func) (s : ChangeSpec) (c : OpenClaim) : Bool := (P.stopKnobs == [])
set_option maxRecDepth 100000 in
theorem nodeBeginsH8 : nodeBeginsJ8 Tryz.pinned.checked.prog 3 Tryz.f3 Rows.nodeBeginsSpec Rows.nodeBeginsRow = true := by kernel_rfl
def nodeBeginsJ9 (P : Program) (f : FuncId) (fn : Func) (s : ChangeSpec) (c : OpenClaim) : Bool := (c.inPlace == P.inPlace f)
set_option maxRecDepth 100000 in
theorem nodeBeginsH9 : nodeBeginsJ9 Tryz.pinned.checked.prog 3 Tryz.f3 Rows.nodeBeginsSpec Rows.nodeBeginsRow = true := by kernel_rfl
def nodeBeginsJ10 (P : Program) (f : FuncId) (fn : Func) (s : ChangeSpec) (c : OpenClaim) : Bool := (c.unfollowed == P.unfollowed f)
set_option maxRecDepth 100000 in
theorem nodeBeginsH10 : nodeBeginsJ10 Tryz.pinned.checked.prog 3 Tryz.f3 Rows.nodeBeginsSpec Rows.nodeBeginsRow = true := by kernel_rfl
def nodeBeginsJ11 (P : Program) (f : FuncId) (fn : Func) (s : ChangeSpec) (c : OpenClaim) : Bool := (c.recurses == P.recurses f)
set_option maxRecDepth 100000 in
theorem nodeBeginsH11 : nodeBeginsJ11 Tryz.pinned.checked.prog 3 Tryz.f3 Rows.nodeBeginsSpec Rows.nodeBeginsRow = true := by kernel_rfl
def nodeBeginsJ12 (P : Program) (f : FuncId) (fn : Func) (s : ChangeSpec) (c : OpenClaim) : Bool := (c.named == P.varsNamed f)
set_option maxRecDepth 100000 in
theorem nodeBeginsH12 : nodeBeginsJ12 Tryz.pinned.checked.prog 3 Tryz.f3 Rows.nodeBeginsSpec Rows.nodeBeginsRow = true := by kernel_rfl
def nodeBeginsJ13 (P : Program) (f : FuncId) (fn : Func) (s : ChangeSpec) (c : OpenClaim) : Bool := (c.maps == (fn.params.toList ++ s.plain.varTypes P).any (P.mapsRec ·))
set_option maxRecDepth 100000 in
theorem nodeBeginsH13 : nodeBeginsJ13 Tryz.pinned.checked.prog 3 Tryz.f3 Rows.nodeBeginsSpec Rows.nodeBeginsRow = true := by kernel_rfl
def nodeBeginsJ14 (P : Program) (f : FuncId) (fn : Func) (s : ChangeSpec) (c : OpenClaim) : Bool := (c.ifaces == (fn.params.toList ++ s.plain.varTypes P).any (P.ifacesRec ·))
set_option maxRecDepth 100000 in
theorem nodeBeginsH14 : nodeBeginsJ14 Tryz.pinned.checked.prog 3 Tryz.f3 Rows.nodeBeginsSpec Rows.nodeBeginsRow = true := by kernel_rfl
def nodeBeginsJ15 (P : Program) (f : FuncId) (fn : Func) (s : ChangeSpec) (c : OpenClaim) : Bool := (c.mapsOut == P.mapsAmong fn.resultTypes.toList)
set_option maxRecDepth 100000 in
theorem nodeBeginsH15 : nodeBeginsJ15 Tryz.pinned.checked.prog 3 Tryz.f3 Rows.nodeBeginsSpec Rows.nodeBeginsRow = true := by kernel_rfl
def nodeBeginsJ16 (P : Program) (f : FuncId) (fn : Func) (s : ChangeSpec) (c : OpenClaim) : Bool := (c.loops == (fn.params.toList ++ s.plain.varTypes P).any (P.loopsFrom ·))
set_option maxRecDepth 100000 in
theorem nodeBeginsH16 : nodeBeginsJ16 Tryz.pinned.checked.prog 3 Tryz.f3 Rows.nodeBeginsSpec Rows.nodeBeginsRow = true := by kernel_rfl
def nodeBeginsJ17 (P : Program) (f : FuncId) (fn : Func) (s : ChangeSpec) (c : OpenClaim) : Bool := (c.wideKeys == (fn.params.toList ++ s.plain.varTypes P ++ fn.resultTypes.toList).any (P.wideKeysFrom ·))
set_option maxRecDepth 100000 in
theorem nodeBeginsH17 : nodeBeginsJ17 Tryz.pinned.checked.prog 3 Tryz.f3 Rows.nodeBeginsSpec Rows.nodeBeginsRow = true := by kernel_rfl
def nodeBeginsJ18 (P : Program) (f : FuncId) (fn : Func) (s : ChangeSpec) (c : OpenClaim) : Bool := s.vars.all (P.varReadable ·)
set_option maxRecDepth 100000 in
theorem nodeBeginsH18 : nodeBeginsJ18 Tryz.pinned.checked.prog 3 Tryz.f3 Rows.nodeBeginsSpec Rows.nodeBeginsRow = true := by kernel_rfl
def nodeBeginsJ19 (P : Program) (f : FuncId) (fn : Func) (s : ChangeSpec) (c : OpenClaim) : Bool := fn.resultTypes.all (fun t => P.readableRec t && decide (t < P.types.size))
set_option maxRecDepth 100000 in
theorem nodeBeginsH19 : nodeBeginsJ19 Tryz.pinned.checked.prog 3 Tryz.f3 Rows.nodeBeginsSpec Rows.nodeBeginsRow = true := by kernel_rfl
def nodeBeginsJ20 (P : Program) (f : FuncId) (fn : Func) (s : ChangeSpec) (c : OpenClaim) : Bool := (c.ifacesOut == fn.resultTypes.toList.any (P.ifacesRec ·))
set_option maxRecDepth 100000 in
theorem nodeBeginsH20 : nodeBeginsJ20 Tryz.pinned.checked.prog 3 Tryz.f3 Rows.nodeBeginsSpec Rows.nodeBeginsRow = true := by kernel_rfl
def nodeBeginsJ21 (P : Program) (f : FuncId) (fn : Func) (s : ChangeSpec) (c : OpenClaim) : Bool := (c.loopsOut == fn.resultTypes.toList.any (P.loopsFrom ·))
set_option maxRecDepth 100000 in
theorem nodeBeginsH21 : nodeBeginsJ21 Tryz.pinned.checked.prog 3 Tryz.f3 Rows.nodeBeginsSpec Rows.nodeBeginsRow = true := by kernel_rfl
def nodeBeginsJ22 (P : Program) (f : FuncId) (fn : Func) (s : ChangeSpec) (c : OpenClaim) : Bool := (c.plainKeys == P.plainKeys)
set_option maxRecDepth 100000 in
theorem nodeBeginsH22 : nodeBeginsJ22 Tryz.pinned.checked.prog 3 Tryz.f3 Rows.nodeBeginsSpec Rows.nodeBeginsRow = true := by kernel_rfl
def nodeBeginsJ23 (P : Program) (f : FuncId) (fn : Func) (s : ChangeSpec) (c : OpenClaim) : Bool := c.shortTexts.isNone
set_option maxRecDepth 100000 in
theorem nodeBeginsH23 : nodeBeginsJ23 Tryz.pinned.checked.prog 3 Tryz.f3 Rows.nodeBeginsSpec Rows.nodeBeginsRow = true := by kernel_rfl
def nodeBeginsJ24 (P : Program) (f : FuncId) (fn : Func) (s : ChangeSpec) (c : OpenClaim) : Bool := P.stopsHeard
set_option maxRecDepth 100000 in
theorem nodeBeginsH24 : nodeBeginsJ24 Tryz.pinned.checked.prog 3 Tryz.f3 Rows.nodeBeginsSpec Rows.nodeBeginsRow = true := by kernel_rfl
def nodeBeginsJ25 (P : Program) (f : FuncId) (fn : Func) (s : ChangeSpec) (c : OpenClaim) : Bool := P.mayEnter
set_option maxRecDepth 100000 in
theorem nodeBeginsH25 : nodeBeginsJ25 Tryz.pinned.checked.prog 3 Tryz.f3 Rows.nodeBeginsSpec Rows.nodeBeginsRow = true := by kernel_rfl
def nodeBeginsJ26 (P : Program) (f : FuncId) (fn : Func) (s : ChangeSpec) (c : OpenClaim) : Bool := (c.lifted == P.liftsFinal)
set_option maxRecDepth 100000 in
theorem nodeBeginsH26 : nodeBeginsJ26 Tryz.pinned.checked.prog 3 Tryz.f3 Rows.nodeBeginsSpec Rows.nodeBeginsRow = true := by kernel_rfl
def nodeBeginsJ27 (P : Program) (f : FuncId) (fn : Func) (s : ChangeSpec) (c : OpenClaim) : Bool := (P.make == some c.make)
set_option maxRecDepth 100000 in
theorem nodeBeginsH27 : nodeBeginsJ27 Tryz.pinned.checked.prog 3 Tryz.f3 Rows.nodeBeginsSpec Rows.nodeBeginsRow = true := by kernel_rfl
def nodeBeginsJ28 (P : Program) (f : FuncId) (fn : Func) (s : ChangeSpec) (c : OpenClaim) : Bool := (c.kinds == (if c.domain.isEmpty then [] else fn.params.toList.map fun t => match P.underlying t with | some (.int k) => some k | _ => none))
set_option maxRecDepth 100000 in
theorem nodeBeginsH28 : nodeBeginsJ28 Tryz.pinned.checked.prog 3 Tryz.f3 Rows.nodeBeginsSpec Rows.nodeBeginsRow = true := by kernel_rfl
def nodeBeginsJ29 (P : Program) (f : FuncId) (fn : Func) (s : ChangeSpec) (c : OpenClaim) : Bool := (c.pinned == c.pinnedBy)
set_option maxRecDepth 100000 in
theorem nodeBeginsH29 : nodeBeginsJ29 Tryz.pinned.checked.prog 3 Tryz.f3 Rows.nodeBeginsSpec Rows.nodeBeginsRow = true := by kernel_rfl
def nodeBeginsJ30 (P : Program) (f : FuncId) (fn : Func) (s : ChangeSpec) (c : OpenClaim) : Bool := (c.veiled == (fn.params.toList ++ s.plain.varTypes P ++ fn.resultTypes.toList).any (P.veiledRec ·))
set_option maxRecDepth 100000 in
theorem nodeBeginsH30 : nodeBeginsJ30 Tryz.pinned.checked.prog 3 Tryz.f3 Rows.nodeBeginsSpec Rows.nodeBeginsRow = true := by kernel_rfl
def nodeBeginsJ31 (P : Program) (f : FuncId) (fn : Func) (s : ChangeSpec) (c : OpenClaim) : Bool := c.veiledFits P fn.params.toList (fn.params.toList ++ s.plain.varTypes P ++ fn.resultTypes.toList)
set_option maxRecDepth 100000 in
theorem nodeBeginsH31 : nodeBeginsJ31 Tryz.pinned.checked.prog 3 Tryz.f3 Rows.nodeBeginsSpec Rows.nodeBeginsRow = true := by kernel_rfl
theorem nodeBeginsAnd {a b : Bool} (h : a = true) (k : b = true) : (a && b) = true := by rw [h, k]; rfl
set_option maxRecDepth 100000 in
theorem nodeBegins_closed : joinedFacts Tryz.pinned.checked.prog 3 Tryz.f3 Rows.nodeBeginsSpec Rows.nodeBeginsRow = true := (nodeBeginsAnd (nodeBeginsAnd (nodeBeginsAnd (nodeBeginsAnd (nodeBeginsAnd (nodeBeginsAnd (nodeBeginsAnd (nodeBeginsAnd (nodeBeginsAnd (nodeBeginsAnd (nodeBeginsAnd (nodeBeginsAnd (nodeBeginsAnd (nodeBeginsAnd (nodeBeginsAnd (nodeBeginsAnd (nodeBeginsAnd (nodeBeginsAnd (nodeBeginsAnd (nodeBeginsAnd (nodeBeginsAnd (nodeBeginsAnd (nodeBeginsAnd (nodeBeginsAnd (nodeBeginsAnd (nodeBeginsAnd (nodeBeginsAnd (nodeBeginsAnd (nodeBeginsAnd (nodeBeginsAnd (nodeBeginsAnd nodeBeginsH0 nodeBeginsH1) nodeBeginsH2) nodeBeginsH3) nodeBeginsH4) nodeBeginsH5) nodeBeginsH6) nodeBeginsH7) nodeBeginsH8) nodeBeginsH9) nodeBeginsH10) nodeBeginsH11) nodeBeginsH12) nodeBeginsH13) nodeBeginsH14) nodeBeginsH15) nodeBeginsH16) nodeBeginsH17) nodeBeginsH18) nodeBeginsH19) nodeBeginsH20) nodeBeginsH21) nodeBeginsH22) nodeBeginsH23) nodeBeginsH24) nodeBeginsH25) nodeBeginsH26) nodeBeginsH27) nodeBeginsH28) nodeBeginsH29) nodeBeginsH30) nodeBeginsH31)
end Go.Proofs.YtkmddjbialpppaaGreatDoor
