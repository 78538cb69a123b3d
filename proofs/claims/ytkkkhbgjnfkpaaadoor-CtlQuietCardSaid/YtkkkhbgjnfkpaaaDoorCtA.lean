/- Controllers: their cells; plain: what may be counted, what may be out of a frame. -/
import Derived.Test.YtkkkhbgjnfkpaaaDoorFrA
import Derived.Test.YtkkkhbgjnfkpaaaDoorOrdL
namespace Go.Proofs.YtkkkhbgjnfkpaaaDoor
open Go.ChangeShapes Go.WideShapes Go.ChangeAt Go.RowKit
open FP (Fr)

structure Cl where
  tc : Int
  rc : Int
  off : Bool
  rs : Int
  st : Int
  n : Int
  was : Bool
  hard : Bool
  has : Bool
  f : Fr
  sends : Bool
  out : ByteArray
  at_ : Int
  last : Int
  sn : Int
  got : ByteArray
  en : Bool
  tail : Int
  good : Bool
def zFr : Fr := ⟨0, false, false, 0, ⟨#[]⟩⟩
def zCl : Cl := ⟨0, 0, false, 0, 0, 0, false, false, false, zFr, false, ⟨#[]⟩, 0, 0, 0, ⟨#[]⟩, false, 0, false⟩
def frL (f : Fr) : List Value := [.int .u32 f.id, .bool f.ext, .bool f.rem, .int .i64 f.dlc, .string f.data]
def Cl.cs (c : Cl) : List Value := [.int .i64 c.tc, .int .i64 c.rc, .bool c.off, .int .i64 c.rs, .int .i64 c.st, .int .i64 c.n, .bool c.was, .bool c.hard, .bool c.has, .int .u32 c.f.id, .bool c.f.ext, .bool c.f.rem, .int .i64 c.f.dlc, .string c.f.data, .bool c.sends, .string c.out, .int .i64 c.at_, .int .u8 c.last, .int .i64 c.sn, .string c.got, .bool c.en, .int .i64 c.tail, .bool c.good]
theorem cl_cells {W : World} {B : Nat} {c : Cl} {t : TypeId} {fz : Nat × Nat} (h : W.heap[B]? = some (.cells c.cs.toArray t fz)) :
    (W.cell? ⟨B, 0, none⟩ = some (.int .i64 c.tc) ∧ W.cell? ⟨B, 1, none⟩ = some (.int .i64 c.rc) ∧ W.cell? ⟨B, 2, none⟩ = some (.bool c.off) ∧ W.cell? ⟨B, 3, none⟩ = some (.int .i64 c.rs)) ∧
    (W.cell? ⟨B, 4, none⟩ = some (.int .i64 c.st) ∧ W.cell? ⟨B, 5, none⟩ = some (.int .i64 c.n) ∧ W.cell? ⟨B, 6, none⟩ = some (.bool c.was) ∧ W.cell? ⟨B, 7, none⟩ = some (.bool c.hard) ∧ W.cell? ⟨B, 8, none⟩ = some (.bool c.has)) ∧
    (W.cell? ⟨B, 9, none⟩ = some (.int .u32 c.f.id) ∧ W.cell? ⟨B, 10, none⟩ = some (.bool c.f.ext) ∧ W.cell? ⟨B, 11, none⟩ = some (.bool c.f.rem) ∧ W.cell? ⟨B, 12, none⟩ = some (.int .i64 c.f.dlc) ∧ W.cell? ⟨B, 13, none⟩ = some (.string c.f.data)) ∧
    (W.cell? ⟨B, 14, none⟩ = some (.bool c.sends) ∧ W.cell? ⟨B, 15, none⟩ = some (.string c.out) ∧ W.cell? ⟨B, 16, none⟩ = some (.int .i64 c.at_) ∧ W.cell? ⟨B, 17, none⟩ = some (.int .u8 c.last) ∧ W.cell? ⟨B, 18, none⟩ = some (.int .i64 c.sn) ∧ W.cell? ⟨B, 19, none⟩ = some (.string c.got) ∧ W.cell? ⟨B, 20, none⟩ = some (.bool c.en) ∧ W.cell? ⟨B, 21, none⟩ = some (.int .i64 c.tail) ∧ W.cell? ⟨B, 22, none⟩ = some (.bool c.good)) := by
  simp [World.cell?, h, Cl.cs]
theorem cl_froz {W : World} {B : Nat} {cs : Array Value} {t : TypeId} (h : W.heap[B]? = some (.cells cs t (0, 0))) (o : Nat) : W.frozen? ⟨B, o, none⟩ = false := by simp [World.frozen?, h]

/-- May it be counted? -/
def cntB (tc rc : Int) (off : Bool) (rs : Int) : Bool := if off = true then decide (tc = 0 ∧ rc = 0 ∧ 1 ≤ rs ∧ rs ≤ 128) else decide (0 ≤ tc ∧ tc ≤ 255 ∧ 0 ≤ rc ∧ rc ≤ 255 ∧ rs = 0)
/-- Is nothing of a frame kept? -/
def Cl.Out (c : Cl) : Prop := c.sends = false ∧ c.out = ⟨#[]⟩ ∧ c.at_ = 0 ∧ c.last = 0 ∧ c.sn = 0 ∧ c.got = ⟨#[]⟩ ∧ c.en = false ∧ c.tail = 0 ∧ c.good = false
/-- Out of any frame, in a state. -/
def Cl.to (c : Cl) (s : Int) : Cl := { c with st := s, n := 0, sends := false, out := ⟨#[]⟩, at_ := 0, last := 0, sn := 0, got := ⟨#[]⟩, en := false, tail := 0, good := false }

/-- A machine: a controller and what happened. -/
structure Mc where
  c : Cl
  kind : Int
  ef : Fr
  bad : Int
def Mc.cs (m : Mc) : List Value := m.c.cs ++ [.int .i64 m.kind, .int .u32 m.ef.id, .bool m.ef.ext, .bool m.ef.rem, .int .i64 m.ef.dlc, .string m.ef.data, .int .i64 m.bad]
def evL (kind : Int) (f : Fr) (bad : Int) : List Value := [.int .i64 kind, .int .u32 f.id, .bool f.ext, .bool f.rem, .int .i64 f.dlc, .string f.data, .int .i64 bad]
end Go.Proofs.YtkkkhbgjnfkpaaaDoor
