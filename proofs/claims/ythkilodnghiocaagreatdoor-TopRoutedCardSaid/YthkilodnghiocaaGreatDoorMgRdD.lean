/- The walks of stuff.Right, stuff.Step. -/
import Derived.Test.YthkilodnghiocaaGreatDoorMgCrA
import Derived.Test.YthkilodnghiocaaGreatDoorMgFbA
import Derived.Test.YthkilodnghiocaaGreatDoorMgFrPlain
import Derived.Lib.Strings
import Derived.Test.YthkilodnghiocaaGreatDoorMgCtT
import Derived.Test.YthkilodnghiocaaGreatDoorMgCtP
import Derived.Test.YthkilodnghiocaaGreatDoorMgIfP
namespace Go.Proofs.YthkilodnghiocaaGreatDoor
open Go.ChangeShapes Go.WideShapes Go.ChangeAt Go.RowKit
open FP (uN uK stuffedF doneB badB sizeE sizeV SR)

/-- What stuffing may know. -/
def StK (last : UInt8) (n : Nat) : Prop := (n = 0 ∧ last = 0) ∨ ((last = 48 ∨ last = 49) ∧ 1 ≤ n ∧ n ≤ 5)
theorem StK.le {last : UInt8} {n : Nat} (h : StK last n) : n ≤ 5 := by rcases h with h | h <;> omega
theorem StK.step {last : UInt8} {n : Nat} (h : StK last n) {c : UInt8} (hc : c = 48 ∨ c = 49) : StK c (uN last n c) := by
  have := FP.uN_le (last := last) h.le c
  exact .inr ⟨hc, this.1, this.2⟩

set_option maxRecDepth 100000 in
theorem stBit_any (c : UInt8) (w : World) (hc : c = 48 ∨ c = 49) : Calls Tryz.prog 95 #[.int .u8 c.toNat] w fun e w' => e = .returned (.bool true) ∧ w = w' := by
  rcases hc with rfl | rfl
  all_goals
    go_enter Tryz.func95, Tryz.ntmps95
    go_wp2
    go_ret
    exact ⟨rfl, rfl⟩

set_option maxRecDepth 100000 in
set_option maxHeartbeats 1000000 in
theorem stRight_any (last : UInt8) (n : Nat) (w : World) (h : StK last n) : Calls Tryz.prog 73 #[.agg #[.int .u8 last.toNat, .int .i64 n]] w fun e w' => e = .returned (.bool true) ∧ Below w.heap.size w w' := by
  have q0 : Below w.heap.size w (w.alloc (.cells #[.int .u8 last.toNat, .int .i64 n] 71)) := (Below.refl _ _).alloc (Nat.le_refl _) _
  have BB := hide (fun c W hc => stBit_any c W hc)
  rcases h with ⟨rfl, rfl⟩ | ⟨hl, h1, h5⟩
  · clear BB
    go_enter Tryz.func73, Tryz.ntmps73
    go_wp2
    go_ret
    exact ⟨rfl, q0⟩
  · have e0 : ((last.toNat : Int) == 0) = false := by rcases hl with rfl | rfl <;> decide
    have B1 := hide (fun W => BB.out last W hl)
    have h1' : decide ((1 : Int) ≤ n) = true := decide_eq_true (by omega)
    have h5' : decide ((n : Int) ≤ 5) = true := decide_eq_true (by omega)
    clear BB hl
    go_enter Tryz.func73, Tryz.ntmps73
    go_wp2_with fail
    refine (B1.out _).mono ?_
    rintro e1 w1 ⟨rfl, rfl⟩
    go_wp2
    go_ret
    exact ⟨rfl, q0⟩

set_option maxRecDepth 100000 in
set_option maxHeartbeats 1000000 in
theorem stStep_any (last : UInt8) (n : Nat) (c : UInt8) (w : World) (h : StK last n) (hc : c = 48 ∨ c = 49) :
    Calls Tryz.prog 67 #[.agg #[.int .u8 last.toNat, .int .i64 n], .int .u8 c.toNat] w fun e w' => e = .returned (.tuple #[.agg #[.int .u8 c.toNat, .int .i64 (uN last n c : Nat)], .int .i64 (uK last n c : Nat), .int .i64 0]) ∧ Below w.heap.size w w' := by
  have RT := hide (fun W => stRight_any last n W h)
  have BB := hide (fun W => stBit_any c W hc)
  have hn := h.le
  have ST := hide (fun b W hW => step_any b last n c hn W hW)
  have q0 : Below w.heap.size w ((w.alloc (.cells #[.int .u8 last.toNat, .int .i64 n] 71)).alloc (.cells #[.int .u8 0, .int .i64 0] 71)) := ((Below.refl _ _).alloc (Nat.le_refl _) _).alloc (by simp) _
  have B0 := hide (show ((w.alloc (.cells #[.int .u8 last.toNat, .int .i64 n] 71)).alloc (.cells #[.int .u8 0, .int .i64 0] 71)).heap[w.heap.size + 1]? = some (.cells #[.int .u8 0, .int .i64 0] 71 (0, 0)) from (two_new _ _ _).2)
  have B1 := hide (show ((w.alloc (.cells #[.int .u8 last.toNat, .int .i64 n] 71)).alloc (.cells #[.int .u8 0, .int .i64 0] 71)).heap[w.heap.size]? = some (.cells #[.int .u8 last.toNat, .int .i64 n] 71 (0, 0)) from (two_new _ _ _).1)
  clear h hc
  go_enter Tryz.func67, Tryz.ntmps67
  go_wp2_with fail
  refine (RT.out _).mono ?_
  rintro e1 w1 ⟨rfl, q1⟩
  have Q1 := hide (below_next q0 q0.size q1)
  have C0 := hide (heap_below B0.out q1)
  have C1 := hide (heap_below B1.out q1)
  clear q0 q1 B0 B1
  go_wp2_with fail
  refine (BB.out _).mono ?_
  rintro e2 w2 ⟨rfl, rfl⟩
  obtain ⟨x0, x1, _⟩ := two_st C1.out
  go_wp2_with fail
  have hz1 : w.heap.size + 1 < w1.heap.size := heap_lt C0.out
  have al := (Below.refl w1.heap.size w1).alloc (Nat.le_refl _) (.cells #[.int .u8 last.toNat, .int .i64 n] 138)
  have C2 := hide (heap_below C0.out al)
  have Q2 := hide (below_next Q1.out Q1.out.size al)
  have S2 := hide (World.alloc_heap_new w1 (.cells #[.int .u8 last.toNat, .int .i64 n] 138))
  clear al x0 x1 C0 C1 Q1
  refine (ST.out _ _ S2.out).mono ?_
  rintro e3 w3 ⟨rfl, h3, g3⟩
  have C3 := hide (heap_grownB C2.out g3 (by simp; omega))
  have Q3 := hide (Q2.out.grown g3 Q2.out.size (fun k hk => by simp at hk; omega))
  obtain ⟨y0, y1, _⟩ := two_st h3
  have hN : (stN last n c : Nat) = uN last n c := rfl
  have hK : (stK last n c : Nat) = uK last n c := rfl
  rw [hN] at y1
  rw [hK]
  clear h3 g3 C2 Q2 S2 ST hN hK
  go_wp2_with (refine wpList_store_hid (by rfl) 71 (.tmp 4) (.tmp 27) (by rfl) (w.heap.size + 1) 0 [.int .u8 c.toNat, .int .i64 (uN last n c : Nat)] (by rfl) (by rfl) (by exact (show w3.there (w.heap.size + 1) 0 2 from there_heap (cs := [_, _]) C3.out)) (by kernel_rfl) (by simp [Value.oneCell']) ?_)
  intro W4 e4
  have C4 := whole_heap [.int .u8 c.toNat, .int .i64 (uN last n c : Nat)] (xs := [_, _]) C3.out rfl
  have Q4 := Q3.out.trans (below_setCells (g := w.heap.size + 1) [.int .u8 c.toNat, .int .i64 (uN last n c : Nat)] 0 _ (by omega))
  rw [← e4.out] at C4 Q4
  clear e4 C3 Q3 y0 y1
  obtain ⟨z0, z1, _⟩ := two_st C4
  have QQ := hide Q4
  clear C4 Q4
  go_wp2
  refine bodyPost_ret (v := .tuple #[.agg #[.int .u8 c.toNat, .int .i64 (uN last n c : Nat)], .int .i64 (uK last n c : Nat), .int .i64 0]) (by simp [results, Tryz.results67, go_sem, z0, z1]) rfl ⟨rfl, QQ.out⟩
end Go.Proofs.YthkilodnghiocaaGreatDoor

/- The walks of package prio: of, field, Less, well. -/
namespace Go.Proofs.YthkilodnghiocaaGreatDoor
open Go.ChangeShapes Go.WideShapes Go.ChangeAt Go.RowKit
open FP (bit bitsOf Fr bitB)

def fieldF (f : Fr) : List UInt8 := if f.ext then (bitsOf f.id 29).take 11 ++ [49, 49] ++ (bitsOf f.id 29).drop 11 ++ [bitB f.rem] else bitsOf f.id 11 ++ [bitB f.rem] ++ [48]
def lessB (f g : Fr) : Bool := FP.rightB f && FP.rightB g && Op.bytesLess (fieldF f) (fieldF g)

set_option maxRecDepth 100000 in
theorem prOf_any (N K : Int) (n k : Nat) (hN : N = n) (hK : K = k) (hk : k ≤ 64) (hn : n < 2 ^ k) (h32 : n < 4294967296) (w : World) :
    Calls Tryz.prog 127 #[.int .u32 N, .int .i64 K] w fun e w' => e = .returned (.string ⟨(bitsOf n k).toArray⟩) ∧ Below w.heap.size w w' := by
  subst hN
  subst hK
  have O := hide (bitsOf_any n k w hk hn)
  have wn : IntKind.u64.wrap (n : Int) = (n : Int) := IntWalk.u64_in _ (by omega)
  go_enter Tryz.func127, Tryz.ntmps127
  go_wp2_with fail
  refine O.out.mono ?_
  rintro e w1 ⟨rfl, q⟩
  go_wp2
  go_ret
  exact ⟨rfl, q⟩

theorem str_cut (l : List UInt8) (a b : Nat) : (⟨l.toArray⟩ : ByteArray).extract a b = ⟨(l.extract a b).toArray⟩ := by
  rw [ByteArray.ext_iff]
  simp [ByteArray.data_extract]
theorem str_appP (l r : List UInt8) : (⟨l.toArray⟩ : ByteArray) ++ ⟨r.toArray⟩ = ⟨(l ++ r).toArray⟩ := by
  rw [ByteArray.ext_iff]
  simp

set_option maxRecDepth 100000 in
set_option maxHeartbeats 1000000 in
theorem field_any (f : Fr) (w : World) (hr : FP.rightB f = true) :
    Calls Tryz.prog 119 #[.agg #[.int .u32 f.id, .bool f.ext, .bool f.rem, .int .i64 f.dlc, .string f.data]] w fun e w' => e = .returned (.string ⟨(fieldF f).toArray⟩) ∧ Below w.heap.size w w' := by
  obtain ⟨id, ext, rem, dlc, data⟩ := f
  have hid : id < (if ext then 536870912 else 2048) := by simp [FP.rightB] at hr; exact hr.1.1.1
  clear hr
  dsimp only
  have q0 : Below w.heap.size w (w.alloc (.cells #[.int .u32 id, .bool ext, .bool rem, .int .i64 dlc, .string data] 45)) := (Below.refl _ _).alloc (Nat.le_refl _) _
  cases ext
  · have hid' : id < 2048 := by simpa using hid
    clear hid
    have O := hide (fun W => prOf_any id 11 id 11 rfl rfl (by omega) (by omega) (by omega) W)
    have hl : (⟨(bitsOf id 11).toArray⟩ : ByteArray).size = 11 := by simp [ByteArray.size, FP.bitsOf_length]
    have hE : fieldF ⟨id, false, rem, dlc, data⟩ = bitsOf id 11 ++ [bitB rem] ++ [48] := rfl
    have HE := hide hE
    have SA := hide str_appP
    clear hE
    cases rem
    all_goals
      go_enter Tryz.func119, Tryz.ntmps119
      go_wp2_with fail
      refine (O.out _).mono ?_
      rintro e1 w1 ⟨rfl, q1⟩
      go_wp2
      go_ret
      refine ⟨?_, below_next q0 q0.size q1⟩
      rw [HE.out]
      simp [bitB, ByteArray.ext_iff]
      done
  · have hid' : id < 536870912 := by simpa using hid
    clear hid
    have O := hide (fun W => prOf_any id 29 id 29 rfl rfl (by omega) (by omega) (by omega) W)
    have hE : (⟨(fieldF ⟨id, true, rem, dlc, data⟩).toArray⟩ : ByteArray) = (⟨(bitsOf id 29).toArray⟩ : ByteArray).extract 0 11 ++ ⟨#[49, 49]⟩ ++ (⟨(bitsOf id 29).toArray⟩ : ByteArray).extract 11 29 ++ ⟨#[bitB rem]⟩ := by
      have e : fieldF ⟨id, true, rem, dlc, data⟩ = (bitsOf id 29).take 11 ++ [49, 49] ++ (bitsOf id 29).drop 11 ++ [bitB rem] := rfl
      rw [e, str_cut, str_cut, show (⟨#[49, 49]⟩ : ByteArray) = ⟨([49, 49] : List UInt8).toArray⟩ from rfl, show (⟨#[bitB rem]⟩ : ByteArray) = ⟨([bitB rem] : List UInt8).toArray⟩ from rfl, str_appP, str_appP, str_appP]
      simp only [List.extract_eq_take_drop, List.drop_zero]
      rw [show (29 - 11 : Nat) = (List.drop 11 (bitsOf id 29)).length by simp [FP.bitsOf_length], List.take_length]
    rw [hE]
    clear hE
    have hsz : (⟨(bitsOf id 29).toArray⟩ : ByteArray).size = 29 := by simp [ByteArray.size, FP.bitsOf_length]
    generalize (⟨(bitsOf id 29).toArray⟩ : ByteArray) = S at *
    have h11 : (11 : Int) ≤ (S.size : Int) := by omega
    have h11' : 11 ≤ S.size := by omega
    have h29 : S.size ≤ 29 := by omega
    have hx : S.extract 11 S.size = S.extract 11 29 := by rw [hsz]
    have x1 : (S.extract 0 11).size ≤ 29 := by rw [ByteArray.size_extract]; omega
    have x2 : (S.extract 11 29).size ≤ 29 := by rw [ByteArray.size_extract]; omega
    generalize S.extract 11 29 = T2 at *
    obtain ⟨T1, hT1⟩ : ∃ T, S.extract 0 11 = T := ⟨_, rfl⟩
    rw [hT1] at x1 ⊢
    clear hsz
    cases rem
    all_goals
      go_enter Tryz.func119, Tryz.ntmps119
      go_wp2_with fail
      refine (O.out _).mono ?_
      rintro e1 w1 ⟨rfl, q1⟩
      go_wp2_with fail
      go_quiet (fail)
      go_wp2
      go_ret
      exact ⟨rfl, below_drewN (below_next q0 q0.size q1) _⟩

theorem lessB_str (f g : Fr) (hf : FP.rightB f = true) (hg : FP.rightB g = true) : lessB f g = Op.bytesLess (⟨(fieldF f).toArray⟩ : ByteArray).toList (⟨(fieldF g).toArray⟩ : ByteArray).toList := by
  unfold lessB
  rw [hf, hg, Lib.toList_data, Lib.toList_data]
  rfl

def FrR (w : World) (B : Nat) (A : Option Addr) (l : List Fr) : Prop := Rd w B A 5 (l.map frc)
theorem FrR.at_ {w : World} {B : Nat} {A : Option Addr} {l : List Fr} (h : FrR w B A l) {k : Nat} (hk : k < l.length) :
    ∃ b off, A = some ⟨b, off, none⟩ ∧ b < B ∧ w.cell? ⟨b, off + k * 5, none⟩ = some (.int .u32 l[k].id) ∧ w.cell? ⟨b, off + k * 5 + 1, none⟩ = some (.bool l[k].ext) ∧ w.cell? ⟨b, off + k * 5 + 2, none⟩ = some (.bool l[k].rem) ∧
      w.cell? ⟨b, off + k * 5 + 3, none⟩ = some (.int .i64 l[k].dlc) ∧ w.cell? ⟨b, off + k * 5 + 4, none⟩ = some (.string l[k].data) := by
  obtain ⟨b, off, e, hb, hc⟩ := h (by rw [List.length_map]; omega)
  have hx : (l.map frc)[k]? = some (frc l[k]) := by simp [hk]
  exact ⟨b, off, e, hb, hc k _ 0 _ hx rfl, hc k _ 1 _ hx rfl, hc k _ 2 _ hx rfl, hc k _ 3 _ hx rfl, hc k _ 4 _ hx rfl⟩
theorem FrR.next {w w' : World} {B : Nat} {A : Option Addr} {l : List Fr} (h : FrR w B A l) (hb : Below B w w') (hB : B ≤ w'.heap.size) : FrR w' w'.heap.size A l := Rd.next h hb hB

def wellB (l : List Fr) : Bool := l.all FP.rightB

/-- The first place; -1: none. -/
def idxF (p : Fr → Bool) (l : List Fr) : Int := if l.all (fun f => !p f) then -1 else ((l.findIdx p : Nat) : Int)

theorem idxF_nonneg (p : Fr → Bool) (l : List Fr) : 0 ≤ idxF p l ↔ l.any p = true := by
  unfold idxF
  by_cases h : l.all (fun f => !p f) = true
  · rw [if_pos h]
    have : l.any p = false := by
      rw [List.any_eq_false]
      intro x hx
      have := List.all_eq_true.1 h x hx
      simpa using this
    simp [this]
  · rw [if_neg h]
    have h' : l.all (fun f => !p f) = false := by simpa using h
    obtain ⟨x, hx, hp⟩ := List.all_eq_false.1 h'
    have : l.any p = true := List.any_eq_true.2 ⟨x, hx, by simpa using hp⟩
    simp [this]

theorem well_not (l : List Fr) : (l.any fun f => !FP.rightB f) = !wellB l := by
  unfold wellB
  induction l with
  | nil => rfl
  | cons x l ih => simp only [List.any_cons, List.all_cons, ih]; cases FP.rightB x <;> simp

end Go.Proofs.YthkilodnghiocaaGreatDoor

/- Plain: what a bit makes of a controller; which controllers may be. -/
namespace Go.Proofs.YthkilodnghiocaaGreatDoor
open Go.ChangeShapes Go.WideShapes Go.ChangeAt Go.RowKit
open FP (Fr uN uK doneB sizeE sizeV readV headOf bitsF bodyF RS rsStep rs0 rsOf goodB)

def Cl.L (c : Cl) : UInt8 := UInt8.ofNat c.last.toNat
def Cl.N (c : Cl) : Nat := c.sn.toNat
def Cl.g (c : Cl) : List UInt8 := c.got.data.toList
def ev0 (c : Cl) : Mc := ⟨c, 0, zFr, 0⟩
/-- One's own frame begins. -/
def Cl.begin1 (c : Cl) : Cl := { c.to 2 with last := 48, sn := 1, got := ⟨#[48]⟩, was := true, sends := true, out := ⟨(bitsF c.f).toArray⟩, at_ := 1 }
/-- A dominant bit behind the flag of an error. -/
def Cl.echoN (c : Cl) : Cl := { c with n := min (c.n + 1) 1000000000 }
def Cl.echoC (d : Cl) : Cl := if d.n = 1 ∧ d.was = false then d.count 6 else if d.n % 8 = 0 then d.count (if d.was = true then 5 else 6) else d
def Cl.echo0 (c : Cl) : Cl := if c.echoN.echoC.off = true then c.echoN.echoC.to 8 else c.echoN.echoC

def Cl.lostB (c : Cl) (b : UInt8) : Bool := decide (b = 48) && (decide (c.g.length ≤ (fieldF c.f).length) && decide (c.N < 5))
def Cl.drop (c : Cl) : Cl := { c with sends := false, out := ⟨#[]⟩, at_ := 0, was := false }
def Cl.outAt (c : Cl) : Option UInt8 := c.out.data.toList[c.at_.toNat]?
/-- A bit is known. -/
def Cl.tk (c : Cl) (b : UInt8) : Cl := { c with last := b.toNat, sn := (uN c.L c.N b : Nat), got := if uK c.L c.N b = 1 then c.got ++ ⟨#[b]⟩ else c.got }
def Cl.adv (c : Cl) : Cl := if c.sends = true then { c with at_ := c.at_ + 1 } else c
def Cl.whole (c : Cl) : Cl := if doneB c.g c.N = true then { c with en := true, good := goodB c.g } else c
def Cl.take (c : Cl) (k : Int) (b : UInt8) : Mc :=
  if uK c.L c.N b = 3 then ⟨(c.tk b).fail 10, 3, zFr, 10⟩
  else if uK c.L c.N b = 1 ∧ sizeE (c.tk b).g = 12 then ⟨(c.tk b).fail 12, 3, zFr, 12⟩
  else ⟨(c.tk b).adv.whole, k, zFr, 0⟩
/-- A stuffed bit. -/
def Cl.body (c : Cl) (b : UInt8) : Mc :=
  if c.sends = true ∧ c.outAt ≠ some b then (if c.lostB b = true then c.drop.take 4 b else ⟨c.fail 13, 3, zFr, 13⟩) else c.take 0 b
def Cl.ends (c : Cl) (b : UInt8) : Mc :=
  if b = 48 then ⟨{ c.to 3 with hard := true }, 0, zFr, 0⟩ else if c.sends = true then ⟨c.sent, 1, c.f, 0⟩ else ⟨c.to 6, 0, zFr, 0⟩
def Cl.on (c : Cl) : Cl := { c with tail := c.tail + 1, at_ := if c.sends = true then c.at_ + 1 else c.at_ }
/-- A bit behind the stuffed ones. -/
def Cl.behind (c : Cl) (b : UInt8) : Mc :=
  if c.tail = 1 ∧ c.sends = true ∧ b ≠ 48 then ⟨c.fail 14, 3, zFr, 14⟩
  else if c.tail ≠ 1 ∧ b = 48 ∧ (c.tail ≠ 9 ∨ c.sends = true) then ⟨c.fail 12, 3, zFr, 12⟩
  else if c.tail = 2 ∧ c.sends = false ∧ c.good = false then ⟨c.fail 11, 3, zFr, 11⟩
  else if c.tail = 9 then c.ends b
  else if c.tail = 8 ∧ c.sends = false then ⟨(c.count 2).on, 2, readV (headOf c.g), 0⟩
  else ev0 c.on
def Cl.frame (c : Cl) (b : UInt8) : Mc := if c.en = true then c.behind b else c.body b
/-- What a bit makes of it, and what happens. -/
def Cl.samp (c : Cl) (b : UInt8) : Mc :=
  if c.st = 0 then ev0 (if b = 48 then { c with n := 0 } else c.join1)
  else if c.st = 1 then ev0 (if b = 48 then (if c.has = true then c.begin1 else c.begin0) else c)
  else if c.st = 2 then c.frame b
  else if c.st = 3 then ev0 c.flag1
  else if c.st = 4 then ev0 (if b = 48 then c.echo0 else { c.to 5 with n := 1 })
  else if c.st = 5 then ev0 (c.delim1 (decide (b = 48)))
  else if c.st = 6 then ev0 (if b = 48 then (if c.n = 2 then c.begin0 else { c.to 3 with hard := true }) else c.gap1)
  else if c.st = 7 then ev0 (if b = 48 then c.begin0 else c.hold1)
  else ev0 (if b = 48 then { c with n := 0 } else c.off1)
/-- The bit that it drives. -/
def Cl.drv (c : Cl) : UInt8 :=
  if c.st = 1 then (if c.has = true then 48 else 49)
  else if c.st = 2 then (if c.sends = true then c.outAt.getD 49 else if c.en = true ∧ c.tail = 1 ∧ c.good = true then 48 else 49)
  else if c.st = 3 then (if c.hard = true then 48 else 49)
  else 49

/-- What is kept of a frame may be. -/
structure Cl.In (c : Cl) : Prop where
  last : c.last = (c.L.toNat : Int)
  sn : c.sn = (c.N : Int)
  stk : StK c.L c.N
  n1 : 1 ≤ c.N
  bits : ∀ x ∈ c.g, x = 48 ∨ x = 49
  first : c.g[0]? = some 48
  size : sizeE c.g ≠ 12
  le : sizeE c.g = 0 → c.g.length ≤ sizeV c.g + 15
  en : c.en = doneB c.g c.N
  good : c.good = (c.en && goodB c.g)
  t0 : 0 ≤ c.tail
  t9 : c.tail ≤ 9
  tn : c.en = false → c.tail = 0
  no : c.sends = false → c.out = ⟨#[]⟩ ∧ c.at_ = 0
  yes : c.sends = true → c.has = true ∧ c.out = ⟨(bitsF c.f).toArray⟩ ∧ (c.en = true → c.at_ = (bodyF c.f).length + c.tail) ∧ (c.en = false → 1 ≤ c.at_ ∧ c.at_ < (bodyF c.f).length) ∧ rsOf ((bodyF c.f).take c.at_.toNat) = ⟨c.L, c.N, c.g⟩
def topN (s : Int) : Int := if s = 0 ∨ s = 8 then 10 else if s = 3 then 5 else if s = 4 then 1000000000 else if s = 5 ∨ s = 7 then 7 else if s = 6 then 2 else 0
/-- It may be. -/
structure Cl.Ok (c : Cl) : Prop where
  cnt : cntB c.tc c.rc c.off c.rs = true
  offs : c.off = (c.st == 8)
  has : c.has = true → FP.rightB c.f = true
  hasn : c.has = false → c.f = zFr
  s0 : 0 ≤ c.st
  s8 : c.st ≤ 8
  n0 : 0 ≤ c.n
  n9 : c.n ≤ topN c.st
  n5 : c.st = 5 → 1 ≤ c.n
  out : c.st ≠ 2 → c.Out
  inn : c.st = 2 → c.In

theorem to_out (c : Cl) (s : Int) : (c.to s).Out := ⟨rfl, rfl, rfl, rfl, rfl, rfl, rfl, rfl, rfl⟩
theorem u8_back (b : UInt8) : UInt8.ofNat (b.toNat : Int).toNat = b := by simp
theorem u8_48 : (48 : Int) = ((48 : UInt8).toNat : Int) := rfl

/-- What stands of a controller when it counts, or goes to another state. -/
structure Cl.Base (c : Cl) : Prop where
  cnt : cntB c.tc c.rc c.off c.rs = true
  has : c.has = true → FP.rightB c.f = true
  hasn : c.has = false → c.f = zFr
theorem Cl.Ok.base {c : Cl} (h : c.Ok) : c.Base := ⟨h.cnt, h.has, h.hasn⟩
theorem Cl.Ok.on {c : Cl} (h : c.Ok) (h8 : c.st ≠ 8) : c.off = false := by rw [h.offs]; simpa using h8
theorem cnt_on {tc rc rs : Int} {off : Bool} (h : cntB tc rc off rs = true) (ho : off = false) : rs = 0 ∧ cntB tc rc false 0 = true ∧ 0 ≤ tc ∧ tc ≤ 255 ∧ 0 ≤ rc ∧ rc ≤ 255 := by
  subst ho
  have h' := h
  unfold cntB at h
  rw [if_neg (by decide)] at h
  have := of_decide_eq_true h
  refine ⟨this.2.2.2.2, ?_, this.1, this.2.1, this.2.2.1, this.2.2.2.1⟩
  rw [← this.2.2.2.2]; exact h'
theorem cnt_off {tc rc rs : Int} {off : Bool} (h : cntB tc rc off rs = true) (ho : off = true) : tc = 0 ∧ rc = 0 ∧ 1 ≤ rs ∧ rs ≤ 128 := by
  subst ho
  unfold cntB at h
  rw [if_pos rfl] at h
  exact of_decide_eq_true h
theorem cntRc_bd {what rc : Int} (h0 : 0 ≤ rc) (h1 : rc ≤ 255) : 0 ≤ cntRc what rc ∧ cntRc what rc ≤ 255 := by unfold cntRc; split <;> (try split) <;> (try split) <;> omega
theorem cntTc_bd {what tc : Int} (h0 : 0 ≤ tc) : 0 ≤ cntTc what tc := by unfold cntTc; split <;> (try split) <;> omega
/-- One that is not off counts: it may be counted so; off or not. -/
theorem count_ok {c : Cl} (what : Int) (h : c.Base) (ho : c.off = false) : (c.count what).Base ∧ (c.count what).st = c.st ∧ (c.count what).n = c.n := by
  obtain ⟨h1, h2, h3, h4, h5, h6⟩ := cnt_on h.cnt ho
  unfold Cl.count
  split
  · exact ⟨⟨(by decide : cntB 0 0 true 128 = true), h.has, h.hasn⟩, rfl, rfl⟩
  · rename_i hh
    refine ⟨⟨?_, h.has, h.hasn⟩, rfl, rfl⟩
    show cntB (cntTc what c.tc) (cntRc what c.rc) c.off c.rs = true
    rw [ho, h1]
    have := cntRc_bd (what := what) h5 h6
    have := cntTc_bd (what := what) h3
    unfold cntB
    rw [if_neg (by decide)]
    exact decide_eq_true ⟨this, by omega, by omega, by omega, rfl⟩
theorem count_rest {c : Cl} (what : Int) : (c.count what).sends = c.sends ∧ (c.count what).f = c.f ∧ (c.count what).has = c.has ∧ (c.count what).was = c.was := by
  unfold Cl.count
  split <;> exact ⟨rfl, rfl, rfl, rfl⟩
/-- Out of any frame. -/
theorem ok_to {c : Cl} (h : c.Base) (s : Int) (h0 : 0 ≤ s) (h8 : s ≤ 8) (h2 : s ≠ 2) (h5 : s ≠ 5) (ho : c.off = (s == 8)) : (c.to s).Ok :=
  ⟨h.cnt, ho, h.has, h.hasn, h0, h8, Int.le_refl 0, by show (0 : Int) ≤ topN s; unfold topN; repeat' split
                                                       all_goals omega, (fun e => absurd e h5), fun _ => to_out c s, fun e => absurd e h2⟩
theorem stOf_off {tc rc : Int} {off : Bool} : stOf tc rc off = 3 ↔ off = true := by
  unfold stOf
  cases off
  · rw [if_neg (by decide)]
    split <;> simp
  · simp
theorem ok_hard {c : Cl} (b : Bool) (h : c.Ok) : ({ c with hard := b } : Cl).Ok := ⟨h.cnt, h.offs, h.has, h.hasn, h.s0, h.s8, h.n0, h.n9, h.n5, fun e => h.out e, fun e => by
  obtain ⟨a1, a2, a3, a4, a5, a6, a7, a8, a9, b1, b2, b3, b4, b6, b7⟩ := h.inn e
  exact ⟨a1, a2, a3, a4, a5, a6, a7, a8, a9, b1, b2, b3, b4, b6, b7⟩⟩
theorem ok_failS {d : Cl} (h : d.Base) : d.failS.Ok := by
  unfold Cl.failS
  by_cases h3 : stOf d.tc d.rc d.off = 3
  · rw [if_pos h3]
    exact ok_to h 8 (by decide) (by decide) (by decide) (by decide) (by rw [stOf_off.1 h3]; rfl)
  · rw [if_neg h3]
    refine ok_hard _ (ok_to h 3 (by decide) (by decide) (by decide) (by decide) ?_)
    cases ho : d.off
    · rfl
    · exact absurd (stOf_off.2 ho) h3
theorem ok_fail {c : Cl} (h : c.Base) (ho : c.off = false) (bad : Int) : (c.fail bad).Ok := by
  unfold Cl.fail Cl.failC
  refine ok_failS ?_
  split
  · exact ⟨h.cnt, h.has, h.hasn⟩
  · exact (count_ok (c := { c with was := c.sends }) _ ⟨h.cnt, h.has, h.hasn⟩ ho).1
theorem ok_begin0 {c : Cl} (h : c.Base) (ho : c.off = false) : c.begin0.Ok :=
  ⟨h.cnt, ho, h.has, h.hasn, (by decide : (0 : Int) ≤ 2), (by decide : (2 : Int) ≤ 8), Int.le_refl 0, (by decide : (0 : Int) ≤ topN 2), (fun e => by cases e), (fun e => absurd rfl e), fun _ =>
    ⟨rfl, rfl, .inr ⟨.inl rfl, (by decide : 1 ≤ 1), (by decide : 1 ≤ 5)⟩, (by decide : 1 ≤ 1), (by decide : ∀ x ∈ ([48] : List UInt8), x = 48 ∨ x = 49), rfl, (by decide : sizeE [48] ≠ 12), (fun e => absurd e (by decide : ¬ sizeE [48] = 0)), (by decide : false = doneB [48] 1), rfl, (by decide : (0 : Int) ≤ 0), (by decide : (0 : Int) ≤ 9), fun _ => rfl, fun _ => ⟨rfl, rfl⟩, (fun e => by cases e)⟩⟩
theorem rs_one (f : Fr) : rsOf ((bodyF f).take 1) = ⟨48, 1, [48]⟩ := by
  obtain ⟨m, h⟩ := FP.body_first f
  rw [h]
  rfl
theorem ok_begin1 {c : Cl} (h : c.Base) (ho : c.off = false) (hh : c.has = true) : c.begin1.Ok :=
  ⟨h.cnt, ho, h.has, h.hasn, (by decide : (0 : Int) ≤ 2), (by decide : (2 : Int) ≤ 8), Int.le_refl 0, (by decide : (0 : Int) ≤ topN 2), (fun e => by cases e), (fun e => absurd rfl e), fun _ =>
    ⟨rfl, rfl, .inr ⟨.inl rfl, (by decide : 1 ≤ 1), (by decide : 1 ≤ 5)⟩, (by decide : 1 ≤ 1), (by decide : ∀ x ∈ ([48] : List UInt8), x = 48 ∨ x = 49), rfl, (by decide : sizeE [48] ≠ 12), (fun e => absurd e (by decide : ¬ sizeE [48] = 0)), (by decide : false = doneB [48] 1), rfl, (by decide : (0 : Int) ≤ 0), (by decide : (0 : Int) ≤ 9), fun _ => rfl, (fun e => by cases e), fun _ =>
      ⟨hh, rfl, (fun e => by cases e), fun _ => ⟨(by decide : (1 : Int) ≤ 1), by have := FP.body_ge (h.has hh); show (1 : Int) < (bodyF c.f).length; omega⟩, rs_one c.f⟩⟩⟩
end Go.Proofs.YthkilodnghiocaaGreatDoor
