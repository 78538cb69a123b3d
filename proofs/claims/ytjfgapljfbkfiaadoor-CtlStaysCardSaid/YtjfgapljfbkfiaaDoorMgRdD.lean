/- The walks of stuff.Right, stuff.Step. -/
import Derived.Test.YtjfgapljfbkfiaaDoorRdA
import Derived.Test.YtjfgapljfbkfiaaDoorMgFbA
import Derived.Test.YtjfgapljfbkfiaaDoorMgFrPlain
import Derived.Lib.Strings
namespace Go.Proofs.YtjfgapljfbkfiaaDoor
open Go.ChangeShapes Go.WideShapes Go.ChangeAt Go.RowKit
open FP (uN uK stuffedF doneB badB sizeE sizeV SR)

/-- What stuffing may know. -/
def StK (last : UInt8) (n : Nat) : Prop := (n = 0 ∧ last = 0) ∨ ((last = 48 ∨ last = 49) ∧ 1 ≤ n ∧ n ≤ 5)
theorem StK.le {last : UInt8} {n : Nat} (h : StK last n) : n ≤ 5 := by rcases h with h | h <;> omega
theorem StK.step {last : UInt8} {n : Nat} (h : StK last n) {c : UInt8} (hc : c = 48 ∨ c = 49) : StK c (uN last n c) := by
  have := FP.uN_le (last := last) h.le c
  exact .inr ⟨hc, this.1, this.2⟩

set_option maxRecDepth 100000 in
theorem stBit_any (c : UInt8) (w : World) (hc : c = 48 ∨ c = 49) : Calls Tryd.prog 46 #[.int .u8 c.toNat] w fun e w' => e = .returned (.bool true) ∧ w = w' := by
  rcases hc with rfl | rfl
  all_goals
    go_enter Tryd.func46, Tryd.ntmps46
    go_wp2
    go_ret
    exact ⟨rfl, rfl⟩

set_option maxRecDepth 100000 in
set_option maxHeartbeats 1000000 in
theorem stRight_any (last : UInt8) (n : Nat) (w : World) (h : StK last n) : Calls Tryd.prog 33 #[.agg #[.int .u8 last.toNat, .int .i64 n]] w fun e w' => e = .returned (.bool true) ∧ Below w.heap.size w w' := by
  have q0 : Below w.heap.size w (w.alloc (.cells #[.int .u8 last.toNat, .int .i64 n] 32)) := (Below.refl _ _).alloc (Nat.le_refl _) _
  have BB := hide (fun c W hc => stBit_any c W hc)
  rcases h with ⟨rfl, rfl⟩ | ⟨hl, h1, h5⟩
  · clear BB
    go_enter Tryd.func33, Tryd.ntmps33
    go_wp2
    go_ret
    exact ⟨rfl, q0⟩
  · have e0 : ((last.toNat : Int) == 0) = false := by rcases hl with rfl | rfl <;> decide
    have B1 := hide (fun W => BB.out last W hl)
    have h1' : decide ((1 : Int) ≤ n) = true := decide_eq_true (by omega)
    have h5' : decide ((n : Int) ≤ 5) = true := decide_eq_true (by omega)
    clear BB hl
    go_enter Tryd.func33, Tryd.ntmps33
    go_wp2_with fail
    refine (B1.out _).mono ?_
    rintro e1 w1 ⟨rfl, rfl⟩
    go_wp2
    go_ret
    exact ⟨rfl, q0⟩

set_option maxRecDepth 100000 in
set_option maxHeartbeats 1000000 in
theorem stStep_any (last : UInt8) (n : Nat) (c : UInt8) (w : World) (h : StK last n) (hc : c = 48 ∨ c = 49) :
    Calls Tryd.prog 52 #[.agg #[.int .u8 last.toNat, .int .i64 n], .int .u8 c.toNat] w fun e w' => e = .returned (.tuple #[.agg #[.int .u8 c.toNat, .int .i64 (uN last n c : Nat)], .int .i64 (uK last n c : Nat), .int .i64 0]) ∧ Below w.heap.size w w' := by
  have RT := hide (fun W => stRight_any last n W h)
  have BB := hide (fun W => stBit_any c W hc)
  have hn := h.le
  have ST := hide (fun b W hW => step_any b last n c hn W hW)
  have q0 : Below w.heap.size w ((w.alloc (.cells #[.int .u8 last.toNat, .int .i64 n] 32)).alloc (.cells #[.int .u8 0, .int .i64 0] 32)) := ((Below.refl _ _).alloc (Nat.le_refl _) _).alloc (by simp) _
  have B0 := hide (show ((w.alloc (.cells #[.int .u8 last.toNat, .int .i64 n] 32)).alloc (.cells #[.int .u8 0, .int .i64 0] 32)).heap[w.heap.size + 1]? = some (.cells #[.int .u8 0, .int .i64 0] 32 (0, 0)) from (two_new _ _ _).2)
  have B1 := hide (show ((w.alloc (.cells #[.int .u8 last.toNat, .int .i64 n] 32)).alloc (.cells #[.int .u8 0, .int .i64 0] 32)).heap[w.heap.size]? = some (.cells #[.int .u8 last.toNat, .int .i64 n] 32 (0, 0)) from (two_new _ _ _).1)
  clear h hc
  go_enter Tryd.func52, Tryd.ntmps52
  go_wp2_with fail
  refine (RT.out _).mono ?_
  rintro e1 w1 ⟨rfl, q1⟩
  have Q1 := hide (below_next q0 q0.size q1)
  have C0 := hide (heap_below B0.out q1)
  have C1 := hide (heap_below B1.out q1)
  clear q0 q1 B0 B1
  go_wp2_with fail
  refine (BB.out _).mono ?_
  rintro e2 w2 ⟨rfl, rfl⟩
  obtain ⟨x0, x1, _⟩ := two_st C1.out
  go_wp2_with fail
  have hz1 : w.heap.size + 1 < w1.heap.size := heap_lt C0.out
  have al := (Below.refl w1.heap.size w1).alloc (Nat.le_refl _) (.cells #[.int .u8 last.toNat, .int .i64 n] 114)
  have C2 := hide (heap_below C0.out al)
  have Q2 := hide (below_next Q1.out Q1.out.size al)
  have S2 := hide (World.alloc_heap_new w1 (.cells #[.int .u8 last.toNat, .int .i64 n] 114))
  clear al x0 x1 C0 C1 Q1
  refine (ST.out _ _ S2.out).mono ?_
  rintro e3 w3 ⟨rfl, h3, g3⟩
  have C3 := hide (heap_grownB C2.out g3 (by simp; omega))
  have Q3 := hide (Q2.out.grown g3 Q2.out.size (fun k hk => by simp at hk; omega))
  obtain ⟨y0, y1, _⟩ := two_st h3
  have hN : (stN last n c : Nat) = uN last n c := rfl
  have hK : (stK last n c : Nat) = uK last n c := rfl
  rw [hN] at y1
  rw [hK]
  clear h3 g3 C2 Q2 S2 ST hN hK
  go_wp2_with (refine wpList_store_hid (by rfl) 32 (.tmp 4) (.tmp 27) (by rfl) (w.heap.size + 1) 0 [.int .u8 c.toNat, .int .i64 (uN last n c : Nat)] (by rfl) (by rfl) (by exact (show w3.there (w.heap.size + 1) 0 2 from there_heap (cs := [_, _]) C3.out)) (by kernel_rfl) (by simp [Value.oneCell']) ?_)
  intro W4 e4
  have C4 := whole_heap [.int .u8 c.toNat, .int .i64 (uN last n c : Nat)] (xs := [_, _]) C3.out rfl
  have Q4 := Q3.out.trans (below_setCells (g := w.heap.size + 1) [.int .u8 c.toNat, .int .i64 (uN last n c : Nat)] 0 _ (by omega))
  rw [← e4.out] at C4 Q4
  clear e4 C3 Q3 y0 y1
  obtain ⟨z0, z1, _⟩ := two_st C4
  have QQ := hide Q4
  clear C4 Q4
  go_wp2
  refine bodyPost_ret (v := .tuple #[.agg #[.int .u8 c.toNat, .int .i64 (uN last n c : Nat)], .int .i64 (uK last n c : Nat), .int .i64 0]) (by simp [results, Tryd.results52, go_sem, z0, z1]) rfl ⟨rfl, QQ.out⟩
end Go.Proofs.YtjfgapljfbkfiaaDoor

/- The walks of package prio: of, field, Less, well. -/
namespace Go.Proofs.YtjfgapljfbkfiaaDoor
open Go.ChangeShapes Go.WideShapes Go.ChangeAt Go.RowKit
open FP (bit bitsOf Fr bitB)

def fieldF (f : Fr) : List UInt8 := if f.ext then (bitsOf f.id 29).take 11 ++ [49, 49] ++ (bitsOf f.id 29).drop 11 ++ [bitB f.rem] else bitsOf f.id 11 ++ [bitB f.rem] ++ [48]
def lessB (f g : Fr) : Bool := FP.rightB f && FP.rightB g && Op.bytesLess (fieldF f) (fieldF g)

set_option maxRecDepth 100000 in
theorem prOf_any (N K : Int) (n k : Nat) (hN : N = n) (hK : K = k) (hk : k ≤ 64) (hn : n < 2 ^ k) (h32 : n < 4294967296) (w : World) :
    Calls Tryd.prog 91 #[.int .u32 N, .int .i64 K] w fun e w' => e = .returned (.string ⟨(bitsOf n k).toArray⟩) ∧ Below w.heap.size w w' := by
  subst hN
  subst hK
  have O := hide (bitsOf_any n k w hk hn)
  have wn : IntKind.u64.wrap (n : Int) = (n : Int) := IntWalk.u64_in _ (by omega)
  go_enter Tryd.func91, Tryd.ntmps91
  go_wp2_with fail
  refine O.out.mono ?_
  rintro e w1 ⟨rfl, q⟩
  go_wp2
  go_ret
  exact ⟨rfl, q⟩

theorem str_cut (l : List UInt8) (a b : Nat) : (⟨l.toArray⟩ : ByteArray).extract a b = ⟨(l.extract a b).toArray⟩ := by
  rw [ByteArray.ext_iff]
  simp [ByteArray.data_extract]
theorem str_appP (l r : List UInt8) : (⟨l.toArray⟩ : ByteArray) ++ ⟨r.toArray⟩ = ⟨(l ++ r).toArray⟩ := by
  rw [ByteArray.ext_iff]
  simp

set_option maxRecDepth 100000 in
set_option maxHeartbeats 1000000 in
theorem field_any (f : Fr) (w : World) (hr : FP.rightB f = true) :
    Calls Tryd.prog 81 #[.agg #[.int .u32 f.id, .bool f.ext, .bool f.rem, .int .i64 f.dlc, .string f.data]] w fun e w' => e = .returned (.string ⟨(fieldF f).toArray⟩) ∧ Below w.heap.size w w' := by
  obtain ⟨id, ext, rem, dlc, data⟩ := f
  have hid : id < (if ext then 536870912 else 2048) := by simp [FP.rightB] at hr; exact hr.1.1.1
  clear hr
  dsimp only
  have q0 : Below w.heap.size w (w.alloc (.cells #[.int .u32 id, .bool ext, .bool rem, .int .i64 dlc, .string data] 30)) := (Below.refl _ _).alloc (Nat.le_refl _) _
  cases ext
  · have hid' : id < 2048 := by simpa using hid
    clear hid
    have O := hide (fun W => prOf_any id 11 id 11 rfl rfl (by omega) (by omega) (by omega) W)
    have hl : (⟨(bitsOf id 11).toArray⟩ : ByteArray).size = 11 := by simp [ByteArray.size, FP.bitsOf_length]
    have hE : fieldF ⟨id, false, rem, dlc, data⟩ = bitsOf id 11 ++ [bitB rem] ++ [48] := rfl
    have HE := hide hE
    have SA := hide str_appP
    clear hE
    cases rem
    all_goals
      go_enter Tryd.func81, Tryd.ntmps81
      go_wp2_with fail
      refine (O.out _).mono ?_
      rintro e1 w1 ⟨rfl, q1⟩
      go_wp2
      go_ret
      refine ⟨?_, below_next q0 q0.size q1⟩
      rw [HE.out]
      simp [bitB, ByteArray.ext_iff]
      done
  · have hid' : id < 536870912 := by simpa using hid
    clear hid
    have O := hide (fun W => prOf_any id 29 id 29 rfl rfl (by omega) (by omega) (by omega) W)
    have hE : (⟨(fieldF ⟨id, true, rem, dlc, data⟩).toArray⟩ : ByteArray) = (⟨(bitsOf id 29).toArray⟩ : ByteArray).extract 0 11 ++ ⟨#[49, 49]⟩ ++ (⟨(bitsOf id 29).toArray⟩ : ByteArray).extract 11 29 ++ ⟨#[bitB rem]⟩ := by
      have e : fieldF ⟨id, true, rem, dlc, data⟩ = (bitsOf id 29).take 11 ++ [49, 49] ++ (bitsOf id 29).drop 11 ++ [bitB rem] := rfl
      rw [e, str_cut, str_cut, show (⟨#[49, 49]⟩ : ByteArray) = ⟨([49, 49] : List UInt8).toArray⟩ from rfl, show (⟨#[bitB rem]⟩ : ByteArray) = ⟨([bitB rem] : List UInt8).toArray⟩ from rfl, str_appP, str_appP, str_appP]
      simp only [List.extract_eq_take_drop, List.drop_zero]
      rw [show (29 - 11 : Nat) = (List.drop 11 (bitsOf id 29)).length by simp [FP.bitsOf_length], List.take_length]
    rw [hE]
    clear hE
    have hsz : (⟨(bitsOf id 29).toArray⟩ : ByteArray).size = 29 := by simp [ByteArray.size, FP.bitsOf_length]
    generalize (⟨(bitsOf id 29).toArray⟩ : ByteArray) = S at *
    have h11 : (11 : Int) ≤ (S.size : Int) := by omega
    have h11' : 11 ≤ S.size := by omega
    have h29 : S.size ≤ 29 := by omega
    have hx : S.extract 11 S.size = S.extract 11 29 := by rw [hsz]
    have x1 : (S.extract 0 11).size ≤ 29 := by rw [ByteArray.size_extract]; omega
    have x2 : (S.extract 11 29).size ≤ 29 := by rw [ByteArray.size_extract]; omega
    generalize S.extract 11 29 = T2 at *
    obtain ⟨T1, hT1⟩ : ∃ T, S.extract 0 11 = T := ⟨_, rfl⟩
    rw [hT1] at x1 ⊢
    clear hsz
    cases rem
    all_goals
      go_enter Tryd.func81, Tryd.ntmps81
      go_wp2_with fail
      refine (O.out _).mono ?_
      rintro e1 w1 ⟨rfl, q1⟩
      go_wp2_with fail
      go_quiet (fail)
      go_wp2
      go_ret
      exact ⟨rfl, below_drewN (below_next q0 q0.size q1) _⟩

theorem lessB_str (f g : Fr) (hf : FP.rightB f = true) (hg : FP.rightB g = true) : lessB f g = Op.bytesLess (⟨(fieldF f).toArray⟩ : ByteArray).toList (⟨(fieldF g).toArray⟩ : ByteArray).toList := by
  unfold lessB
  rw [hf, hg, Lib.toList_data, Lib.toList_data]
  rfl

def FrR (w : World) (B : Nat) (A : Option Addr) (l : List Fr) : Prop := Rd w B A 5 (l.map frc)
theorem FrR.at_ {w : World} {B : Nat} {A : Option Addr} {l : List Fr} (h : FrR w B A l) {k : Nat} (hk : k < l.length) :
    ∃ b off, A = some ⟨b, off, none⟩ ∧ b < B ∧ w.cell? ⟨b, off + k * 5, none⟩ = some (.int .u32 l[k].id) ∧ w.cell? ⟨b, off + k * 5 + 1, none⟩ = some (.bool l[k].ext) ∧ w.cell? ⟨b, off + k * 5 + 2, none⟩ = some (.bool l[k].rem) ∧
      w.cell? ⟨b, off + k * 5 + 3, none⟩ = some (.int .i64 l[k].dlc) ∧ w.cell? ⟨b, off + k * 5 + 4, none⟩ = some (.string l[k].data) := by
  obtain ⟨b, off, e, hb, hc⟩ := h (by rw [List.length_map]; omega)
  have hx : (l.map frc)[k]? = some (frc l[k]) := by simp [hk]
  exact ⟨b, off, e, hb, hc k _ 0 _ hx rfl, hc k _ 1 _ hx rfl, hc k _ 2 _ hx rfl, hc k _ 3 _ hx rfl, hc k _ 4 _ hx rfl⟩
theorem FrR.next {w w' : World} {B : Nat} {A : Option Addr} {l : List Fr} (h : FrR w B A l) (hb : Below B w w') (hB : B ≤ w'.heap.size) : FrR w' w'.heap.size A l := Rd.next h hb hB

def wellB (l : List Fr) : Bool := l.all FP.rightB

/-- The first place; -1: none. -/
def idxF (p : Fr → Bool) (l : List Fr) : Int := if l.all (fun f => !p f) then -1 else ((l.findIdx p : Nat) : Int)

theorem idxF_nonneg (p : Fr → Bool) (l : List Fr) : 0 ≤ idxF p l ↔ l.any p = true := by
  unfold idxF
  by_cases h : l.all (fun f => !p f) = true
  · rw [if_pos h]
    have : l.any p = false := by
      rw [List.any_eq_false]
      intro x hx
      have := List.all_eq_true.1 h x hx
      simpa using this
    simp [this]
  · rw [if_neg h]
    have h' : l.all (fun f => !p f) = false := by simpa using h
    obtain ⟨x, hx, hp⟩ := List.all_eq_false.1 h'
    have : l.any p = true := List.any_eq_true.2 ⟨x, hx, by simpa using hp⟩
    simp [this]

theorem well_not (l : List Fr) : (l.any fun f => !FP.rightB f) = !wellB l := by
  unfold wellB
  induction l with
  | nil => rfl
  | cons x l ih => simp only [List.any_cons, List.all_cons, ih]; cases FP.rightB x <;> simp

end Go.Proofs.YtjfgapljfbkfiaaDoor
