/- Plain: reading the bits of a frame: sizes, unstuffing, sums, what is parsed; nothing of the program. -/
import Derived.Test.YtjfgapljfbkfiaaDoorMgCrP
namespace Go.Proofs.YtjfgapljfbkfiaaDoor.FP

/-- How many bits a head has ahead of its bytes; whether its size is told (0), too short (3), none (12). -/
def fxN (l : List UInt8) : Nat := if l[13]? = some 49 then 39 else 19
def dlN (l : List UInt8) : Nat := numOf (l.extract (fxN l - 4) (fxN l))
def sizeE (l : List UInt8) : Nat := if l.length < 14 then 3 else if l.length < fxN l then 3 else if 8 < dlN l then 12 else 0
def sizeV (l : List UInt8) : Nat := if sizeE l = 0 then fxN l + 8 * (if l[fxN l - 7]? = some 49 then 0 else dlN l) else 0

theorem fxN_or (l : List UInt8) : fxN l = 19 ∨ fxN l = 39 := by unfold fxN; split <;> simp
theorem fxN_append {l r : List UInt8} (h : 14 ≤ l.length) : fxN (l ++ r) = fxN l := by
  unfold fxN; rw [List.getElem?_append_left (by omega)]
theorem extract_app {l r : List UInt8} {a b : Nat} (h : b ≤ l.length) : (l ++ r).extract a b = l.extract a b := by
  rw [List.extract_eq_take_drop, List.extract_eq_take_drop]
  by_cases hab : a ≤ l.length
  · rw [List.drop_append_of_le_length hab, List.take_append_of_le_length (by rw [List.length_drop]; omega)]
  · rw [show b - a = 0 by omega]; simp
theorem sizeE_long {l : List UInt8} (h : sizeE l = 0 ∨ sizeE l = 12) : fxN l ≤ l.length := by
  unfold sizeE at h
  split at h
  · omega
  · split at h <;> omega
theorem size_append {l : List UInt8} (r : List UInt8) (h : sizeE l = 0 ∨ sizeE l = 12) : sizeE (l ++ r) = sizeE l ∧ sizeV (l ++ r) = sizeV l := by
  have h1 := sizeE_long h
  have h2 := fxN_or l
  have e1 : fxN (l ++ r) = fxN l := fxN_append (by omega)
  have e2 : dlN (l ++ r) = dlN l := by unfold dlN; rw [e1, extract_app h1]
  have e3 : (l ++ r)[fxN l - 7]? = l[fxN l - 7]? := List.getElem?_append_left (by omega)
  have e4 : sizeE (l ++ r) = sizeE l := by
    unfold sizeE
    rw [e1, e2, List.length_append]
    rw [if_neg (show ¬ l.length + r.length < 14 by omega), if_neg (show ¬ l.length + r.length < fxN l by omega), if_neg (show ¬ l.length < 14 by omega), if_neg (show ¬ l.length < fxN l by omega)]
  refine ⟨e4, ?_⟩
  unfold sizeV
  rw [e4, e1, e2, e3]
theorem sizeV_bd (l : List UInt8) : sizeV l ≤ 103 := by
  unfold sizeV
  split
  · rename_i h
    have h2 := fxN_or l
    have : dlN l ≤ 8 := by
      unfold sizeE at h
      split at h
      · omega
      · split at h
        · omega
        · split at h <;> omega
    split <;> omega
  · omega
theorem sizeV_ge {l : List UInt8} (h : sizeE l = 0) : fxN l ≤ sizeV l ∧ (sizeV l - fxN l) % 8 = 0 := by
  unfold sizeV
  rw [if_pos h]
  omega

/-- A row of bytes, read from a place on. -/
def byteAt (l : List UInt8) (k j : Nat) : UInt8 := UInt8.ofNat (numOf (l.extract (k + 8 * j) (k + 8 * j + 8)))
def bytesF (l : List UInt8) (k n : Nat) : List UInt8 := (List.range n).map (byteAt l k)
theorem bytesF_len (l : List UInt8) (k n : Nat) : (bytesF l k n).length = n := by simp [bytesF]
theorem bytesF_succ (l : List UInt8) (k n : Nat) : bytesF l k (n + 1) = bytesF l k n ++ [byteAt l k n] := by simp [bytesF, List.range_succ]
def idF (l : List UInt8) : Nat := if fxN l = 39 then numOf (l.extract 1 12) * 262144 + numOf (l.extract 14 32) else numOf (l.extract 1 12)
/-- The frame whose head a row is, if it is one. -/
def rawF (l : List UInt8) : Fr := ⟨idF l, decide (fxN l = 39), decide (l[fxN l - 7]? = some 49), (dlN l : Int), ⟨(bytesF l (fxN l) ((l.length - fxN l) / 8)).toArray⟩⟩
def sizedB (l : List UInt8) : Bool := decide (sizeE l = 0) && decide (sizeV l = l.length)
def readB (l : List UInt8) : Bool := sizedB l && (rightB (rawF l) && decide (headF (rawF l) = l))
def fr0 : Fr := ⟨0, false, false, 0, ⟨#[]⟩⟩
/-- What is read: the frame, and how. -/
def readV (l : List UInt8) : Fr := if readB l then rawF l else fr0
def readE (l : List UInt8) : Nat := if readB l then 0 else 12
theorem read_yes {l : List UInt8} (h : readB l = true) : readV l = rawF l ∧ readE l = 0 := by unfold readV readE; rw [h]; exact ⟨rfl, rfl⟩
theorem read_not {l : List UInt8} (h : readB l = false) : readV l = fr0 ∧ readE l = 12 := by unfold readV readE; rw [h]; exact ⟨rfl, rfl⟩

/-- How many are equal behind one bit more, and what kind of bit it was. -/
def uN (last : UInt8) (n : Nat) (c : UInt8) : Nat := if n = 5 then (if c = last then 5 else 1) else if c = last then n + 1 else 1
def uK (last : UInt8) (n : Nat) (c : UInt8) : Nat := if n = 5 then (if c = last then 3 else 2) else 1
theorem uN_le {last : UInt8} {n : Nat} (h : n ≤ 5) (c : UInt8) : 1 ≤ uN last n c ∧ uN last n c ≤ 5 := by
  unfold uN; split
  · split <;> omega
  · split <;> omega
theorem uK_or (last : UInt8) (n : Nat) (c : UInt8) : uK last n c = 1 ∨ uK last n c = 2 ∨ uK last n c = 3 := by
  unfold uK; split
  · split <;> simp
  · simp

def doneB (bits : List UInt8) (n : Nat) : Bool := decide (sizeE bits = 0) && (decide (bits.length = sizeV bits + 15) && decide (n < 5))
structure SR where
  e : Nat
  bits : List UInt8
  n : Nat
/-- A step's bits, where it was data: no frame's. -/
def badB (bits : List UInt8) : Bool := decide (sizeE bits = 12) || decide (bits[0]? = some 49)
def stuffedF : List UInt8 → UInt8 → Nat → List UInt8 → Nat → SR
  | [], _, n, bits, k => if doneB bits n then ⟨0, bits, k⟩ else ⟨3, [], 0⟩
  | c :: rest, last, n, bits, k =>
    if doneB bits n then ⟨0, bits, k⟩ else
    if uK last n c = 3 then ⟨10, [], 0⟩ else
    if uK last n c = 2 then stuffedF rest c (uN last n c) bits (k + 1) else
    if badB (bits ++ [c]) then ⟨12, [], 0⟩ else stuffedF rest c (uN last n c) (bits ++ [c]) (k + 1)

theorem stuffed_done {bits : List UInt8} {n : Nat} (h : doneB bits n = true) (rest : List UInt8) (last : UInt8) (k : Nat) : stuffedF rest last n bits k = ⟨0, bits, k⟩ := by
  cases rest <;> (unfold stuffedF; rw [if_pos h])
theorem stuffed_nil {bits : List UInt8} {n : Nat} (h : doneB bits n = false) (last : UInt8) (k : Nat) : stuffedF [] last n bits k = ⟨3, [], 0⟩ := by
  unfold stuffedF; rw [h]; rfl
theorem stuffed_err {bits : List UInt8} {n : Nat} (h : doneB bits n = false) (c : UInt8) (rest : List UInt8) (last : UInt8) (k : Nat) (hk : uK last n c = 3) : stuffedF (c :: rest) last n bits k = ⟨10, [], 0⟩ := by
  conv => lhs; unfold stuffedF
  rw [h, if_neg (by simp), if_pos hk]
theorem stuffed_stuff {bits : List UInt8} {n : Nat} (h : doneB bits n = false) (c : UInt8) (rest : List UInt8) (last : UInt8) (k : Nat) (hk : uK last n c = 2) : stuffedF (c :: rest) last n bits k = stuffedF rest c (uN last n c) bits (k + 1) := by
  conv => lhs; unfold stuffedF
  rw [h, if_neg (by simp), if_neg (by omega), if_pos hk]
theorem stuffed_bad {bits : List UInt8} {n : Nat} (h : doneB bits n = false) (c : UInt8) (rest : List UInt8) (last : UInt8) (k : Nat) (hk : uK last n c = 1) (hb : badB (bits ++ [c]) = true) : stuffedF (c :: rest) last n bits k = ⟨12, [], 0⟩ := by
  conv => lhs; unfold stuffedF
  rw [h, if_neg (by simp), if_neg (by omega), if_neg (by omega), if_pos hb]
theorem stuffed_data {bits : List UInt8} {n : Nat} (h : doneB bits n = false) (c : UInt8) (rest : List UInt8) (last : UInt8) (k : Nat) (hk : uK last n c = 1) (hb : badB (bits ++ [c]) = false) : stuffedF (c :: rest) last n bits k = stuffedF rest c (uN last n c) (bits ++ [c]) (k + 1) := by
  conv => lhs; unfold stuffedF
  rw [h, if_neg (by simp), if_neg (by omega), if_neg (by omega), hb, if_neg (by simp)]

/-- The tail's bits from the i-th on, j of them: all there (0), too short (3), another one (12). -/
def tailE (s : List UInt8) (n : Nat) : Nat → Nat
  | 0 => 0
  | j + 1 => if s.length ≤ n + (9 - j) then 3 else if 9 - j ≠ 1 ∧ s[n + (9 - j)]? ≠ some 49 then 12 else tailE s n j
structure PR where
  e : Nat
  f : Fr
  n : Nat
def headOf (t : List UInt8) : List UInt8 := t.take (t.length - 15)
def parseF (s : List UInt8) : PR :=
  let r := stuffedF s 0 0 [] 0
  if r.e ≠ 0 then ⟨r.e, fr0, 0⟩ else
  if sumF (headOf r.bits) ≠ r.bits then ⟨11, fr0, 0⟩ else
  if tailE s r.n 10 ≠ 0 then ⟨tailE s r.n 10, fr0, 0⟩ else
  if readB (headOf r.bits) then ⟨0, rawF (headOf r.bits), r.n + 10⟩ else ⟨12, fr0, 0⟩
end Go.Proofs.YtjfgapljfbkfiaaDoor.FP
