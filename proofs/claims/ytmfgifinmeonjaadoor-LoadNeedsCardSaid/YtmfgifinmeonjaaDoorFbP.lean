/- Plain: a frame's bits. -/
import Derived.Test.YtmfgifinmeonjaaDoorStP
import Derived.Test.YtmfgifinmeonjaaDoorCrP
namespace Go.Proofs.YtmfgifinmeonjaaDoor.FP

/-- A row with its sum; a frame's bits. -/
def sumF (l : List UInt8) : List UInt8 := l ++ bitsOf (crcOf l) 15
def tenF : List UInt8 := [49, 49, 49, 49, 49, 49, 49, 49, 49, 49]
def bitsF (f : Fr) : List UInt8 := stuffF (sumF (headF f)) ++ tenF

theorem bitB_bit (b : Bool) : bitB b = 48 ∨ bitB b = 49 := by cases b <;> decide
theorem head_bits (f : Fr) : ∀ c ∈ headF f, c = 48 ∨ c = 49 := by
  intro c hc
  unfold headF idPart dataPart at hc
  simp only [List.mem_cons, List.mem_append, List.mem_flatMap] at hc
  rcases hc with rfl | hc | rfl | rfl | rfl | hc | ⟨x, _, hc⟩
  · exact .inl rfl
  · split at hc
    · simp only [List.mem_cons, List.mem_append, List.not_mem_nil, or_false] at hc
      rcases hc with hc | (rfl | rfl) | hc
      · exact bitsOf_mem hc
      · exact .inr rfl
      · exact .inr rfl
      · exact bitsOf_mem hc
    · exact bitsOf_mem hc
  · exact bitB_bit _
  · exact .inl rfl
  · exact .inl rfl
  · exact bitsOf_mem hc
  · exact bitsOf_mem hc
theorem right_size {f : Fr} (h : rightB f = true) : f.data.size ≤ 8 ∧ 0 ≤ f.dlc ∧ f.dlc ≤ 8 ∧ f.id < 536870912 := by
  simp only [rightB, Bool.and_eq_true, decide_eq_true_eq] at h
  obtain ⟨⟨⟨h1, h2⟩, h3⟩, h4⟩ := h
  refine ⟨?_, h2, h3, ?_⟩
  · split at h4 <;> omega
  · split at h1 <;> omega
theorem head_le {f : Fr} (h : rightB f = true) : 19 ≤ (headF f).length ∧ (headF f).length ≤ 103 := by
  have := right_size h
  rw [head_length]
  split <;> omega
theorem sum_length (l : List UInt8) : (sumF l).length = l.length + 15 := by simp [sumF, bitsOf_length]
theorem sum_bits {l : List UInt8} (h : ∀ c ∈ l, c = 48 ∨ c = 49) : ∀ c ∈ sumF l, c = 48 ∨ c = 49 := by
  intro c hc
  unfold sumF at hc
  rw [List.mem_append] at hc
  exact hc.elim (h c) bitsOf_mem
theorem bits_len {f : Fr} (h : rightB f = true) : 34 ≤ (stuffF (sumF (headF f))).length ∧ (stuffF (sumF (headF f))).length ≤ (headF f).length + 15 + ((headF f).length + 14) / 4 ∧ (bitsF f).length = (stuffF (sumF (headF f))).length + 10 := by
  have h1 := stuff_len (sumF (headF f)) (sum_bits (head_bits f))
  have h2 := head_le h
  rw [sum_length] at h1
  refine ⟨by omega, by omega, by simp [bitsF, tenF]⟩
end Go.Proofs.YtmfgifinmeonjaaDoor.FP
