/- Plain mathematics of loads: what is needed within some bits, the least time that fits; nothing of the program. -/
namespace Go.Proofs.YtmfgifinmeonjaaDoor.LP

abbrev Ld := Int × Int

def mx : List Ld → Int
  | [] => 0
  | x :: l => max x.1 (mx l)

def ah (t : Int) : List Ld → Int
  | [] => 0
  | x :: l => (t + x.2 - 1) / x.2 * x.1 + ah t l

def okB (x : Ld) : Bool := decide (1 ≤ x.1 ∧ x.1 ≤ 200 ∧ 1 ≤ x.2 ∧ x.2 ≤ 1000000)
def Right (l : List Ld) : Prop := l.length ≤ 16 ∧ ∀ x ∈ l, okB x = true
def rightB (l : List Ld) : Bool := decide (l.length ≤ 16) && l.all okB

theorem right_iff {l : List Ld} : rightB l = true ↔ Right l := by
  simp [rightB, Right]

def needF (l : List Ld) (k : Nat) (t : Int) : Int := (l.getD k (0, 0)).1 + mx (l.drop (k + 1)) + ah t (l.take k)

theorem mx_nonneg (l : List Ld) (h : ∀ x ∈ l, okB x = true) : 0 ≤ mx l ∧ mx l ≤ 200 := by
  induction l with
  | nil => simp [mx]
  | cons x l ih =>
    have h1 := h x (by simp)
    have h2 := ih (fun y hy => h y (by simp [hy]))
    simp only [okB, decide_eq_true_eq] at h1
    simp only [mx]
    omega

theorem step_mono (t s e b : Int) (he : 1 ≤ e) (hb : 1 ≤ b) (h : t ≤ s) : (t + e - 1) / e * b ≤ (s + e - 1) / e * b := by
  apply Int.mul_le_mul_of_nonneg_right _ (by omega)
  exact Int.ediv_le_ediv (by omega) (by omega)

theorem step_pos (t e b : Int) (he : 1 ≤ e) (hb : 1 ≤ b) (h : 1 ≤ t) : 0 ≤ (t + e - 1) / e * b :=
  Int.mul_nonneg (Int.ediv_nonneg (by omega) (by omega)) (by omega)

theorem step_le (t e b : Int) (he : 1 ≤ e) (hb : 1 ≤ b) (hb2 : b ≤ 200) (h : 1 ≤ t) : (t + e - 1) / e * b ≤ t * 200 := by
  have h1 : (t + e - 1) / e ≤ t := by
    have h2 : (t + e - 1) ≤ t * e := by
      have h4 : 0 ≤ (t - 1) * (e - 1) := Int.mul_nonneg (by omega) (by omega)
      have h5 : (t - 1) * (e - 1) = t * e - t - e + 1 := by rw [Int.sub_mul, Int.mul_sub, Int.mul_sub]; omega
      omega
    have h6 : (t + e - 1) / e ≤ (t * e) / e := Int.ediv_le_ediv (by omega) h2
    rwa [Int.mul_ediv_cancel _ (by omega)] at h6
  have h7 : 0 ≤ (t + e - 1) / e := Int.ediv_nonneg (by omega) (by omega)
  calc (t + e - 1) / e * b ≤ t * b := Int.mul_le_mul_of_nonneg_right h1 (by omega)
    _ ≤ t * 200 := Int.mul_le_mul_of_nonneg_left hb2 (by omega)

theorem ah_mono (l : List Ld) (h : ∀ x ∈ l, okB x = true) (t s : Int) (hts : t ≤ s) : ah t l ≤ ah s l := by
  induction l with
  | nil => simp [ah]
  | cons x l ih =>
    have h1 := h x (by simp)
    have h2 := ih (fun y hy => h y (by simp [hy]))
    simp only [okB, decide_eq_true_eq] at h1
    have h3 := step_mono t s x.2 x.1 (by omega) (by omega) hts
    simp only [ah]
    omega

theorem ah_bd (l : List Ld) (h : ∀ x ∈ l, okB x = true) (t : Int) (ht : 1 ≤ t) : 0 ≤ ah t l ∧ ah t l ≤ l.length * (t * 200) := by
  induction l with
  | nil => simp [ah]
  | cons x l ih =>
    have h1 := h x (by simp)
    have h2 := ih (fun y hy => h y (by simp [hy]))
    simp only [okB, decide_eq_true_eq] at h1
    have h3 := step_pos t x.2 x.1 (by omega) (by omega) ht
    have h4 := step_le t x.2 x.1 (by omega) (by omega) (by omega) ht
    have h5 : ((l.length + 1 : Nat) : Int) * (t * 200) = l.length * (t * 200) + t * 200 := by
      rw [Int.natCast_add, Int.add_mul]; simp
    simp only [ah, List.length_cons]
    omega

theorem getD_mem {l : List Ld} {k : Nat} (hk : k < l.length) : l.getD k (0, 0) ∈ l := by
  rw [List.getD_eq_getElem?_getD, List.getElem?_eq_getElem hk]; exact List.getElem_mem hk

theorem need_mono {l : List Ld} (h : Right l) (k : Nat) (t s : Int) (hts : t ≤ s) : needF l k t ≤ needF l k s := by
  have := ah_mono (l.take k) (fun x hx => h.2 x (List.mem_of_mem_take hx)) t s hts
  unfold needF; omega

theorem need_bd {l : List Ld} (h : Right l) {k : Nat} (hk : k < l.length) (t : Int) (ht : 1 ≤ t) : 1 ≤ needF l k t ∧ needF l k t ≤ 400 + 3200 * t := by
  have h1 := h.2 _ (getD_mem hk)
  have h2 := mx_nonneg (l.drop (k + 1)) (fun x hx => h.2 x (List.mem_of_mem_drop hx))
  have h3 := ah_bd (l.take k) (fun x hx => h.2 x (List.mem_of_mem_take hx)) t ht
  simp only [okB, decide_eq_true_eq] at h1
  have h4 : ((l.take k).length : Int) * (t * 200) ≤ 16 * (t * 200) := by
    apply Int.mul_le_mul_of_nonneg_right _ (by omega)
    have := h.1; rw [List.length_take]; omega
  unfold needF; omega

/-- n is the answer of 'late': 0 where nothing within 1000000 is enough, else the least that is. -/
def LateIs (l : List Ld) (k : Nat) (n : Int) : Prop :=
  (n = 0 ∧ ∀ m, 1 ≤ m → m ≤ 1000000 → m < needF l k m) ∨ (1 ≤ n ∧ n ≤ 1000000 ∧ needF l k n ≤ n ∧ ∀ m, 1 ≤ m → m < n → m < needF l k m)

theorem LateIs.uniq {l : List Ld} {k : Nat} {a b : Int} (ha : LateIs l k a) (hb : LateIs l k b) : a = b := by
  rcases ha with ⟨a1, a2⟩ | ⟨a1, a2, a3, a4⟩ <;> rcases hb with ⟨b1, b2⟩ | ⟨b1, b2, b3, b4⟩
  · omega
  · have := a2 b b1 b2; omega
  · have := b2 a a1 a2; omega
  · rcases Int.lt_trichotomy a b with h | h | h
    · have := b4 a a1 h; omega
    · exact h
    · have := a4 b b1 h; omega

/-- The search, with fuel: from n on. -/
def findL (l : List Ld) (k : Nat) : Nat → Int → Int
  | 0, _ => 0
  | f + 1, n => if n ≤ 1000000 then (if needF l k n ≤ n then n else findL l k f (n + 1)) else 0

def lateF (l : List Ld) (k : Nat) : Int := findL l k 1000001 1

theorem findL_is {l : List Ld} {k : Nat} : ∀ (f : Nat) (n : Int), 1 ≤ n → 1000001 ≤ n + f → (∀ m, 1 ≤ m → m < n → m < needF l k m) → LateIs l k (findL l k f n)
  | 0, n, h1, h2, h3 => by
    unfold findL
    exact .inl ⟨rfl, fun m a b => h3 m a (by omega)⟩
  | f + 1, n, h1, h2, h3 => by
    unfold findL
    by_cases hn : n ≤ 1000000
    · rw [if_pos hn]
      by_cases hd : needF l k n ≤ n
      · rw [if_pos hd]; exact .inr ⟨h1, hn, hd, h3⟩
      · rw [if_neg hd]
        refine findL_is f (n + 1) (by omega) (by omega) (fun m a b => ?_)
        by_cases e : m = n
        · subst e; omega
        · exact h3 m a (by omega)
    · rw [if_neg hn]
      exact .inl ⟨rfl, fun m a b => h3 m a (by omega)⟩

theorem lateF_is (l : List Ld) (k : Nat) : LateIs l k (lateF l k) :=
  findL_is _ _ (by omega) (by omega) (fun m a b => by omega)

theorem lateF_bd (l : List Ld) (k : Nat) : 0 ≤ lateF l k ∧ lateF l k ≤ 1000000 := by
  rcases lateF_is l k with ⟨h, _⟩ | ⟨h1, h2, _⟩ <;> omega

theorem lateF_eq {l : List Ld} {k : Nat} {n : Int} (h : LateIs l k n) : lateF l k = n := (lateF_is l k).uniq h

/-- One round of the program's loop. -/
theorem round_inv {l : List Ld} (h : Right l) {k : Nat} {n : Int} (hinv : ∀ m, 1 ≤ m → m < n → m < needF l k m) :
    ∀ m, 1 ≤ m → m < needF l k n → m < needF l k m := fun m a b => by
  by_cases hm : m < n
  · exact hinv m a hm
  · have := need_mono h k n m (by omega); omega

/-- Within just as many bits as one is late just that many are needed. -/
theorem need_late {l : List Ld} (h : Right l) {k : Nat} (hk : k < l.length) (hp : lateF l k ≠ 0) : needF l k (lateF l k) = lateF l k := by
  rcases lateF_is l k with ⟨e, _⟩ | ⟨h1, _, h3, h4⟩
  · exact absurd e hp
  · by_cases e : lateF l k = 1
    · have := (need_bd h hk (lateF l k) h1).1; omega
    · have a := h4 (lateF l k - 1) (by omega) (by omega)
      have b := need_mono h k (lateF l k - 1) (lateF l k) (by omega)
      omega

theorem need_less {l : List Ld} {k : Nat} {m : Int} (h1 : 1 ≤ m) (h2 : m < lateF l k) : m < needF l k m := by
  rcases lateF_is l k with ⟨e, _⟩ | ⟨_, _, _, h4⟩
  · omega
  · exact h4 m h1 h2

/-- Where more is needed at every time, one is later (or never). -/
theorem late_mono {l l' : List Ld} {k k' : Nat} (h : ∀ m, 1 ≤ m → needF l k m ≤ needF l' k' m) (hp : lateF l' k' ≠ 0) :
    1 ≤ lateF l k ∧ lateF l k ≤ lateF l' k' := by
  rcases lateF_is l' k' with ⟨e, _⟩ | ⟨a1, a2, a3, _⟩
  · exact absurd e hp
  · have := h _ a1
    rcases lateF_is l k with ⟨e, h0⟩ | ⟨b1, b2, b3, b4⟩
    · have := h0 _ a1 a2; omega
    · refine ⟨b1, ?_⟩
      by_cases c : lateF l' k' < lateF l k
      · have := b4 _ a1 c; omega
      · omega

theorem late_congr {l l' : List Ld} {k k' : Nat} (h : ∀ m, 1 ≤ m → needF l k m = needF l' k' m) : lateF l k = lateF l' k' := by
  apply lateF_eq
  rcases lateF_is l' k' with ⟨e, h0⟩ | ⟨a1, a2, a3, a4⟩
  · exact .inl ⟨e, fun m a b => by rw [h m a]; exact h0 m a b⟩
  · exact .inr ⟨a1, a2, by rw [h _ a1]; exact a3, fun m a b => by rw [h m a]; exact a4 m a b⟩

theorem mx_snoc (l : List Ld) (h : ∀ x ∈ l, okB x = true) (x : Ld) (hx : 0 ≤ x.1) : mx (l ++ [x]) = max (mx l) x.1 := by
  induction l with
  | nil => simp [mx]; omega
  | cons y l ih => have := ih (fun z hz => h z (by simp [hz])); simp only [List.cons_append, mx, this]; omega

theorem mx_ge {l : List Ld} {y : Ld} (h : y ∈ l) : y.1 ≤ mx l := by
  induction l with
  | nil => cases h
  | cons z l ih =>
    simp only [mx]
    rcases List.mem_cons.1 h with rfl | h
    · omega
    · have := ih h; omega

theorem ah_append (t : Int) (l r : List Ld) : ah t (l ++ r) = ah t l + ah t r := by
  induction l with
  | nil => simp [ah]
  | cons x l ih => simp only [List.cons_append, ah, ih]; omega

/-- A load ahead. -/
theorem need_ahead {l : List Ld} {x : Ld} (hx : okB x = true) (k : Nat) (m : Int) (hm : 1 ≤ m) : needF l k m ≤ needF (x :: l) (k + 1) m := by
  simp only [okB, decide_eq_true_eq] at hx
  have := step_pos m x.2 x.1 (by omega) (by omega) hm
  have e : (x :: l).getD (k + 1) (0, 0) = l.getD k (0, 0) := by simp
  unfold needF
  rw [e, List.take_succ_cons, List.drop_succ_cons]
  simp only [ah]
  omega

/-- A load behind. -/
theorem need_behind {l : List Ld} (h : ∀ y ∈ l, okB y = true) {x : Ld} (hx : okB x = true) {k : Nat} (hk : k < l.length) (m : Int) :
    needF (l ++ [x]) k m = (l.getD k (0, 0)).1 + max (mx (l.drop (k + 1))) x.1 + ah m (l.take k) := by
  simp only [okB, decide_eq_true_eq] at hx
  unfold needF
  rw [List.take_append_of_le_length (by omega), List.drop_append_of_le_length (by omega), mx_snoc _ (fun y hy => h y (List.mem_of_mem_drop hy)) x (by omega)]
  have e : (l ++ [x]).getD k (0, 0) = l.getD k (0, 0) := by
    rw [List.getD_eq_getElem?_getD, List.getD_eq_getElem?_getD, List.getElem?_append_left hk]
  rw [e]

theorem late_ahead {l : List Ld} {x : Ld} (hx : okB x = true) (k : Nat) (hp : lateF (x :: l) (k + 1) ≠ 0) : lateF l k ≤ lateF (x :: l) (k + 1) :=
  (late_mono (fun m hm => need_ahead hx k m hm) hp).2

theorem late_behind {l : List Ld} (h : ∀ y ∈ l, okB y = true) {x : Ld} (hx : okB x = true) {k : Nat} (hk : k < l.length) (hp : lateF (l ++ [x]) k ≠ 0) : lateF l k ≤ lateF (l ++ [x]) k :=
  (late_mono (fun m hm => by rw [need_behind h hx hk]; unfold needF; omega) hp).2

theorem late_same {l : List Ld} (h : ∀ y ∈ l, okB y = true) {x : Ld} (hx : okB x = true) {k : Nat} (hk : k < l.length) {y : Ld} (hy : y ∈ l.drop (k + 1)) (hyx : x.1 ≤ y.1) : lateF (l ++ [x]) k = lateF l k :=
  late_congr (fun m hm => by have := mx_ge hy; rw [need_behind h hx hk]; unfold needF; omega)

end Go.Proofs.YtmfgifinmeonjaaDoor.LP
