/- The walks of package load: each of its functions answers what the plain words of LoadPlain say. -/
import Derived.Test.YtmfgifinmeonjaaDoorMem
import Derived.Test.YtmfgifinmeonjaaDoorLoadPlain
namespace Go.Proofs.YtmfgifinmeonjaaDoor
open Go.ChangeShapes Go.WideShapes Go.ChangeAt Go.RowKit
open LP (Ld okB rightB mx ah needF lateF)

def ldc (x : Ld) : List Value := [.int .i64 x.1, .int .i64 x.2]
def LdR (w : World) (B : Nat) (A : Option Addr) (l : List Ld) : Prop := Rd w B A 2 (l.map ldc)

theorem LdR.at_ {w : World} {B : Nat} {A : Option Addr} {l : List Ld} (h : LdR w B A l) {k : Nat} (hk : k < l.length) :
    ∃ b off, A = some ⟨b, off, none⟩ ∧ b < B ∧ w.cell? ⟨b, off + k * 2, none⟩ = some (.int .i64 l[k].1) ∧ w.cell? ⟨b, off + k * 2 + 1, none⟩ = some (.int .i64 l[k].2) := by
  obtain ⟨b, off, e, hb, hc⟩ := h (by rw [List.length_map]; omega)
  have hx : (l.map ldc)[k]? = some (ldc l[k]) := by simp [hk]
  exact ⟨b, off, e, hb, hc k _ 0 _ hx rfl, hc k _ 1 _ hx rfl⟩
theorem LdR.below {w w' : World} {B : Nat} {A : Option Addr} {l : List Ld} (h : LdR w B A l) (hb : Below B w w') : LdR w' B A l := Rd.below h hb
theorem LdR.next {w w' : World} {B : Nat} {A : Option Addr} {l : List Ld} (h : LdR w B A l) (hb : Below B w w') (hB : B ≤ w'.heap.size) : LdR w' w'.heap.size A l := Rd.next h hb hB
theorem LdR.take {w : World} {B : Nat} {A : Option Addr} {l : List Ld} (h : LdR w B A l) (n : Nat) : LdR w B A (l.take n) := by
  have := Rd.take h n
  rwa [← List.map_take] at this
theorem LdR.drop {w : World} {B : Nat} {A : Option Addr} {l : List Ld} (h : LdR w B A l) (n cap : Nat) (hcap : l.length ≤ cap) : LdR w B (if cap = n then A else A.map (·.add (n * 2))) (l.drop n) := by
  have := Rd.drop h n cap (by rwa [List.length_map])
  rwa [← List.map_drop] at this

theorem LdR.new (w : World) (l : List Ld) : LdR (w.alloc (.cells (l.map ldc).flatten.toArray 59)) (w.alloc (.cells (l.map ldc).flatten.toArray 59)).heap.size (some ⟨w.heap.size, 0, none⟩) l := by
  have := Rd.new w (l.map ldc) 2 59 (0, 0) (by intro r hr; obtain ⟨x, _, rfl⟩ := List.mem_map.1 hr; rfl)
  unfold LdR
  simpa using this

def badF (x : Ld) : Int := if okB x = true then 0 else 1
theorem bad_any (a b : Int) (w : World) :
    Calls Tryd.prog 44 #[.agg #[.int .i64 a, .int .i64 b]] w fun e w' => e = .returned (.int .i64 (badF (a, b))) ∧ Below w.heap.size w w' := by
  have hx : badF (a, b) = if 1 ≤ a ∧ a ≤ 200 ∧ 1 ≤ b ∧ b ≤ 1000000 then 0 else 1 := by simp [badF, okB]
  rw [hx]
  clear hx
  go_enter Tryd.func44, Tryd.ntmps44
  go_wp2
  all_goals
    go_ret
    exact ⟨rfl, (Below.refl _ _).alloc (Nat.le_refl _) _⟩

def stepF (t : Int) (x : Ld) : Int := (t + x.2 - 1) / x.2 * x.1
theorem ldStep_any (x : Ld) (t : Int) (w : World) (p : Nat) (hpl : p < w.heap.size) (hp : w.cell? ⟨p, 0, none⟩ = some (.int .i64 t)) (hx : okB x = true) (ht : 1 ≤ t) (ht2 : t ≤ 1000000) :
    Calls Tryd.prog 66 #[.agg #[.int .i64 x.1, .int .i64 x.2], .pointer (some ⟨p, 0, none⟩)] w fun e w' => e = .returned (.int .i64 (stepF t x)) ∧ Below w.heap.size w w' := by
  obtain ⟨a, b⟩ := x
  simp only [okB, decide_eq_true_eq] at hx
  obtain ⟨h1, h2, h3, h4⟩ := hx
  show Calls Tryd.prog 66 #[.agg #[.int .i64 a, .int .i64 b], .pointer (some ⟨p, 0, none⟩)] w fun e w' => e = .returned (.int .i64 ((t + b - 1) / b * a)) ∧ Below w.heap.size w w'
  have q0 : 0 ≤ (t + b - 1) / b := Int.ediv_nonneg (by omega) (by omega)
  have q1 : (t + b - 1) / b ≤ 1000000 := by
    apply Int.le_of_lt_add_one
    apply Int.ediv_lt_of_lt_mul (by omega)
    have : 0 ≤ (1000001 - t) * (b - 1) := Int.mul_nonneg (by omega) (by omega)
    rw [Int.sub_mul, Int.mul_sub, Int.mul_sub] at this
    have e : (1000000 + 1) * b = 1000001 * b := rfl
    have e2 : t * b ≥ t := by
      have : t * 1 ≤ t * b := Int.mul_le_mul_of_nonneg_left (by omega) (by omega)
      omega
    omega
  have q2 : 0 ≤ (t + b - 1) / b * a := Int.mul_nonneg q0 (by omega)
  have q3 : (t + b - 1) / b * a ≤ 200000000 := by
    have : (t + b - 1) / b * a ≤ 1000000 * 200 := Int.mul_le_mul q1 h2 (by omega) (by omega)
    omega
  go_enter Tryd.func66, Tryd.ntmps66
  go_wp2
  go_quiet (fail)
  go_wp2
  go_ret
  exact ⟨rfl, below_drewN ((Below.refl _ _).alloc (Nat.le_refl _) _) _⟩

def sumG (g : Ld → Int) : List Ld → Int
  | [] => 0
  | x :: l => g x + sumG g l
theorem sumG_append (g : Ld → Int) (l r : List Ld) : sumG g (l ++ r) = sumG g l + sumG g r := by
  induction l with
  | nil => simp [sumG]
  | cons x l ih => simp only [List.cons_append, sumG, ih]; omega

set_option maxRecDepth 100000 in
set_option maxHeartbeats 400000 in
theorem total_any (fid : Nat) (caps : Array Value) (g : Ld → Int) (l : List Ld) (A : Option Addr) (c : Nat) (w : World) (hr : LdR w w.heap.size A l) (hl : l.length ≤ 1000)
    (hcf : ∀ (args : Array Value) (w : World), (callFunc fid args).run Tryd.prog w = .ok (.enter fid args) w)
    (hg : Hid (∀ x ∈ l, ∀ w', Below w.heap.size w w' → Calls Tryd.prog fid (#[.agg #[.int .i64 x.1, .int .i64 x.2]] ++ caps) w' fun e w'' => e = .returned (.int .i64 (g x)) ∧ Below w'.heap.size w' w''))
    (hb : Hid (∀ k, -1000000000000 ≤ sumG g (l.take k) ∧ sumG g (l.take k) ≤ 1000000000000)) :
    Calls Tryd.prog 45 #[.slice A l.length c, .func (.func fid) #[] caps] w fun e w' => e = .returned (.int .i64 (sumG g l)) ∧ Below w.heap.size w w' := by
  go_enter Tryd.func45, Tryd.ntmps45
  go_wp2
  go_loopw [5, 10] (fun v i wr => ∃ k : Nat, k ≤ l.length ∧ i = .int .i64 k ∧ v = .int .i64 (sumG g (l.take k)) ∧ Below w.heap.size w wr) (fun _ i _ => l.length - (intOf i).toNat)
  case atStart => exact ⟨0, Nat.zero_le _, rfl, rfl, Below.refl _ _⟩
  case round =>
    obtain ⟨k, hk, rfl, rfl, hbl⟩ := hrel
    by_cases hlt : k < l.length
    · obtain ⟨b, off, rfl, hbs, h1, h2⟩ := hr.at_ hlt
      have h1' := cellBelow hbl hbs h1
      have h2' := cellBelow hbl hbs h2
      clear h1 h2
      have e : sumG g (l.take (k + 1)) = sumG g (l.take k) + g l[k] := by rw [List.take_succ_eq_append_getElem hlt, sumG_append]; simp [sumG]
      have b1 := hb.out k
      have b2 := hb.out (k + 1)
      rw [e] at b2
      have E := hide e
      clear e
      go_wp2_with fail
      refine (hg.out l[k] (List.getElem_mem hlt) _ ?_).mono ?_
      · exact hbl.alloc hbl.size _
      rintro e1 w1 ⟨rfl, hb1⟩
      have hb2 : Below w.heap.size w w1 := (hbl.alloc hbl.size _).trans (hb1.mono (by have := hbl.size; simp; omega))
      go_wp2
      go_roundw
      case rel => exact ⟨k + 1, by omega, by go_num, by rw [E.out], hb2⟩
      case measure => simp [intOf]; omega
    · have E := hide (show l.take k = l from List.take_of_length_le (by omega))
      go_wp2
      go_ret
      exact ⟨by show Ending.returned (.int .i64 (sumG g (l.take k))) = _; rw [E.out], hbl⟩

theorem sum_bad : ∀ l : List Ld, 0 ≤ sumG badF l ∧ sumG badF l ≤ l.length ∧ ((sumG badF l == 0) = l.all okB) := by
  intro l
  induction l with
  | nil => simp [sumG]
  | cons x l ih =>
    obtain ⟨h1, h2, h3⟩ := ih
    simp only [sumG, badF, List.length_cons, List.all_cons]
    by_cases hx : okB x = true
    · simp only [hx, if_true, Bool.true_and, Int.zero_add]; exact ⟨h1, by omega, h3⟩
    · have hx' : okB x = false := by simpa using hx
      simp only [hx', Bool.false_and]
      refine ⟨by simp; omega, by simp; omega, ?_⟩
      rw [beq_eq_false_iff_ne]; simp; omega

set_option maxRecDepth 100000 in
theorem right_any (l : List Ld) (A : Option Addr) (c : Nat) (w : World) (hr : LdR w w.heap.size A l) (hl : l.length ≤ 1000) :
    Calls Tryd.prog 24 #[.slice A l.length c] w fun e w' => e = .returned (.bool (rightB l)) ∧ Below w.heap.size w w' := by
  by_cases h16 : l.length ≤ 16
  · have H := hide (sum_bad l).2.2
    have hrb := hide (show rightB l = l.all okB by simp [rightB, h16])
    go_enter Tryd.func24, Tryd.ntmps24
    go_wp2_with fail
    refine (total_any 44 #[] badF l A c _ hr hl (fun _ _ => rfl) (hide (fun x _ w' _ => bad_any x.1 x.2 w')) (hide (fun k => ?_))).mono ?_
    · have := sum_bad (l.take k)
      rw [List.length_take] at this
      omega
    rintro e w1 ⟨rfl, hb⟩
    go_wp2
    go_ret
    exact ⟨by rw [hrb.out, ← H.out]; rfl, hb⟩
  · have hrb : rightB l = false := by simp [rightB, h16]
    go_enter Tryd.func24, Tryd.ntmps24
    go_wp2_with fail
    go_ret
    exact ⟨rfl, Below.refl _ _⟩

theorem mx_snoc' (l : List Ld) (h : ∀ x ∈ l, okB x = true) (x : Ld) (hx : okB x = true) : mx (l ++ [x]) = max (mx l) x.1 := by
  simp only [okB, decide_eq_true_eq] at hx
  exact LP.mx_snoc l h x (by omega)

theorem sum_ah (t : Int) : ∀ l : List Ld, sumG (stepF t) l = ah t l := by
  intro l
  induction l with
  | nil => rfl
  | cons x l ih => simp only [sumG, ah, ih, stepF]

set_option maxRecDepth 100000 in
set_option maxHeartbeats 400000 in
theorem need_any (l : List Ld) (A : Option Addr) (c : Nat) (k : Nat) (t : Int) (w : World) (hr : LdR w w.heap.size A l) (hR : Hid (LP.Right l)) (hl : l.length ≤ 16) (hc : l.length ≤ c) (hk : k < l.length) (ht : 1 ≤ t) (ht2 : t ≤ 1000000) :
    Calls Tryd.prog 42 #[.slice A l.length c, .int .i64 k, .int .i64 t] w fun e w' => e = .returned (.int .i64 (needF l k t)) ∧ Below w.heap.size w w' := by
  obtain ⟨A1, hA1, hrun⟩ := run_from (P := Tryd.prog) 35 59 Tryd.underlying35 2 (fun W => by kernel_rfl) A l.length c ((k : Int) + 1) (k + 1) (by omega) (by omega)
  have hd := hr.drop (k + 1) c hc
  rw [← hA1] at hd
  clear hA1
  obtain ⟨b1, o1, rfl, hb1, hc1, _⟩ := hr.at_ hk
  have hrun2 := run_to (P := Tryd.prog) 35 59 Tryd.underlying35 2 (fun W => by kernel_rfl) (some ⟨b1, o1, none⟩) l.length c (k : Int) k rfl (by omega)
  have hD := hide (show (l.drop (k + 1)).length = l.length - (k + 1) from List.length_drop)
  have hall := hide (fun x (hx : x ∈ l.drop (k + 1)) => hR.out.2 x (List.mem_of_mem_drop hx))
  have hms := hide (LP.mx_nonneg)
  obtain ⟨r, hr2⟩ : ∃ r, r = l.drop (k + 1) := ⟨_, rfl⟩
  rw [← hr2] at hd hD hall
  have hr3 := hide hr2
  clear hr2
  have hD' := hD.out
  go_enter Tryd.func42, Tryd.ntmps42
  go_wp2
  rw [← hD']
  clear hD'
  go_loopw [7, 16] (fun v i wr => ∃ j : Nat, j ≤ r.length ∧ i = .int .i64 j ∧ v = .int .i64 (mx (r.take j)) ∧ Below (w.heap.size + 1) (w.alloc (.cells #[.int .i64 t] 3)) wr) (fun _ i _ => r.length - (intOf i).toNat)
  case atStart => exact ⟨0, Nat.zero_le _, rfl, rfl, Below.refl _ _⟩
  case round =>
    obtain ⟨j, hj, rfl, rfl, hbl⟩ := hrel
    have hlen : r.length ≤ 16 := by have := hD.out; omega
    have hsz := hbl.size
    have hsz' : w.heap.size + 1 ≤ wr.heap.size := by simpa using hsz
    clear hsz
    have hb0 : Below w.heap.size w wr := ((Below.refl _ w).alloc (Nat.le_refl _) _).trans (hbl.mono (by omega))
    by_cases hlt : j < r.length
    · obtain ⟨b, off, rfl, hbs, h1, h2⟩ := hd.at_ hlt
      have h1' := cellBelow hb0 hbs h1
      have h2' := cellBelow hb0 hbs h2
      clear h1 h2
      have E := hide (show mx (r.take (j + 1)) = max (mx (r.take j)) (r[j]).1 by
        rw [List.take_succ_eq_append_getElem hlt]
        exact mx_snoc' _ (fun x hx => hall.out x (List.mem_of_mem_take hx)) _ (hall.out _ (List.getElem_mem hlt)))
      go_wp2
      refine ⟨⟨j + 1, by omega, by go_num, ?_, hbl.alloc hsz' _⟩, by simp [intOf]; omega⟩
      rw [E.out]
      congr 1
      split <;> omega
    · have E := hide (show r.take j = r from List.take_of_length_le (by omega))
      have hc0 : wr.cell? ⟨w.heap.size, 0, none⟩ = some (.int .i64 t) := cellBelow hbl (by omega) (by simp [go_sem])
      have hrt : LdR wr wr.heap.size (some ⟨b1, o1, none⟩) (l.take k) := (LdR.take hr k).next hb0 (by omega)
      have hok : ∀ x ∈ l.take k, okB x = true := fun x hx => hR.out.2 x (List.mem_of_mem_take hx)
      have hlt2 : (l.take k).length = k := by rw [List.length_take]; omega
      have T := total_any 66 #[.pointer (some ⟨w.heap.size, 0, none⟩)] (stepF t) (l.take k) (some ⟨b1, o1, none⟩) c wr hrt (by omega) (fun _ _ => rfl)
        (hide (fun x hx w' hb' => ldStep_any x t w' w.heap.size (by have := hb'.size; omega) (cellBelow hb' (by omega) hc0) (hok x hx) ht ht2))
        (hide (fun i => by
          have := LP.ah_bd ((l.take k).take i) (fun x hx => hok x (List.mem_of_mem_take hx)) t ht
          have h9 : ((l.take k).take i).length ≤ 16 := by rw [List.length_take]; omega
          have h10 : (((l.take k).take i).length : Int) * (t * 200) ≤ 16 * (t * 200) := Int.mul_le_mul_of_nonneg_right (by omega) (by omega)
          rw [sum_ah]
          omega))
      have ha := LP.ah_bd (l.take k) hok t ht
      have ha2 : ((l.take k).length : Int) * (t * 200) ≤ 16 * (t * 200) := Int.mul_le_mul_of_nonneg_right (by omega) (by omega)
      have hm := hms.out r hall.out
      have hx1 := hR.out.2 l[k] (List.getElem_mem hk)
      simp only [okB, decide_eq_true_eq] at hx1
      rw [hlt2] at T
      rw [sum_ah] at T
      rw [E.out]
      have HT := hide T
      have N := hide (show needF l k t = l[k].1 + mx r + ah t (l.take k) by unfold needF; rw [hr3.out]; simp [hk])
      have hc1' := cellBelow hb0 hb1 hc1
      clear T hok hlt2 hc1
      go_wp2_with fail
      refine HT.out.mono ?_
      rintro e1 w2 ⟨rfl, hb2⟩
      have hc2 := cellBelow hb2 (by omega) hc1'
      clear hc1'
      go_wp2
      go_ret
      exact ⟨by rw [N.out]; rfl, below_next hb0 (by omega) hb2⟩
end Go.Proofs.YtmfgifinmeonjaaDoor
