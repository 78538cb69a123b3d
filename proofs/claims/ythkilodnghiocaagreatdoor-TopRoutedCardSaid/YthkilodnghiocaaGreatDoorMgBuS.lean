/- Walks of bus.all and Right. -/
import Derived.Test.YthkilodnghiocaaGreatDoorMgBuT
namespace Go.Proofs.YthkilodnghiocaaGreatDoor
open Go.ChangeShapes Go.WideShapes Go.ChangeAt Go.RowKit
open FP (Fr)

/-- What a function value tells of a controller. -/
def Tells (fid : Nat) (p : Cl → Bool) (extra : Array Value) (c : Cl) (w0 : World) : Prop := ∀ W, Below w0.heap.size w0 W → Calls Tryz.prog fid (#[.agg c.cs.toArray] ++ extra) W fun e w' => e = .returned (.bool (p c)) ∧ Below W.heap.size W w'

set_option maxRecDepth 100000 in
set_option maxHeartbeats 4000000 in
theorem busAll1_any (p : Cl → Bool) (c : Cl) (b : Nat) (w : World) (hb : Hid (w.heap[b]? = some (.cells #[.func (.func 34) #[] #[]] 93 (0, 0))))
    (RC : Hid (∀ W, Calls Tryz.prog 34 #[.agg c.cs.toArray] W fun e w' => e = .returned (.bool (p c)) ∧ Below W.heap.size W w')) :
    Calls Tryz.prog 49 #[.agg c.cs.toArray, .pointer (some ⟨b, 0, none⟩)] w fun e w' => e = .returned (.bool (!p c)) ∧ Below w.heap.size w w' := by
  obtain ⟨w0, hw0⟩ : ∃ w0, w0 = w.alloc (.cells c.cs.toArray 73) := ⟨_, rfl⟩
  have q : Below w.heap.size w w0 := by rw [hw0]; exact (Below.refl _ _).alloc (Nat.le_refl _) _
  have B0 := hide (World.alloc_heap_new w (.cells c.cs.toArray 73))
  have F0 := hide (heap_below hb.out q)
  have Q0 := hide q
  rw [← hw0] at B0
  obtain ⟨r, hr⟩ : ∃ r, r = p c := ⟨_, rfl⟩
  rw [← hr] at RC ⊢
  clear hb q hr
  have cb : w0.cell? ⟨b, 0, none⟩ = some (.func (.func 34) #[] #[]) := by simp [World.cell?, F0.out]
  go_enter Tryz.func49, Tryz.ntmps49
  go_upto_region 1 with fail
  change Code.wp _ _ _ _ (w.alloc (.cells c.cs.toArray 73))
  rw [← hw0]
  clear hw0
  go_wp2_with (refine wpList_load_row rfl 73 (.tmp 2) (by rfl) w.heap.size (by rfl) 73 c.cs.toArray (0, 0) _ (by exact B0.out) Tryz.underlying73 (by rfl) (by kernel_rfl) ?_)
  (with_reducible refine (RC.out _).mono ?_)
  rintro e1 w1 ⟨rfl, q1⟩
  go_wp2_with fail
  go_ret
  exact ⟨rfl, below_next Q0.out Q0.out.size q1⟩

def idxCl (p : Cl → Bool) (l : List Cl) : Int := if l.all (fun f => !p f) then -1 else ((l.findIdx p : Nat) : Int)
theorem idxCl_nonneg (p : Cl → Bool) (l : List Cl) : 0 ≤ idxCl p l ↔ l.any p = true := by
  unfold idxCl
  by_cases h : l.all (fun f => !p f) = true
  · rw [if_pos h]
    have : l.any p = false := by
      rw [List.any_eq_false]
      intro x hx
      have := List.all_eq_true.1 h x hx
      simpa using this
    simp [this]
  · rw [if_neg h]
    have h' : l.all (fun f => !p f) = false := by simpa using h
    obtain ⟨x, hx, hp⟩ := List.all_eq_false.1 h'
    have : l.any p = true := List.any_eq_true.2 ⟨x, hx, by simpa using hp⟩
    simp [this]

set_option maxRecDepth 100000 in
set_option maxHeartbeats 8000000 in
theorem indexCl_any (fid b : Nat) (p : Cl → Bool) (hp : ∀ (args : Array Value) (w : World), (callFunc fid args).run Tryz.prog w = .ok (.enter fid args) w) (l : List Cl) (A : Option Addr) (c : Nat) (w : World) (hr : ClR w w.heap.size A l) (hl : l.length ≤ 1000000)
    (hc : Hid (∀ f ∈ l, ∀ w', Below w.heap.size w w' → Calls Tryz.prog fid #[.agg f.cs.toArray, .pointer (some ⟨b, 0, none⟩)] w' fun e w'' => e = .returned (.bool (p f)) ∧ Below w'.heap.size w' w'')) :
    Calls Tryz.prog 72 #[.slice A l.length c, .func (.func fid) #[] #[.pointer (some ⟨b, 0, none⟩)]] w fun e w' => e = .returned (.int .i64 (idxCl p l)) ∧ Below w.heap.size w w' := by
  have HR := hide hr
  clear hr
  go_enter Tryz.func72, Tryz.ntmps72
  go_wp2
  go_loopw [8] (fun i W => ∃ k : Nat, k ≤ l.length ∧ i = .int .i64 k ∧ Hid (∀ f ∈ l.take k, p f = false) ∧ Below w.heap.size w W) (fun i _ => l.length - (intOf i).toNat)
  case atStart => exact ⟨0, Nat.zero_le _, rfl, hide (by simp), Below.refl _ _⟩
  case round =>
    obtain ⟨k, hk, rfl, hinv, q⟩ := hrel
    by_cases hlt : k < l.length
    · obtain ⟨g, off, rfl, hbs, hra⟩ := (ClR.next HR.out q q.size).at_ hlt
      have PA := hide hra
      have C := hide (hc.out l[k] (List.getElem_mem hlt) wr q)
      clear hra hbs
      rcases hpk : p l[k] with _ | _
      · have hT := hide (show ∀ f ∈ l.take (k + 1), p f = false by
          intro f hf
          rw [List.take_succ_eq_append_getElem hlt, List.mem_append] at hf
          rcases hf with hf | hf
          · exact hinv.out f hf
          · rw [List.mem_singleton.1 hf]; exact hpk)
        rw [hpk] at C
        clear hpk
        go_wp2_with (refine wpList_load_mid rfl 73 (.tmp 14) (by rfl) g (off + k * 23) (by rfl) l[k].cs _ (by exact PA.out) Tryz.underlying73 (by rfl) (by kernel_rfl) ?_)
        refine C.out.mono ?_
        rintro e1 w1 ⟨rfl, q1⟩
        go_wp2
        go_roundw
        case rel => exact ⟨k + 1, by omega, by go_num, hT, below_next q q.size q1⟩
        case measure => simp [intOf]; omega
      · have hE := hide (show idxCl p l = (k : Int) by
          unfold idxCl
          rw [if_neg (by
            rw [List.all_eq_true]
            intro h
            have := h l[k] (List.getElem_mem hlt)
            simp [hpk] at this)]
          congr 1
          rw [List.findIdx_eq hlt]
          exact ⟨hpk, fun j hj => by
            have := hinv.out l[j] (by rw [List.mem_take_iff_getElem]; exact ⟨j, by omega, rfl⟩)
            simp [this]⟩)
        rw [hpk] at C
        clear hpk
        go_wp2_with (refine wpList_load_mid rfl 73 (.tmp 14) (by rfl) g (off + k * 23) (by rfl) l[k].cs _ (by exact PA.out) Tryz.underlying73 (by rfl) (by kernel_rfl) ?_)
        refine C.out.mono ?_
        rintro e1 w1 ⟨rfl, q1⟩
        go_wp2
        go_ret
        exact ⟨by rw [hE.out]; rfl, below_next q q.size q1⟩
    · have hE := hide (show idxCl p l = -1 by
        unfold idxCl
        rw [if_pos]
        rw [List.all_eq_true]
        intro f hf
        have h2 := hinv.out f (by rw [List.take_of_length_le (by omega)]; exact hf)
        simp [h2])
      go_wp2
      go_ret
      exact ⟨by rw [hE.out]; rfl, q⟩

set_option maxRecDepth 100000 in
theorem containsCl_any (fid b : Nat) (p : Cl → Bool) (hp : ∀ (args : Array Value) (w : World), (callFunc fid args).run Tryz.prog w = .ok (.enter fid args) w) (l : List Cl) (A : Option Addr) (c : Nat) (w : World) (hr : ClR w w.heap.size A l) (hl : l.length ≤ 1000000)
    (hc : Hid (∀ f ∈ l, ∀ w', Below w.heap.size w w' → Calls Tryz.prog fid #[.agg f.cs.toArray, .pointer (some ⟨b, 0, none⟩)] w' fun e w'' => e = .returned (.bool (p f)) ∧ Below w'.heap.size w' w'')) :
    Calls Tryz.prog 48 #[.slice A l.length c, .func (.func fid) #[] #[.pointer (some ⟨b, 0, none⟩)]] w fun e w' => e = .returned (.bool (l.any p)) ∧ Below w.heap.size w w' := by
  have IX := hide (indexCl_any fid b p hp l A c w hr hl hc)
  have HN := hide (idxCl_nonneg p l)
  generalize idxCl p l = x at *
  clear hr hc hp
  go_enter Tryz.func48, Tryz.ntmps48
  go_wp2_with fail
  (with_reducible refine (IX.out).mono ?_)
  rintro e1 w1 ⟨rfl, q1⟩
  go_wp2_with fail
  go_ret
  refine ⟨?_, q1⟩
  have h := HN.out
  by_cases hx : 0 ≤ x
  · rw [h.1 hx]; simp [hx]
  · have : l.any p = false := by
      cases e : l.any p
      · rfl
      · exact absurd (h.2 e) hx
    rw [this]; simp [hx]

set_option maxRecDepth 100000 in
set_option maxHeartbeats 4000000 in
theorem busAll_any (p : Cl → Bool) (l : List Cl) (A : Option Addr) (c : Nat) (w : World) (hr : ClR w w.heap.size A l) (hl : l.length ≤ 1000000)
    (RC : Hid (∀ f ∈ l, ∀ W, Calls Tryz.prog 34 #[.agg f.cs.toArray] W fun e w' => e = .returned (.bool (p f)) ∧ Below W.heap.size W w')) :
    Calls Tryz.prog 33 #[.slice A l.length c, .func (.func 34) #[] #[]] w fun e w' => e = .returned (.bool (l.all p)) ∧ Below w.heap.size w w' := by
  obtain ⟨w0, hw0⟩ : ∃ w0, w0 = w.alloc (.cells #[.func (.func 34) #[] #[]] 93) := ⟨_, rfl⟩
  have q : Below w.heap.size w w0 := by rw [hw0]; exact (Below.refl _ _).alloc (Nat.le_refl _) _
  have B0 := hide (World.alloc_heap_new w (.cells #[.func (.func 34) #[] #[]] 93))
  rw [← hw0] at B0
  have Q0 := hide q
  have CN := hide (containsCl_any 49 w.heap.size (fun c => !p c) (fun args w => by kernel_rfl) l A c w0 (hr.next q q.size) hl (hide fun f hf W hW => busAll1_any p f w.heap.size W (hide (heap_below B0.out hW)) (hide (RC.out f hf))))
  have E : l.any (fun c => !p c) = !l.all p := by rw [List.not_all_eq_any_not]
  rw [E] at CN
  generalize l.all p = r at *
  clear hr RC q E
  go_enter Tryz.func33, Tryz.ntmps33
  go_upto_region 1 with fail
  change Code.wp _ _ _ _ (w.alloc (.cells #[.func (.func 34) #[] #[]] 93))
  rw [← hw0]
  clear hw0
  go_wp2_with fail
  (with_reducible refine (CN.out).mono ?_)
  rintro e1 w1 ⟨rfl, q1⟩
  go_wp2_with fail
  go_ret
  exact ⟨by simp, below_next Q0.out Q0.out.size q1⟩

/-- Which bus may be, where p tells which controllers may. -/
def busMay (p : Cl → Bool) (l : List Cl) (now : Int) : Bool := decide (1 ≤ l.length ∧ l.length ≤ 4 ∧ 0 ≤ now ∧ now ≤ 1099511627776) && l.all p
set_option maxRecDepth 100000 in
set_option maxHeartbeats 8000000 in
theorem busRight_any (p : Cl → Bool) (l : List Cl) (A : Option Addr) (c : Nat) (now : Int) (w : World) (hr : ClR w w.heap.size A l) (hl : l.length ≤ 1000000)
    (RC : Hid (∀ f ∈ l, ∀ W, Calls Tryz.prog 34 #[.agg f.cs.toArray] W fun e w' => e = .returned (.bool (p f)) ∧ Below W.heap.size W w')) :
    Calls Tryz.prog 19 #[.agg (busL A l.length c now).toArray] w fun e w' => e = .returned (.bool (busMay p l now)) ∧ Below w.heap.size w w' := by
  obtain ⟨w0, hw0⟩ : ∃ w0, w0 = w.alloc (.cells (busL A l.length c now).toArray 37) := ⟨_, rfl⟩
  have q : Below w.heap.size w w0 := by rw [hw0]; exact (Below.refl _ _).alloc (Nat.le_refl _) _
  have B0 := hide (World.alloc_heap_new w (.cells (busL A l.length c now).toArray 37))
  rw [← hw0] at B0
  have Q0 := hide q
  have AL := hide (busAll_any p l A c w0 (hr.next q q.size) hl RC)
  obtain ⟨b0, b1⟩ := bus_cells B0.out
  obtain ⟨r, hr2⟩ : ∃ r, r = busMay p l now := ⟨_, rfl⟩
  rw [← hr2]
  unfold busMay at hr2
  generalize l.all p = ra at *
  have HR := hide hr2
  clear hr RC q hr2 B0
  by_cases h1 : 1 ≤ l.length ∧ l.length ≤ 4 ∧ 0 ≤ now ∧ now ≤ 1099511627776
  · obtain ⟨h11, h12, h13, h14⟩ := h1
    have h15 : (1 : Int) ≤ (l.length : Int) := by omega
    have h16 : (l.length : Int) ≤ 4 := by omega
    have E := hide (show r = ra by rw [HR.out, decide_eq_true ⟨h11, h12, h13, h14⟩, Bool.true_and])
    clear HR
    go_enter Tryz.func19, Tryz.ntmps19
    go_upto_region 1 with fail
    change Code.wp _ _ _ _ (w.alloc (.cells (busL A l.length c now).toArray 37))
    rw [← hw0]
    clear hw0
    go_wp2_with fail
    (with_reducible refine (AL.out).mono ?_)
    rintro e1 w1 ⟨rfl, q1⟩
    go_wp2_with fail
    go_ret
    exact ⟨by rw [E.out]; rfl, below_next Q0.out Q0.out.size q1⟩
  · have E := hide (show r = false by rw [HR.out, decide_eq_false h1, Bool.false_and])
    have hn : ¬ (1 : Int) ≤ (l.length : Int) ∨ (1 : Int) ≤ (l.length : Int) ∧ ¬ (l.length : Int) ≤ 4 ∨ (1 : Int) ≤ (l.length : Int) ∧ (l.length : Int) ≤ 4 ∧ ¬ 0 ≤ now ∨ (1 : Int) ≤ (l.length : Int) ∧ (l.length : Int) ≤ 4 ∧ 0 ≤ now ∧ ¬ now ≤ 1099511627776 := by omega
    clear HR AL h1
    rcases hn with h2 | ⟨h2, h3⟩ | ⟨h2, h3, h4⟩ | ⟨h2, h3, h4, h5⟩
    all_goals
      go_enter Tryz.func19, Tryz.ntmps19
      go_upto_region 1 with fail
      change Code.wp _ _ _ _ (w.alloc (.cells (busL A l.length c now).toArray 37))
      rw [← hw0]
      clear hw0
      go_wp2_with fail
      go_ret
      exact ⟨by rw [E.out]; rfl, Q0.out⟩
theorem busRight_ok (l : List Cl) (A : Option Addr) (c : Nat) (now : Int) (w : World) (hr : ClR w w.heap.size A l) (h1 : 1 ≤ l.length) (h4 : l.length ≤ 4) (hn0 : 0 ≤ now) (hn1 : now ≤ 1099511627776) (hok : AllOk l) :
    Calls Tryz.prog 19 #[.agg (busL A l.length c now).toArray] w fun e w' => e = .returned (.bool true) ∧ Below w.heap.size w w' := by
  have := busRight_any (fun _ => true) l A c now w hr (by omega) (hide fun f hf W => ctlRight_ok f W (hok f hf))
  have e : busMay (fun _ => true) l now = true := by
    unfold busMay
    rw [decide_eq_true ⟨h1, h4, hn0, hn1⟩]
    simp
  rwa [e] at this
end Go.Proofs.YthkilodnghiocaaGreatDoor

/- The walk of bus.level. -/
namespace Go.Proofs.YthkilodnghiocaaGreatDoor
open Go.ChangeShapes Go.WideShapes Go.ChangeAt Go.RowKit
open FP (Fr)

theorem slStrU : SlT Tryz.prog 22 9 1 16 := SlT.mk Tryz.underlying22 (z := .string ⟨#[]⟩) (by kernel_rfl) rfl (by decide)
theorem lvl_and (l : List Cl) : lvlB l = andB (l.map Cl.drv) := by
  unfold lvlB andB
  rw [List.any_map]
  rfl
theorem bitRows_take (l : List Cl) {k : Nat} (hk : k < l.length) : bitRows ((l.map Cl.drv).take (k + 1)) = bitRows ((l.map Cl.drv).take k) ++ [[.string ⟨#[l[k].drv]⟩]] := by
  rw [List.take_succ_eq_append_getElem (by rw [List.length_map]; exact hk), List.getElem_map]
  unfold bitRows
  rw [List.map_append]
  rfl
theorem bitRows_len (l : List UInt8) : (bitRows l).length = l.length := by simp [bitRows]
theorem bitRows_rows (l : List UInt8) : ∀ r ∈ bitRows l, r.length = 1 := fun r hr => by
  unfold bitRows at hr
  obtain ⟨c, _, rfl⟩ := List.mem_map.1 hr
  rfl

set_option maxRecDepth 100000 in
set_option maxHeartbeats 16000000 in
theorem busLevel_in (l : List Cl) (A : Option Addr) (c : Nat) (now : Int) (w : World) (hr : ClR w w.heap.size A l) (h1 : 1 ≤ l.length) (h4 : l.length ≤ 4) (hok : AllOk l) :
    Calls Tryz.prog 36 #[.agg (busL A l.length c now).toArray] w fun e w' => e = .returned (.int .u8 (lvlB l).toNat) ∧ Below w.heap.size w w' := by
  obtain ⟨w0, hw0⟩ : ∃ w0, w0 = w.alloc (.cells (busL A l.length c now).toArray 37) := ⟨_, rfl⟩
  have B := hide (World.alloc_heap_new w (.cells (busL A l.length c now).toArray 37))
  have q0 : Below w.heap.size w w0 := by rw [hw0]; exact (Below.refl _ _).alloc (Nat.le_refl _) _
  rw [← hw0] at B
  have Q := hide q0
  have HR := hide hr
  have HOK := hide hok
  have HLV := hide (lvl_and l)
  have HBT := hide (show ∀ c ∈ l.map Cl.drv, c = 48 ∨ c = 49 from fun c hc => by
    obtain ⟨d, hd, rfl⟩ := List.mem_map.1 hc
    exact ok_drv (hok d hd))
  obtain ⟨lv, hlv⟩ : ∃ lv, lv = lvlB l := ⟨_, rfl⟩
  rw [← hlv] at HLV ⊢
  obtain ⟨b0, b1⟩ := bus_cells B.out
  clear hr hok hlv q0
  go_enter Tryz.func36, Tryz.ntmps36
  go_upto_region 1 with fail
  change Code.wp _ _ _ _ (w.alloc (.cells (busL A l.length c now).toArray 37))
  rw [← hw0]
  clear hw0
  go_wp2_with fail
  clear b0 b1 B
  go_loopw [13, 3] (fun vi v3 W => ∃ (k : Nat) (Ar : Option Addr) (cr : Nat), k ≤ l.length ∧ vi = .int .i64 k ∧ v3 = .slice Ar k cr ∧ Hid (Own W w.heap.size 9 1 Ar cr (bitRows ((l.map Cl.drv).take k))) ∧ Hid (Below w.heap.size w W)) (fun vi _ _ => l.length - (intOf vi).toNat)
  case atStart => exact ⟨0, none, 0, Nat.zero_le _, rfl, rfl, hide Own.nil, Q⟩
  case round =>
    clear Q
    obtain ⟨k, Ar, cr, hk, rfl, rfl, O, Q⟩ := hrel
    by_cases hlt : k < l.length
    · have hki : (k : Int) < (l.length : Int) := by omega
      obtain ⟨g, off, hA, hg, hra⟩ := (HR.out.next Q.out Q.out.size).at_ hlt
      subst hA
      have PA := hide hra
      have DR := hide (fun W => ctlDrive_ok l[k] W (HOK.out _ (List.getElem_mem hlt)))
      have HT := hide (bitRows_take l hlt)
      have HLN := hide (show (bitRows ((l.map Cl.drv).take k)).length = k by rw [bitRows_len, List.length_take, List.length_map]; omega)
      generalize l[k] = d at *
      generalize d.drv = db at *
      generalize bitRows ((l.map Cl.drv).take k) = rows at *
      clear hra hg
      have X := World.alloc_heap_new wr (.cells zCl.cs.toArray 73)
      have zQx : w.heap.size ≤ wr.heap.size := Q.out.size
      obtain ⟨w2', hw2'⟩ : ∃ wx, wx = wr.alloc (.cells zCl.cs.toArray 73) := ⟨_, rfl⟩
      have q1' := hide (show Below wr.heap.size wr w2' by rw [hw2']; exact (Below.refl _ _).alloc (Nat.le_refl _) _)
      rw [← hw2'] at X
      replace X := hide X
      have Tw3' := hide (show (wr.alloc (.cells zCl.cs.toArray 73)).there wr.heap.size 0 23 by rw [← hw2']; exact there_heap (cs := zCl.cs) X.out)
      go_wp2_with (first | (refine wpList_load_mid rfl 73 (.tmp 15) (by rfl) g (off + k * 23) (by rfl) d.cs _ (by exact PA.out) Tryz.underlying73 (by rfl) (by kernel_rfl) ?_) | (refine wpList_store_hid (by rfl) 73 (.tmp 5) (.tmp 16) (by rfl) wr.heap.size 0 d.cs (by rfl) (by rfl) (by exact Tw3'.out) (by kernel_rfl) (by simp [Value.oneCell', Cl.cs]) ?_))
      intro w3' ew3'
      replace ew3' : Hid (w3' = w2'.setCells wr.heap.size 0 d.cs) := by rw [hw2']; exact ew3'
      replace X := hide (show w3'.heap[wr.heap.size]? = some (.cells d.cs.toArray 73 (0, 0)) by rw [ew3'.out]; exact whole_heap d.cs (xs := zCl.cs) X.out rfl)
      replace q1' := hide (show Below wr.heap.size wr w3' by rw [ew3'.out]; exact q1'.out.trans (below_setCells _ _ _ (by omega)))
      clear ew3' Tw3' hw2'
      replace O := hide (O.out.grown q1'.out)
      replace Q := hide (below_next Q.out Q.out.size q1'.out)
      clear q1'
      generalize wr.heap.size = x at *
      go_wp2_with (refine wpList_load_row rfl 73 (.tmp 5) (by rfl) x (by rfl) 73 d.cs.toArray (0, 0) _ (by exact X.out) Tryz.underlying73 (by rfl) (by kernel_rfl) ?_)
      (with_reducible refine (DR.out _).mono ?_)
      rintro ew4' w4' ⟨rfl, qw4'⟩
      replace X := hide (heap_below X.out qw4')
      replace O := hide (O.out.grown qw4')
      replace Q := hide (below_next Q.out Q.out.size qw4')
      clear qw4'
      clear DR
      have hcv : (convert 110 9 (.slice (some ⟨w4'.heap.size, 0, none⟩) 1 1)).run Tryz.prog (w4'.alloc (.cells #[.int .u8 db.toNat] 5)) = .ok (.string ⟨#[db]⟩) (w4'.alloc (.cells #[.int .u8 db.toNat] 5)) :=
        run_bytes_str _ _ _ _ Tryz.underlying110 Tryz.underlying5 Tryz.underlying9 w4'.heap.size 1 1 [db] rfl (fun i hi => by
          have : i = 0 := by simpa using hi
          subst this
          exact (by simp only [World.cell?, World.alloc_heap_new]; rfl))
      have O2 := hide (O.out.alloc (.cells #[.int .u8 db.toNat] 5))
      have q2 : Below w4'.heap.size w4' (w4'.alloc (.cells #[.int .u8 db.toNat] 5)) := (Below.refl _ _).alloc (Nat.le_refl _) _
      have Q2 := hide (below_next Q.out Q.out.size q2)
      have z2 := Q2.out.size
      clear q2
      go_wp2_with (at_builtin; refine wpList_append_one _ _ [.string ⟨#[db]⟩] (by rfl) rfl _ _ 22 rfl slStrU (by decide) rfl (by simp [Value.oneCell']) w.heap.size _ _ _ rows (by rfl) (by exact O2.out) 1 (by rw [World.size_alloc]; rfl) (by rw [HLN.out]; omega) z2 (by exact HLN.out.symm) ?_)
      intro A3 c3 w9 ap
      have O3 := hide (show Own w9 w.heap.size 9 1 A3 c3 (bitRows ((l.map Cl.drv).take (k + 1))) by rw [HT.out]; exact ap.own)
      have Q3 := hide (ap.q Q2.out (Nat.le_refl _))
      clear ap hcv O O2 X Q Q2
      go_wp2_with fail
      go_roundw
      case rel => exact ⟨k + 1, A3, c3, by omega, by go_num, by first | rfl | (congr 1), O3, Q3⟩
      case measure => simp [intOf]; omega
    · obtain rfl : k = l.length := by omega
      have HAL : (l.map Cl.drv).take l.length = l.map Cl.drv := List.take_of_length_le (by rw [List.length_map]; exact Nat.le_refl _)
      have RD := hide (O.out.rd (bitRows_rows _))
      rw [HAL] at RD
      have AN := hide (show Calls Tryz.prog 54 #[.slice Ar l.length cr] wr fun e w' => e = .returned (.tuple #[.string ⟨#[lv]⟩, .int .i64 0]) ∧ Below wr.heap.size wr w' from by
        have := bitsAnd_one (l.map Cl.drv) Ar cr wr RD.out (by rw [List.length_map]; omega) (by rw [List.length_map]; omega) HBT.out
        rw [List.length_map, ← HLV.out] at this
        exact this)
      clear HAL RD O
      go_wp2_with fail
      (with_reducible refine (AN.out).mono ?_)
      rintro e8 w8 ⟨rfl, q8⟩
      have Q8 := hide (below_next Q.out Q.out.size q8)
      clear q8 Q AN
      obtain ⟨s1, hs1⟩ : ∃ s1 : ByteArray, s1 = ⟨#[lv]⟩ := ⟨_, rfl⟩
      have hz1 : s1.size = 1 := by rw [hs1]; rfl
      have hz2 : (0 : Int) < (s1.size : Int) := by omega
      have hb1 : ∀ h : 0 < s1.size, s1[0] = lv := by subst hs1; exact fun _ => rfl
      have hb2 := hb1 (by omega)
      rw [← hs1]
      clear hs1 hb1
      go_wp2_with fail
      go_ret
      exact ⟨by rw [← hb2]; rfl, Q8.out⟩
end Go.Proofs.YthkilodnghiocaaGreatDoor
