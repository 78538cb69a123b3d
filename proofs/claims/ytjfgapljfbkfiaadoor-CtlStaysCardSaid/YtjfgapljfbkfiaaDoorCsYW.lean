/- The walk of campanilelaw07.CtlStays. -/
import Derived.Test.YtjfgapljfbkfiaaDoorMgCsYP
import Derived.Test.YtjfgapljfbkfiaaDoorCsYX
import Derived.Test.YtjfgapljfbkfiaaDoorCsCP
namespace Go.Proofs.YtjfgapljfbkfiaaDoor
open Go.ChangeShapes Go.WideShapes Go.ChangeAt Go.RowKit
open FP (Fr bitsF bodyF)

set_option maxRecDepth 100000 in
set_option maxHeartbeats 64000000 in
theorem ctlStays_walk (s : ByteArray) (l : List Fr) (A1 : Option Addr) (n1 : Nat) (bs : List Bool) (A2 : Option Addr) (n2 : Nat) (w : World) (hs : s.size ≤ maxLen) (hr1 : FrR w w.heap.size A1 l) (hc1 : l.length ≤ n1) (hm1 : n1 ≤ maxLen) (hf : ∀ f ∈ l, f.id < 4294967296 ∧ f.data.size ≤ maxLen) (hr2 : Rd w w.heap.size A2 1 (bs.map fun b => [.bool b])) (_hc2 : bs.length ≤ n2) (_hm2 : n2 ≤ maxLen) :
    Calls Tryd.prog 3 #[.string s, .slice A1 l.length n1, .slice A2 bs.length n2] w fun e w' => e = .returned (.bool true) ∧ Below w.heap.size w w' := by
  have HF := hide hf
  have HR1 := hide hr1
  have HR2 := hide hr2
  unfold maxLen at hm1 _hm2
  have hs2 : s.size ≤ 9223372036854775807 := by unfold maxLen at hs; omega
  clear hf hr1 hr2
  obtain ⟨m, em, hm⟩ := run_min (P := Tryd.prog) (s.size : Int) 600
  obtain ⟨k, hk⟩ : ∃ k : Nat, k = min s.size 600 := ⟨_, rfl⟩
  have hmk : m = k := by omega
  subst hmk
  have hkl : k ≤ s.size := by omega
  have hk6 : k ≤ 600 := by omega
  obtain ⟨S, hS⟩ : ∃ S : ByteArray, S = s.extract 0 k := ⟨_, rfl⟩
  have HSS := hide hS
  have hSz : S.size ≤ 600 := by rw [hS, ByteArray.size_extract]; omega
  have AL := hide (fun W => alive07_any W)
  have RF := hide (fun W => refBits01_any S W (by unfold maxLen; omega))
  obtain ⟨rb, hrb⟩ : ∃ rb, rb = bitRow S.data.toList := ⟨_, rfl⟩
  rw [← hrb] at RF
  have HRB := hide hrb
  have HK := hide hk
  clear hrb hk hm hS
  have Q : Hid (Below w.heap.size w w) := hide (Below.refl _ _)
  go_enter Tryd.func3, Tryd.ntmps3
  go_upto_region 1 with fail
  go_cut [0] (fun v W => v = .string S ∧ Hid (Below w.heap.size w W))
  case first =>
    clear RF AL HRB HF HR1 HR2
    go_wp2_with fail
    go_meet
    refine ⟨?_, Q⟩
    rw [HSS.out]
    congr 2
    have := HK.out
    omega
  case rest =>
  clear Q
  obtain ⟨rfl, Q⟩ := hcut
  clear HSS em hkl HK
  go_wp2_with fail
  (with_reducible refine (RF.out _).mono ?_)
  rintro e1 w1 ⟨rfl, hw1⟩
  subst hw1
  cases rb with
  | false =>
    go_wp2_with fail
    (with_reducible refine (AL.out _).mono ?_)
    rintro e2 w2 ⟨rfl, q2⟩
    go_wp2_with fail
    go_ret
    exact ⟨rfl, below_next Q.out Q.out.size q2⟩
  | true =>
  have NW := hide (fun W => ctlNew_any W)
  obtain ⟨c0, hc0⟩ : ∃ c0, c0 = zCl := ⟨_, rfl⟩
  have NW2 := hide (fun W => show Calls Tryd.prog 6 #[] W fun e w' => e = .returned (.agg c0.cs.toArray) ∧ Below W.heap.size W w' by rw [hc0]; exact NW.out W)
  have HC0 := hide hc0
  clear hc0 NW RF
  go_wp2_with fail
  (with_reducible refine (NW2.out _).mono ?_)
  rintro ew1' w1' ⟨rfl, qw1'⟩
  replace Q := hide (below_next Q.out Q.out.size qw1')
  clear qw1'
  clear NW2
  have q2' : Below w1'.heap.size w1' (w1'.alloc (.cells zCl.cs.toArray 34)) := (Below.refl _ _).alloc (Nat.le_refl _) _
  have C := World.alloc_heap_new w1' (.cells zCl.cs.toArray 34)
  have zQy : w.heap.size ≤ w1'.heap.size := Q.out.size
  replace Q := hide (below_next Q.out Q.out.size q2')
  clear q2'
  obtain ⟨w3', hw3'⟩ : ∃ wx, wx = w1'.alloc (.cells zCl.cs.toArray 34) := ⟨_, rfl⟩
  rw [← hw3'] at Q C
  replace C := hide C
  have Tw4' := hide (show (w1'.alloc (.cells zCl.cs.toArray 34)).there w1'.heap.size 0 23 by rw [← hw3']; exact there_heap (cs := zCl.cs) C.out)
  go_wp2_with (refine wpList_store_hid (by rfl) 34 (.tmp 7) (.tmp 28) (by rfl) w1'.heap.size 0 c0.cs (by rfl) (by rfl) (by exact Tw4'.out) (by kernel_rfl) (by simp [Value.oneCell', Cl.cs]) ?_)
  intro w4' ew4'
  replace ew4' : Hid (w4' = w3'.setCells w1'.heap.size 0 c0.cs) := by rw [hw3']; exact ew4'
  replace Q := hide (show Below w.heap.size w w4' by rw [ew4'.out]; exact Q.out.trans (below_setCells _ _ _ (by have := Q.out.size; omega)))
  replace C := hide (show w4'.heap[w1'.heap.size]? = some (.cells c0.cs.toArray 34 (0, 0)) by rw [ew4'.out]; exact whole_heap c0.cs (xs := zCl.cs) C.out rfl)
  clear ew4' Tw4' hw3'
  generalize w1'.heap.size = y at *
  have BT := hide (fun j (hj : j < S.size) => show S[j] = 48 ∨ S[j] = 49 from (bitRow_iff.1 HRB.out.symm).2 _ (List.getElem_mem (l := S.data.toList) (by rw [Array.length_toList]; exact hj)))
  have HOK0 := hide (show c0.Ok by rw [HC0.out]; exact zCl_ok)
  clear HRB HC0
  go_wp2_with fail
  go_loopw [31] (fun vi W => ∃ i : Nat, i ≤ S.size ∧ vi = .int .i64 i ∧ ∃ d : Cl, d.Ok ∧ Hid (W.heap[y]? = some (.cells d.cs.toArray 34 (0, 0))) ∧ Hid (Below w.heap.size w W)) (fun vi _ => S.size - (intOf vi).toNat)
  case atStart => exact ⟨0, Nat.zero_le _, rfl, c0, HOK0.out, C, Q⟩
  case round =>
    clear C Q HOK0
    obtain ⟨i, hi, rfl, d, hok, C, Q⟩ := hrel
    by_cases hlt : i < S.size
    · have hki : (i : Int) < (S.size : Int) := by omega
      have hbit := BT.out i hlt
      go_upto_if 37 with fail
      refine ctlStays_frames w wr l A1 n1 i y d _ (by rfl) (by simp) hok C Q HF HR1 hc1 hm1 zQy (by intro _ _ d9 _ _ h; cases d9 <;> exact h) ?_
      intro u6 u9 u10 u11 u38 u39 u40 u41 u42 u43 u44 u45 u46 u47 u48 u49 u50 u51 u52 u53 u54 u55 u56 u57 u58 u59 u60 u61 u62 u63 u64 u65 u66 u67 u68 u69 u70 u71 u72 u73 wc hcut
      clear hok C Q
      obtain ⟨d1, hok, C, Q⟩ := hcut
      go_upto_region 20 with fail
      go_cut [83] (fun v W => ∃ cb : Bool, v = .bool cb ∧ W = wc)
      case first =>
        by_cases hfr : i < bs.length
        · have hfi : (i : Int) < (bs.length : Int) := by omega
          obtain ⟨b, off, rfl, f0'⟩ := bl_cell (HR2.out.next Q.out Q.out.size) hfr
          clear C Q BT AL
          go_wp2_with fail
          go_meet
          exact ⟨_, rfl, rfl⟩
        · have hfi : ¬ (i : Int) < (bs.length : Int) := by omega
          clear C Q BT AL
          go_wp2_with fail
          go_meet
          exact ⟨_, rfl, rfl⟩
      case rest =>
      rename_i hK2 _ hK
      obtain ⟨cb, rfl, rfl⟩ := hcut
      refine hK _ _ ?_
      clear hK
      go_cut [83] (fun _ W => ∃ d2 : Cl, d2.Ok ∧ Hid (W.heap[y]? = some (.cells d2.cs.toArray 34 (0, 0))) ∧ Hid (Below w.heap.size w W))
      case first =>
        clear hK2
        cases cb with
        | false =>
          go_wp2_with fail
          go_meet
          exact ⟨d1, hok, C, Q⟩
        | true =>
          have CA := hide (fun W => ctlCancel_ok d1 W hok)
          obtain ⟨x, hx⟩ : ∃ x, x = d1.canC := ⟨_, rfl⟩
          obtain ⟨xe, hxe⟩ : ∃ xe, xe = d1.canE := ⟨_, rfl⟩
          rw [← hx, ← hxe] at CA
          have HXH := hide (show x.has = false by rw [hx]; unfold Cl.canC; split; rfl; split; rfl; rfl)
          have HXO := hide (show d1.has = true → d1.sends = false → x.Ok from fun h1 h2 => by
            rw [hx]; unfold Cl.canC; rw [h1, h2]
            exact hok.drop1 h2)
          have HXE := hide (show xe = if d1.has = false then 21 else if d1.sends = true then 20 else 0 from hxe)
          have HOK := hide hok
          clear hx hxe hok HR1 HR2 HF BT
          go_wp2_with (refine wpList_load_row rfl 34 (.tmp 7) (by rfl) y (by rfl) 34 d1.cs.toArray (0, 0) _ (by exact C.out) Tryd.underlying34 (by rfl) (by kernel_rfl) ?_)
          (with_reducible refine (CA.out _).mono ?_)
          rintro ew5' w5' ⟨rfl, qw5'⟩
          replace C := hide (heap_below C.out qw5')
          replace Q := hide (below_next Q.out Q.out.size qw5')
          clear qw5'
          clear CA
          have q6' : Below w5'.heap.size w5' (w5'.alloc (.cells zCl.cs.toArray 34)) := (Below.refl _ _).alloc (Nat.le_refl _) _
          have X := World.alloc_heap_new w5' (.cells zCl.cs.toArray 34)
          have zCu : y < w5'.heap.size := heap_lt C.out
          have zQu : w.heap.size ≤ w5'.heap.size := Q.out.size
          replace C := hide (heap_below C.out q6')
          replace Q := hide (below_next Q.out Q.out.size q6')
          clear q6'
          obtain ⟨w7', hw7'⟩ : ∃ wx, wx = w5'.alloc (.cells zCl.cs.toArray 34) := ⟨_, rfl⟩
          rw [← hw7'] at Q C X
          replace X := hide X
          have Tw8' := hide (show (w5'.alloc (.cells zCl.cs.toArray 34)).there w5'.heap.size 0 23 by rw [← hw7']; exact there_heap (cs := zCl.cs) X.out)
          go_wp2_with (refine wpList_store_hid (by rfl) 34 (.tmp 12) (.tmp 87) (by rfl) w5'.heap.size 0 x.cs (by rfl) (by rfl) (by exact Tw8'.out) (by kernel_rfl) (by simp [Value.oneCell', Cl.cs]) ?_)
          intro w8' ew8'
          replace ew8' : Hid (w8' = w7'.setCells w5'.heap.size 0 x.cs) := by rw [hw7']; exact ew8'
          replace C := hide (show w8'.heap[y]? = some (.cells d1.cs.toArray 34 (0, 0)) by rw [ew8'.out]; exact other_heap (by omega) _ _ _ C.out)
          replace Q := hide (show Below w.heap.size w w8' by rw [ew8'.out]; exact Q.out.trans (below_setCells _ _ _ (by have := Q.out.size; omega)))
          replace X := hide (show w8'.heap[w5'.heap.size]? = some (.cells x.cs.toArray 34 (0, 0)) by rw [ew8'.out]; exact whole_heap x.cs (xs := zCl.cs) X.out rfl)
          clear ew8' Tw8' hw7'
          generalize w5'.heap.size = u at *
          obtain ⟨-, ⟨-, -, -, -, c8⟩, -, c14, -⟩ := cl_cells C.out
          obtain ⟨-, ⟨-, -, -, -, x8⟩, -⟩ := cl_cells X.out
          rw [HXH.out] at x8
          rcases Bool.eq_false_or_eq_true d1.has with hh | hh
          · rw [hh] at c8
            rcases Bool.eq_false_or_eq_true d1.sends with hd | hd
            · rw [hd] at c14
              obtain rfl : xe = 20 := by rw [HXE.out, hh, hd]; rfl
              clear HXE hh hd HXO
              go_wp2_with fail
              go_meet
              exact ⟨d1, HOK.out, C, Q⟩
            · rw [hd] at c14
              obtain rfl : xe = 0 := by rw [HXE.out, hh, hd]; rfl
              have HOX := hide (HXO.out hh hd)
              clear HXE hh hd HXO
              have Tw9' := hide (show World.there _ y 0 23 from there_heap (cs := d1.cs) C.out)
              go_wp2_with (first | (refine wpList_load_row rfl 34 (.tmp 12) (by rfl) u (by rfl) 34 x.cs.toArray (0, 0) _ (by exact X.out) Tryd.underlying34 (by rfl) (by kernel_rfl) ?_) | (refine wpList_store_hid (by rfl) 34 (.tmp 7) (.tmp 127) (by rfl) y 0 x.cs (by rfl) (by rfl) (by exact Tw9'.out) (by kernel_rfl) (by simp [Value.oneCell', Cl.cs]) ?_))
              intro w9' ew9'
              replace X := hide (show w9'.heap[u]? = some (.cells x.cs.toArray 34 (0, 0)) by rw [ew9'.out]; exact other_heap (by omega) _ _ _ X.out)
              replace Q := hide (show Below w.heap.size w w9' by rw [ew9'.out]; exact Q.out.trans (below_setCells _ _ _ (by have := Q.out.size; omega)))
              replace C := hide (show w9'.heap[y]? = some (.cells x.cs.toArray 34 (0, 0)) by rw [ew9'.out]; exact whole_heap x.cs (xs := d1.cs) C.out rfl)
              clear ew9' Tw9'
              go_wp2_with fail
              go_meet
              exact ⟨x, HOX.out, C, Q⟩
          · rw [hh] at c8
            obtain rfl : xe = 21 := by rw [HXE.out, hh]; rfl
            clear HXE hh HXO
            go_wp2_with fail
            go_meet
            exact ⟨d1, HOK.out, C, Q⟩
      case rest =>
      clear hok C Q
      obtain ⟨d2, hok, C, Q⟩ := hcut
      refine hK2 _ _ ?_
      clear hK2
      have DR := hide (fun W => ctlDrive_ok d2 W hok)
      have SA := hide (fun W => ctlSample_ok d2 S[i] hbit W hok)
      have HDB := hide (ok_drv hok)
      have HOKM := hide (hok.samp S[i] hbit)
      have HEV := hide (hok.ev S[i])
      generalize d2.drv = db at *
      generalize d2.samp S[i] = M at *
      obtain ⟨e2, kd, ef, bd⟩ := M
      dsimp only at SA
      clear hok
      go_wp2_with (refine wpList_load_row rfl 34 (.tmp 7) (by rfl) y (by rfl) 34 d2.cs.toArray (0, 0) _ (by exact C.out) Tryd.underlying34 (by rfl) (by kernel_rfl) ?_)
      (with_reducible refine (DR.out _).mono ?_)
      rintro ew10' w10' ⟨rfl, qw10'⟩
      replace C := hide (heap_below C.out qw10')
      replace Q := hide (below_next Q.out Q.out.size qw10')
      clear qw10'
      clear DR
      go_upto_region 27 with fail
      refine ctlStays_sample w w10' S i y d2 e2 kd ef bd hlt (by rfl) SA C Q zQy (by intro _ _ d9 _ _ h; cases d9 <;> exact h) ?_
      intro u16 u17 u18 u133 u134 u135 u136 u137 u138 u139 u140 u141 wc hcut
      clear C Q SA
      obtain ⟨x7, x8, rfl, rfl, rfl, N7, N8, C, Q, y7⟩ := hcut
      go_upto_region 28 with fail
      refine ctlStays_may wc x7 x8 e2 kd ef bd db (by rfl) HOKM.out HEV.out HDB.out N7 N8 (by intro _ _ d9 _ _ h; cases d9 <;> exact h) ?_
      intro u142 u143 u144 u145 u146 u147 u148 u149 u150 u151 u152 u153 u154 u155 u156 u157 u158 u159 u160 u161 u162 u163 u164 u165 u166 u167 u168 u169 u170 u171 u172 u173 u174 u175 u176 u177 u178 u179 u180 u181 u182 u183 u184 u185 wd hcut
      rename_i hK2 _ hK
      obtain ⟨rfl, qc⟩ := hcut
      refine hK _ _ ?_
      refine wp_cond_false (by rfl) (wp_skip ?_)
      refine hK2 _ _ ?_
      clear hK hK2 HDB
      replace C := hide (heap_below C.out qc)
      replace N7 := hide (heap_below N7.out qc)
      replace N8 := hide (heap_below N8.out qc)
      replace Q := hide (below_next Q.out Q.out.size qc)
      clear qc
      go_upto_region 30 with fail
      go_cut [199] (fun v W => v = .bool false ∧ Below wd.heap.size wd W)
      case first =>
        obtain ⟨v0, v1, v2, v3, v4, v5, v6⟩ := ev_cells N8.out
        have hfr := HEV.out.fr
        dsimp only at hfr
        clear HEV HOKM HR1 HR2 HF BT AL C Q N7 N8
        by_cases h12 : kd = 1 ∨ kd = 2
        · have hr := hfr h12
          have RR := hide (fun W => show Calls Tryd.prog 9 #[.agg #[.int .u32 ef.id, .bool ef.ext, .bool ef.rem, .int .i64 ef.dlc, .string ef.data]] W fun e w' => e = .returned (.bool true) ∧ Below W.heap.size W w' from by have := refRight04_any ef W (right_id hr); rw [hr] at this; exact this)
          clear hfr hr
          rcases h12 with rfl | rfl
          all_goals
            go_wp2_with fail
            (with_reducible refine (RR.out _).mono ?_)
            rintro ea wa ⟨rfl, qa⟩
            go_wp2_with fail
            go_meet
            exact ⟨rfl, qa⟩
        · have h1 : (kd == 1) = false := by simpa using fun q => h12 (.inl q)
          have h2 : (kd == 2) = false := by simpa using fun q => h12 (.inr q)
          clear h12 hfr
          go_wp2_with fail
          go_meet
          exact ⟨rfl, Below.refl _ _⟩
      case rest =>
      rename_i hK2 _ hK
      obtain ⟨rfl, qc⟩ := hcut
      refine hK _ _ ?_
      refine wp_cond_false (by rfl) (wp_skip ?_)
      refine hK2 _ _ ?_
      clear hK hK2
      replace C := hide (heap_below C.out qc)
      replace N7 := hide (heap_below N7.out qc)
      replace N8 := hide (heap_below N8.out qc)
      replace Q := hide (below_next Q.out Q.out.size qc)
      clear qc
      clear N8
      have Tw11' := hide (show World.there _ y 0 23 from there_heap (cs := d2.cs) C.out)
      go_wp2_with (first | (refine wpList_load_row rfl 34 (.tmp 16) (by rfl) x7 (by rfl) 34 e2.cs.toArray (0, 0) _ (by exact N7.out) Tryd.underlying34 (by rfl) (by kernel_rfl) ?_) | (refine wpList_store_hid (by rfl) 34 (.tmp 7) (.tmp 200) (by rfl) y 0 e2.cs (by rfl) (by rfl) (by exact Tw11'.out) (by kernel_rfl) (by simp [Value.oneCell', Cl.cs]) ?_))
      intro w11' ew11'
      replace N7 := hide (show w11'.heap[x7]? = some (.cells e2.cs.toArray 34 (0, 0)) by rw [ew11'.out]; exact other_heap (by omega) _ _ _ N7.out)
      replace Q := hide (show Below w.heap.size w w11' by rw [ew11'.out]; exact Q.out.trans (below_setCells _ _ _ (by have := Q.out.size; omega)))
      replace C := hide (show w11'.heap[y]? = some (.cells e2.cs.toArray 34 (0, 0)) by rw [ew11'.out]; exact whole_heap e2.cs (xs := d2.cs) C.out rfl)
      clear ew11' Tw11'
      go_wp2_with fail
      go_roundw
      case rel => exact ⟨i + 1, by omega, by go_num, e2, HOKM.out, C, Q⟩
      case measure => simp [intOf]; omega
    · obtain rfl : i = S.size := by omega
      go_wp2_with fail
      (with_reducible refine (AL.out _).mono ?_)
      rintro ew12' w12' ⟨rfl, qw12'⟩
      replace C := hide (heap_below C.out qw12')
      replace Q := hide (below_next Q.out Q.out.size qw12')
      clear qw12'
      clear AL
      go_wp2_with fail
      go_ret
      exact ⟨rfl, Q.out⟩
end Go.Proofs.YtjfgapljfbkfiaaDoor
