/- com.TickOut of bytes to be sent that may be. -/
import Derived.Test.YtnhegnneohpkaaaGreatCmK
import Derived.Test.YtnhegnneohpkaaaGreatCmM
namespace Go.Proofs.YtnhegnneohpkaaaGreat
open Go.ChangeShapes Go.WideShapes Go.ChangeAt Go.RowKit
open CM PD SG

theorem results_cell_tmp3 {P : Program} {fn : Func} {p q r u : Tmp} {ty : TypeId} (h : fn.results = #[.cell p ty, .tmp q, .tmp r, .tmp u]) (tmps : Array Value) (w : World) (g : Nat) (t : TypeId) (cs : Array Value) (fr : Nat × Nat) (d : TypeDesc) (x y z : Value)
    (hp : tmps.getD p undef = .pointer (some ⟨g, 0, none⟩)) (hq : tmps.getD q undef = x) (hr : tmps.getD r undef = y) (hu3 : tmps.getD u undef = z) (hg : w.heap[g]? = some (.cells cs t fr))
    (hu : P.underlying ty = some d) (hd : (match d with | .struct _ | .array _ _ => true | _ => false) = true) (hi : (P.info? ty).map (·.size) = some cs.size) :
    (results fn tmps).run P w = .ok (.tuple #[.agg cs, x, y, z]) w := by
  have hp' : tmps[p]?.getD undef = .pointer (some ⟨g, 0, none⟩) := by simpa using hp
  have hq' : tmps[q]?.getD undef = x := by simpa using hq
  have hr' : tmps[r]?.getD undef = y := by simpa using hr
  have hu' : tmps[u]?.getD undef = z := by simpa using hu3
  simp [results, h, hp', hq', hr', hu', asAddr, run_loadVar_row w g t ty cs fr d hg hu hd hi]
theorem fit_all {L : Ly} {vs : List Int} (h : fitA L vs = true) : fitAll L vs := fun k hk => by
  unfold fitA at h
  simp only [Bool.and_eq_true, decide_eq_true_eq] at h
  have := allW_iff.1 h.2 k (by omega)
  rw [getDx _ (show k < vs.length by omega)]
  exact this
structure Ou.Tk (o : Ou) (N : Nat) (V : Ou) : Prop where
  ly : V.ly = o.ly
  fill : V.fill = o.fill
  fl : V.fl = o.fl
  S : V.S = o.S
  G : V.G = o.G
  times : V.times = o.times
  snd : V.snd = o.snd.tick
  news : V.news = o.news ∧ o.snd.tickE = false ∨ V.news.l = List.replicate o.news.l.length false ∧ Fresh N V.news.a ∧ o.snd.tickE = true
def Ou.tkS (o : Ou) (fill : UInt8) : ByteArray := if o.snd.tickE = true then ⟨(packF o.ly.L o.G.l o.news.l fill).toArray⟩ else ⟨#[]⟩

set_option maxRecDepth 100000 in
set_option maxHeartbeats 32000000 in
theorem comTickOut_ok (o : Ou) (fill : UInt8) (w : World) (ho : o.Ok w) (hr : o.right = true) (hfi : o.fill = fill.toNat) :
    Calls Tryz.prog 10 #[.agg o.cs.toArray] w fun e w' => ∃ V : Ou, e = .returned (.tuple #[.agg V.cs.toArray, .string (o.tkS fill), .bool o.snd.tickE, .int .i64 0]) ∧ V.Ok w' ∧ o.Tk w.heap.size V ∧ Below w.heap.size w w' := by
  obtain ⟨w0, hw0⟩ : ∃ w0, w0 = (w.alloc (.cells o.cs.toArray 40)).alloc (.cells Ou.zero.cs.toArray 40) := ⟨_, rfl⟩
  have B := hide (heap_below (World.alloc_heap_new w (.cells o.cs.toArray 40)) ((Below.refl _ (w.alloc (.cells o.cs.toArray 40))).alloc (Nat.le_refl _) (.cells Ou.zero.cs.toArray 40)))
  have R := hide (World.alloc_heap_new (w.alloc (.cells o.cs.toArray 40)) (.cells Ou.zero.cs.toArray 40))
  have Q : Hid (Below w.heap.size w w0) := by rw [hw0]; exact hide (((Below.refl w.heap.size w).alloc (Nat.le_refl _) (.cells o.cs.toArray 40)).alloc (by simp; try omega) (.cells Ou.zero.cs.toArray 40))
  rw [← hw0] at B R
  simp only [World.size_alloc] at R
  obtain ⟨P, hnl, hsd⟩ := Ou.parts hr
  have RT := hide (fun W (q : Below w.heap.size w W) => rightOut_l o W (ho.next q) hr)
  obtain ⟨pk, hpk⟩ : ∃ pk : ByteArray, pk = ⟨(packF o.ly.L o.G.l o.news.l fill).toArray⟩ := ⟨_, rfl⟩
  have PK := hide (fun W (q : Below w.heap.size w W) => show Calls Tryz.prog 35 #[.agg o.ly.cs.toArray, .slice o.G.a o.G.l.length o.G.c, .slice o.news.a o.news.l.length o.news.c, .int .u8 o.fill] W fun e w' => e = .returned (.tuple #[.string pk, .int .i64 0]) ∧ Below W.heap.size W w' from by
    have k := ho.next q
    rw [hfi]
    refine (pack_in0 o.ly.L o.ly.A o.ly.c o.ly.B o.ly.d o.G.l o.news.l o.G.a o.G.c o.news.a o.news.c fill W k.ly.a k.ly.b k.ly.s k.ly.n k.ly.c k.ly.d k.G.r k.news.r k.G.m P.right P.lg hnl).mono ?_
    rintro e w' ⟨h | h, q⟩
    · rw [hpk]; exact ⟨h.2, q⟩
    · exact absurd (fit_all P.fg) h.1)
  obtain ⟨s1, hs1⟩ : ∃ s1, s1 = o.snd.tick := ⟨_, rfl⟩
  obtain ⟨is, his⟩ : ∃ is, is = o.snd.tickE := ⟨_, rfl⟩
  obtain ⟨str, hstr⟩ : ∃ str, str = o.tkS fill := ⟨_, rfl⟩
  have TK := hide (fun W => sendTick_ok o.snd W hsd)
  rw [← hs1, ← his] at TK
  rw [← his, ← hstr]
  have HT : Hid (str = if is = true then pk else ⟨#[]⟩) := hide (by rw [hstr, his, hpk]; rfl)
  have HO := hide ho
  have HP := hide P
  have HN := hide hnl
  have H1 := hide hs1
  have HI := hide his
  have hmk := fun W => run_make_row' (P := Tryz.prog) 36 4 (.bool false) 1 Tryz.underlying36 (by kernel_rfl) rfl .i64 .i64 o.news.l.length (by have := P.n; omega) (by have := P.n; omega) W
  clear ho hr P hnl hsd hpk hs1 his hfi hstr
  go_enter Tryz.func10, Tryz.ntmps10
  go_upto_region 1 with fail
  change Code.wp _ _ _ _ ((w.alloc (.cells o.cs.toArray 40)).alloc (.cells Ou.zero.cs.toArray 40))
  rw [← hw0]
  clear hw0
  have R1 := hide (RT.out _ Q.out)
  clear RT
  go_wp2_with (refine wpList_load_row rfl 40 (.tmp 1) (by rfl) w.heap.size (by rfl) 40 o.cs.toArray (0, 0) _ (by exact B.out) Tryz.underlying40 (by rfl) (by kernel_rfl) ?_)
  (with_reducible refine (R1.out).mono ?_)
  rintro ew1' w1' ⟨rfl, qw1'⟩
  replace B := hide (heap_below B.out qw1')
  replace R := hide (heap_below R.out qw1')
  replace Q := hide (below_next Q.out Q.out.size qw1')
  clear qw1'
  clear R1
  go_wp2_with (refine wpList_load_mid rfl 38 (.tmp 16) (by rfl) w.heap.size 9 (by rfl) (sncL o.snd) _ (by exact sub_range B.out 9 rfl) Tryz.underlying38 (by rfl) (by kernel_rfl) ?_)
  (with_reducible refine (TK.out _).mono ?_)
  rintro ew2' w2' ⟨rfl, qw2'⟩
  replace B := hide (heap_below B.out qw2')
  replace R := hide (heap_below R.out qw2')
  replace Q := hide (below_next Q.out Q.out.size qw2')
  clear qw2'
  clear TK
  have X := World.alloc_heap_new w2' (.cells (sncL zSnd).toArray 38)
  have zBx : w.heap.size < w2'.heap.size := heap_lt B.out
  have zRx : w.heap.size + 1 < w2'.heap.size := heap_lt R.out
  have zQx : w.heap.size ≤ w2'.heap.size := Q.out.size
  obtain ⟨w4', hw4'⟩ : ∃ wx, wx = w2'.alloc (.cells (sncL zSnd).toArray 38) := ⟨_, rfl⟩
  have q3' := hide (show Below w2'.heap.size w2' w4' by rw [hw4']; exact (Below.refl _ _).alloc (Nat.le_refl _) _)
  rw [← hw4'] at X
  replace X := hide X
  have Tw5' := hide (show (w2'.alloc (.cells (sncL zSnd).toArray 38)).there w2'.heap.size 0 17 by rw [← hw4']; exact there_heap (cs := sncL zSnd) X.out)
  go_wp2_with (refine wpList_store_hid (by rfl) 38 (.tmp 6) (.tmp 19) (by rfl) w2'.heap.size 0 (sncL s1) (by rfl) (by rfl) (by exact Tw5'.out) (by kernel_rfl) (by simp [Value.oneCell', sncL]) ?_)
  intro w5' ew5'
  replace ew5' : Hid (w5' = w4'.setCells w2'.heap.size 0 (sncL s1)) := by rw [hw4']; exact ew5'
  replace X := hide (show w5'.heap[w2'.heap.size]? = some (.cells (sncL s1).toArray 38 (0, 0)) by rw [ew5'.out]; exact whole_heap (sncL s1) (xs := sncL zSnd) X.out rfl)
  replace q3' := hide (show Below w2'.heap.size w2' w5' by rw [ew5'.out]; exact q3'.out.trans (below_setCells _ _ _ (by omega)))
  clear ew5' Tw5' hw4'
  replace B := hide (heap_below B.out q3'.out)
  replace R := hide (heap_below R.out q3'.out)
  replace Q := hide (below_next Q.out Q.out.size q3'.out)
  clear q3'
  generalize w2'.heap.size = x at *
  have zB := heap_lt B.out
  have zR := heap_lt R.out
  have zX := heap_lt X.out
  have zQ := Q.out.size
  have Tw6' := hide (show World.there _ w.heap.size 9 17 from sub_there (cs := o.cs) B.out 9 17 (by simp [Ou.cs, Fv.v, Iv.v, Bv.v]))
  go_wp2_with (first | (refine wpList_load_row rfl 38 (.tmp 6) (by rfl) x (by rfl) 38 (sncL s1).toArray (0, 0) _ (by exact X.out) Tryz.underlying38 (by rfl) (by kernel_rfl) ?_) | (refine wpList_store_hid (by rfl) 38 (.tmp 23) (.tmp 22) (by rfl) w.heap.size 9 (sncL s1) (by rfl) (by rfl) (by exact Tw6'.out) (by kernel_rfl) (by simp [Value.oneCell', sncL]) ?_))
  intro w6' ew6'
  replace R := hide (show w6'.heap[w.heap.size + 1]? = some (.cells Ou.zero.cs.toArray 40 (0, 0)) by rw [ew6'.out]; exact other_heap (by omega) _ _ _ R.out)
  replace X := hide (show w6'.heap[x]? = some (.cells (sncL s1).toArray 38 (0, 0)) by rw [ew6'.out]; exact other_heap (by omega) _ _ _ X.out)
  replace Q := hide (show Below w.heap.size w w6' by rw [ew6'.out]; exact Q.out.trans (below_setCells _ _ _ (by have := Q.out.size; omega)))
  replace B := hide (show w6'.heap[w.heap.size]? = some (.cells (({ o with snd := s1 } : Ou).cs).toArray 40 (0, 0)) by rw [ew6'.out]; exact ou_heapSnd s1 B.out)
  clear ew6' Tw6'
  clear X zX
  cases is with
  | false =>
    have Tw7' := hide (show World.there _ (w.heap.size + 1) 0 26 from there_heap (cs := Ou.zero.cs) R.out)
    go_wp2_with (first | (refine wpList_load_row rfl 40 (.tmp 1) (by rfl) w.heap.size (by rfl) 40 (({ o with snd := s1 } : Ou).cs).toArray (0, 0) _ (by exact B.out) Tryz.underlying40 (by rfl) (by kernel_rfl) ?_) | (refine wpList_store_hid (by rfl) 40 (.tmp 2) (.tmp 26) (by rfl) (w.heap.size + 1) 0 (({ o with snd := s1 } : Ou).cs) (by rfl) (by rfl) (by exact Tw7'.out) (by kernel_rfl) (by simp [Value.oneCell', Ou.cs, Fv.v, Iv.v, Bv.v]) ?_))
    intro w7' ew7'
    replace B := hide (show w7'.heap[w.heap.size]? = some (.cells (({ o with snd := s1 } : Ou).cs).toArray 40 (0, 0)) by rw [ew7'.out]; exact other_heap (by omega) _ _ _ B.out)
    replace Q := hide (show Below w.heap.size w w7' by rw [ew7'.out]; exact Q.out.trans (below_setCells _ _ _ (by have := Q.out.size; omega)))
    replace R := hide (show w7'.heap[w.heap.size + 1]? = some (.cells (({ o with snd := s1 } : Ou).cs).toArray 40 (0, 0)) by rw [ew7'.out]; exact whole_heap (({ o with snd := s1 } : Ou).cs) (xs := Ou.zero.cs) R.out rfl)
    clear ew7' Tw7'
    go_wp2_with fail
    have ok := HO.out.next Q.out
    refine bodyPost_ret (results_cell_tmp3 (by rfl) _ w7' (w.heap.size + 1) 40 (({ o with snd := s1 } : Ou).cs).toArray (0, 0) _ (.string ⟨#[]⟩) (.bool false) (.int .i64 0) (by rfl) (by rfl) (by rfl) (by rfl) R.out Tryz.underlying40 (by rfl) (by kernel_rfl)) rfl ⟨({ o with snd := s1 } : Ou), by rw [HT.out]; rfl, ⟨ok.ly, ok.fl, ok.S, ok.G, ok.news⟩, ⟨rfl, rfl, rfl, rfl, rfl, rfl, H1.out, .inl ⟨rfl, HI.out.symm⟩⟩, Q.out⟩
  | true =>
    have P1 := hide (PK.out _ Q.out)
    clear PK
    obtain ⟨⟨-, -, -, c3, -, -, c6, -, c8⟩, -⟩ := ou_cells B.out
    unfold Bv.v at c8
    unfold Iv.v at c6
    go_wp2_with (refine wpList_load_mid rfl 27 (.tmp 28) (by rfl) w.heap.size 0 (by rfl) (o.ly.cs) _ (by exact sub_range B.out 0 rfl) Tryz.underlying27 (by rfl) (by kernel_rfl) ?_)
    clear c3 c6 c8
    (with_reducible refine (P1.out).mono ?_)
    rintro ew8' w8' ⟨rfl, qw8'⟩
    replace B := hide (heap_below B.out qw8')
    replace R := hide (heap_below R.out qw8')
    replace Q := hide (below_next Q.out Q.out.size qw8')
    clear qw8'
    clear P1
    obtain ⟨m, hm⟩ : ∃ m, m = w8'.heap.size := ⟨_, rfl⟩
    obtain ⟨⟨-, -, -, -, -, -, -, -, c8⟩, -⟩ := ou_cells B.out
    have f8 := ou_free B.out 8
    unfold Bv.v at c8
    have zB2 := heap_lt B.out
    have zR2 := heap_lt R.out
    have zQ2 := Q.out.size
    go_upto_region 9 with fail
    clear c8 f8 hmk
    rw [← hm] at zB2 zR2 zQ2 ⊢
    have hsz : m = (w8'.setCell ⟨w.heap.size, 8, none⟩ (.slice (some ⟨m, 0, none⟩) o.news.l.length o.news.l.length)).heap.size := by rw [hm]; simp
    obtain ⟨w9', ew9'⟩ : ∃ wq, wq = w8'.setCell ⟨w.heap.size, 8, none⟩ (.slice (some ⟨m, 0, none⟩) o.news.l.length o.news.l.length) := ⟨_, rfl⟩
    rw [← ew9'] at ⊢ hsz
    replace R := hide (show w9'.heap[w.heap.size + 1]? = some (.cells Ou.zero.cs.toArray 40 (0, 0)) by rw [ew9']; exact other_heap (by omega) ([.slice (some ⟨m, 0, none⟩) o.news.l.length o.news.l.length]) 8 _ R.out)
    replace Q := hide (show Below w.heap.size w w9' by rw [ew9']; exact Q.out.trans (below_setCells ([.slice (some ⟨m, 0, none⟩) o.news.l.length o.news.l.length]) 8 _ (by omega)))
    replace B := hide (show w9'.heap[w.heap.size]? = some (.cells (({ o with snd := s1, news := ⟨o.news.l, some ⟨m, 0, none⟩, o.news.l.length⟩ } : Ou).cs).toArray 40 (0, 0)) by rw [ew9']; exact set_heap ([.slice (some ⟨m, 0, none⟩) o.news.l.length o.news.l.length]) (({ o with snd := s1 } : Ou).cs) 8 _ B.out)
    clear ew9'
    clear hm
    have q : Below w9'.heap.size w9' (w9'.alloc (.cells (madeCells #[.bool false] o.news.l.length) 4)) := (Below.refl _ _).alloc (Nat.le_refl _) _
    have OO := hide (own_made w9' w.heap.size o.news.l.length Q.out.size (by have := HP.out.n; have := HN.out; unfold maxLen; omega))
    rw [← hsz] at OO
    replace B := hide (heap_below B.out q)
    replace R := hide (heap_below R.out q)
    replace Q := hide (below_next Q.out Q.out.size q)
    clear q
    generalize w9'.alloc (.cells (madeCells #[.bool false] o.news.l.length) 4) = w10' at *
    clear hsz
    have Tw11' := hide (show World.there _ (w.heap.size + 1) 0 26 from there_heap (cs := Ou.zero.cs) R.out)
    go_wp2_with (first | (refine wpList_load_row rfl 40 (.tmp 1) (by rfl) w.heap.size (by rfl) 40 (({ o with snd := s1, news := ⟨o.news.l, some ⟨m, 0, none⟩, o.news.l.length⟩ } : Ou).cs).toArray (0, 0) _ (by exact B.out) Tryz.underlying40 (by rfl) (by kernel_rfl) ?_) | (refine wpList_store_hid (by rfl) 40 (.tmp 2) (.tmp 45) (by rfl) (w.heap.size + 1) 0 (({ o with snd := s1, news := ⟨o.news.l, some ⟨m, 0, none⟩, o.news.l.length⟩ } : Ou).cs) (by rfl) (by rfl) (by exact Tw11'.out) (by kernel_rfl) (by simp [Value.oneCell', Ou.cs, Fv.v, Iv.v, Bv.v]) ?_))
    intro w11' ew11'
    replace B := hide (show w11'.heap[w.heap.size]? = some (.cells (({ o with snd := s1, news := ⟨o.news.l, some ⟨m, 0, none⟩, o.news.l.length⟩ } : Ou).cs).toArray 40 (0, 0)) by rw [ew11'.out]; exact other_heap (by omega) _ _ _ B.out)
    replace OO := hide (show Own w11' w.heap.size 4 1 (some ⟨m, 0, none⟩) o.news.l.length (boRow (List.replicate o.news.l.length false)) by rw [ew11'.out]; exact own_beside OO.out (fun g2 off e => by cases e; omega) _ _)
    replace Q := hide (show Below w.heap.size w w11' by rw [ew11'.out]; exact Q.out.trans (below_setCells _ _ _ (by have := Q.out.size; omega)))
    replace R := hide (show w11'.heap[w.heap.size + 1]? = some (.cells (({ o with snd := s1, news := ⟨o.news.l, some ⟨m, 0, none⟩, o.news.l.length⟩ } : Ou).cs).toArray 40 (0, 0)) by rw [ew11'.out]; exact whole_heap (({ o with snd := s1, news := ⟨o.news.l, some ⟨m, 0, none⟩, o.news.l.length⟩ } : Ou).cs) (xs := Ou.zero.cs) R.out rfl)
    clear ew11' Tw11'
    go_wp2_with fail
    have eV : ({ o with snd := s1, news := ⟨List.replicate o.news.l.length false, some ⟨m, 0, none⟩, o.news.l.length⟩ } : Ou).cs = ({ o with snd := s1, news := ⟨o.news.l, some ⟨m, 0, none⟩, o.news.l.length⟩ } : Ou).cs := by simp [Ou.cs, Bv.v]
    rw [← eV] at R
    have ok := HO.out.next Q.out
    refine bodyPost_ret (results_cell_tmp3 (by rfl) _ w11' (w.heap.size + 1) 40 (({ o with snd := s1, news := ⟨List.replicate o.news.l.length false, some ⟨m, 0, none⟩, o.news.l.length⟩ } : Ou).cs).toArray (0, 0) _ (.string pk) (.bool true) (.int .i64 0) (by rfl) (by rfl) (by rfl) (by rfl) R.out Tryz.underlying40 (by rfl) (by kernel_rfl)) rfl ⟨({ o with snd := s1, news := ⟨List.replicate o.news.l.length false, some ⟨m, 0, none⟩, o.news.l.length⟩ } : Ou), by rw [HT.out]; rfl, ⟨ok.ly, ok.fl, ok.S, ok.G, boOwn_rd OO.out, by simp only [List.length_replicate]; exact ok.news.n⟩, ⟨rfl, rfl, rfl, rfl, rfl, rfl, H1.out, .inr ⟨rfl, fun g1 off h => by cases h; omega, HI.out.symm⟩⟩, Q.out⟩
end Go.Proofs.YtnhegnneohpkaaaGreat

/- Bytes that are sent, and such as come, beside boxes that are written. -/
namespace Go.Proofs.YtnhegnneohpkaaaGreat
open Go.ChangeShapes Go.WideShapes Go.ChangeAt Go.RowKit
open CM PD SG

theorem offS_rd {W : World} {B : Nat} {A : Option Addr} {sz : Nat} {R : List (List Value)} (h : Rd W B A sz R) : OffS (fun k => B ≤ k) A R.length := by
  by_cases hn : 0 < R.length
  · obtain ⟨g, off, e, hb, _⟩ := h hn
    refine .inr fun g2 off2 e2 h2 => ?_
    rw [e] at e2
    cases e2
    exact Nat.not_le.2 hb h2
  · exact .inl (by omega)
theorem OffS.mono {S T : Nat → Prop} {A : Option Addr} {n : Nat} (h : OffS S A n) (hT : ∀ k, T k → S k) : OffS T A n := h.elim .inl fun f => .inr fun g off e t => f g off e (hT g t)
theorem OffS.or {S T : Nat → Prop} {A : Option Addr} {n : Nat} (h : OffS S A n) (k : OffS T A n) : OffS (fun x => S x ∨ T x) A n := h.elim .inl fun f => k.elim .inl fun f2 => .inr fun g off e t => t.elim (f g off e) (f2 g off e)
theorem offS_fresh {N n : Nat} {A : Option Addr} {S : Nat → Prop} (h : Fresh N A) (hS : ∀ k, S k → k < N) : OffS S A n := .inr fun g off e t => by have := h g off e; have := hS g t; omega
theorem offS_at {x n : Nat} {S : Nat → Prop} (h : ¬ S x) : OffS S (some ⟨x, 0, none⟩) n := .inr fun g off e t => by cases e; exact h t
section
variable {S T : Nat → Prop} {W W1 : World}
theorem kp_sg {A : Option Addr} {l : List Sg} (k : Kp S W W1) (h : SgR W W.heap.size A l) (a : OffS S A l.length) : SgR W1 W1.heap.size A l := k.rd h (by rw [List.length_map]; exact a)
theorem kp_in {A : Option Addr} {l : List Int} (k : Kp S W W1) (h : InR W W.heap.size A l) (a : OffS S A l.length) : InR W1 W1.heap.size A l := k.rd h (by unfold inRow; rw [List.length_map]; exact a)
theorem kp_bo {A : Option Addr} {l : List Bool} (k : Kp S W W1) (h : BoR W W.heap.size A l) (a : OffS S A l.length) : BoR W1 W1.heap.size A l := k.rd h (by unfold boRow; rw [List.length_map]; exact a)
theorem kp_fl {A : Option Addr} {l : List Flt} (k : Kp S W W1) (h : FlR W W.heap.size A l) (a : OffS S A l.length) : FlR W1 W1.heap.size A l := k.rd h (by rw [List.length_map]; exact a)
structure Lv.Away (S : Nat → Prop) (l : Lv) : Prop where
  a : OffS S l.A l.L.sgs.length
  b : OffS S l.B l.L.nws.length
theorem Lv.Ok.kp {l : Lv} (h : l.Ok W) (k : Kp S W W1) (a : l.Away S) : l.Ok W1 := ⟨kp_sg k h.a a.a, kp_in k h.b a.b, h.s, h.n, h.c, h.d⟩
theorem Lv.Ok.away {l : Lv} (h : l.Ok W) : l.Away (fun k => W.heap.size ≤ k) := ⟨by have := offS_rd h.a; rwa [List.length_map] at this, by have := offS_rd h.b; unfold inRow at this; rwa [List.length_map] at this⟩
theorem Lv.Away.mono {l : Lv} (h : l.Away S) (hT : ∀ k, T k → S k) : l.Away T := ⟨h.a.mono hT, h.b.mono hT⟩
theorem Lv.Away.or {l : Lv} (h : l.Away S) (k : l.Away T) : l.Away (fun x => S x ∨ T x) := ⟨h.a.or k.a, h.b.or k.b⟩
theorem Iv.Ok.kp {i : Iv} (h : i.Ok W) (k : Kp S W W1) (a : OffS S i.a i.l.length) : i.Ok W1 := ⟨kp_in k h.r a, h.m, h.n⟩
theorem Iv.Ok.away {i : Iv} (h : i.Ok W) : OffS (fun k => W.heap.size ≤ k) i.a i.l.length := by have := offS_rd h.r; unfold inRow at this; rwa [List.length_map] at this
theorem Fv.Ok.kp {i : Fv} (h : i.Ok W) (k : Kp S W W1) (a : OffS S i.a i.l.length) : i.Ok W1 := ⟨kp_fl k h.r a, h.n⟩
theorem Fv.Ok.away {i : Fv} (h : i.Ok W) : OffS (fun k => W.heap.size ≤ k) i.a i.l.length := by have := offS_rd h.r; rwa [List.length_map] at this
theorem Bv.Ok.kp {i : Bv} (h : i.Ok W) (k : Kp S W W1) (a : OffS S i.a i.l.length) : i.Ok W1 := ⟨kp_bo k h.r a, h.n⟩
theorem Bv.Ok.away {i : Bv} (h : i.Ok W) : OffS (fun k => W.heap.size ≤ k) i.a i.l.length := by have := offS_rd h.r; unfold boRow at this; rwa [List.length_map] at this
/-- None of the rows lies in some blocks. -/
structure Ou.Away (Z : Nat → Prop) (o : Ou) : Prop where
  ly : o.ly.Away Z
  fl : OffS Z o.fl.a o.fl.l.length
  S : OffS Z o.S.a o.S.l.length
  G : OffS Z o.G.a o.G.l.length
  news : OffS Z o.news.a o.news.l.length
structure Inn.Away (Z : Nat → Prop) (o : Inn) : Prop where
  ly : o.ly.Away Z
  fl : OffS Z o.fl.a o.fl.l.length
  S : OffS Z o.S.a o.S.l.length
  G : OffS Z o.G.a o.G.l.length
  subs : OffS Z o.subs.a o.subs.l.length
theorem Ou.Ok.kp {o : Ou} (h : o.Ok W) (k : Kp S W W1) (a : o.Away S) : o.Ok W1 := ⟨h.ly.kp k a.ly, h.fl.kp k a.fl, h.S.kp k a.S, h.G.kp k a.G, h.news.kp k a.news⟩
theorem Inn.Ok.kp {o : Inn} (h : o.Ok W) (k : Kp S W W1) (a : o.Away S) : o.Ok W1 := ⟨h.ly.kp k a.ly, h.fl.kp k a.fl, h.S.kp k a.S, h.G.kp k a.G, h.subs.kp k a.subs⟩
theorem Ou.Ok.away {o : Ou} (h : o.Ok W) : o.Away (fun k => W.heap.size ≤ k) := ⟨h.ly.away, h.fl.away, h.S.away, h.G.away, h.news.away⟩
theorem Inn.Ok.away {o : Inn} (h : o.Ok W) : o.Away (fun k => W.heap.size ≤ k) := ⟨h.ly.away, h.fl.away, h.S.away, h.G.away, h.subs.away⟩
theorem Ou.Away.mono {o : Ou} (h : o.Away S) (hT : ∀ k, T k → S k) : o.Away T := ⟨h.ly.mono hT, h.fl.mono hT, h.S.mono hT, h.G.mono hT, h.news.mono hT⟩
theorem Inn.Away.mono {o : Inn} (h : o.Away S) (hT : ∀ k, T k → S k) : o.Away T := ⟨h.ly.mono hT, h.fl.mono hT, h.S.mono hT, h.G.mono hT, h.subs.mono hT⟩
theorem Ou.Away.or {o : Ou} (h : o.Away S) (k : o.Away T) : o.Away (fun x => S x ∨ T x) := ⟨h.ly.or k.ly, h.fl.or k.fl, h.S.or k.S, h.G.or k.G, h.news.or k.news⟩
theorem Inn.Away.or {o : Inn} (h : o.Away S) (k : o.Away T) : o.Away (fun x => S x ∨ T x) := ⟨h.ly.or k.ly, h.fl.or k.fl, h.S.or k.S, h.G.or k.G, h.subs.or k.subs⟩
/-- A box beside the rows is written. -/
theorem Ou.Ok.set {o : Ou} (h : o.Ok W) (a : o.Away S) {x : Nat} (hx : S x) (off : Nat) (vs : List Value) : o.Ok (W.setCells x off vs) := h.kp (Kp.set W x off vs hx) a
theorem Inn.Ok.set {o : Inn} (h : o.Ok W) (a : o.Away S) {x : Nat} (hx : S x) (off : Nat) (vs : List Value) : o.Ok (W.setCells x off vs) := h.kp (Kp.set W x off vs hx) a
/-- The rows that a call makes anew lie beside elder boxes; those it takes over lie where they lay. -/
theorem Ou.Wr.away {o V : Ou} {k : Nat} {v : Int} {N : Nat} (h : o.Wr k v N V) (a : o.Away S) (hS : ∀ x, S x → x < N) : V.Away S := ⟨by rw [h.ly]; exact a.ly, by rw [h.fl]; exact a.fl, offS_fresh h.fs hS, by rw [h.G]; exact a.G, offS_fresh h.fn hS⟩
theorem Ou.Gv.away {o V : Ou} {N : Nat} (h : o.Gv N V) (a : o.Away S) (hS : ∀ x, S x → x < N) : V.Away S := ⟨by rw [h.ly]; exact a.ly, offS_fresh h.ff hS, offS_fresh h.fs hS, offS_fresh h.fg hS, by rw [h.news]; exact a.news⟩
theorem Ou.Tk.away {o V : Ou} {N : Nat} (h : o.Tk N V) (a : o.Away S) (hS : ∀ x, S x → x < N) : V.Away S := ⟨by rw [h.ly]; exact a.ly, by rw [h.fl]; exact a.fl, by rw [h.S]; exact a.S, by rw [h.G]; exact a.G, by
  rcases h.news with ⟨e, _⟩ | ⟨_, f, _⟩
  · rw [e]; exact a.news
  · exact offS_fresh f hS⟩
theorem Inn.Cm.away {o V : Inn} {d : List UInt8} {N : Nat} (h : o.Cm d N V) (a : o.Away S) (hS : ∀ x, S x → x < N) : V.Away S := ⟨by rw [h.ly]; exact a.ly, offS_fresh h.ff hS, by
  rcases h.rest with ⟨e, _⟩ | ⟨_, _, _, _, f, _, _⟩
  · rw [e]; exact a.S
  · exact offS_fresh f hS, by
  rcases h.rest with ⟨_, e, _⟩ | ⟨_, _, _, _, _, f, _⟩
  · rw [e]; exact a.G
  · exact offS_fresh f hS, by rw [h.subs]; exact a.subs⟩
end
end Go.Proofs.YtnhegnneohpkaaaGreat
