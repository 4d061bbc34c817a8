/-
  Lemmas on the way, joined: ShU, ShT, ShE, SecV, SecT, SecR, SecM, SecL0, SecG, RfA, RfB, RfC, RfP, RfD, RfE, RfF.
-/
import Derived.Test.YtenbjndldenkfaaGreatDoorPk3
namespace Go.Proofs.YtenbjndldenkfaaGreatDoor
open Go.RowKit Go.Sort
theorem MedOk.ps {N : Nat} {m : Med} (h : MedOk N m) (hN : N ≤ 2000) : m.ps.length ≤ 10000 ∧ ∀ p ∈ m.ps, p.1.length ≤ 4000 ∧ p.2.length ≤ 4000 := by
 obtain ⟨_, _, h3, h4⟩ := h
 exact ⟨by omega, fun p hp => by have := h4 p hp; omega⟩
theorem cntK_le (i : Int) : ∀ l : List Prt, cntK i l ≤ l.length
 | [] => Nat.le_refl _
 | p :: r => by
  have := cntK_le i r
  show (if p.up = i then 1 else 0) + cntK i r ≤ _
  rw [List.length_cons]
  split <;> omega
theorem flat_jn : ∀ l : List Tx, l.flatten.length ≤ (jnQ l).length
 | [] => Nat.le_refl _
 | [x] => by simp [jnQ]
 | x :: y :: r => by
  have := flat_jn (y :: r)
  rw [jnQ_cons, List.flatten_cons, List.length_append, List.length_append, List.length_cons]
  omega
theorem midL_no {f : Nat → Tx} {q : Tx} {l : List Prt} {i : Nat} {p : Prt} (h : ¬ (p.kind = 2 ∧ 0 ≤ kidQ l i 1)) : midL f q l i p = [] := by unfold midL; rw [if_neg h]
theorem midL_yes {f : Nat → Tx} {q : Tx} {l : List Prt} {i k : Nat} {p y : Prt} (h : p.kind = 2 ∧ 0 ≤ kidQ l i 1) (hk : kidQ l i 1 = (k : Int)) (hy : l[k]? = some y) : midL f q l i p = [envS (sliceQ q y.frm y.tu), f k, linesS q p] := by
 unfold midL
 rw [if_pos h, hk, Int.toNat_natCast, hy]
set_option maxRecDepth 100000 in
set_option maxHeartbeats 3200000 in
theorem one_step (A : Option Addr) (c : Nat) (q : Tx) (L : Option Addr) (lc : Nat) (l : List Pc) (P : List Prt) (hl : l.map (·.1) = P) (hq : q.length ≤ 2000) (hc : q.length ≤ c) (h64 : P.length ≤ 64)
  (hup : ∀ (k : Nat) (p : Prt), P[k]? = some p → p.up < (k : Int)) (hok : ∀ (k : Nat) (p : Prt), P[k]? = some p → p.frm ≤ p.body ∧ p.body ≤ p.tu ∧ p.tu ≤ q.length ∧ True) (hmed : ∀ p ∈ P, MedOk q.length p.m) (hkids : KidsQk P) (hlen : ∀ i, i < P.length → (oneS 64 q P i).length ≤ 32000000000)
  (i : Nat) (hi : i < l.length)
  (ih : ∀ k, i < k → k < l.length → ∀ w, Tab w → Rd w 1 A q.length (U8 q) → Rd w 9 L l.length (PP l) → OwnPs w l → Calls Tryz.prog 37 #[.slice A q.length c, .slice L l.length lc, .int .i64 ((k : Nat) : Int)] w fun e w' => e = .returned (encStr (oneS 64 q P k)) ∧ Frm [] w w') :
  ∀ w, Tab w → Rd w 1 A q.length (U8 q) → Rd w 9 L l.length (PP l) → OwnPs w l → Calls Tryz.prog 37 #[.slice A q.length c, .slice L l.length lc, .int .i64 ((i : Nat) : Int)] w fun e w' => e = .returned (encStr (oneS 64 q P i)) ∧ Frm [] w w' := by
 intro w ht hrd hrL hps
 have K := Frm.refl [] w
 obtain ⟨ad, hLe, hcell⟩ := PP_at hrL hi
 have hPi : P[i]? = some l[i].1 := by rw [← hl, List.getElem?_map, List.getElem?_eq_getElem hi]; rfl
 have hPl : P.length = l.length := by rw [← hl, List.length_map]
 have hpm := hps _ (List.getElem_mem hi)
 have hone := oneS_P (q := q) hup h64 hPi
 have hbig := hlen i (by omega)
 obtain ⟨hfb, hbt, htl, _⟩ := hok i _ hPi
 have hmd := hmed _ (List.mem_of_getElem? hPi)
 have hkc := (hkids i _ hPi).1
 have hkb := cntK_le ((i : Nat) : Int) P
 have hLlt : ∀ y ∈ ob L, y < w.heap.size := fun y hy => hrL.lt (by omega) y hy
 generalize hxe : l[i] = x at *
 rw [hone] at hbig ⊢
 refine VC.calls (nt := 121) (res := #[.tmp 6]) Tryz.func37 rfl Tryz.ntmps37 Tryz.results37 rfl ?_
 refine js (jr (ja ?_))
 refine jo (jn (jv3 0 1 2 ?_))
 refine js (jr (jm ?_))
 refine jm ?_
 refine Ops.r (Run.indexS i (by rw [← hLe]; rfl) rfl Tryz.underlying60 Tryz.sizeOf69 hi) rfl ?_
 refine Ops.r (Run.loadA rfl Tryz.isAgg69 Tryz.sizeOf69 hcell (by first | rfl | (simp; done))) rfl ?_
 refine Ops.m (Does.alloc zero69) rfl ?_
 rintro _ w2 ⟨rfl, hF2⟩
 have hb7 := hF2.blk
 have sK := K.size
 have K := K.trans hF2.frm (by simp)
 generalize hg7 : w.heap.size = g7 at hb7 sK ⊢
 refine Ops.st (Acts.storeA rfl rfl Tryz.sizeOf69 hb7 rfl (PP1_one x)) ?_
 rintro w3 ⟨hb7n, f3, _⟩
 have hb7 : Blk w3 g7 69 (PP1 x).toArray := hb7n
 have K := Frm.own K f3 (fun y hy => by simp at hy; omega)
 refine jo (jn (jv4 0 1 2 7 ?_))
 refine js (js (jr ?_))
 refine Ops.r (Run.fieldAddr rfl Tryz.underlying69 rfl Tryz.sizeOf3 (by decide)) rfl ?_
 refine Ops.r (Run.load rfl Tryz.isAgg3 (hb7.cell 0)) rfl ?_
 refine Ops.r (Run.bin rfl rfl (Bin.eqlN _ 1)) rfl ?_
 refine jo (jn (jv5 0 1 2 7 20 ?_))
 refine VC.condD rfl (fun hc1 => ?_) (fun hc1 => ?_)
 ·
  have hone1 : oneP (oneS 64 q P) q P i x.1 = 40 :: (kidsC (oneS 64 q P) i P 0 ++ (32 :: (strQ x.1.m.sub ++ [41]))) := by unfold oneP; rw [if_pos hc1]
  rw [hone1] at hbig ⊢
  simp only [List.length_cons, List.length_append, List.length_nil] at hbig
  refine js (jr (ja ?_))
  refine jo (jn (jv5 0 1 2 7 8 ?_))
  refine js (js (jr ?_))
  refine Ops.r (v := .int .i64 ((1 : Nat) : Int)) (Run.asg rfl) rfl ?_
  refine jo (jn (jb ?_))
  refine VC.loop (σ := Nat × Nat × Tx) (fun s => [(0, .slice A q.length c), (1, .slice L l.length lc), (2, _), (7, .pointer (some ⟨g7, 0, none⟩)), (8, encStr s.2.2), (9, .int .i64 (((s.1 + 1) : Nat) : Int))]) (fun s wr => s.1 ≤ x.1.kids ∧ s.2.1 ≤ P.length ∧ cntK i (P.take s.2.1) = s.1 ∧ s.2.2 ++ kidsC (oneS 64 q P) i (P.drop s.2.1) s.2.1 = kidsC (oneS 64 q P) i P 0 ∧ Frm [] w wr ∧ Blk wr g7 69 (PP1 x).toArray) (fun s => x.1.kids - s.1) (0, 0, []) (js6 rfl rfl rfl rfl rfl rfl) ⟨Nat.zero_le _, Nat.zero_le _, by rw [List.take_zero]; rfl, rfl, K, hb7⟩ ?_
  rintro ⟨j, ps, al⟩ wr ⟨hj, hpos, hcn, hsum, K, hb7⟩
  dsimp only at hj hpos hcn hsum ⊢
  have hsl := congrArg List.length hsum
  rw [List.length_append] at hsl
  refine js (js (jr (jm ?_)))
  refine Ops.r (Run.fieldAddr rfl Tryz.underlying69 rfl Tryz.sizeOf3 (by decide)) rfl ?_
  refine Ops.r (Run.load rfl Tryz.isAgg3 (hb7.cell 8)) rfl ?_
  refine Ops.r (Run.bin rfl rfl (Bin.leqN _ _)) rfl ?_
  refine jo (jn (jv7 0 1 2 7 8 9 24 ?_))
  refine VC.condD rfl (fun hc2 => ?_) (fun hc2 => ?_)
  ·
   have hjk : j < cntK i P := by omega
   obtain ⟨k, y, hk1, hky, hyu, hkq, hkc2, hkd⟩ := kid_next (oneS 64 q P) hpos hcn hjk
   have hik : i < k := by have := hup k y hky; omega
   have hkl : k < l.length := by have := (List.getElem?_eq_some_iff.1 hky).1; omega
   rw [hkd, List.length_append] at hsl
   refine jk (jn (jv6 0 1 2 7 8 9 ?_))
   refine js (jb (jr (jm ?_)))
   refine jm ?_
   refine jm ?_
   refine jm ?_
   refine jm ?_
   refine jm ?_
   refine Ops.cl (Enters.fn (evs.cons rfl (evs.cons rfl (evs.cons rfl evs.nil))) Tryz.call65) ((kid_spec L lc l ((i : Nat) : Int) ((j + 1 : Nat) : Int) _ (hrL.frm K (by simp)) (by omega) (by omega) (by omega))) rfl ?_
   rintro e w4 ⟨rfl, f4⟩
   refine ⟨_, rfl, ?_⟩
   have K := K.trans f4 (by simp)
   have hb7 := hb7.frm f4 (by simp)
   rw [hl, hkq]
   refine Ops.cl (Enters.fn (evs.cons rfl (evs.cons rfl (evs.cons rfl evs.nil))) Tryz.call37) ((ih k (by omega) (by omega) _ (ht.frm K) (hrd.frm K (by simp)) (hrL.frm K (by simp)) (hps.frm0 K))) rfl ?_
   rintro e w5 ⟨rfl, fw5⟩
   refine ⟨_, rfl, ?_⟩
   have K := K.trans fw5 (by simp)
   have hb7 := hb7.frm fw5 (by simp)
   refine Ops.r (Run.addT rfl rfl (by omega)) rfl ?_
   refine ja ?_
   refine jo ?_
   refine blockQ_n (jn ?_)
   refine jv6 0 1 2 7 8 9 ?_
   refine jr (jm ?_)
   refine Ops.r (Run.bin rfl rfl (Bin.add_i64 _ 1 (by omega))) rfl ?_
   refine ja ?_
   refine jo ?_
   refine jn ⟨(j + 1, k + 1, al ++ (oneS 64 q P) k), (js6 rfl rfl rfl rfl rfl rfl), ?_, ?_⟩
   ·
    exact ⟨by omega, (List.getElem?_eq_some_iff.1 hky).1, hkc2, by rw [← hsum, hkd, List.append_assoc], K, hb7⟩
   ·
    first | omega | (dsimp only; omega)
  ·
   have hje : j = x.1.kids := by omega
   have hrest : cntK i (P.drop ps) = 0 := by
    have := cntK_app i (P.take ps) (P.drop ps)
    rw [List.take_append_drop] at this
    omega
   rw [kidsC_none _ _ hrest, List.append_nil] at hsum
   rw [← hsum] at hbig ⊢
   refine jx ?_
   refine thenQ_x (thenQ_x (blockQ_x ?_))
   refine jn (jv2 7 8 ?_)
   refine js (jr (jm ?_))
   refine Ops.r (Run.addT (a := [40]) rfl rfl (by simp only [List.length_cons, List.length_nil]; omega)) rfl ?_
   refine Ops.r (Run.addT (b := [32]) rfl rfl (by simp only [List.length_cons, List.length_append, List.length_nil]; omega)) rfl ?_
   refine Ops.r (Run.fieldAddr rfl Tryz.underlying69 rfl Tryz.sizeOf67 (by decide)) rfl ?_
   refine Ops.r (Run.fieldAddr rfl Tryz.underlying67 rfl Tryz.sizeOf9 (by decide)) rfl ?_
   refine Ops.r (Run.load rfl Tryz.isAgg9 (hb7.cell 5)) rfl ?_
   refine Ops.cl (Enters.fn (evs.cons rfl evs.nil) Tryz.call10) ((string_spec x.1.m.sub _ (ht.frm K) (by have := hmd.2.1; omega))) rfl ?_
   rintro e w6 ⟨rfl, fw6⟩
   refine ⟨_, rfl, ?_⟩
   have K := K.trans fw6 (by simp)
   have hb7 := hb7.frm fw6 (by simp)
   refine Ops.r (Run.addT rfl rfl (by simp only [List.length_cons, List.length_append, List.length_nil]; omega)) rfl ?_
   refine Ops.r (Run.addT (b := [41]) rfl rfl (by simp only [List.length_cons, List.length_append, List.length_nil]; omega)) rfl ?_
   refine ja ?_
   refine jo (jn (jv1 6 ?_))
   refine jt ?_
   refine thenQ_r (end1 rfl ?_)
   exact ⟨by simp, K⟩
 ·
  have hone1 : oneP (oneS 64 q P) q P i x.1 = listQ (leafL q x.1 (midL (oneS 64 q P) q P i x.1)) := by unfold oneP; rw [if_neg hc1]
  rw [hone1] at hbig ⊢
  refine jk (jn (jv4 0 1 2 7 ?_))
  refine js (jr (jm ?_))
  refine Ops.r (Run.fieldAddr rfl Tryz.underlying69 rfl Tryz.sizeOf3 (by decide)) rfl ?_
  refine Ops.r (Run.load rfl Tryz.isAgg3 (hb7.cell 1)) rfl ?_
  refine Ops.r (Run.fieldAddr rfl Tryz.underlying69 rfl Tryz.sizeOf3 (by decide)) rfl ?_
  refine Ops.r (Run.load rfl Tryz.isAgg3 (hb7.cell 2)) rfl ?_
  refine Ops.r (Run.sliceS x.1.frm x.1.body rfl Tryz.underlying22 Tryz.sizeOf5 (evB.some_ rfl) (evB.some_ rfl) hfb (by omega)) rfl ?_
  have hHl : (sliceQ q x.1.frm x.1.body).length = x.1.body - x.1.frm := sliceQ_ln (by omega)
  have hrH := U8_cut hrd hfb (show x.1.body ≤ q.length by omega) hc
  rw [← hHl]
  refine ja ?_
  refine jo (jn (jv5 0 1 2 7 10 ?_))
  refine js ?_
  refine VC.held (fun W => Frm [] w3 W) jK ?_
  have hS : Frm [] w3 w3.drew := (Frm.refl _ _).drew
  have hpo := MedOk.ps hmd hq
  refine jh 0 rfl hS (fun w0 hw0 => Run.fieldAddr rfl Tryz.underlying69 rfl Tryz.sizeOf67 (by decide)) ?_
  refine jh 1 rfl hS (fun w0 hw0 => Run.fieldAddr rfl Tryz.underlying67 rfl Tryz.sizeOf9 (by decide)) ?_
  refine jh 2 rfl hS (fun w0 hw0 => Run.load rfl Tryz.isAgg9 ((hb7.frm hw0 (by simp)).cell 4)) ?_
  refine jh 4 rfl hS (fun w0 hw0 => Run.fieldAddr rfl Tryz.underlying69 rfl Tryz.sizeOf67 (by decide)) ?_
  refine jh 5 rfl hS (fun w0 hw0 => Run.fieldAddr rfl Tryz.underlying67 rfl Tryz.sizeOf9 (by decide)) ?_
  refine jh 6 rfl hS (fun w0 hw0 => Run.load rfl Tryz.isAgg9 ((hb7.frm hw0 (by simp)).cell 5)) ?_
  refine jh 8 rfl hS (fun w0 hw0 => Run.fieldAddr rfl Tryz.underlying69 rfl Tryz.sizeOf67 (by decide)) ?_
  refine jh 9 rfl hS (fun w0 hw0 => Run.loadA rfl Tryz.isAgg67 Tryz.sizeOf67 (PM_cells (hb7.frm hw0 (by simp))) (by first | rfl | (simp; done))) ?_
  refine jh 11 rfl hS (fun w0 hw0 => Run.mv rfl) ?_
  refine jh 13 rfl hS (fun w0 hw0 => Run.mv rfl) ?_
  refine jh 15 rfl hS (fun w0 hw0 => Run.mv rfl) ?_
  refine jh 18 rfl hS (fun w0 hw0 => Run.fieldAddr rfl Tryz.underlying69 rfl Tryz.sizeOf3 (by decide)) ?_
  refine jh 19 rfl hS (fun w0 hw0 => Run.load rfl Tryz.isAgg3 ((hb7.frm hw0 (by simp)).cell 3)) ?_
  refine jh 20 rfl hS (fun w0 hw0 => Run.fieldAddr rfl Tryz.underlying69 rfl Tryz.sizeOf3 (by decide)) ?_
  refine jh 21 rfl hS (fun w0 hw0 => Run.load rfl Tryz.isAgg3 ((hb7.frm hw0 (by simp)).cell 2)) ?_
  refine jh 22 rfl hS (fun w0 hw0 => Run.bin rfl rfl (Bin.sub_i64 x.1.tu x.1.body hbt (by omega))) ?_
  refine HOps.cl 3 rfl jK (Enters.fn (evs.cons rfl evs.nil) Tryz.call10) ((string_spec x.1.m.ty _ (ht.frm (K.trans hS (by simp))) (by have := hmd.1; omega))) trivial rfl rfl ?_
  rintro e w4 ⟨rfl, fw4⟩
  have hS := hS.trans fw4 (by simp)
  refine ⟨_, rfl, hS, ?_⟩
  refine HOps.cl 7 rfl jK (Enters.fn (evs.cons rfl evs.nil) Tryz.call10) ((string_spec x.1.m.sub _ (ht.frm (K.trans hS (by simp))) (by have := hmd.2.1; omega))) trivial rfl rfl ?_
  rintro e w5 ⟨rfl, fw5⟩
  have hS := hS.trans fw5 (by simp)
  refine ⟨_, rfl, hS, ?_⟩
  refine HOps.cl 10 rfl jK (Enters.fn (evs.cons rfl evs.nil) Tryz.call66) ((params_spec x.1.m x.2.1 x.2.2 _ (ht.frm (K.trans hS (by simp))) (hpm.rd.frm (K.trans hS (by simp)) (by simp)) hpo.1 hpo.2)) trivial rfl rfl ?_
  rintro e w6 ⟨rfl, fw6⟩
  have hS := hS.trans fw6 (by simp)
  refine ⟨_, rfl, hS, ?_⟩
  refine HOps.cl 12 rfl jK (Enters.fn (evs.cons rfl (evs.cons rfl (evs.cons rfl evs.nil))) Tryz.call31) ((field_spec (cutA A c x.1.frm 1) (c - x.1.frm) (sliceQ q x.1.frm x.1.body) cidT nilT _ (ht.frm (K.trans hS (by simp))) (hrH.frm (K.trans hS (by simp)) (by simp)) (by omega) (by omega) (by decide))) trivial rfl rfl ?_
  rintro e w7 ⟨rfl, fw7⟩
  have hS := hS.trans fw7 (by simp)
  refine ⟨_, rfl, hS, ?_⟩
  refine HOps.cl 14 rfl jK (Enters.fn (evs.cons rfl (evs.cons rfl (evs.cons rfl evs.nil))) Tryz.call31) ((field_spec (cutA A c x.1.frm 1) (c - x.1.frm) (sliceQ q x.1.frm x.1.body) cdsT nilT _ (ht.frm (K.trans hS (by simp))) (hrH.frm (K.trans hS (by simp)) (by simp)) (by omega) (by omega) (by decide))) trivial rfl rfl ?_
  rintro e w8 ⟨rfl, fw8⟩
  have hS := hS.trans fw8 (by simp)
  refine ⟨_, rfl, hS, ?_⟩
  refine HOps.cl 16 rfl jK (Enters.fn (evs.cons rfl evs.nil) Tryz.call10) ((string_spec bitT _ (ht.frm (K.trans hS (by simp))) (by decide))) trivial rfl rfl ?_
  rintro e w9 ⟨rfl, fw9⟩
  have hS := hS.trans fw9 (by simp)
  refine ⟨_, rfl, hS, ?_⟩
  refine HOps.cl 17 rfl jK (Enters.fn (evs.cons rfl (evs.cons rfl (evs.cons rfl evs.nil))) Tryz.call31) ((field_spec (cutA A c x.1.frm 1) (c - x.1.frm) (sliceQ q x.1.frm x.1.body) cteT (strQ bitT) _ (ht.frm (K.trans hS (by simp))) (hrH.frm (K.trans hS (by simp)) (by simp)) (by omega) (by omega) (by decide))) trivial rfl rfl ?_
  rintro e w10 ⟨rfl, fw10⟩
  have hS := hS.trans fw10 (by simp)
  refine ⟨_, rfl, hS, ?_⟩
  refine HOps.cl 23 rfl jK (Enters.fn (evs.cons rfl evs.nil) Tryz.call26) ((itoaN_spec (x.1.tu - x.1.body) _ (ht.frm (K.trans hS (by simp))) (by omega))) trivial rfl rfl ?_
  rintro e w11 ⟨rfl, fw11⟩
  have hS := hS.trans fw11 (by simp)
  refine ⟨_, rfl, hS, ?_⟩
  refine HOps.m 24 rfl jK (Does.buildN (cells := (SB (leaf7 q x.1)).toArray) (evs.cons rfl (evs.cons rfl (evs.cons rfl (evs.cons rfl (evs.cons rfl (evs.cons rfl (evs.cons rfl evs.nil))))))) Tryz.underlying36 Tryz.sizeOf9 zero9 rfl rfl jK) trivial rfl rfl ?_
  rintro _ w12 ⟨rfl, hF12⟩
  have hO12 : Own w12 9 1 (some ⟨w11.heap.size, 0, none⟩) (leaf7 q x.1).length 7 (SB (leaf7 q x.1)) := Own.of_blk (n := 7) (size := 1) hF12.blk rfl (by decide)
  have g12 : w.heap.size ≤ w11.heap.size := (K.trans hS (by simp)).size
  have hS := hS.trans hF12.frm (by simp)
  refine ⟨hS, ?_⟩
  generalize hg12 : w11.heap.size = gO at hO12 g12 ⊢
  refine jh 25 rfl hS (fun w0 hw0 => Run.asg rfl) ?_
  refine HOps.done jK ?_
  refine jn (jv5 0 1 2 7 11 ?_)
  refine js (jr (jm ?_))
  have K := K.trans hS (by simp)
  have hb7 := hb7.frm hS (by simp)
  refine Ops.r (Run.loadA rfl Tryz.isAgg69 Tryz.sizeOf69 (fun j v hj => hb7.cells j v hj) (by first | rfl | (simp; done))) rfl ?_
  refine Ops.cl (Enters.fn (evs.cons rfl (evs.cons rfl evs.nil)) Tryz.call67) ((plinesN_spec A c q x _ (hrd.frm K (by simp)) hc (by omega) hbt htl)) rfl ?_
  rintro e w13 ⟨rfl, fw13⟩
  refine ⟨_, rfl, ?_⟩
  have K := K.trans fw13 (by simp)
  have hb7 := hb7.frm fw13 (by simp)
  have hO12 := hO12.frm fw13 (by simp)
  have hcl := List.count_le_length (a := (10 : UInt8)) (l := sliceQ q x.1.body x.1.tu)
  rw [sliceQ_ln htl] at hcl
  refine Ops.cl (Enters.fn (evs.cons rfl evs.nil) Tryz.call26) ((itoaN_spec _ _ (ht.frm K) (by omega))) rfl ?_
  rintro e w14 ⟨rfl, fw14⟩
  refine ⟨_, rfl, ?_⟩
  have K := K.trans fw14 (by simp)
  have hb7 := hb7.frm fw14 (by simp)
  have hO12 := hO12.frm fw14 (by simp)
  refine ja ?_
  refine jo (jn (jv6 0 1 2 7 11 12 ?_))
  refine js (js (jr (jm ?_)))
  refine jm ?_
  refine Ops.cl (Enters.fn (evs.cons rfl (evs.cons rfl (evs.cons rfl evs.nil))) Tryz.call65) ((kid_spec L lc l ((i : Nat) : Int) 1 _ (hrL.frm K (by simp)) (by omega) (by omega) (by omega))) rfl ?_
  rintro e w15 ⟨rfl, fw15⟩
  refine ⟨_, rfl, ?_⟩
  have K := K.trans fw15 (by simp)
  have hb7 := hb7.frm fw15 (by simp)
  have hO12 := hO12.frm fw15 (by simp)
  rw [hl]
  refine ja ?_
  refine jo (jn (jv6 0 1 7 11 12 13 ?_))
  refine js ?_
  refine VC.split1 [(0, _), (1, _), (7, _), (11, _), (12, _), (13, _)] (js6 rfl rfl rfl rfl rfl rfl) 89 (.bool (decide ((x.1.kind = 2) ∧ (0 ≤ kidQ P i 1)))) ?_ ?_
  ·
   by_cases hs0 : x.1.kind = 2
   ·
    refine jr ?_
    refine Ops.r (Run.fieldAddr rfl Tryz.underlying69 rfl Tryz.sizeOf3 (by decide)) rfl ?_
    refine Ops.r (Run.load rfl Tryz.isAgg3 (hb7.cell 0)) rfl ?_
    refine Ops.r (Run.bin rfl rfl (Bin.eqlN _ 2)) rfl ?_
    refine jm ?_
    refine jg ?_
    refine Ops.rg rfl au (Run.bin rfl rfl (Bin.geq _ 0)) rfl ?_
    refine Ops.r (Run.pickT rfl rfl au) rfl ?_
    refine jo ?_
    refine jn ⟨(js7 (by rw [dand1 hs0]; rfl) rfl rfl rfl rfl rfl rfl), rfl⟩
   ·
    refine jr ?_
    refine Ops.r (Run.fieldAddr rfl Tryz.underlying69 rfl Tryz.sizeOf3 (by decide)) rfl ?_
    refine Ops.r (Run.load rfl Tryz.isAgg3 (hb7.cell 0)) rfl ?_
    refine Ops.r (Run.bin rfl rfl (Bin.eqlN _ 2)) rfl ?_
    refine jm ?_
    refine ju ?_
    refine ju ?_
    refine Ops.r (Run.pickF rfl rfl au) rfl ?_
    refine jo ?_
    refine jn ⟨(js7 (by rw [dand0 hs0]; rfl) rfl rfl rfl rfl rfl rfl), rfl⟩
  ·
   intro Γ hΓ
   refine jn (VC.sub _ hΓ ?_)
   refine VC.meet (σ := Option Addr × Nat) (fun s => [(7, .pointer (some ⟨g7, 0, none⟩)), (11, .slice s.1 (leaf7 q x.1 ++ (midL (oneS 64 q P) q P i x.1)).length s.2), (12, encStr (linesS q x.1))]) (fun s wr => Own wr 9 1 s.1 (leaf7 q x.1 ++ (midL (oneS 64 q P) q P i x.1)).length s.2 (SB (leaf7 q x.1 ++ (midL (oneS 64 q P) q P i x.1))) ∧ Frm [] w wr ∧ Blk wr g7 69 (PP1 x).toArray ∧ ∀ y ∈ ob s.1, w.heap.size ≤ y) ?_ ?_
   ·
    refine VC.condD rfl (fun hc3 => ?_) (fun hc3 => ?_)
    ·
     obtain ⟨k, y, hky, hkq, hyu⟩ : ∃ (k : Nat) (p : Prt), P[k]? = some p ∧ kidQ P i 1 = (k : Int) ∧ p.up = i := by
      rcases kidQ_res P i 1 with h | h
      ·
       omega
      ·
       exact h
     have hmy := midL_yes (f := (oneS 64 q P)) (q := q) hc3 hkq hky
     rw [hkq]
     have hik : i < k := by have := hup k y hky; omega
     have hkl : k < l.length := by have := (List.getElem?_eq_some_iff.1 hky).1; omega
     obtain ⟨hyfb, hybt, hytl, _⟩ := hok k _ hky
     have hyl : (sliceQ q y.frm y.tu).length = y.tu - y.frm := sliceQ_ln hytl
     have hrY := U8_cut hrd (show y.frm ≤ y.tu by omega) hytl hc
     have hLk := PP_at hrL hkl
     have hlk : l[k].1 = y := by
      have h2 : P[k]? = some l[k].1 := by rw [← hl, List.getElem?_map, List.getElem?_eq_getElem hkl]; rfl
      rw [hky] at h2
      exact (Option.some.inj h2).symm
     have hLO : ∀ z ∈ ob L, z ∉ ob (some (⟨gO, 0, none⟩ : Addr)) := fun z hz h => by simp [ob] at h; have := hLlt z hz; omega
     have hg7O : g7 ∉ ob (some (⟨gO, 0, none⟩ : Addr)) := fun h => by have := hO12.ne_blk hb7 (by decide); exact this h
     have hubO : ∀ z ∈ ob (some (⟨gO, 0, none⟩ : Addr)), w.heap.size ≤ z := fun z hz => by simp [ob] at hz; omega
     have hfk := hlen k (by omega)
     have hey := envS_len (q := sliceQ q y.frm y.tu) (by omega)
     refine VC.held (fun W => Frm (ob (some (⟨gO, 0, none⟩ : Addr))) w15 W) jK ?_
     have hS : Frm (ob (some (⟨gO, 0, none⟩ : Addr))) w15 w15.drew := (Frm.refl _ _).drew
     have hO12 := hO12.drawn (Drawn.drew _)
     have hrLd := fun (W : World) (hW : Frm (ob (some (⟨gO, 0, none⟩ : Addr))) w15 W) => PP_at ((hrL.frm K (by simp)).frm hW (fun _ => hLO)) hkl
     refine jh 0 rfl hS (fun w0 hw0 => Run.mv rfl) ?_
     refine jh 1 rfl hS (fun w0 hw0 => Run.mv rfl) ?_
     refine jh 2 rfl hS (fun w0 hw0 => Run.mv rfl) ?_
     refine jh 3 rfl hS (fun w0 hw0 => Run.mv rfl) ?_
     refine jh 4 rfl hS (fun w0 hw0 => Run.indexS k (by rw [← hLe]; rfl) rfl Tryz.underlying60 Tryz.sizeOf69 hkl) ?_
     refine jh 5 rfl hS (fun w0 hw0 => Run.fieldAddr rfl Tryz.underlying69 rfl Tryz.sizeOf3 (by decide)) ?_
     refine jh 6 rfl hS (fun w0 hw0 => Run.load rfl Tryz.isAgg3 (by obtain ⟨ad2, he2, hc2_⟩ := hrLd _ hw0; cases hLe.symm.trans he2; have := hc2_ 1 _ rfl; rw [hlk] at this; exact this)) ?_
     refine jh 7 rfl hS (fun w0 hw0 => Run.mv rfl) ?_
     refine jh 8 rfl hS (fun w0 hw0 => Run.mv rfl) ?_
     refine jh 9 rfl hS (fun w0 hw0 => Run.indexS k (by rw [← hLe]; rfl) rfl Tryz.underlying60 Tryz.sizeOf69 hkl) ?_
     refine jh 10 rfl hS (fun w0 hw0 => Run.fieldAddr rfl Tryz.underlying69 rfl Tryz.sizeOf3 (by decide)) ?_
     refine jh 11 rfl hS (fun w0 hw0 => Run.load rfl Tryz.isAgg3 (by obtain ⟨ad2, he2, hc2_⟩ := hrLd _ hw0; cases hLe.symm.trans he2; have := hc2_ 3 _ rfl; rw [hlk] at this; exact this)) ?_
     refine jh 12 rfl hS (fun w0 hw0 => Run.sliceS y.frm y.tu rfl Tryz.underlying22 Tryz.sizeOf5 (evB.some_ rfl) (evB.some_ rfl) (by omega) (by omega)) ?_
     refine jh 14 rfl hS (fun w0 hw0 => Run.mv rfl) ?_
     refine jh 15 rfl hS (fun w0 hw0 => Run.mv rfl) ?_
     refine jh 16 rfl hS (fun w0 hw0 => Run.mv rfl) ?_
     refine jh 18 rfl hS (fun w0 hw0 => Run.mv rfl) ?_
     refine HOps.cl 13 rfl jK (Enters.fn (evs.cons rfl evs.nil) Tryz.call12) (((by rw [← hyl]; exact envelope_spec (cutA A c y.frm 1) (c - y.frm) (sliceQ q y.frm y.tu) _ (ht.frm (Frm.own K hS hubO)) (hrY.frm (Frm.own K hS hubO) (by simp)) (by omega) (by omega)))) trivial rfl rfl ?_
     rintro e w16 ⟨rfl, fw16⟩
     have hS := hS.trans fw16 (by simp)
     have hO12 := hO12.frm fw16 (by simp)
     refine ⟨_, rfl, hS, ?_⟩
     refine HOps.cl 17 rfl jK (Enters.fn (evs.cons rfl (evs.cons rfl (evs.cons rfl evs.nil))) Tryz.call37) ((ih k (by omega) (by omega) _ (ht.frm (Frm.own K hS hubO)) (hrd.frm (Frm.own K hS hubO) (by simp)) (hrL.frm (Frm.own K hS hubO) (by simp)) (hps.frm0 (Frm.own K hS hubO)))) trivial rfl rfl ?_
     rintro e w17 ⟨rfl, fw17⟩
     have hS := hS.trans fw17 (by simp)
     have hO12 := hO12.frm fw17 (by simp)
     refine ⟨_, rfl, hS, ?_⟩
     refine HOps.m 19 rfl jK (Does.buildN (cells := (SB [envS (sliceQ q y.frm y.tu), (oneS 64 q P) k, linesS q x.1]).toArray) (evs.cons rfl (evs.cons rfl (evs.cons rfl evs.nil))) Tryz.underlying36 Tryz.sizeOf9 zero9 rfl rfl jK) trivial rfl rfl ?_
     rintro _ w18 ⟨rfl, hFw18⟩
     have hrw18 : Rd w18 1 (some ⟨_, 0, none⟩) 3 (SB [envS (sliceQ q y.frm y.tu), (oneS 64 q P) k, linesS q x.1]) := Rd.of_blk (n := 3) (size := 1) hFw18.blk rfl
     have hS := hS.trans hFw18.frm (by simp)
     have hO12 := hO12.frm hFw18.frm (by simp)
     refine ⟨hS, ?_⟩
     refine HOps.m 20 rfl jK (Does.app rfl rfl Tryz.underlying36 (info9) rfl (by decide) hO12 hrw18 (SB_one _) (by omega) (by omega)) trivial rfl rfl ?_
     rintro _ w19 ⟨A9, c9, rfl, hO9, f9, hob9⟩
     have sK18 := (Frm.own K hS hubO).size
     have hS := hS.trans f9 (fun x hx => .inl hx)
     have hO9 : Own w19 9 1 A9 (leaf7 q x.1 ++ (midL (oneS 64 q P) q P i x.1)).length c9 (SB (leaf7 q x.1 ++ (midL (oneS 64 q P) q P i x.1))) := by rw [hmy, SB_append, List.length_append]; exact hO9
     refine ⟨hS, ?_⟩
     refine jh 21 rfl hS (fun w0 hw0 => Run.asg rfl) ?_
     refine HOps.done jK ?_
     refine jn ⟨(A9, c9), (js3 rfl (by rw [hmy, List.length_append]; rfl) rfl), ?_⟩
     exact ⟨hO9, Frm.own K hS hubO, hb7.frm hS hg7O, up_app hubO hob9 sK18⟩
    ·
     have hmy := midL_no (f := (oneS 64 q P)) (q := q) hc3
     refine jk ?_
     refine jn ⟨(some ⟨gO, 0, none⟩, 7), (js3 rfl (by rw [hmy, List.append_nil]; rfl) rfl), ?_⟩
     exact ⟨by rw [hmy, List.append_nil]; exact hO12, K, hb7, fun z hz => by simp [ob] at hz; omega⟩
   ·
    rintro ⟨O, oc⟩ wr ⟨hO, K, hb7, hub⟩ Γ hΓ
    dsimp only at hO hub
    have hml := midL_len (f := (oneS 64 q P)) (q := q) (l := P) (i := i) (p := x.1) hq
    have hlf := leafL_len (mid := (midL (oneS 64 q P) q P i x.1)) hq hmd
    have h7 : (leaf7 q x.1).length = 7 := rfl
    have hOl : (leaf7 q x.1 ++ (midL (oneS 64 q P) q P i x.1)).length ≤ 10 := by rw [List.length_append]; omega
    have hflat : (leafL q x.1 (midL (oneS 64 q P) q P i x.1)).flatten.length ≤ 90000000000000 := by
     have h1 := flat_jn (leafL q x.1 (midL (oneS 64 q P) q P i x.1))
     simp only [listQ, List.length_cons, List.length_append, List.length_nil] at hbig
     omega
    refine jn (VC.sub _ hΓ ?_)
    refine js (js (jr ?_))
    refine Ops.r (Run.fieldAddr rfl Tryz.underlying69 rfl Tryz.sizeOf67 (by decide)) rfl ?_
    refine Ops.r (Run.fieldAddr rfl Tryz.underlying67 rfl Tryz.sizeOf9 (by decide)) rfl ?_
    refine Ops.r (Run.load rfl Tryz.isAgg9 (hb7.cell 4)) rfl ?_
    refine Ops.r (Run.eqlT rfl rfl) rfl ?_
    refine jo (jn (jv3 11 12 114 ?_))
    refine VC.meet (σ := Option Addr × Nat) (fun s => [(11, .slice s.1 (leafL q x.1 (midL (oneS 64 q P) q P i x.1)).length s.2)]) (fun s wr => Own wr 9 1 s.1 (leafL q x.1 (midL (oneS 64 q P) q P i x.1)).length s.2 (SB (leafL q x.1 (midL (oneS 64 q P) q P i x.1))) ∧ Frm [] w wr) ?_ ?_
    ·
     refine VC.condD rfl (fun hc4 => ?_) (fun hc4 => ?_)
     ·
      have hlq : (leafL q x.1 (midL (oneS 64 q P) q P i x.1)) = (leaf7 q x.1 ++ (midL (oneS 64 q P) q P i x.1)) ++ [linesS q x.1] := by unfold leafL; rw [if_pos (show x.1.m.ty = texT from hc4)]
      refine jr (jm ?_)
      refine jm ?_
      refine Ops.m (Does.buildS1 rfl Tryz.underlying36 Tryz.sizeOf9 zero9 (by decide) (by decide) rfl rfl) rfl ?_
      rintro _ w20 ⟨rfl, hF20⟩
      have hr20 : Rd w20 1 (some ⟨_, 0, none⟩) 1 (SB [linesS q x.1]) := Rd.of_blk (n := 1) (size := 1) hF20.blk rfl
      have K := K.trans hF20.frm (by simp)
      have hO := hO.frm hF20.frm (by simp)
      refine Ops.m (Does.app rfl rfl Tryz.underlying36 (info9) rfl (by decide) hO hr20 (SB_one _) (by omega) (by omega)) rfl ?_
      rintro _ w21 ⟨A21, c21, rfl, hO21, f21, hob21⟩
      have K := Frm.own K f21 hub
      have hO21 : Own w21 9 1 A21 (leafL q x.1 (midL (oneS 64 q P) q P i x.1)).length c21 (SB (leafL q x.1 (midL (oneS 64 q P) q P i x.1))) := by rw [hlq, SB_append, List.length_append]; exact hO21
      refine ja ?_
      refine jo ?_
      refine jn ⟨(A21, c21), (js1 (by rw [hlq, show ((leaf7 q x.1 ++ (midL (oneS 64 q P) q P i x.1)) ++ [linesS q x.1]).length = (leaf7 q x.1 ++ (midL (oneS 64 q P) q P i x.1)).length + 1 from List.length_append]; rfl)), ?_⟩
      exact ⟨hO21, K⟩
     ·
      have hlq : (leafL q x.1 (midL (oneS 64 q P) q P i x.1)) = (leaf7 q x.1 ++ (midL (oneS 64 q P) q P i x.1)) := by unfold leafL; rw [if_neg (show ¬ x.1.m.ty = texT from hc4), List.append_nil]
      refine jk ?_
      refine jn ⟨(O, oc), (js1 (by rw [hlq]; rfl)), ?_⟩
      exact ⟨by rw [hlq]; exact hO, K⟩
    ·
     rintro ⟨O2, oc2⟩ wr2 ⟨hO2, K⟩ Γ hΓ
     dsimp only at hO2
     refine jn (VC.sub _ hΓ ?_)
     refine js (jr (jm ?_))
     refine Ops.cl (Enters.fn (evs.cons rfl evs.nil) Tryz.call34) ((list_spec O2 oc2 (leafL q x.1 (midL (oneS 64 q P) q P i x.1)) _ hO2.rd (by rw [leafL, List.length_append, List.length_append, h7]; omega) hO2.le (by have := hlf.2; omega) hflat)) rfl ?_
     rintro e w22 ⟨rfl, f22⟩
     refine ⟨_, rfl, ?_⟩
     have K := K.trans f22 (by simp)
     refine ja ?_
     refine jo (jn (jv1 6 ?_))
     refine jt ?_
     refine end1 rfl ?_
     exact ⟨rfl, K⟩
end Go.Proofs.YtenbjndldenkfaaGreatDoor
namespace Go.Proofs.YtenbjndldenkfaaGreatDoor
open Go.RowKit Go.Sort
theorem shone_spec (A : Option Addr) (c : Nat) (q : Tx) (L : Option Addr) (lc : Nat) (l : List Pc) (hl : l.map (·.1) = partsQ q) (hq : q.length ≤ 2000) (hc : q.length ≤ c) :
  ∀ (n i : Nat), l.length - i ≤ n → i < l.length → ∀ w, Tab w → Rd w 1 A q.length (U8 q) → Rd w 9 L l.length (PP l) → OwnPs w l → Calls Tryz.prog 37 #[.slice A q.length c, .slice L l.length lc, .int .i64 ((i : Nat) : Int)] w fun e w' => e = .returned (encStr (oneS 64 q (partsQ q) i)) ∧ Frm [] w w' := by
 obtain ⟨hok, h64, _⟩ := parts_ok q
 intro n
 induction n with
 | zero => intro i h hi; omega
 | succ n ihn =>
  intro i h hi
  exact one_step A c q L lc l (partsQ q) hl hq hc h64 (fun k p h => (parts_kids q k p h).2) (fun k p h => ⟨(hok k p h).1, (hok k p h).2.1, (hok k p h).2.2.1, trivial⟩) (parts_med q) (parts_kids q) (fun i hi => oneS_len hq (by omega) hi) i hi (fun k hk hkl => ihn k (by omega) hkl)
set_option maxRecDepth 100000 in
theorem body_spec (A : Option Addr) (c : Nat) (q : Tx) (w : World) (ht : Tab w) (hrd : Rd w 1 A q.length (U8 q)) (hq : q.length ≤ 2000) (hc : q.length ≤ c) :
  Calls Tryz.prog 15 #[.slice A q.length c] w fun e w' => e = .returned (encStr (bodyS q)) ∧ Frm [] w w' := by
 have K := Frm.refl [] w
 refine VC.calls (nt := 7) (res := #[.tmp 2]) Tryz.func15 rfl Tryz.ntmps15 Tryz.results15 rfl ?_
 refine js (jr (ja ?_))
 refine jo (jn (jv1 0 ?_))
 refine js (jr (jm ?_))
 refine jm ?_
 refine Ops.cl (Enters.fn (evs.cons rfl evs.nil) Tryz.call38) ((all_spec A c q _ hrd (by omega) hc)) rfl ?_
 rintro e w1 ⟨f1, l, LA, lc, hl, rfl, hO, hOP, hub⟩
 refine ⟨_, rfl, ?_⟩
 have K := K.trans f1 (by simp)
 have h0 : 0 < l.length := by
  obtain ⟨_, _, p, hp, _⟩ := parts_ok q
  rw [← hl] at hp
  have := (List.getElem?_eq_some_iff.1 hp).1
  simpa using this
 refine Ops.cl (Enters.fn (evs.cons rfl (evs.cons rfl (evs.cons rfl evs.nil))) Tryz.call37) ((shone_spec A c q LA lc l hl hq hc l.length 0 (by omega) h0 _ (ht.frm K) (hrd.frm K (by simp)) hO.rd hOP)) rfl ?_
 rintro e w2 ⟨rfl, f2⟩
 refine ⟨_, rfl, ?_⟩
 have K := K.trans f2 (by simp)
 refine ja ?_
 refine jo (jn (jv1 2 ?_))
 refine jt ?_
 refine end1 rfl ?_
 exact ⟨rfl, K⟩
set_option maxRecDepth 100000 in
theorem ex22a : strQ [97, 34, 98] = [34, 97, 92, 34, 98, 34] := by decide +kernel
set_option maxRecDepth 100000 in
theorem ex22b : envS [] = [40, 78, 73, 76, 32, 78, 73, 76, 32, 78, 73, 76, 32, 78, 73, 76, 32, 78, 73, 76, 32, 78, 73, 76, 32, 78, 73, 76, 32, 78, 73, 76, 32, 78, 73, 76, 32, 78, 73, 76, 41] := by decide +kernel
set_option maxRecDepth 100000 in
theorem ex22c : bodyS [13, 10, 120] = [40, 34, 116, 101, 120, 116, 34, 32, 34, 112, 108, 97, 105, 110, 34, 32, 78, 73, 76, 32, 78, 73, 76, 32, 78, 73, 76, 32, 34, 55, 98, 105, 116, 34, 32, 49, 32, 48, 41] := by decide +kernel
set_option maxRecDepth 100000 in
theorem awake22_spec (w : World) (ht : Tab w) : Calls Tryz.prog 14 #[] w fun e w' => e = .returned (.bool true) ∧ Frm [] w w' := by
 have K := Frm.refl [] w
 refine VC.calls (nt := 13) (res := #[.tmp 0]) Tryz.func14 rfl Tryz.ntmps14 Tryz.results14 rfl ?_
 refine js (jr (ja ?_))
 refine jo (jn ?_)
 refine VC.sub [] .nil ?_
 refine js (jr ?_)
 refine Ops.cl (Enters.fn (evs.cons rfl evs.nil) Tryz.call10) ((string_spec [97, 34, 98] _ ht (by decide))) rfl ?_
 rintro e w1 ⟨rfl, f1⟩
 refine ⟨_, rfl, ?_⟩
 have K := K.trans f1 (by simp)
 rw [ex22a]
 refine Ops.r (Run.eqlT rfl rfl) rfl ?_
 refine jm ?_
 refine Ops.clg rfl au (Enters.fn (evs.cons rfl evs.nil) Tryz.call12) ((envelope_spec none 0 [] _ (ht.frm K) (Rd.nil _ _ _) (by decide) (by decide))) rfl ?_
 rintro e w2 ⟨rfl, f2⟩
 refine ⟨_, rfl, ?_⟩
 have K := K.trans f2 (by simp)
 rw [ex22b]
 refine Ops.rg rfl au (Run.eqlT rfl rfl) rfl ?_
 refine Ops.r (Run.pickT rfl rfl au) rfl ?_
 refine jm ?_
 refine Ops.mg rfl au (Does.buildN (cells := (U8 [13, 10, 120]).toArray) (evs.cons rfl (evs.cons rfl (evs.cons rfl evs.nil))) Tryz.underlying22 Tryz.sizeOf5 zero5 rfl rfl jK) rfl ?_
 rintro _ w3 ⟨rfl, hF3⟩
 have hb8 : Blk w3 w2.heap.size 5 (U8 [13, 10, 120]).toArray := hF3.blk
 have g8 := K.size
 have K := K.trans hF3.frm (by simp)
 refine Ops.mg rfl au (Does.mark rfl Tryz.underlying22 Tryz.underlying5 hb8) rfl ?_
 rintro _ w4 ⟨rfl, hfro, f4⟩
 have hrb : Rd w4 1 (some ⟨w2.heap.size, 0, none⟩) ([13, 10, 120] : Tx).length (U8 [13, 10, 120]) := hfro.rd rfl
 have K := Frm.own K f4 (fun y hy => by simp at hy; omega)
 refine Ops.clg rfl au (Enters.fn (evs.cons rfl evs.nil) Tryz.call15) ((body_spec (some ⟨w2.heap.size, 0, none⟩) 3 [13, 10, 120] _ (ht.frm K) hrb (by decide) (by decide))) rfl ?_
 rintro e w5 ⟨rfl, f5⟩
 refine ⟨_, rfl, ?_⟩
 have K := K.trans f5 (by simp)
 rw [ex22c]
 refine Ops.rg rfl au (Run.eqlT rfl rfl) rfl ?_
 refine Ops.r (Run.pickT rfl rfl au) rfl ?_
 refine ja ?_
 refine jo (jn (jv1 0 ?_))
 refine jt ?_
 refine end1 rfl ?_
 exact ⟨by rfl, K⟩
end Go.Proofs.YtenbjndldenkfaaGreatDoor
namespace Go.Proofs.YtenbjndldenkfaaGreatDoor
open Go.RowKit Go.Sort
set_option maxRecDepth 100000 in
theorem few20_spec (A : Option Addr) (c : Nat) (q : Tx) (w : World) (hrd : Rd w 1 A q.length (U8 q)) (hc : q.length ≤ c) :
  Calls Tryz.prog 9 #[.slice A q.length c] w fun e w' => w = w' ∧ ∃ (A2 : Option Addr) (c2 : Nat), e = .returned (.slice A2 (q.take 1200).length c2) ∧ Rd w' 1 A2 (q.take 1200).length (U8 (q.take 1200)) ∧ (q.take 1200).length ≤ c2 := by
 refine VC.calls (nt := 9) (res := #[.tmp 2]) Tryz.func9 rfl Tryz.ntmps9 Tryz.results9 rfl ?_
 refine js (jr (ja ?_))
 refine jo (jn (jv1 0 ?_))
 refine js (js (jr (jm ?_)))
 refine Ops.r (Run.lenS rfl Tryz.underlying22) rfl ?_
 refine Ops.r (Run.bin rfl rfl (Bin.gtrN _ 1200)) rfl ?_
 refine jo (jn (jv2 0 5 ?_))
 refine VC.condD rfl (fun hc1 => ?_) (fun hc1 => ?_)
 ·
  refine js (jr (jm ?_))
  refine Ops.r (Run.sliceS 0 1200 rfl Tryz.underlying22 Tryz.sizeOf5 evB.none_ (evB.some_ rfl) (by omega) (by omega)) rfl ?_
  refine ja ?_
  refine jo (jn (jv1 2 ?_))
  refine jt ?_
  refine thenQ_r (end1 rfl ?_)
  have e1 : sliceQ q 0 1200 = q.take 1200 := by unfold sliceQ; simp
  have h := U8_cut hrd (show 0 ≤ 1200 by omega) (show 1200 ≤ q.length by omega) hc
  rw [e1] at h
  have e2 : (q.take 1200).length = 1200 := by simp; omega
  refine ⟨rfl, cutA A c 0 1, c, ?_, h, by omega⟩
  rw [e2]
  rfl
 ·
  refine jk (jn (jv1 0 ?_))
  refine js (jr (jm ?_))
  refine ja ?_
  refine jo (jn (jv1 2 ?_))
  refine jt ?_
  refine end1 rfl ?_
  have e1 : q.take 1200 = q := List.take_of_length_le (by omega)
  rw [e1]
  exact ⟨rfl, A, c, rfl, hrd, hc⟩
def hdA (q : Tx) (k : Nat) : UInt8 := (q[k]?).getD 0
theorem hdA_at {q : Tx} {k : Nat} (h : k < q.length) : q[k]? = some (hdA q k) := by unfold hdA; rw [List.getElem?_eq_getElem h]; rfl
theorem hdA_drop {q : Tx} {k : Nat} (h : k < q.length) : q.drop k = hdA q k :: q.drop (k + 1) := by
 rw [List.drop_eq_getElem_cons h]
 have e := hdA_at h
 rw [List.getElem?_eq_getElem h] at e
 rw [Option.some.inj e]
end Go.Proofs.YtenbjndldenkfaaGreatDoor
namespace Go.Proofs.YtenbjndldenkfaaGreatDoor
open Go.RowKit Go.Sort
theorem SB_at1 {w : World} {A : Option Addr} {l : List Tx} {k : Nat} (h : Rd w 1 A l.length (SB l)) (hk : k < l.length) : ∃ ad, A = some ad ∧ w.cell? (ad.add (k * 1)) = some (encStr l[k]) := by
 rw [Nat.mul_one]
 exact SB_at h hk
def hdrT : Tx := [72, 69, 65, 68, 69, 82]
def txtT : Tx := [84, 69, 88, 84]
def mimT : Tx := [77, 73, 77, 69]
def fldT : Tx := [72, 69, 65, 68, 69, 82, 46, 70, 73, 69, 76, 68, 83]
def othT : Tx := [72, 69, 65, 68, 69, 82, 46, 70, 73, 69, 76, 68, 83, 46, 78, 79, 84]
structure Wnt where
 path : List Int
 what : Tx
 names : List Tx
def BadN (n : Int) : Prop := n < 1 ∨ 64 < n
instance (n : Int) : Decidable (BadN n) := by unfold BadN; infer_instance
def NamedW (s : Tx) : Prop := s = fldT ∨ s = othT
instance (s : Tx) : Decidable (NamedW s) := by unfold NamedW; infer_instance
def KindW (v : Wnt) : Prop := v.what = [] ∨ v.what = hdrT ∨ v.what = txtT ∨ v.what = fldT ∨ v.what = othT ∨ (v.what = mimT ∧ 0 < v.path.length)
instance (v : Wnt) : Decidable (KindW v) := by unfold KindW; infer_instance
def MayW (v : Wnt) : Prop := ¬ (8 < v.path.length ∨ ∃ n ∈ v.path, BadN n) ∧ ¬ ((16 < v.names.length ∨ ¬ (NamedW v.what ↔ 0 < v.names.length)) ∨ ∃ s ∈ v.names, ¬ TokQ s) ∧ KindW v
instance (v : Wnt) : Decidable (MayW v) := by unfold MayW; infer_instance
end Go.Proofs.YtenbjndldenkfaaGreatDoor
namespace Go.Proofs.YtenbjndldenkfaaGreatDoor
open Go.RowKit Go.Sort
section
variable {P : Program} {Γ : Env} {w : World} {dst : Option Tmp} {pos : String} {after : Array Edge} {g : Option (Nat × Bool)} {T : TypeId}
end
theorem not_dec (p : Prop) [Decidable p] : (!decide p) = decide (¬ p) := by by_cases h : p <;> simp [h]
end Go.Proofs.YtenbjndldenkfaaGreatDoor
namespace Go.Proofs.YtenbjndldenkfaaGreatDoor
open Go.RowKit Go.Sort
def LibV (w : World) : Prop := (∃ m, w.cell? ⟨0, 0, none⟩ = some (.int .i64 m)) ∧ ∃ ev, w.cell? ⟨2, 0, none⟩ = some ev ∧ (ev = .nilIface ∨ ∃ te pe, ev = .iface te pe)
theorem cell_frm0 {w w' : World} {a : Addr} {v : Value} (h : w.cell? a = some v) (k : Frm [] w w') : w'.cell? a = some v := by
 have hlt : a.block < w.heap.size := by
  apply Classical.byContradiction
  intro hn
  have : w.heap[a.block]? = none := by simp; omega
  simp [World.cell?, this] at h
 have e := k.block a.block hlt (by simp)
 simp only [World.cell?] at h ⊢
 rw [e]
 exact h
theorem LibV.frm0 {w w' : World} (h : LibV w) (k : Frm [] w w') : LibV w' := by
 obtain ⟨⟨m, h1⟩, ev, h2, h3⟩ := h
 exact ⟨⟨m, cell_frm0 h1 k⟩, ev, cell_frm0 h2 k, h3⟩
section
variable {P : Program} {Γ : Env} {w : World} {dst : Option Tmp} {T : TypeId} {pos : String} {after : Array Edge} {g : Option (Nat × Bool)}
end
def hedQ (s : Tx) : UInt8 := s.headD 0
def IsNo (s : Tx) : Prop := ((s = [] ∨ 2 < s.length) ∨ (hedQ s).toNat < 49) ∨ 57 < (hedQ s).toNat
instance (s : Tx) : Decidable (IsNo s) := by unfold IsNo; infer_instance
end Go.Proofs.YtenbjndldenkfaaGreatDoor
namespace Go.Proofs.YtenbjndldenkfaaGreatDoor
open Go.RowKit Go.Sort
def SameW (v u : Wnt) : Prop := v.what = u.what ∧ v.path = u.path ∧ v.names = u.names
instance (v u : Wnt) : Decidable (SameW v u) := by unfold SameW; infer_instance
end Go.Proofs.YtenbjndldenkfaaGreatDoor
namespace Go.Proofs.YtenbjndldenkfaaGreatDoor
open Go.RowKit Go.Sort
deriving instance DecidableEq for Wnt
end Go.Proofs.YtenbjndldenkfaaGreatDoor
namespace Go.Proofs.YtenbjndldenkfaaGreatDoor
open Go.RowKit
def NamedF (names : List Tx) (f : Fld) : Prop := ∃ s ∈ names, smallS s = smallS f.name
instance (names : List Tx) (f : Fld) : Decidable (NamedF names f) := by unfold NamedF; infer_instance
end Go.Proofs.YtenbjndldenkfaaGreatDoor
namespace Go.Proofs.YtenbjndldenkfaaGreatDoor
open Go.RowKit Go.Sort
theorem take_more {q : Tx} {f i : Nat} (h1 : f ≤ i) (h2 : i < q.length) : (q.drop f).take (i + 1 - f) = (q.drop f).take (i - f) ++ [hdA q i] ∧ q.drop f = (q.drop f).take (i - f) ++ hdA q i :: q.drop (i + 1) := by
 have e : (q.drop f).drop (i - f) = hdA q i :: q.drop (i + 1) := by rw [List.drop_drop, show f + (i - f) = i by omega, hdA_drop h2]
 refine ⟨?_, ?_⟩
 ·
  rw [show i + 1 - f = (i - f) + 1 by omega, List.take_add_one, List.getElem?_drop, show f + (i - f) = i by omega, hdA_at h2]
  rfl
 ·
  conv => lhs; rw [← List.take_append_drop (i - f) (q.drop f), e]
set_option maxRecDepth 100000 in
set_option maxHeartbeats 800000 in
theorem rcut_spec (q : Tx) (w : World) (hq : q.length ≤ 1000000) : Calls Tryz.prog 132 #[encStr q] w fun e w' => Frm [] w w' ∧ ∃ A c, e = .returned (.slice A (linesF q).length c) ∧ Own w' 9 1 A (linesF q).length c (SB (linesF q)) ∧ ∀ y ∈ ob A, w.heap.size ≤ y := by
 have K := Frm.refl [] w
 refine VC.calls (nt := 37) (res := #[.tmp 2]) Tryz.func132 rfl Tryz.ntmps132 Tryz.results132 rfl ?_
 refine js (jr (ja ?_))
 refine jo (jn (jv1 0 ?_))
 refine js (jr (ja ?_))
 refine jo (jn (js (jr ?_)))
 refine Ops.r (v := .int .i64 ((0 : Nat) : Int)) (Run.asg rfl) rfl ?_
 refine jo (jn (js (js (jr ?_))))
 refine Ops.r (v := .int .i64 ((0 : Nat) : Int)) (Run.asg rfl) rfl ?_
 refine jo (jn (jb ?_))
 refine VC.loop (σ := Nat × Nat × List Tx × Option Addr × Nat) (fun s => [(0, encStr q), (3, .slice s.2.2.2.1 s.2.2.1.length s.2.2.2.2), (4, .int .i64 ((s.2.1 : Nat) : Int)), (5, .int .i64 ((s.1 : Nat) : Int))]) (fun s wr => s.1 ≤ q.length ∧ s.2.1 ≤ s.1 ∧ s.2.2.1 ++ linesF (q.drop s.2.1) = linesF q ∧ (10 : UInt8) ∉ (q.drop s.2.1).take (s.1 - s.2.1) ∧ s.2.2.1.length ≤ s.1 ∧ Own wr 9 1 s.2.2.2.1 s.2.2.1.length s.2.2.2.2 (SB s.2.2.1) ∧ Frm [] w wr ∧ ∀ y ∈ ob s.2.2.2.1, w.heap.size ≤ y) (fun s => q.length - s.1) (0, 0, [], none, 0) (js4 rfl rfl rfl rfl) ⟨Nat.zero_le _, Nat.le_refl _, rfl, by simp, Nat.le_refl _, Own.nil _ _ _, K, by simp [ob]⟩ ?_
 rintro ⟨i, f, l, A, c⟩ wr ⟨hi, hf, hl, h10, hll, hO, K, hub⟩
 dsimp only at hi hf hl h10 hll hO hub ⊢
 refine js (js (jr (jm ?_)))
 refine jm ?_
 refine Ops.r (Run.lenT rfl Tryz.underlying9) rfl ?_
 refine Ops.r (Run.bin rfl rfl (Bin.lssN _ _)) rfl ?_
 refine jo (jn (jv5 0 3 4 5 9 ?_))
 refine VC.condD rfl (fun hc1 => ?_) (fun hc1 => ?_)
 ·
  obtain ⟨htm, htd⟩ := take_more hf hc1
  have hgx := hdA_at hc1
  generalize hdA q i = x at *
  generalize hX : (q.drop f).take (i - f) = X at *
  have e10 : x.toNat = 10 ↔ x = 10 := u8n rfl
  refine jk (jn (jv4 0 3 4 5 ?_))
  refine js (jb (js (jr (jm ?_))))
  refine jm ?_
  refine Ops.r (Run.indexT _ rfl rfl Tryz.underlying9 hgx) rfl ?_
  refine Ops.r (Run.bin rfl rfl (Bin.eqlN _ 10)) rfl ?_
  refine jo (jn (jv5 0 3 4 5 15 ?_))
  refine VC.meet (σ := Nat × List Tx × Option Addr × Nat) (fun s => [(0, encStr q), (3, .slice s.2.2.1 s.2.1.length s.2.2.2), (4, .int .i64 ((s.1 : Nat) : Int)), (5, .int .i64 ((i : Nat) : Int))]) (fun s wr => s.1 ≤ i + 1 ∧ s.2.1 ++ linesF (q.drop s.1) = linesF q ∧ (10 : UInt8) ∉ (q.drop s.1).take ((i + 1) - s.1) ∧ s.2.1.length ≤ (i + 1) ∧ Own wr 9 1 s.2.2.1 s.2.1.length s.2.2.2 (SB s.2.1) ∧ Frm [] w wr ∧ ∀ y ∈ ob s.2.2.1, w.heap.size ≤ y) ?_ ?_
  ·
   refine VC.condD rfl (fun hc2 => ?_) (fun hc2 => ?_)
   ·
    rw [e10.1 hc2] at htm htd
    rw [htd, linesF_cut _ h10] at hl
    refine js (jr (jm ?_))
    refine jm ?_
    refine jm ?_
    refine jm ?_
    refine Ops.r (Run.bin rfl rfl (Bin.add_i64 _ 1 (by omega))) rfl ?_
    refine Ops.r (Run.sliceT f (i + 1) rfl Tryz.underlying9 (evB.some_ rfl) (evB.some_ rfl) (by omega) (by omega)) rfl ?_
    rw [htm]
    refine Ops.m (Does.buildS1 rfl Tryz.underlying36 Tryz.sizeOf9 zero9 (by decide) (by decide) rfl rfl) rfl ?_
    rintro _ w3 ⟨rfl, hFw3⟩
    have hrw3 : Rd w3 1 (some ⟨_, 0, none⟩) 1 (SB [X ++ [10]]) := Rd.of_blk (n := 1) (size := 1) hFw3.blk rfl
    have K := K.trans hFw3.frm (by simp)
    have hO := hO.frm hFw3.frm (by simp)
    refine Ops.m (Does.app rfl rfl Tryz.underlying36 (info9) rfl (by decide) hO hrw3 (SB_one _) (by omega) (by omega)) rfl ?_
    rintro _ w4 ⟨A4, c4, rfl, hO4, f4, hob4⟩
    have sK := K.size
    have K := Frm.own K f4 hub
    have hO4 : Own w4 9 1 A4 (l ++ [X ++ [10]]).length c4 (SB (l ++ [X ++ [10]])) := by rw [SB_append, List.length_append]; exact hO4
    refine ja ?_
    refine jo (jn (jv3 0 3 5 ?_))
    refine jr (jm ?_)
    refine Ops.r (Run.bin rfl rfl (Bin.add_i64 _ 1 (by omega))) rfl ?_
    refine ja ?_
    refine jo ?_
    refine jn ⟨(i + 1, l ++ [X ++ [10]], A4, c4), (js4 rfl (by rw [List.length_append]; rfl) rfl rfl), ?_⟩
    exact ⟨Nat.le_refl _, by rw [List.append_assoc]; exact hl, by simp, by simp; omega, hO4, K, up_app hub hob4 (by omega)⟩
   ·
    refine jk ?_
    refine jn ⟨(f, l, A, c), (js4 rfl rfl rfl rfl), ?_⟩
    refine ⟨by dsimp only; omega, hl, ?_, by dsimp only; omega, hO, K, hub⟩
    rw [htm]
    intro hm
    rcases List.mem_append.1 hm with hm | hm
    ·
     exact h10 hm
    ·
     simp only [List.mem_singleton] at hm; exact hc2 (e10.2 hm.symm)
  ·
   rintro ⟨f2, l2, A2, c2⟩ wr2 ⟨hf2, hl2, h102, hll2, hO2, K2, hub2⟩ Γ hΓ
   dsimp only at hf2 hl2 h102 hll2 hO2 hub2
   refine blockQ_n (jn (VC.sub _ hΓ ?_))
   refine jr (jm ?_)
   refine Ops.r (Run.bin rfl rfl (Bin.add_i64 _ 1 (by omega))) rfl ?_
   refine ja ?_
   refine jo ?_
   refine jn ⟨(i + 1, f2, l2, A2, c2), (js4 rfl rfl rfl rfl), ?_, ?_⟩
   ·
    exact ⟨hc1, hf2, hl2, h102, hll2, hO2, K2, hub2⟩
   ·
    first | omega | (dsimp only; omega)
 ·
  have hil : i = q.length := by omega
  subst hil
  have hrest : (q.drop f).take (q.length - f) = q.drop f := List.take_of_length_le (by simp)
  rw [hrest] at h10
  refine jx ?_
  refine thenQ_x (thenQ_x (blockQ_x ?_))
  refine jn (jv3 0 3 4 ?_)
  refine js (js (jr (jm ?_)))
  refine jm ?_
  refine Ops.r (Run.lenT rfl Tryz.underlying9) rfl ?_
  refine Ops.r (Run.bin rfl rfl (Bin.lssN _ _)) rfl ?_
  refine jo (jn (jv4 0 3 4 29 ?_))
  refine VC.meet (σ := Option Addr × Nat) (fun s => [(3, .slice s.1 (linesF q).length s.2)]) (fun s wr => Own wr 9 1 s.1 (linesF q).length s.2 (SB (linesF q)) ∧ Frm [] w wr ∧ ∀ y ∈ ob s.1, w.heap.size ≤ y) ?_ ?_
  ·
   refine VC.condD rfl (fun hc3 => ?_) (fun hc3 => ?_)
   ·
    have hne : q.drop f ≠ [] := fun h => by have := congrArg List.length h; simp at this; omega
    rw [linesF_last hne h10] at hl
    refine jr (jm ?_)
    refine jm ?_
    refine jm ?_
    refine Ops.r (Run.sliceT f q.length rfl Tryz.underlying9 (evB.some_ rfl) evB.none_ (by omega) (by omega)) rfl ?_
    rw [hrest]
    refine Ops.m (Does.buildS1 rfl Tryz.underlying36 Tryz.sizeOf9 zero9 (by decide) (by decide) rfl rfl) rfl ?_
    rintro _ w5 ⟨rfl, hFw5⟩
    have hrw5 : Rd w5 1 (some ⟨_, 0, none⟩) 1 (SB [q.drop f]) := Rd.of_blk (n := 1) (size := 1) hFw5.blk rfl
    have K := K.trans hFw5.frm (by simp)
    have hO := hO.frm hFw5.frm (by simp)
    refine Ops.m (Does.app rfl rfl Tryz.underlying36 (info9) rfl (by decide) hO hrw5 (SB_one _) (by omega) (by omega)) rfl ?_
    rintro _ w6 ⟨A6, c6, rfl, hO6, f6, hob6⟩
    have sK := K.size
    have K := Frm.own K f6 hub
    have hO6 : Own w6 9 1 A6 (linesF q).length c6 (SB (linesF q)) := by rw [← hl, SB_append, List.length_append]; exact hO6
    refine ja ?_
    refine jo ?_
    refine jn ⟨(A6, c6), (js1 (by rw [← hl, List.length_append]; rfl)), ?_⟩
    exact ⟨hO6, K, up_app hub hob6 (by omega)⟩
   ·
    rw [List.drop_of_length_le (by omega)] at hl
    have hl : l = linesF q := by rw [← hl]; show l = l ++ []; rw [List.append_nil]
    subst hl
    refine jk ?_
    refine jn ⟨(A, c), (js1 rfl), ?_⟩
    exact ⟨hO, K, hub⟩
  ·
   rintro ⟨A9, c9⟩ wr9 ⟨hO9, K9, hub9⟩ Γ hΓ
   dsimp only at hO9 hub9
   refine jn (VC.sub _ hΓ ?_)
   refine js (jr (jm ?_))
   refine ja ?_
   refine jo (jn (jv1 2 ?_))
   refine jt ?_
   refine end1 rfl ?_
   exact ⟨K9, A9, c9, rfl, hO9, hub9⟩
set_option maxRecDepth 100000 in
theorem rempty_spec (q : Tx) (w : World) : Calls Tryz.prog 133 #[encStr q] w fun e w' => e = .returned (.bool (decide (EmptyL q))) ∧ w = w' := by
 refine VC.calls (nt := 9) (res := #[.tmp 2]) Tryz.func133 rfl Tryz.ntmps133 Tryz.results133 rfl ?_
 refine js (jr (ja ?_))
 refine jo (jn (jv1 0 ?_))
 refine js ?_
 refine VC.split1 [] .nil 2 (.bool (decide ((q = [10]) ∨ (q = [13, 10])))) ?_ ?_
 ·
  by_cases hs0 : q = [10]
  ·
   refine jr (jm ?_)
   refine Ops.r (Run.eqlT rfl rfl) rfl ?_
   refine jm ?_
   refine ju ?_
   refine ju ?_
   refine Ops.r (Run.pickT rfl rfl au) rfl ?_
   refine ja ?_
   refine jo ?_
   refine jn ⟨(js1 (by rw [dor1 hs0]; rfl)), rfl⟩
  ·
   refine jr (jm ?_)
   refine Ops.r (Run.eqlT rfl rfl) rfl ?_
   refine jm ?_
   refine jg ?_
   refine Ops.rg rfl au (Run.eqlT rfl rfl) rfl ?_
   refine Ops.r (Run.pickF rfl rfl au) rfl ?_
   refine ja ?_
   refine jo ?_
   refine jn ⟨(js1 (by rw [dor0 hs0]; rfl)), rfl⟩
 ·
  intro Γ hΓ
  refine jn (VC.sub _ hΓ ?_)
  refine jt ?_
  refine end1 rfl ?_
  exact ⟨rfl, rfl⟩
set_option maxRecDepth 100000 in
theorem rblank_spec (x : UInt8) (w : World) : Calls Tryz.prog 134 #[.int .u8 ((x.toNat : Nat) : Int)] w fun e w' => e = .returned (.bool (decide (Bl x))) ∧ w = w' := by
 refine VC.calls (nt := 9) (res := #[.tmp 2]) Tryz.func134 rfl Tryz.ntmps134 Tryz.results134 rfl ?_
 refine js (jr (ja ?_))
 refine jo (jn (jv1 0 ?_))
 refine js ?_
 refine VC.split1 [] .nil 2 (.bool (decide ((x.toNat = 32) ∨ (x.toNat = 9)))) ?_ ?_
 ·
  by_cases hs0 : x.toNat = 32
  ·
   refine jr (jm ?_)
   refine Ops.r (Run.bin rfl rfl (Bin.eqlN _ 32)) rfl ?_
   refine jm ?_
   refine ju ?_
   refine ju ?_
   refine Ops.r (Run.pickT rfl rfl au) rfl ?_
   refine ja ?_
   refine jo ?_
   refine jn ⟨(js1 (by rw [dor1 hs0]; rfl)), rfl⟩
  ·
   refine jr (jm ?_)
   refine Ops.r (Run.bin rfl rfl (Bin.eqlN _ 32)) rfl ?_
   refine jm ?_
   refine jg ?_
   refine Ops.rg rfl au (Run.bin rfl rfl (Bin.eqlN _ 9)) rfl ?_
   refine Ops.r (Run.pickF rfl rfl au) rfl ?_
   refine ja ?_
   refine jo ?_
   refine jn ⟨(js1 (by rw [dor0 hs0]; rfl)), rfl⟩
 ·
  intro Γ hΓ
  refine jn (VC.sub _ hΓ ?_)
  refine jt ?_
  refine end1 rfl ?_
  exact ⟨by rw [decide_eq_decide.2 (show (x.toNat = 32 ∨ x.toNat = 9) ↔ Bl x from ⟨fun h => h.imp (u8n rfl).1 (u8n rfl).1, fun h => h.imp (u8n rfl).2 (u8n rfl).2⟩)], rfl⟩
theorem nameC_iff (x : UInt8) : NameC x ↔ 33 ≤ x.toNat ∧ x.toNat ≤ 126 ∧ x.toNat ≠ 58 := by
 unfold NameC
 have e : x.toNat = 58 ↔ x = 58 := u8n rfl
 constructor
 ·
  rintro ⟨h1, h2, h3⟩
  exact ⟨by omega, by omega, fun h => h3 (e.1 h)⟩
 ·
  rintro ⟨h1, h2, h3⟩
  exact ⟨by omega, by omega, fun h => h3 (e.2 h)⟩
theorem nameN_on {q : Tx} {k : Nat} (hk : k < q.length) (h : NameC (hdA q k)) : nameN (q.drop k) = nameN (q.drop (k + 1)) + 1 := by
 rw [hdA_drop hk]
 conv => lhs; unfold nameN
 rw [if_pos h]
theorem nameN_off {q : Tx} {k : Nat} (h : ¬ (k < q.length ∧ NameC (hdA q k))) : nameN (q.drop k) = 0 := by
 by_cases hk : k < q.length
 ·
  rw [hdA_drop hk]
  unfold nameN
  rw [if_neg (fun hn => h ⟨hk, hn⟩)]
 ·
  rw [List.drop_of_length_le (by omega)]
  rfl
theorem blankN_on {q : Tx} {k : Nat} (hk : k < q.length) (h : Bl (hdA q k)) : blankN (q.drop k) = blankN (q.drop (k + 1)) + 1 := by
 rw [hdA_drop hk]
 conv => lhs; unfold blankN
 rw [if_pos h]
theorem blankN_off {q : Tx} {k : Nat} (h : ¬ (k < q.length ∧ Bl (hdA q k))) : blankN (q.drop k) = 0 := by
 by_cases hk : k < q.length
 ·
  rw [hdA_drop hk]
  unfold blankN
  rw [if_neg (fun hn => h ⟨hk, hn⟩)]
 ·
  rw [List.drop_of_length_le (by omega)]
  rfl
def begR (q : Tx) : Tx × Nat := (beginQ q).getD ([], 0)
theorem begR_no {q : Tx} (h : ¬ (nameN q ≠ 0 ∧ q[nameN q + blankN (q.drop (nameN q))]? = some 58)) : begR q = ([], 0) := by unfold begR beginQ; rw [if_neg h]; rfl
theorem begR_yes {q : Tx} (h : nameN q ≠ 0 ∧ q[nameN q + blankN (q.drop (nameN q))]? = some 58) : begR q = (q.take (nameN q), nameN q + blankN (q.drop (nameN q)) + 1) := by unfold begR beginQ; rw [if_pos h]; rfl
set_option maxRecDepth 100000 in
theorem rname_spec (q : Tx) (w : World) (hq : q.length ≤ 1000000) : Calls Tryz.prog 135 #[encStr q] w fun e w' => e = .returned (.tuple #[encStr (begR q).1, .int .i64 (((begR q).2 : Nat) : Int)]) ∧ w = w' := by
 refine VC.calls (nt := 55) (res := #[.tmp 2, .tmp 3]) Tryz.func135 rfl Tryz.ntmps135 Tryz.results135 rfl ?_
 refine js (jr (ja ?_))
 refine Ops.r (v := .int .i64 ((0 : Nat) : Int)) (Run.asg rfl) rfl ?_
 refine jo (jn (jv1 0 ?_))
 refine js (jr ?_)
 refine Ops.r (v := .int .i64 ((0 : Nat) : Int)) (Run.asg rfl) rfl ?_
 refine jo (jn (js (jb ?_)))
 refine VC.loop (σ := Nat) (fun s => [(0, encStr q), (4, .int .i64 ((s : Nat) : Int))]) (fun s wr => w = wr ∧ s ≤ q.length ∧ nameN q = s + nameN (q.drop s)) (fun s => q.length - s) 0 (js2 rfl rfl) ⟨rfl, Nat.zero_le _, (Nat.zero_add _).symm⟩ ?_
 rintro k _ ⟨rfl, hk, hn⟩
 have hgx : k < q.length → q[k]? = some (hdA q k) := hdA_at
 refine js (js ?_)
 refine VC.split1 [(0, _), (4, _)] (js2 rfl rfl) 27 (.bool (decide (k < q.length ∧ 33 ≤ (hdA q k).toNat ∧ (hdA q k).toNat ≤ 126 ∧ (hdA q k).toNat ≠ 58))) ?_ ?_
 ·
  refine jr ?_
  refine jm ?_
  refine jm ?_
  refine Ops.r (Run.lenT rfl Tryz.underlying9) rfl ?_
  refine Ops.r (Run.bin rfl rfl (Bin.lssN _ _)) rfl ?_
  by_cases hs9 : k < q.length
  ·
   refine jm ?_
   refine jg ?_
   refine jg ?_
   refine Ops.rg rfl au (Run.indexT _ rfl rfl Tryz.underlying9 (hgx hs9)) rfl ?_
   refine Ops.rg rfl au (Run.bin rfl rfl (Bin.leqN 33 _)) rfl ?_
   by_cases hs14 : 33 ≤ (hdA q k).toNat
   ·
    refine Ops.r (Run.pickT rfl rfl au) rfl ?_
    refine jm ?_
    refine jg ?_
    refine jg ?_
    refine Ops.rg rfl au (Run.indexT _ rfl rfl Tryz.underlying9 (hgx hs9)) rfl ?_
    refine Ops.rg rfl au (Run.bin rfl rfl (Bin.leqN _ 126)) rfl ?_
    by_cases hs20 : (hdA q k).toNat ≤ 126
    ·
     refine Ops.r (Run.pickT rfl rfl au) rfl ?_
     refine jm ?_
     refine jg ?_
     refine jg ?_
     refine Ops.rg rfl au (Run.indexT _ rfl rfl Tryz.underlying9 (hgx hs9)) rfl ?_
     refine Ops.rg rfl au (Run.bin rfl rfl (Bin.neqN _ 58)) rfl ?_
     by_cases hs26 : (hdA q k).toNat ≠ 58
     ·
      refine Ops.r (Run.pickT rfl rfl au) rfl ?_
      refine jo ?_
      refine jn ⟨(js3 (jc (by simp [*])) rfl rfl), rfl⟩
     ·
      refine Ops.r (Run.pickT rfl rfl au) rfl ?_
      refine jo ?_
      refine jn ⟨(js3 (jc (by simp [*])) rfl rfl), rfl⟩
    ·
     refine Ops.r (Run.pickT rfl rfl au) rfl ?_
     refine jm ?_
     refine ju ?_
     refine ju ?_
     refine ju ?_
     refine ju ?_
     refine Ops.r (Run.pickF rfl rfl au) rfl ?_
     refine jo ?_
     refine jn ⟨(js3 (jc (by simp [*])) rfl rfl), rfl⟩
   ·
    refine Ops.r (Run.pickT rfl rfl au) rfl ?_
    refine jm ?_
    refine ju ?_
    refine ju ?_
    refine ju ?_
    refine ju ?_
    refine Ops.r (Run.pickF rfl rfl au) rfl ?_
    refine jm ?_
    refine ju ?_
    refine ju ?_
    refine ju ?_
    refine ju ?_
    refine Ops.r (Run.pickF rfl rfl au) rfl ?_
    refine jo ?_
    refine jn ⟨(js3 (jc (by simp [*])) rfl rfl), rfl⟩
  ·
   refine jm ?_
   refine ju ?_
   refine ju ?_
   refine ju ?_
   refine ju ?_
   refine Ops.r (Run.pickF rfl rfl au) rfl ?_
   refine jm ?_
   refine ju ?_
   refine ju ?_
   refine ju ?_
   refine ju ?_
   refine Ops.r (Run.pickF rfl rfl au) rfl ?_
   refine jm ?_
   refine ju ?_
   refine ju ?_
   refine ju ?_
   refine ju ?_
   refine Ops.r (Run.pickF rfl rfl au) rfl ?_
   refine jo ?_
   refine jn ⟨(js3 (jc (by simp [*])) rfl rfl), rfl⟩
 ·
  intro Γ hΓ
  refine jn (VC.sub _ hΓ ?_)
  refine VC.condD rfl (fun hc1 => ?_) (fun hc1 => ?_)
  ·
   rw [nameN_on hc1.1 ((nameC_iff _).2 hc1.2)] at hn
   refine jk (jn (jv2 0 4 ?_))
   refine jb (jr (jm ?_))
   refine Ops.r (Run.bin rfl rfl (Bin.add_i64 _ 1 (by omega))) rfl ?_
   refine ja ?_
   refine jo ?_
   refine blockQ_n (jn ⟨(k + 1), (js2 rfl rfl), ?_, ?_⟩)
   ·
    exact ⟨rfl, hc1.1, by omega⟩
   ·
    first | omega | (dsimp only; omega)
  ·
   rw [nameN_off (fun h => hc1 ⟨h.1, (nameC_iff _).1 h.2⟩), Nat.add_zero] at hn
   subst hn
   refine jx ?_
   refine thenQ_x (thenQ_x (blockQ_x ?_))
   refine jn (jv2 0 4 ?_)
   refine js (js (jr (jm ?_)))
   refine ja ?_
   refine jo (jn (jv3 0 4 5 ?_))
   refine jb ?_
   refine VC.loop (σ := Nat) (fun s => [(0, encStr q), (4, .int .i64 (((nameN q) : Nat) : Int)), (5, .int .i64 ((s : Nat) : Int))]) (fun s wr => w = wr ∧ nameN q ≤ s ∧ s ≤ q.length ∧ nameN q + blankN (q.drop (nameN q)) = s + blankN (q.drop s)) (fun s => q.length - s) (nameN q) (js3 rfl rfl rfl) ⟨rfl, Nat.le_refl _, hk, rfl⟩ ?_
   rintro j _ ⟨rfl, hkj, hj, hb⟩
   refine js (js ?_)
   refine VC.split1 [(0, _), (4, _), (5, _)] (js3 rfl rfl rfl) 38 (.bool (decide ((0 < nameN q) ∧ (j < q.length)))) ?_ ?_
   ·
    by_cases hs0 : 0 < nameN q
    ·
     refine jr (jm ?_)
     refine Ops.r (Run.bin rfl rfl (Bin.gtrN _ 0)) rfl ?_
     refine jm ?_
     refine jg ?_
     refine jg ?_
     refine Ops.rg rfl au (Run.lenT rfl Tryz.underlying9) rfl ?_
     refine Ops.rg rfl au (Run.bin rfl rfl (Bin.lssN _ _)) rfl ?_
     refine Ops.r (Run.pickT rfl rfl au) rfl ?_
     refine jo ?_
     refine jn ⟨(js4 (by rw [dand1 hs0]; rfl) rfl rfl rfl), rfl⟩
    ·
     refine jr (jm ?_)
     refine Ops.r (Run.bin rfl rfl (Bin.gtrN _ 0)) rfl ?_
     refine jm ?_
     refine ju ?_
     refine ju ?_
     refine ju ?_
     refine ju ?_
     refine Ops.r (Run.pickF rfl rfl au) rfl ?_
     refine jo ?_
     refine jn ⟨(js4 (by rw [dand0 hs0]; rfl) rfl rfl rfl), rfl⟩
   ·
    intro Γ hΓ
    refine jn (VC.sub _ hΓ ?_)
    refine VC.condD rfl (fun hc2 => ?_) (fun hc2 => ?_)
    ·
     obtain ⟨hk0, hjl⟩ := hc2
     have hgx := hdA_at hjl
     have e58 : (hdA q j).toNat = 58 ↔ hdA q j = 58 := u8n rfl
     refine jk (jn (jv3 0 4 5 ?_))
     refine js (jb (js (js (jr (jm ?_)))))
     refine jm ?_
     refine Ops.r (Run.indexT _ rfl rfl Tryz.underlying9 hgx) rfl ?_
     refine Ops.r (Run.bin rfl rfl (Bin.eqlN _ 58)) rfl ?_
     refine jo (jn (jv4 0 4 5 44 ?_))
     refine VC.condD rfl (fun hc3 => ?_) (fun hc3 => ?_)
     ·
      have h58 := e58.1 hc3
      rw [blankN_off (k := j) (fun h => by rw [h58] at h; exact absurd h.2 (by decide)), Nat.add_zero] at hb
      have hbr := begR_yes (q := q) ⟨by omega, by rw [hb, hgx, h58]⟩
      rw [hb] at hbr
      refine js (jr (jm ?_))
      refine jm ?_
      refine Ops.r (Run.sliceT 0 (nameN q) rfl Tryz.underlying9 evB.none_ (evB.some_ rfl) (by omega) (by omega)) rfl ?_
      refine jm ?_
      refine Ops.r (Run.bin rfl rfl (Bin.add_i64 _ 1 (by omega))) rfl ?_
      refine ja ?_
      refine ja ?_
      refine jo (jn (jv2 2 3 ?_))
      refine jt ?_
      refine thenQ_r (blockQ_r (thenQ_r (thenQ_r (blockQ_r (thenQ_r (end2 rfl rfl ?_))))))
      exact ⟨by rw [hbr]; rfl, rfl⟩
     ·
      have h58 : hdA q j ≠ 58 := fun h => hc3 (e58.2 h)
      refine jk (jn (jv3 0 4 5 ?_))
      refine js (jr (jm ?_))
      refine jm ?_
      refine Ops.r (Run.indexT _ rfl rfl Tryz.underlying9 hgx) rfl ?_
      refine Ops.cl (Enters.fn (evs.cons rfl evs.nil) Tryz.call134) ((rblank_spec (hdA q j) _)) rfl ?_
      rintro e _ ⟨rfl, rfl⟩
      refine ⟨_, rfl, ?_⟩
      refine Ops.r (Run.not rfl) rfl ?_
      rw [not_dec]
      refine jo (jn (jv4 0 4 5 54 ?_))
      refine VC.condB rfl (fun hc4 => ?_) (fun hc4 => ?_)
      ·
       have hnb := of_decide_eq_true hc4
       rw [blankN_off (k := j) (fun h => hnb h.2), Nat.add_zero] at hb
       have hbr := begR_no (q := q) (fun h => by rw [hb, hgx] at h; exact h58 (Option.some.inj h.2))
       refine js (jr (ja ?_))
       refine Ops.r (v := .int .i64 ((0 : Nat) : Int)) (Run.asg rfl) rfl ?_
       refine jo (jn (jv2 2 3 ?_))
       refine jt ?_
       refine blockQ_r (thenQ_r (thenQ_r (blockQ_r (thenQ_r (end2 rfl rfl ?_)))))
       exact ⟨by rw [hbr], rfl⟩
      ·
       have hbl := Classical.not_not.1 (of_decide_eq_false hc4)
       rw [blankN_on hjl hbl] at hb
       refine jk ?_
       refine blockQ_n (jn ?_)
       refine jv3 0 4 5 ?_
       refine jr (jm ?_)
       refine Ops.r (Run.bin rfl rfl (Bin.add_i64 _ 1 (by omega))) rfl ?_
       refine ja ?_
       refine jo ?_
       refine jn ⟨(j + 1), (js3 rfl rfl rfl), ?_, ?_⟩
       ·
        exact ⟨rfl, by omega, hjl, by omega⟩
       ·
        first | omega | (dsimp only; omega)
    ·
     have hbr := begR_no (q := q) (fun h => by
      have hjn : ¬ j < q.length := fun hj2 => hc2 ⟨by omega, hj2⟩
      rw [blankN_off (k := j) (fun h => hjn h.1), Nat.add_zero] at hb
      rw [hb, List.getElem?_eq_none (by omega)] at h
      cases h.2)
     refine jx ?_
     refine thenQ_x (thenQ_x (blockQ_x ?_))
     refine jn ?_
     refine VC.sub [] .nil ?_
     refine js (jr (ja ?_))
     refine Ops.r (v := .int .i64 ((0 : Nat) : Int)) (Run.asg rfl) rfl ?_
     refine jo (jn (jt ?_))
     refine end2 rfl rfl ?_
     exact ⟨by rw [hbr], rfl⟩
end Go.Proofs.YtenbjndldenkfaaGreatDoor
namespace Go.Proofs.YtenbjndldenkfaaGreatDoor
open Go.RowKit Go.Sort
theorem fldL_stop : ∀ (ls : List Tx) (o : Nat) (op : Bool) (out : List Fld) (a b : List Tx), ls = a ++ b → ((∃ e, a.getLast? = some e ∧ EmptyL e) ∨ b = []) → fldL o op out a = fldL o op out ls
 | ls, o, op, out, [], b, hab, h => by
  rcases h with ⟨e, h1, _⟩ | h
  ·
   simp at h1
  ·
   subst h; rw [hab]; simp
 | ls, o, op, out, l :: a, b, hab, h => by
  subst hab
  by_cases hl : EmptyL l
  ·
   rw [List.cons_append, fld_empty hl, fld_empty hl]
  ·
   have h' : (∃ e, a.getLast? = some e ∧ EmptyL e) ∨ b = [] := by
    rcases h with ⟨e, h1, h2⟩ | h
    ·
     cases a with
     | nil => simp only [List.getLast?_singleton, Option.some.injEq] at h1; subst h1; exact absurd h2 hl
     | cons y t => rw [List.getLast?_cons_cons] at h1; exact .inl ⟨e, h1, h2⟩
    ·
     exact .inr h
   have ih := fun o op out => fldL_stop (a ++ b) o op out a b rfl h'
   rw [List.cons_append]
   by_cases hb : ∃ c, l.head? = some c ∧ Bl c
   ·
    rw [fld_blank hl hb, fld_blank hl hb, ih]
   ·
    cases hq : beginQ l with
    | none => rw [fld_no hl hb hq, fld_no hl hb hq, ih]
    | some p => rw [fld_yes hl hb (n := p.1) (k := p.2) hq, fld_yes hl hb (n := p.1) (k := p.2) hq, ih]
theorem cut10 : ∀ {s : Tx}, (10 : UInt8) ∈ s → ∃ x y, s = x ++ 10 :: y ∧ (10 : UInt8) ∉ x
 | [], h => by simp at h
 | z :: r, h => by
  by_cases hz : z = 10
  ·
   exact ⟨[], r, by rw [hz]; rfl, by simp⟩
  ·
   obtain ⟨x, y, h1, h2⟩ := cut10 (s := r) ((List.mem_cons.1 h).resolve_left (fun e => hz e.symm))
   exact ⟨z :: x, y, by rw [h1]; rfl, by simp only [List.mem_cons, not_or]; exact ⟨fun e => hz e.symm, h2⟩⟩
theorem linesF_self : ∀ {s : Tx} {a b : List Tx}, linesF s = a ++ b → linesF a.flatten = a := by
 intro s a
 induction a generalizing s with
 | nil => intro b _; rfl
 | cons l t ih =>
  intro b h
  have hl : l ∈ linesF s := by rw [h]; simp
  have hne := linesF_ne hl
  by_cases h10 : (10 : UInt8) ∈ s
  ·
   obtain ⟨x, y, rfl, hx⟩ := cut10 h10
   rw [linesF_cut _ hx] at h
   obtain ⟨h1, h2⟩ := List.cons.inj h
   rw [List.flatten_cons, ← h1, List.append_assoc, List.singleton_append, linesF_cut _ hx, ih h2]
  ·
   have hs : s ≠ [] := fun e => by rw [e] at h; cases h
   rw [linesF_last hs h10] at h
   obtain ⟨h1, h2⟩ := List.cons.inj h
   have ht : t = [] := (List.append_eq_nil_iff.1 h2.symm).1
   subst ht
   rw [← h1]
   simp only [List.flatten_cons, List.flatten_nil, List.append_nil]
   exact linesF_last hs h10
theorem fieldsQ_all (s : Tx) : fieldsQ s = fldL 0 false [] (linesF s) := by
 obtain ⟨a, b, h1, h2, _, h4⟩ := splitL_pre (linesF s)
 have e : s.take (splitQ s) = a.flatten := by
  have hf := linesF_flat s
  rw [h1, List.flatten_append] at hf
  have e2 : s.take (splitQ s) = (a.flatten ++ b.flatten).take a.flatten.length := by rw [hf]; unfold splitQ; rw [h2]
  rw [e2, List.take_left]
 unfold fieldsQ
 rw [e, linesF_self h1]
 exact fldL_stop (linesF s) 0 false [] a b h1 (h4.imp (fun h => h) (fun h => h.1))
theorem begR_some {l n : Tx} {k : Nat} (h : beginQ l = some (n, k)) : begR l = (n, k) := by unfold begR; rw [h]; rfl
theorem begR_none {l : Tx} (h : beginQ l = none) : begR l = ([], 0) := by unfold begR; rw [h]; rfl
theorem beginQ_pos {l n : Tx} {k : Nat} (h : beginQ l = some (n, k)) : 0 < k := by
 unfold beginQ at h
 split at h
 ·
  cases h; omega
 ·
  cases h
set_option maxRecDepth 100000 in
set_option maxHeartbeats 1600000 in
theorem rfields_spec (q : Tx) (w : World) (hq : q.length ≤ 500000) : Calls Tryz.prog 95 #[encStr q] w fun e w' => Frm [] w w' ∧ ∃ A c, e = .returned (.slice A (fieldsQ q).length c) ∧ Own w' 45 4 A (fieldsQ q).length c (FC (fieldsQ q)) ∧ ∀ y ∈ ob A, w.heap.size ≤ y := by
 have K := Frm.refl [] w
 have hlc := linesF_count q
 have hlf := linesF_flat q
 refine VC.calls (nt := 83) (res := #[.tmp 2]) Tryz.func95 rfl Tryz.ntmps95 Tryz.results95 rfl ?_
 refine js (jr (ja ?_))
 refine jo (jn (jv1 0 ?_))
 refine js (jr (ja ?_))
 refine jo (jn (js (jr (jm ?_))))
 refine Ops.cl (Enters.fn (evs.cons rfl evs.nil) Tryz.call132) ((rcut_spec q _ (by omega))) rfl ?_
 rintro e w1 ⟨f1, B, bc, rfl, hL, hubL⟩
 refine ⟨_, rfl, ?_⟩
 have K := K.trans f1 (by simp)
 have hnl : ∀ l ∈ linesF q, l ≠ [] := fun l hl => linesF_ne hl
 rw [fieldsQ_all]
 generalize linesF q = L at *
 refine ja ?_
 refine jo (jn (jv2 3 4 ?_))
 refine js (jr ?_)
 refine Ops.r (v := .int .i64 ((0 : Nat) : Int)) (Run.asg rfl) rfl ?_
 refine jo (jn (js (jr (ja ?_))))
 refine jo (jn (js (js (jr ?_))))
 refine Ops.r (v := .int .i64 ((0 : Nat) : Int)) (Run.asg rfl) rfl ?_
 refine jo (jn (jb ?_))
 refine VC.loop (σ := Nat × Nat × Bool × List Fld × Option Addr × Nat) (fun s => [(3, .slice s.2.2.2.2.1 s.2.2.2.1.length s.2.2.2.2.2), (4, .slice B L.length bc), (5, .int .i64 ((s.2.1 : Nat) : Int)), (6, .bool s.2.2.1), (7, .int .i64 ((s.1 : Nat) : Int))]) (fun s wr => s.1 ≤ L.length ∧ fldL s.2.1 s.2.2.1 s.2.2.2.1 (L.drop s.1) = fldL 0 false [] L ∧ s.2.1 = ((L.take s.1).flatten).length ∧ (s.2.2.1 = true → ∃ t f, s.2.2.2.1 = t ++ [f] ∧ f.tu = s.2.1) ∧ s.2.2.2.1.length ≤ s.1 ∧ Own wr 45 4 s.2.2.2.2.1 s.2.2.2.1.length s.2.2.2.2.2 (FC s.2.2.2.1) ∧ Own wr 9 1 B L.length bc (SB L) ∧ Frm [] w wr ∧ ∀ y ∈ ob s.2.2.2.2.1, w.heap.size ≤ y ∧ y ∉ ob B) (fun s => L.length - s.1) (0, 0, false, [], none, 0) (js5 rfl rfl rfl rfl rfl) ⟨Nat.zero_le _, rfl, by simp, by simp, Nat.le_refl _, Own.nil _ _ _, hL, K, by simp [ob]⟩ ?_
 rintro ⟨i, a, op, out, A, c⟩ wr ⟨hi, hfl, hat, hop, hol, hO, hL, K, hub⟩
 dsimp only at hi hfl hat hop hol hO hub ⊢
 refine js (js ?_)
 refine VC.split1 [(3, _), (4, _), (5, _), (6, _), (7, _)] (js5 rfl rfl rfl rfl rfl) 23 (.bool (decide ((i < L.length) ∧ (¬ EmptyL ((L[i]?).getD []))))) ?_ ?_
 ·
  by_cases hs0 : i < L.length
  ·
   refine jr (jm ?_)
   refine jm ?_
   refine Ops.r (Run.lenS rfl Tryz.underlying36) rfl ?_
   refine Ops.r (Run.bin rfl rfl (Bin.lssN _ _)) rfl ?_
   refine jm ?_
   refine jg ?_
   obtain ⟨adL, hLe, hcell⟩ := SB_at1 hL.rd hs0
   refine jg ?_
   refine Ops.rg rfl au (Run.indexS i (by rw [← hLe]; rfl) rfl Tryz.underlying36 Tryz.sizeOf9 hs0) rfl ?_
   refine Ops.rg rfl au (Run.load rfl Tryz.isAgg9 hcell) rfl ?_
   refine Ops.clg rfl au (Enters.fn (evs.cons rfl evs.nil) Tryz.call133) ((rempty_spec L[i] _)) rfl ?_
   rintro e _ ⟨rfl, rfl⟩
   refine ⟨_, rfl, ?_⟩
   refine Ops.rg rfl au (Run.not rfl) rfl ?_
   rw [not_dec, show L[i] = (L[i]?).getD [] by rw [List.getElem?_eq_getElem hs0]; rfl]
   refine Ops.r (Run.pickT rfl rfl au) rfl ?_
   refine jo ?_
   refine jn ⟨(js6 (by rw [dand1 hs0]; rfl) rfl rfl rfl rfl rfl), rfl⟩
  ·
   refine jr (jm ?_)
   refine jm ?_
   refine Ops.r (Run.lenS rfl Tryz.underlying36) rfl ?_
   refine Ops.r (Run.bin rfl rfl (Bin.lssN _ _)) rfl ?_
   refine jm ?_
   refine ju ?_
   refine ju ?_
   refine ju ?_
   refine ju ?_
   refine ju ?_
   refine ju ?_
   refine Ops.r (Run.pickF rfl rfl au) rfl ?_
   refine jo ?_
   refine jn ⟨(js6 (by rw [dand0 hs0]; rfl) rfl rfl rfl rfl rfl), rfl⟩
 ·
  intro Γ hΓ
  refine jn (VC.sub _ hΓ ?_)
  refine VC.condD rfl (fun hc1 => ?_) (fun hc1 => ?_)
  ·
   obtain ⟨hil, hne⟩ := hc1
   obtain ⟨adL, hLe, hcell⟩ := SB_at1 hL.rd hil
   rw [List.getElem?_eq_getElem hil] at hne
   have hne : ¬ EmptyL L[i] := hne
   have hl0 := hnl _ (List.getElem_mem hil)
   have hts : (L.take (i + 1)).flatten.length = (L.take i).flatten.length + L[i].length := by rw [take_snoc hil, List.flatten_append, List.length_append]; simp
   have htot : (L.take (i + 1)).flatten.length ≤ q.length := by
    rw [← hlf]
    conv => rhs; rw [← List.take_append_drop (i + 1) L, List.flatten_append, List.length_append]
    omega
   rw [List.drop_eq_getElem_cons hil] at hfl
   generalize hle : L[i] = l at *
   obtain ⟨x, r, rfl⟩ : ∃ x r, l = x :: r := by
    cases l with
    | nil => exact absurd rfl hl0
    | cons x r => exact ⟨x, r, rfl⟩
   refine jk (jn (jv5 3 4 5 6 7 ?_))
   refine js (jb (js (js (jr (jm ?_)))))
   refine jm ?_
   refine Ops.r (Run.indexS i (by rw [← hLe]; rfl) rfl Tryz.underlying36 Tryz.sizeOf9 hil) rfl ?_
   refine Ops.r (Run.load rfl Tryz.isAgg9 hcell) rfl ?_
   refine Ops.r (Run.indexT 0 rfl rfl Tryz.underlying9 (show (x :: r)[0]? = some x from rfl)) rfl ?_
   refine Ops.cl (Enters.fn (evs.cons rfl evs.nil) Tryz.call134) ((rblank_spec x _)) rfl ?_
   rintro e _ ⟨rfl, rfl⟩
   refine ⟨_, rfl, ?_⟩
   refine jo (jn (jv6 3 4 5 6 7 31 ?_))
   refine VC.meet (σ := Bool × List Fld × Option Addr × Nat) (fun s => [(3, .slice s.2.2.1 s.2.1.length s.2.2.2), (4, .slice B L.length bc), (5, .int .i64 ((a : Nat) : Int)), (6, .bool s.1), (7, .int .i64 ((i : Nat) : Int))]) (fun s wr => fldL (a + (x :: r).length) s.1 s.2.1 (L.drop (i + 1)) = fldL 0 false [] L ∧ (a + (x :: r).length) = ((L.take (i + 1)).flatten).length ∧ (s.1 = true → ∃ t f, s.2.1 = t ++ [f] ∧ f.tu = (a + (x :: r).length)) ∧ s.2.1.length ≤ (i + 1) ∧ Own wr 45 4 s.2.2.1 s.2.1.length s.2.2.2 (FC s.2.1) ∧ Own wr 9 1 B L.length bc (SB L) ∧ Frm [] w wr ∧ ∀ y ∈ ob s.2.2.1, w.heap.size ≤ y ∧ y ∉ ob B) ?_ ?_
   ·
    refine VC.condB rfl (fun hc2 => ?_) (fun hc2 => ?_)
    ·
     have hbl : ∃ c, (x :: r).head? = some c ∧ Bl c := ⟨x, rfl, of_decide_eq_true hc2⟩
     rw [fld_blank hne hbl] at hfl
     refine js (jr (jm ?_))
     refine jo (jn (jv6 3 4 5 6 7 32 ?_))
     refine VC.condB rfl (fun hc3 => ?_) (fun hc3 => ?_)
     ·
      subst hc3
      obtain ⟨t, f, rfl, hft⟩ := hop rfl
      rw [if_pos rfl, setTo_snoc] at hfl
      obtain ⟨ad2, rfl, hcF⟩ := FC_at hO.rd (k := t.length) (by simp)
      have hol2 : (t ++ [f]).length = t.length + 1 := by simp
      have hcF : ∀ j v, (FC1 f)[j]? = some v → wr.cell? ((ad2.add (t.length * 4)).add j) = some v := fun j v hj => hcF j v (by rw [List.getElem_concat_length rfl]; exact hj)
      refine VC.tail 15 jK jK ?_
      simp only [List.take_succ_cons, List.take_zero, List.drop_succ_cons, List.drop_zero]
      refine SOps.r (Run.mv rfl) rfl ?_
      refine SOps.r (Run.mv rfl) rfl ?_
      refine SOps.r (Run.lenS rfl Tryz.underlying42) rfl ?_
      refine SOps.r (Run.bin rfl rfl (Bin.sub_i64 (t ++ [f]).length 1 (by omega) (by omega))) rfl ?_
      rw [show (t ++ [f]).length - 1 = t.length by omega]
      refine SOps.r (Run.indexS t.length rfl rfl Tryz.underlying42 Tryz.sizeOf45 (by omega)) rfl ?_
      refine SOps.r (Run.fieldAddr rfl Tryz.underlying45 rfl Tryz.sizeOf3 (by decide)) rfl ?_
      refine SOps.r (Run.load rfl Tryz.isAgg3 (hcF 2 _ rfl)) rfl ?_
      refine SOps.r (Run.mv rfl) rfl ?_
      refine SOps.r (Run.mv rfl) rfl ?_
      refine SOps.r (Run.indexS i (by rw [← hLe]; rfl) rfl Tryz.underlying36 Tryz.sizeOf9 hil) rfl ?_
      refine SOps.r (Run.load rfl Tryz.isAgg9 hcell) rfl ?_
      refine SOps.r (Run.lenT rfl Tryz.underlying9) rfl ?_
      refine SOps.r (Run.bin rfl rfl (Bin.add_i64 f.tu (x :: r).length (by omega))) rfl ?_
      refine SOps.r (Run.indexS t.length rfl rfl Tryz.underlying42 Tryz.sizeOf45 (by omega)) rfl ?_
      refine SOps.r (Run.fieldAddr rfl Tryz.underlying45 rfl Tryz.sizeOf3 (by decide)) rfl ?_
      refine SOps.nil ?_
      refine Ops.st (Acts.storeOwn (t.length * 4 + 2) (congrArg (fun a => some (Value.pointer (some a))) (add_add ad2 _ 2)) rfl Tryz.sizeOf3 (hO.drawn (Drawn.drew _)) rfl (by omega) rfl) ?_
      rintro w4 ⟨hO4, f4, _⟩
      rw [FC_set] at hO4
      have hO4 : Own w4 45 4 (some ad2) (t ++ [(⟨f.name, f.frm, f.tu + (x :: r).length, f.at_⟩ : Fld)]).length c (FC (t ++ [⟨f.name, f.frm, f.tu + (x :: r).length, f.at_⟩])) := by
       rw [show (t ++ [(⟨f.name, f.frm, f.tu + (x :: r).length, f.at_⟩ : Fld)]).length = (t ++ [f]).length by simp]
       exact hO4
      have hL := (hL.drawn (Drawn.drew _)).frm f4 (fun y hy h => (hub y h).2 hy)
      have K := Frm.own K.drew f4 (fun y hy => (hub y hy).1)
      refine jo ?_
      refine jn ⟨(true, t ++ [⟨f.name, f.frm, f.tu + (x :: r).length, f.at_⟩], some ad2, c), (js5 (by rw [show (t ++ [(⟨f.name, f.frm, f.tu + (x :: r).length, f.at_⟩ : Fld)]).length = (t ++ [f]).length by simp]; rfl) rfl rfl rfl rfl), ?_⟩
      exact ⟨by rw [hft]; exact hfl, by rw [hts, ← hat], fun _ => ⟨t, _, rfl, by dsimp only; rw [hft]⟩, by simp at hol ⊢; omega, hO4, hL, K, hub⟩
     ·
      subst hc3
      rw [if_neg (by simp)] at hfl
      refine jk ?_
      refine jn ⟨(false, out, A, c), (js5 rfl rfl rfl rfl rfl), ?_⟩
      exact ⟨hfl, by rw [hts, ← hat], by simp, by dsimp only; omega, hO, hL, K, hub⟩
    ·
     have hnb : ¬ ∃ c, (x :: r).head? = some c ∧ Bl c := fun ⟨c, h1, h2⟩ => by cases h1; exact absurd h2 (of_decide_eq_false hc2)
     refine js (jr (jm ?_))
     refine jm ?_
     refine Ops.r (Run.indexS i (by rw [← hLe]; rfl) rfl Tryz.underlying36 Tryz.sizeOf9 hil) rfl ?_
     refine Ops.r (Run.load rfl Tryz.isAgg9 hcell) rfl ?_
     refine Ops.cl (Enters.fn (evs.cons rfl evs.nil) Tryz.call135) ((rname_spec (x :: r) _ (by omega))) rfl ?_
     rintro e _ ⟨rfl, rfl⟩
     refine ⟨_, rfl, ?_⟩
     obtain ⟨nm, k, hbe, hbi⟩ : ∃ (nm : Tx) (k : Nat), begR (x :: r) = (nm, k) ∧ ((0 < k ∧ beginQ (x :: r) = some (nm, k)) ∨ (k = 0 ∧ beginQ (x :: r) = none)) := by
      cases hq2 : beginQ (x :: r) with
      | none => exact ⟨[], 0, begR_none hq2, .inr ⟨rfl, rfl⟩⟩
      | some p => exact ⟨p.1, p.2, begR_some hq2, .inl ⟨beginQ_pos (n := p.1) (k := p.2) hq2, rfl⟩⟩
     rw [hbe]
     dsimp only
     refine jm ?_
     refine Ops.r (Run.extract rfl rfl) rfl ?_
     refine Ops.r (Run.extract rfl rfl) rfl ?_
     refine ja ?_
     refine ja ?_
     refine jo (jn (jv6 3 4 5 7 8 9 ?_))
     refine js (jr (jm ?_))
     refine Ops.r (Run.bin rfl rfl (Bin.gtrN _ 0)) rfl ?_
     refine ja ?_
     refine jo (jn (jv7 3 4 5 6 7 8 9 ?_))
     refine js (jr (jm ?_))
     refine jo (jn ?_)
     refine VC.condD rfl (fun hc4 => ?_) (fun hc4 => ?_)
     ·
      have hbq := (hbi.resolve_right (fun h => by omega)).2
      have hk0 := hc4
      have hbl := beginQ_lt hbq
      rw [fld_yes hne hnb hbq] at hfl
      refine jr (jm ?_)
      refine jm ?_
      refine jm ?_
      refine jm ?_
      refine jm ?_
      refine jm ?_
      refine Ops.r (Run.indexS i (by rw [← hLe]; rfl) rfl Tryz.underlying36 Tryz.sizeOf9 hil) rfl ?_
      refine Ops.r (Run.load rfl Tryz.isAgg9 hcell) rfl ?_
      refine Ops.r (Run.lenT rfl Tryz.underlying9) rfl ?_
      refine Ops.r (Run.bin rfl rfl (Bin.add_i64 a (x :: r).length (by omega))) rfl ?_
      refine jm ?_
      refine jm ?_
      refine Ops.r (Run.bin rfl rfl (Bin.add_i64 _ _ (by omega))) rfl ?_
      refine Ops.r (Run.build (evs.cons rfl (evs.cons rfl (evs.cons rfl (evs.cons rfl evs.nil)))) zero45 (places45).choose_spec.1 (places45).choose_spec.2 rfl) rfl ?_
      refine Ops.m (Does.buildS1 rfl Tryz.underlying42 Tryz.sizeOf45 zero45 (by decide) (by decide) rfl rfl) rfl ?_
      rintro _ w5 ⟨rfl, hF5⟩
      have hrd5 := hrdF (x := ⟨nm, a, a + (x :: r).length, a + k⟩) hF5
      have hO := hO.frm hF5.frm (by simp)
      have hL := hL.frm hF5.frm (by simp)
      have K := K.trans hF5.frm (by simp)
      refine Ops.m (Does.app rfl rfl Tryz.underlying42 (info45) rfl (by decide) hO hrd5 (FC_one _) (by omega) (by omega)) rfl ?_
      rintro _ w6 ⟨A6, c6, rfl, hO6, f6, hob6⟩
      have sK := K.size
      have lL := hL.lt
      have K := Frm.own K f6 (fun y hy => (hub y hy).1)
      have hO6 : Own w6 45 4 A6 (out ++ [(⟨nm, a, a + (x :: r).length, a + k⟩ : Fld)]).length c6 (FC (out ++ [(⟨nm, a, a + (x :: r).length, a + k⟩ : Fld)])) := by rw [FC_append, List.length_append]; exact hO6
      have hL := hL.frm f6 (fun y hy h => (hub y h).2 hy)
      have hub6 : ∀ y ∈ ob A6, w.heap.size ≤ y ∧ y ∉ ob B := fun y hy => by
       rcases hob6 with h | h
       ·
        rw [h] at hy; exact hub y hy
       ·
        rw [h] at hy
        simp only [List.mem_singleton] at hy
        subst hy
        exact ⟨by omega, fun h => by have := lL _ h; omega⟩
      refine ja ?_
      refine jo ?_
      refine jn ⟨(true, out ++ [⟨nm, a, a + (x :: r).length, a + k⟩], A6, c6), (js5 (by rw [List.length_append]; rfl) rfl rfl (by rw [decide_eq_true hk0]; rfl) rfl), ?_⟩
      exact ⟨hfl, by rw [hts, ← hat], fun _ => ⟨out, _, rfl, rfl⟩, by simp; omega, hO6, hL, K, hub6⟩
     ·
      have hbq := (hbi.resolve_left (fun h => by omega)).2
      rw [fld_no hne hnb hbq] at hfl
      refine jk ?_
      refine jn ⟨(false, out, A, c), (js5 rfl rfl rfl (by rw [decide_eq_false hc4]; rfl) rfl), ?_⟩
      exact ⟨hfl, by rw [hts, ← hat], by simp, by dsimp only; omega, hO, hL, K, hub⟩
   ·
    rintro ⟨op2, out2, A2, c2⟩ wr2 ⟨hfl2, hat2, hop2, hol2, hO2, hL2, K2, hub2⟩ Γ hΓ
    dsimp only at hfl2 hat2 hop2 hol2 hO2 hub2
    have hcell2 : wr2.cell? (adL.add (i * 1)) = some (encStr (x :: r)) := by
     obtain ⟨ad2, he2, hc2_⟩ := SB_at1 hL2.rd hil
     cases hLe.symm.trans he2
     rw [hle] at hc2_
     exact hc2_
    refine jn (VC.sub _ hΓ ?_)
    refine jr (jm ?_)
    refine jm ?_
    refine jm ?_
    refine Ops.r (Run.indexS i (by rw [← hLe]; rfl) rfl Tryz.underlying36 Tryz.sizeOf9 hil) rfl ?_
    refine Ops.r (Run.load rfl Tryz.isAgg9 hcell2) rfl ?_
    refine Ops.r (Run.lenT rfl Tryz.underlying9) rfl ?_
    refine Ops.r (Run.bin rfl rfl (Bin.add_i64 a (x :: r).length (by omega))) rfl ?_
    refine ja ?_
    refine jo ?_
    refine blockQ_n (jn ?_)
    refine jv5 3 4 5 6 7 ?_
    refine jr (jm ?_)
    refine Ops.r (Run.bin rfl rfl (Bin.add_i64 _ 1 (by omega))) rfl ?_
    refine ja ?_
    refine jo ?_
    refine jn ⟨(i + 1, a + (x :: r).length, op2, out2, A2, c2), (js5 rfl rfl rfl rfl rfl), ?_, ?_⟩
    ·
     exact ⟨hil, hfl2, hat2, hop2, hol2, hO2, hL2, K2, hub2⟩
    ·
     first | omega | (dsimp only; omega)
  ·
   have hfin : fldL 0 false [] L = out := by
    rw [← hfl]
    by_cases hil : i < L.length
    ·
     have hem : EmptyL L[i] := Classical.not_not.1 (fun h => hc1 ⟨hil, by rw [List.getElem?_eq_getElem hil]; exact h⟩)
     rw [List.drop_eq_getElem_cons hil, fld_empty hem]
    ·
     rw [List.drop_of_length_le (by omega)]
     rfl
   rw [hfin]
   refine jx ?_
   refine thenQ_x (thenQ_x (blockQ_x ?_))
   refine jn (jv1 3 ?_)
   refine js (jr (jm ?_))
   refine ja ?_
   refine jo (jn (jv1 2 ?_))
   refine jt ?_
   refine end1 rfl ?_
   exact ⟨K, A, c, rfl, hO, fun y hy => (hub y hy).1⟩
theorem leftB_on {q : Tx} {x : UInt8} (h : Bl x) : leftB (x :: q) = leftB q := by rw [leftB, if_pos h]
theorem leftB_off {q : Tx} {x : UInt8} (h : ¬ Bl x) : leftB (x :: q) = x :: q := by rw [leftB, if_neg h]
theorem rightB_on {q : Tx} {x : UInt8} (h : Bl x) : rightB (q ++ [x]) = rightB q := by
 unfold rightB
 rw [List.reverse_append]
 show (leftB (x :: q.reverse)).reverse = _
 rw [leftB_on h]
theorem rightB_off {q : Tx} {x : UInt8} (h : ¬ Bl x) : rightB (q ++ [x]) = q ++ [x] := by
 unfold rightB
 rw [List.reverse_append]
 show (leftB (x :: q.reverse)).reverse = _
 rw [leftB_off h]
 simp
theorem last_at {q : Tx} (h : 0 < q.length) : ∃ t x, q = t ++ [x] ∧ q[q.length - 1]? = some x ∧ t = q.take (q.length - 1) := by
 rcases List.eq_nil_or_concat q with rfl | ⟨t, x, rfl⟩
 ·
  simp at h
 ·
  exact ⟨t, x, by rw [List.concat_eq_append], by simp, by simp⟩
set_option maxRecDepth 100000 in
theorem rtrim17_spec (q : Tx) (w : World) (hq : q.length ≤ 1000000) : Calls Tryz.prog 137 #[encStr q] w fun e w' => e = .returned (encStr (trimQ q)) ∧ w = w' := by
 refine VC.calls (nt := 30) (res := #[.tmp 2]) Tryz.func137 rfl Tryz.ntmps137 Tryz.results137 rfl ?_
 refine js (jr (ja ?_))
 refine jo (jn (jv1 0 ?_))
 refine js (jb ?_)
 refine VC.loop (σ := Tx) (fun s => [(0, encStr s)]) (fun s wr => w = wr ∧ s.length ≤ q.length ∧ leftB s = leftB q) (fun s => s.length) q (js1 rfl) ⟨rfl, Nat.le_refl _, rfl⟩ ?_
 rintro t _ ⟨rfl, htl, ht⟩
 refine js (js ?_)
 refine VC.split1 [(0, _)] (js1 rfl) 10 (.bool (decide ((0 < t.length) ∧ (Bl (hdA t 0))))) ?_ ?_
 ·
  by_cases hs0 : 0 < t.length
  ·
   refine jr (jm ?_)
   refine Ops.r (Run.lenT rfl Tryz.underlying9) rfl ?_
   refine Ops.r (Run.bin rfl rfl (Bin.gtrN _ 0)) rfl ?_
   refine jm ?_
   refine jg ?_
   refine Ops.rg rfl au (Run.indexT 0 rfl rfl Tryz.underlying9 (hdA_at hs0)) rfl ?_
   refine Ops.clg rfl au (Enters.fn (evs.cons rfl evs.nil) Tryz.call134) ((rblank_spec (hdA t 0) _)) rfl ?_
   rintro e _ ⟨rfl, rfl⟩
   refine ⟨_, rfl, ?_⟩
   refine Ops.r (Run.pickT rfl rfl au) rfl ?_
   refine jo ?_
   refine jn ⟨(js2 (by rw [dand1 hs0]; rfl) rfl), rfl⟩
  ·
   refine jr (jm ?_)
   refine Ops.r (Run.lenT rfl Tryz.underlying9) rfl ?_
   refine Ops.r (Run.bin rfl rfl (Bin.gtrN _ 0)) rfl ?_
   refine jm ?_
   refine ju ?_
   refine ju ?_
   refine ju ?_
   refine Ops.r (Run.pickF rfl rfl au) rfl ?_
   refine jo ?_
   refine jn ⟨(js2 (by rw [dand0 hs0]; rfl) rfl), rfl⟩
 ·
  intro Γ hΓ
  refine jn (VC.sub _ hΓ ?_)
  refine VC.condD rfl (fun hc1 => ?_) (fun hc1 => ?_)
  ·
   have hd0 := hdA_drop hc1.1
   rw [List.drop_zero] at hd0
   rw [hd0, leftB_on hc1.2] at ht
   refine jk (jn (jv1 0 ?_))
   refine jb (jr (jm ?_))
   refine Ops.r (Run.sliceT 1 t.length rfl Tryz.underlying9 (evB.some_ rfl) evB.none_ (by omega) (by omega)) rfl ?_
   rw [show (t.drop 1).take (t.length - 1) = t.drop 1 from List.take_of_length_le (by simp)]
   refine ja ?_
   refine jo ?_
   refine blockQ_n (jn ⟨(t.drop 1), (js1 rfl), ?_, ?_⟩)
   ·
    exact ⟨rfl, by simp; omega, ht⟩
   ·
    have := hc1.1; simp; omega
  ·
   have hlt : leftB t = t := by
    cases t with
    | nil => rfl
    | cons x r => exact leftB_off (fun h => hc1 ⟨by simp, h⟩)
   rw [hlt] at ht
   have htq : rightB t = trimQ q := by rw [ht]; exact trim_comm q
   refine jx ?_
   refine thenQ_x (thenQ_x (blockQ_x ?_))
   refine jn (jv1 0 ?_)
   refine js (jb ?_)
   refine VC.loop (σ := Tx) (fun s => [(0, encStr s)]) (fun s wr => w = wr ∧ s.length ≤ q.length ∧ rightB s = trimQ q) (fun s => s.length) t (js1 rfl) ⟨rfl, htl, htq⟩ ?_
   rintro u _ ⟨rfl, hul, hu⟩
   refine js (js ?_)
   refine VC.split1 [(0, _)] (js1 rfl) 23 (.bool (decide ((0 < u.length) ∧ (Bl (hdA u (u.length - 1)))))) ?_ ?_
   ·
    by_cases hs0 : 0 < u.length
    ·
     refine jr (jm ?_)
     refine Ops.r (Run.lenT rfl Tryz.underlying9) rfl ?_
     refine Ops.r (Run.bin rfl rfl (Bin.gtrN _ 0)) rfl ?_
     refine jm ?_
     refine jg ?_
     refine jg ?_
     refine Ops.rg rfl au (Run.lenT rfl Tryz.underlying9) rfl ?_
     refine Ops.rg rfl au (Run.bin rfl rfl (Bin.sub_i64 _ 1 (by omega) (by omega))) rfl ?_
     refine Ops.rg rfl au (Run.indexT _ rfl rfl Tryz.underlying9 (hdA_at (show u.length - 1 < u.length by omega))) rfl ?_
     refine Ops.clg rfl au (Enters.fn (evs.cons rfl evs.nil) Tryz.call134) ((rblank_spec (hdA u (u.length - 1)) _)) rfl ?_
     rintro e _ ⟨rfl, rfl⟩
     refine ⟨_, rfl, ?_⟩
     refine Ops.r (Run.pickT rfl rfl au) rfl ?_
     refine jo ?_
     refine jn ⟨(js2 (by rw [dand1 hs0]; rfl) rfl), rfl⟩
    ·
     refine jr (jm ?_)
     refine Ops.r (Run.lenT rfl Tryz.underlying9) rfl ?_
     refine Ops.r (Run.bin rfl rfl (Bin.gtrN _ 0)) rfl ?_
     refine jm ?_
     refine ju ?_
     refine ju ?_
     refine ju ?_
     refine ju ?_
     refine ju ?_
     refine ju ?_
     refine Ops.r (Run.pickF rfl rfl au) rfl ?_
     refine jo ?_
     refine jn ⟨(js2 (by rw [dand0 hs0]; rfl) rfl), rfl⟩
   ·
    intro Γ hΓ
    refine jn (VC.sub _ hΓ ?_)
    refine VC.condD rfl (fun hc2 => ?_) (fun hc2 => ?_)
    ·
     obtain ⟨v, x, hv, hx, hvt⟩ := last_at hc2.1
     have hbx : Bl x := by
      have := hdA_at (show u.length - 1 < u.length by omega)
      rw [hx] at this
      rw [Option.some.inj this]
      exact hc2.2
     have hvl : v.length + 1 = u.length := by rw [hv]; simp
     have hrv : rightB v = trimQ q := by rw [← hu, hv, rightB_on hbx]
     refine jk (jn (jv1 0 ?_))
     refine jb (jr (jm ?_))
     refine jm ?_
     refine Ops.r (Run.lenT rfl Tryz.underlying9) rfl ?_
     refine Ops.r (Run.bin rfl rfl (Bin.sub_i64 _ 1 (by omega) (by omega))) rfl ?_
     refine Ops.r (Run.sliceT 0 (u.length - 1) rfl Tryz.underlying9 evB.none_ (evB.some_ rfl) (by omega) (by omega)) rfl ?_
     rw [show (u.drop 0).take (u.length - 1 - 0) = v by rw [hvt]; rfl]
     refine ja ?_
     refine jo ?_
     refine blockQ_n (jn ⟨v, (js1 rfl), ?_, ?_⟩)
     ·
      exact ⟨rfl, by omega, hrv⟩
     ·
      omega
    ·
     have hru : rightB u = u := by
      by_cases h0 : 0 < u.length
      ·
       obtain ⟨v, x, hv, hx, hvt⟩ := last_at h0
       have hnx : ¬ Bl x := fun h => hc2 ⟨h0, by
        have := hdA_at (show u.length - 1 < u.length by omega)
        rw [hx] at this
        rw [← Option.some.inj this]
        exact h⟩
       rw [hv]
       exact rightB_off hnx
      ·
       rw [List.length_eq_zero_iff.1 (show u.length = 0 by omega)]
       rfl
     rw [hru] at hu
     refine jx ?_
     refine thenQ_x (thenQ_x (blockQ_x ?_))
     refine jn (jv1 0 ?_)
     refine js (jr (jm ?_))
     refine ja ?_
     refine jo (jn (jv1 2 ?_))
     refine jt ?_
     refine end1 rfl ?_
     exact ⟨by rw [hu], rfl⟩
theorem bareL_nl (t : Tx) : bareL (t ++ [10]) = if t.getLast? = some 13 then t.dropLast else t := by
 unfold bareL
 rw [if_pos (by simp)]
 simp
theorem bareL_no {t : Tx} {x : UInt8} (h : x ≠ 10) : bareL (t ++ [x]) = t ++ [x] := by
 unfold bareL
 rw [if_neg (by simp; exact h)]
set_option maxRecDepth 100000 in
set_option maxHeartbeats 800000 in
theorem rtext_spec (q : Tx) (f : Fld) (w : World) (hq : q.length ≤ 500000) (hfo : FldOk q.length f) : Calls Tryz.prog 97 #[encStr q, .agg (FC1 f).toArray] w fun e w' => e = .returned (encStr (textQ q f)) ∧ Frm [] w w' := by
 obtain ⟨hf1, hf2, hf3, hf4⟩ := hfo
 have K := Frm.refl [] w
 refine VC.calls (nt := 56) (res := #[.tmp 4]) Tryz.func97 rfl Tryz.ntmps97 Tryz.results97 rfl ?_
 refine js (jr ?_)
 refine Ops.m (Does.box rfl) rfl ?_
 rintro _ w1 ⟨rfl, hF1⟩
 have hb3 : Blk w1 w.heap.size 45 (FC1 f).toArray := hF1.blk
 have K := K.trans hF1.frm (by simp)
 obtain ⟨g3, hg3⟩ : ∃ g, w.heap.size = g := ⟨_, rfl⟩
 rw [hg3] at hb3 ⊢
 refine ja ?_
 refine jo (jn (jv2 0 3 ?_))
 refine js (jr (ja ?_))
 refine jo (jn (js (jr (jm ?_))))
 refine Ops.r (Run.fieldAddr rfl Tryz.underlying45 rfl Tryz.sizeOf3 (by decide)) rfl ?_
 refine Ops.r (Run.load rfl Tryz.isAgg3 (hb3.cell 3)) rfl ?_
 refine Ops.r (Run.fieldAddr rfl Tryz.underlying45 rfl Tryz.sizeOf3 (by decide)) rfl ?_
 refine Ops.r (Run.load rfl Tryz.isAgg3 (hb3.cell 2)) rfl ?_
 refine Ops.r (Run.sliceT f.at_ f.tu rfl Tryz.underlying9 (evB.some_ rfl) (evB.some_ rfl) (by omega) (by omega)) rfl ?_
 have htx : textQ q f = trimQ ((linesF ((q.drop f.at_).take (f.tu - f.at_))).map bareL).flatten := rfl
 have hpl : ((q.drop f.at_).take (f.tu - f.at_)).length ≤ q.length := by simp; omega
 rw [htx]
 generalize (q.drop f.at_).take (f.tu - f.at_) = p at *
 refine Ops.cl (Enters.fn (evs.cons rfl evs.nil) Tryz.call132) ((rcut_spec p _ (by omega))) rfl ?_
 rintro e w2 ⟨f2, B, bc, rfl, hL, hubL⟩
 refine ⟨_, rfl, ?_⟩
 have K := K.trans f2 (by simp)
 have hnl : ∀ l ∈ linesF p, l ≠ [] := fun l hl => linesF_ne hl
 have hfl := linesF_flat p
 have hbl := flat_map_len bareL_le (linesF p)
 rw [hfl] at hbl
 have hpf : ∀ k, ((linesF p).take k).flatten.length ≤ p.length := fun k => by
  conv => rhs; rw [← hfl, ← List.take_append_drop k (linesF p), List.flatten_append, List.length_append]
  omega
 have hlc := linesF_count p
 generalize linesF p = L at *
 refine ja ?_
 refine jo (jn (jv2 5 6 ?_))
 refine js (js (jr ?_))
 refine Ops.r (v := .int .i64 ((0 : Nat) : Int)) (Run.asg rfl) rfl ?_
 refine jo (jn (jb ?_))
 refine VC.loop (σ := Nat) (fun s => [(5, encStr (((L.take s).map bareL).flatten)), (6, .slice B L.length bc), (7, .int .i64 ((s : Nat) : Int))]) (fun s wr => s ≤ L.length ∧ Drawn w2 wr) (fun s => L.length - s) 0 (js3 rfl rfl rfl) ⟨Nat.zero_le _, Drawn.refl _⟩ ?_
 rintro k wr ⟨hk, hd⟩
 refine js (js (jr (jm ?_)))
 refine jm ?_
 refine Ops.r (Run.lenS rfl Tryz.underlying36) rfl ?_
 refine Ops.r (Run.bin rfl rfl (Bin.lssN _ _)) rfl ?_
 refine jo (jn (jv4 5 6 7 20 ?_))
 refine VC.condD rfl (fun hc1 => ?_) (fun hc1 => ?_)
 ·
  obtain ⟨adL, hLe, hcell⟩ := SB_at1 (hL.rd.drawn hd) hc1
  have hl0 := hnl _ (List.getElem_mem hc1)
  have hts : ((L.take (k + 1)).map bareL).flatten = ((L.take k).map bareL).flatten ++ bareL L[k] := by rw [take_snoc hc1, List.map_append, List.flatten_append]; simp
  have hb1 := flat_map_len bareL_le (L.take (k + 1))
  have hb2 := hpf (k + 1)
  rw [hts, List.length_append] at hb1
  have hb3l : L[k].length ≤ p.length := by
   have := hpf (k + 1)
   rw [take_snoc hc1, List.flatten_append, List.length_append] at this
   simp at this
   omega
  generalize L[k] = l at *
  obtain ⟨t, x, hlx, hlast, htt⟩ := last_at (List.length_pos_iff.2 hl0)
  have hll : l.length = t.length + 1 := by rw [hlx]; simp
  have e10 : x.toNat = 10 ↔ x = 10 := u8n rfl
  refine jk (jn (jv3 5 6 7 ?_))
  refine js (jb (js (jr (jm ?_))))
  refine jm ?_
  refine Ops.r (Run.indexS k (by rw [← hLe]; rfl) rfl Tryz.underlying36 Tryz.sizeOf9 hc1) rfl ?_
  refine Ops.r (Run.load rfl Tryz.isAgg9 hcell) rfl ?_
  refine ja ?_
  refine jo (jn (jv4 5 6 7 8 ?_))
  refine js (jr (jm ?_))
  refine Ops.r (Run.lenT rfl Tryz.underlying9) rfl ?_
  refine ja ?_
  refine jo (jn (jv5 5 6 7 8 9 ?_))
  refine js (js (jr (jm ?_)))
  refine jm ?_
  refine Ops.r (Run.bin rfl rfl (Bin.sub_i64 _ 1 (by omega) (by omega))) rfl ?_
  refine Ops.r (Run.indexT _ rfl rfl Tryz.underlying9 hlast) rfl ?_
  refine Ops.r (Run.bin rfl rfl (Bin.eqlN _ 10)) rfl ?_
  refine jo (jn (jv6 5 6 7 8 9 33 ?_))
  refine VC.meet (σ := Unit) (fun s => [(5, encStr (((L.take k).map bareL).flatten)), (6, .slice B L.length bc), (7, .int .i64 ((k : Nat) : Int)), (8, encStr (bareL l))]) (fun s wr => Drawn w2 wr) ?_ ?_
  ·
   refine VC.condD rfl (fun hc2 => ?_) (fun hc2 => ?_)
   ·
    have hbe := bareL_nl t
    rw [← e10.1 hc2, ← hlx] at hbe
    refine js (jr (jm ?_))
    refine jm ?_
    refine Ops.r (Run.bin rfl rfl (Bin.sub_i64 _ 1 (by omega) (by omega))) rfl ?_
    refine Ops.r (Run.sliceT 0 (l.length - 1) rfl Tryz.underlying9 evB.none_ (evB.some_ rfl) (by omega) (by omega)) rfl ?_
    rw [show (l.drop 0).take (l.length - 1 - 0) = t by rw [htt]; rfl]
    refine ja ?_
    refine jo (jn (jv5 5 6 7 8 9 ?_))
    refine js ?_
    refine VC.split1 [(5, _), (6, _), (7, _), (8, _), (9, _)] (js5 rfl rfl rfl rfl rfl) 46 (.bool (decide ((1 < l.length) ∧ ((hdA t (l.length - 2)).toNat = 13)))) ?_ ?_
    ·
     by_cases hs0 : 1 < l.length
     ·
      refine jr (jm ?_)
      refine Ops.r (Run.bin rfl rfl (Bin.gtrN _ 1)) rfl ?_
      refine jm ?_
      refine jg ?_
      refine jg ?_
      refine Ops.rg rfl au (Run.bin rfl rfl (Bin.sub_i64 _ 2 (by omega) (by omega))) rfl ?_
      refine Ops.rg rfl au (Run.indexT _ rfl rfl Tryz.underlying9 (hdA_at (show l.length - 2 < t.length by omega))) rfl ?_
      refine Ops.rg rfl au (Run.bin rfl rfl (Bin.eqlN _ 13)) rfl ?_
      refine Ops.r (Run.pickT rfl rfl au) rfl ?_
      refine jo ?_
      refine jn ⟨(js6 (by rw [dand1 hs0]; rfl) rfl rfl rfl rfl rfl), rfl⟩
     ·
      refine jr (jm ?_)
      refine Ops.r (Run.bin rfl rfl (Bin.gtrN _ 1)) rfl ?_
      refine jm ?_
      refine ju ?_
      refine ju ?_
      refine ju ?_
      refine ju ?_
      refine ju ?_
      refine Ops.r (Run.pickF rfl rfl au) rfl ?_
      refine jo ?_
      refine jn ⟨(js6 (by rw [dand0 hs0]; rfl) rfl rfl rfl rfl rfl), rfl⟩
    ·
     intro Γ hΓ
     refine jn (VC.sub _ hΓ ?_)
     refine VC.condD rfl (fun hc3 => ?_) (fun hc3 => ?_)
     ·
      obtain ⟨h1l, h13⟩ := hc3
      have hg13 : t.getLast? = some 13 := by
       rw [List.getLast?_eq_getElem?, show t.length - 1 = l.length - 2 by omega, hdA_at (show l.length - 2 < t.length by omega), (u8n (x := 13) rfl).1 h13]
      rw [if_pos hg13] at hbe
      refine jr (jm ?_)
      refine jm ?_
      refine Ops.r (Run.bin rfl rfl (Bin.sub_i64 _ 2 (by omega) (by omega))) rfl ?_
      refine Ops.r (Run.sliceT 0 (l.length - 2) rfl Tryz.underlying9 evB.none_ (evB.some_ rfl) (by omega) (by omega)) rfl ?_
      rw [show (t.drop 0).take (l.length - 2 - 0) = t.dropLast by rw [List.dropLast_eq_take, List.drop_zero]; congr 1; omega]
      refine ja ?_
      refine jo ?_
      refine jn ⟨(), (js4 rfl rfl rfl (by rw [hbe]; rfl)), ?_⟩
      exact hd
     ·
      have hg13 : ¬ t.getLast? = some 13 := fun hg => by
       rw [List.getLast?_eq_getElem?] at hg
       have h1 := (List.getElem?_eq_some_iff.1 hg).1
       refine hc3 ⟨by omega, ?_⟩
       rw [show t.length - 1 = l.length - 2 by omega, hdA_at (show l.length - 2 < t.length by omega)] at hg
       rw [Option.some.inj hg]
       rfl
      rw [if_neg hg13] at hbe
      refine jk ?_
      refine jn ⟨(), (js4 rfl rfl rfl (by rw [hbe]; rfl)), ?_⟩
      exact hd
   ·
    have hbe := bareL_no (t := t) (x := x) (fun h => hc2 (e10.2 h))
    rw [← hlx] at hbe
    refine jk ?_
    refine jn ⟨(), (js4 rfl rfl rfl (by rw [hbe]; rfl)), ?_⟩
    exact hd
  ·
   rintro _ wr2 hd2 Γ hΓ
   refine jn (VC.sub _ hΓ ?_)
   refine jr (jm ?_)
   refine jm ?_
   refine Ops.r (Run.addT rfl rfl (by omega)) rfl ?_
   refine ja ?_
   refine jo ?_
   refine blockQ_n (jn ?_)
   refine jv3 5 6 7 ?_
   refine jr (jm ?_)
   refine Ops.r (Run.bin rfl rfl (Bin.add_i64 _ 1 (by omega))) rfl ?_
   refine ja ?_
   refine jo ?_
   refine jn ⟨(k + 1), (js3 (by rw [hts]; rfl) rfl rfl), ?_, ?_⟩
   ·
    exact ⟨hc1, hd2⟩
   ·
    first | omega | (dsimp only; omega)
 ·
  have hkl : k = L.length := by omega
  subst hkl
  rw [List.take_length]
  refine jx ?_
  refine thenQ_x (thenQ_x (blockQ_x ?_))
  refine jn (jv1 5 ?_)
  refine js (jr (jm ?_))
  refine Ops.cl (Enters.fn (evs.cons rfl evs.nil) Tryz.call137) ((rtrim17_spec (L.map bareL).flatten _ (by omega))) rfl ?_
  rintro e _ ⟨rfl, rfl⟩
  refine ⟨_, rfl, ?_⟩
  refine ja ?_
  refine jo (jn (jv1 4 ?_))
  refine jt ?_
  refine end1 rfl ?_
  exact ⟨rfl, K.drawn hd⟩
end Go.Proofs.YtenbjndldenkfaaGreatDoor
namespace Go.Proofs.YtenbjndldenkfaaGreatDoor
open Go.RowKit Go.Sort
theorem flat_mem_len : ∀ {ls : List Tx} {l : Tx}, l ∈ ls → l.length ≤ ls.flatten.length
 | x :: r, l, h => by
  rw [List.flatten_cons, List.length_append]
  rcases List.mem_cons.1 h with rfl | h
  ·
   omega
  ·
   have := flat_mem_len h
   omega
theorem fieldsQ_nms (q : Tx) : ∀ f ∈ fieldsQ q, f.name.length ≤ q.length := by
 refine fldL_name _ 0 false [] _ (fun l hl => ?_) (by simp)
 have := flat_mem_len hl
 rw [linesF_flat, List.length_take] at this
 omega
set_option maxRecDepth 100000 in
theorem rsmall16_spec (c : UInt8) (w : World) : Calls Tryz.prog 136 #[.int .u8 ((c.toNat : Nat) : Int)] w fun e w' => e = .returned (.int .u8 (((low c).toNat : Nat) : Int)) ∧ w = w' := by
 refine VC.calls (nt := 12) (res := #[.tmp 2]) Tryz.func136 rfl Tryz.ntmps136 Tryz.results136 rfl ?_
 refine js (jr ?_)
 refine Ops.r (v := .int .u8 ((0 : Nat) : Int)) (Run.asg rfl) rfl ?_
 refine jo (jn (jv1 0 ?_))
 refine js (js ?_)
 refine VC.split1 [(0, _)] (js1 rfl) 8 (.bool (decide ((65 ≤ c.toNat) ∧ (c.toNat ≤ 90)))) ?_ ?_
 ·
  by_cases hs0 : 65 ≤ c.toNat
  ·
   refine jr (jm ?_)
   refine Ops.r (Run.bin rfl rfl (Bin.leqN 65 _)) rfl ?_
   refine jm ?_
   refine jg ?_
   refine Ops.rg rfl au (Run.bin rfl rfl (Bin.leqN _ 90)) rfl ?_
   refine Ops.r (Run.pickT rfl rfl au) rfl ?_
   refine jo ?_
   refine jn ⟨(js2 (by rw [dand1 hs0]; rfl) rfl), rfl⟩
  ·
   refine jr (jm ?_)
   refine Ops.r (Run.bin rfl rfl (Bin.leqN 65 _)) rfl ?_
   refine jm ?_
   refine ju ?_
   refine ju ?_
   refine Ops.r (Run.pickF rfl rfl au) rfl ?_
   refine jo ?_
   refine jn ⟨(js2 (by rw [dand0 hs0]; rfl) rfl), rfl⟩
 ·
  intro Γ hΓ
  refine jn (VC.sub _ hΓ ?_)
  refine VC.condD rfl (fun hc1 => ?_) (fun hc1 => ?_)
  ·
   refine js (jr (jm ?_))
   refine Ops.r (Run.bin rfl rfl (Bin.add_u8 _ 32 (by omega))) rfl ?_
   refine ja ?_
   refine jo (jn (jv1 2 ?_))
   refine jt ?_
   refine thenQ_r (end1 rfl ?_)
   exact ⟨by rw [low_nat, if_pos hc1], rfl⟩
  ·
   refine jk (jn (jv1 0 ?_))
   refine js (jr (jm ?_))
   refine ja ?_
   refine jo (jn (jv1 2 ?_))
   refine jt ?_
   refine end1 rfl ?_
   exact ⟨by rw [low_nat, if_neg hc1], rfl⟩
set_option maxRecDepth 100000 in
theorem alike_spec (a b : Tx) (w : World) (ha : a.length ≤ 1000000) (hb : b.length ≤ 1000000) : Calls Tryz.prog 96 #[encStr a, encStr b] w fun e w' => e = .returned (.bool (decide (smallS a = smallS b))) ∧ Drawn w w' := by
 refine VC.calls (nt := 26) (res := #[.tmp 4]) Tryz.func96 rfl Tryz.ntmps96 Tryz.results96 rfl ?_
 refine js (jr (ja ?_))
 refine jo (jn (jv2 0 1 ?_))
 refine js (js (jr (jm ?_)))
 refine Ops.r (Run.lenT rfl Tryz.underlying9) rfl ?_
 refine jm ?_
 refine Ops.r (Run.lenT rfl Tryz.underlying9) rfl ?_
 refine Ops.r (Run.bin rfl rfl (Bin.neqN _ _)) rfl ?_
 refine jo (jn (jv3 0 1 10 ?_))
 refine VC.condD rfl (fun hc1 => ?_) (fun hc1 => ?_)
 ·
  have hne : ¬ smallS a = smallS b := fun h => hc1 (by have := congrArg List.length h; simpa [smallS_len] using this)
  refine js (jr (ja ?_))
  refine jo (jn (jv1 4 ?_))
  refine jt ?_
  refine thenQ_r (end1 rfl ?_)
  exact ⟨by simp [hne], Drawn.refl _⟩
 ·
  have hll : a.length = b.length := Classical.not_not.1 hc1
  refine jk (jn (jv2 0 1 ?_))
  refine js (js (jr ?_))
  refine Ops.r (v := .int .i64 ((0 : Nat) : Int)) (Run.asg rfl) rfl ?_
  refine jo (jn (jb ?_))
  refine VC.loop (σ := Nat) (fun s => [(0, encStr a), (1, encStr b), (5, .int .i64 ((s : Nat) : Int))]) (fun s wr => s ≤ a.length ∧ smallS (a.take s) = smallS (b.take s) ∧ Drawn w wr) (fun s => a.length - s) 0 (js3 rfl rfl rfl) ⟨by omega, rfl, Drawn.refl _⟩ ?_
  rintro i wr ⟨hi, htk, hd⟩
  refine js (js (jr (jm ?_)))
  refine jm ?_
  refine Ops.r (Run.lenT rfl Tryz.underlying9) rfl ?_
  refine Ops.r (Run.bin rfl rfl (Bin.lssN _ _)) rfl ?_
  refine jo (jn (jv4 0 1 5 14 ?_))
  refine VC.condD rfl (fun hc2 => ?_) (fun hc2 => ?_)
  ·
   have hib : i < b.length := by omega
   have hta : a.take (i + 1) = a.take i ++ [a[i]] := take_snoc hc2
   have htb : b.take (i + 1) = b.take i ++ [b[i]] := take_snoc hib
   have hab : smallS a = smallS b → low a[i] = low b[i] := fun h => by
    have h1 : (smallS a)[i]? = (smallS b)[i]? := by rw [h]
    simpa [smallS, List.getElem?_eq_getElem, hc2, hib] using h1
   have hga : a[i]? = some a[i] := List.getElem?_eq_getElem hc2
   have hgb : b[i]? = some b[i] := List.getElem?_eq_getElem hib
   generalize a[i] = x at *
   generalize b[i] = y at *
   refine jk (jn (jv3 0 1 5 ?_))
   refine js (jb (js ?_))
   refine VC.still jK jK ?_
   refine SOps.r (Run.mv rfl) rfl ?_
   refine SOps.r (Run.mv rfl) rfl ?_
   refine SOps.r (Run.indexT _ rfl rfl Tryz.underlying9 hga) rfl ?_
   refine SOps.call (Enters.fn (evs.cons rfl evs.nil) Tryz.call136) (rsmall16_spec x _) trivial rfl rfl ?_
   refine SOps.r (Run.mv rfl) rfl ?_
   refine SOps.r (Run.mv rfl) rfl ?_
   refine SOps.r (Run.indexT _ rfl rfl Tryz.underlying9 hgb) rfl ?_
   refine SOps.call (Enters.fn (evs.cons rfl evs.nil) Tryz.call136) (rsmall16_spec y _) trivial rfl rfl ?_
   refine SOps.r (Run.bin rfl rfl (Bin.neqN _ _)) rfl ?_
   refine SOps.nil ?_
   refine jn (jv4 0 1 5 25 ?_)
   refine VC.condD rfl (fun hc3 => ?_) (fun hc3 => ?_)
   ·
    have hne : ¬ smallS a = smallS b := fun h => hc3 (by rw [hab h])
    refine js (jr (ja ?_))
    refine jo (jn (jv1 4 ?_))
    refine jt ?_
    refine blockQ_r (thenQ_r (thenQ_r (blockQ_r (thenQ_r (end1 rfl ?_)))))
    exact ⟨by simp [hne], hd.trans (Drawn.drew _)⟩
   ·
    have hxy : low x = low y := UInt8.toNat_inj.1 (Classical.not_not.1 hc3)
    refine jk ?_
    refine blockQ_n (jn ?_)
    refine jv3 0 1 5 ?_
    refine jr (jm ?_)
    refine Ops.r (Run.bin rfl rfl (Bin.add_i64 _ 1 (by omega))) rfl ?_
    refine ja ?_
    refine jo ?_
    refine jn ⟨(i + 1), (js3 rfl rfl rfl), ?_, ?_⟩
    ·
     refine ⟨hc2, ?_, hd.trans (Drawn.drew _)⟩
     rw [hta, htb]
     show (_ ++ _ : Tx).map low = (_ ++ _ : Tx).map low
     rw [List.map_append, List.map_append]
     show smallS _ ++ [low x] = smallS _ ++ [low y]
     rw [htk, hxy]
    ·
     first | omega | (dsimp only; omega)
  ·
   have heq : smallS a = smallS b := by
    have hil : i = a.length := by omega
    subst hil
    rw [List.take_length, hll, List.take_length] at htk
    exact htk
   refine jx ?_
   refine thenQ_x (thenQ_x (blockQ_x ?_))
   refine jn ?_
   refine VC.sub [] .nil ?_
   refine js (jr (ja ?_))
   refine jo (jn (jt ?_))
   refine end1 rfl ?_
   exact ⟨by simp [heq], hd⟩
set_option maxRecDepth 100000 in
theorem rfind17_spec (q nm : Tx) (w : World) (hq : q.length ≤ 500000) (hn : nm.length ≤ 1000000) : Calls Tryz.prog 62 #[encStr q, encStr nm] w fun e w' => e = .returned (.tuple #[encStr (findH q nm).1, .bool (findH q nm).2]) ∧ Frm [] w w' := by
 have K := Frm.refl [] w
 have hfh : findH q nm = findF q nm (fieldsQ q) := rfl
 refine VC.calls (nt := 29) (res := #[.tmp 4, .tmp 5]) Tryz.func62 rfl Tryz.ntmps62 Tryz.results62 rfl ?_
 refine js (jr (ja ?_))
 refine ja ?_
 refine jo (jn (jv2 0 1 ?_))
 refine js (jr (jm ?_))
 refine Ops.cl (Enters.fn (evs.cons rfl evs.nil) Tryz.call95) ((rfields_spec q _ hq)) rfl ?_
 rintro e w1 ⟨f1, A, c, rfl, hO, hub⟩
 refine ⟨_, rfl, ?_⟩
 have K := K.trans f1 (by simp)
 have hok := fieldsQ_ok q
 have hsl := splitQ_le q
 have hnm := fieldsQ_nms q
 have hfc := fieldsQ_count q
 rw [hfh]
 generalize fieldsQ q = F at *
 refine ja ?_
 refine jo (jn (jv3 0 1 6 ?_))
 refine js (js (jr ?_))
 refine Ops.r (v := .int .i64 ((0 : Nat) : Int)) (Run.asg rfl) rfl ?_
 refine jo (jn (jb ?_))
 refine VC.loop (σ := Nat) (fun s => [(0, encStr q), (1, encStr nm), (6, .slice A F.length c), (7, .int .i64 ((s : Nat) : Int))]) (fun s wr => s ≤ F.length ∧ (∀ f ∈ F.take s, smallS f.name ≠ smallS nm) ∧ Frm [] w wr ∧ Own wr 45 4 A F.length c (FC F)) (fun s => F.length - s) 0 (js4 rfl rfl rfl rfl) ⟨Nat.zero_le _, by simp, K, hO⟩ ?_
 rintro k wr ⟨hk, hno, K, hO⟩
 refine js (js (jr (jm ?_)))
 refine jm ?_
 refine Ops.r (Run.lenS rfl Tryz.underlying42) rfl ?_
 refine Ops.r (Run.bin rfl rfl (Bin.lssN _ _)) rfl ?_
 refine jo (jn (jv5 0 1 6 7 13 ?_))
 refine VC.condD rfl (fun hc1 => ?_) (fun hc1 => ?_)
 ·
  obtain ⟨ad, hAe, hcell⟩ := FC_at hO.rd hc1
  have hts := take_snoc hc1
  have hat := findF_at (s := q) (n := nm) hc1 hno
  have hfo := hok _ (List.getElem_mem hc1)
  have hnl := hnm _ (List.getElem_mem hc1)
  generalize hfe : F[k] = f at *
  refine jk (jn (jv4 0 1 6 7 ?_))
  refine js (jb (js (jr (jm ?_))))
  refine jm ?_
  refine Ops.r (Run.indexS k (by rw [← hAe]; rfl) rfl Tryz.underlying42 Tryz.sizeOf45 hc1) rfl ?_
  refine Ops.r (Run.fieldAddr rfl Tryz.underlying45 rfl Tryz.sizeOf9 (by decide)) rfl ?_
  refine Ops.r (Run.load rfl Tryz.isAgg9 (hcell 0 _ rfl)) rfl ?_
  refine jm ?_
  refine Ops.cl (Enters.fn (evs.cons rfl (evs.cons rfl evs.nil)) Tryz.call96) ((alike_spec f.name nm _ (by omega) hn)) rfl ?_
  rintro e w2 ⟨rfl, hd2⟩
  refine ⟨_, rfl, ?_⟩
  have hO := hO.drawn hd2
  have K := K.drawn hd2
  obtain ⟨ad3, hAe3, hcell3⟩ := FC_at hO.rd hc1
  cases hAe.symm.trans hAe3
  refine jo (jn (jv5 0 1 6 7 22 ?_))
  refine VC.condB rfl (fun hc2 => ?_) (fun hc2 => ?_)
  ·
   have hal := of_decide_eq_true hc2
   rw [hat hal]
   refine js (jr (jm ?_))
   refine jm ?_
   refine jm ?_
   refine Ops.r (Run.indexS k (by rw [← hAe]; rfl) rfl Tryz.underlying42 Tryz.sizeOf45 hc1) rfl ?_
   refine Ops.r (Run.loadA rfl Tryz.isAgg45 Tryz.sizeOf45 (fun j v hj => hcell3 j v (by rw [hfe]; exact hj)) (by first | rfl | (simp; done))) rfl ?_
   refine Ops.cl (Enters.fn (evs.cons rfl (evs.cons rfl evs.nil)) Tryz.call97) ((rtext_spec q f _ hq (by obtain ⟨a1, a2, a3, a4⟩ := hfo; exact ⟨a1, a2, by omega, a4⟩))) rfl ?_
   rintro e w4 ⟨rfl, f4⟩
   refine ⟨_, rfl, ?_⟩
   have K := K.trans f4 (by simp)
   refine ja ?_
   refine ja ?_
   refine jo (jn (jv2 4 5 ?_))
   refine jt ?_
   refine blockQ_r (thenQ_r (thenQ_r (blockQ_r (thenQ_r (end2 rfl rfl ?_)))))
   exact ⟨rfl, K⟩
  ·
   have hal := of_decide_eq_false hc2
   refine jk ?_
   refine blockQ_n (jn ?_)
   refine jv4 0 1 6 7 ?_
   refine jr (jm ?_)
   refine Ops.r (Run.bin rfl rfl (Bin.add_i64 _ 1 (by omega))) rfl ?_
   refine ja ?_
   refine jo ?_
   refine jn ⟨(k + 1), (js4 rfl rfl rfl rfl), ?_, ?_⟩
   ·
    refine ⟨hc1, fun y hy => ?_, K, hO⟩
    rw [hts] at hy
    rcases List.mem_append.1 hy with h | h
    ·
     exact hno y h
    ·
     simp only [List.mem_singleton] at h; subst h; exact hal
   ·
    first | omega | (dsimp only; omega)
 ·
  have hkl : k = F.length := by omega
  subst hkl
  rw [List.take_length] at hno
  refine jx ?_
  refine thenQ_x (thenQ_x (blockQ_x ?_))
  refine jn ?_
  refine VC.sub [] .nil ?_
  refine js (jr (ja ?_))
  refine ja ?_
  refine jo (jn (jt ?_))
  refine end2 rfl rfl ?_
  exact ⟨by rw [findF_no hno], K⟩
end Go.Proofs.YtenbjndldenkfaaGreatDoor
namespace Go.Proofs.YtenbjndldenkfaaGreatDoor
open Go.RowKit
structure Sg where
 c : UInt8
 q : Bool
 r : Bool
 op : Bool
 sh : Bool
deriving DecidableEq
def Sg.Pl (x : Sg) : Prop := x.q = false ∧ x.r = false
instance (x : Sg) : Decidable x.Pl := by unfold Sg.Pl; infer_instance
def signsF (qt : Bool) (d : Nat) (s : Tx) : List Sg := match s with
 | [] => []
 | c :: r =>
  if (qt = true ∨ 0 < d) ∧ c = 92 then (match r with
   | [] => []
   | x :: r2 => ⟨x, qt, decide (0 < d), false, false⟩ :: signsF qt d r2)
  else if d = 0 ∧ c = 34 then signsF (!qt) d r
  else if qt = false ∧ c = 40 then ⟨c, false, true, decide (d = 0), false⟩ :: signsF qt (d + 1) r
  else if 0 < d ∧ c = 41 then ⟨c, false, true, false, decide (d - 1 = 0)⟩ :: signsF qt (d - 1) r
  else ⟨c, qt, decide (0 < d), false, false⟩ :: signsF qt d r
termination_by s.length
theorem sg_esc {qt : Bool} {d : Nat} {c x : UInt8} {r : Tx} (h : (qt = true ∨ 0 < d) ∧ c = 92) : signsF qt d (c :: x :: r) = ⟨x, qt, decide (0 < d), false, false⟩ :: signsF qt d r := by
 conv => lhs; unfold signsF
 rw [if_pos h]
theorem sg_esc1 {qt : Bool} {d : Nat} {c : UInt8} (h : (qt = true ∨ 0 < d) ∧ c = 92) : signsF qt d [c] = [] := by
 conv => lhs; unfold signsF
 rw [if_pos h]
theorem sg_quo {qt : Bool} {d : Nat} {c : UInt8} {r : Tx} (h1 : ¬ ((qt = true ∨ 0 < d) ∧ c = 92)) (h : d = 0 ∧ c = 34) : signsF qt d (c :: r) = signsF (!qt) d r := by
 conv => lhs; unfold signsF
 rw [if_neg h1, if_pos h]
theorem sg_in {qt : Bool} {d : Nat} {c : UInt8} {r : Tx} (h1 : ¬ ((qt = true ∨ 0 < d) ∧ c = 92)) (h2 : ¬ (d = 0 ∧ c = 34)) (h : qt = false ∧ c = 40) : signsF qt d (c :: r) = ⟨c, false, true, decide (d = 0), false⟩ :: signsF qt (d + 1) r := by
 conv => lhs; unfold signsF
 rw [if_neg h1, if_neg h2, if_pos h]
theorem sg_out {qt : Bool} {d : Nat} {c : UInt8} {r : Tx} (h1 : ¬ ((qt = true ∨ 0 < d) ∧ c = 92)) (h2 : ¬ (d = 0 ∧ c = 34)) (h3 : ¬ (qt = false ∧ c = 40)) (h : 0 < d ∧ c = 41) : signsF qt d (c :: r) = ⟨c, false, true, false, decide (d - 1 = 0)⟩ :: signsF qt (d - 1) r := by
 conv => lhs; unfold signsF
 rw [if_neg h1, if_neg h2, if_neg h3, if_pos h]
theorem sg_on {qt : Bool} {d : Nat} {c : UInt8} {r : Tx} (h1 : ¬ ((qt = true ∨ 0 < d) ∧ c = 92)) (h2 : ¬ (d = 0 ∧ c = 34)) (h3 : ¬ (qt = false ∧ c = 40)) (h4 : ¬ (0 < d ∧ c = 41)) : signsF qt d (c :: r) = ⟨c, qt, decide (0 < d), false, false⟩ :: signsF qt d r := by
 conv => lhs; unfold signsF
 rw [if_neg h1, if_neg h2, if_neg h3, if_neg h4]
theorem signsF_len : ∀ (n : Nat) (s : Tx) (qt : Bool) (d : Nat), s.length ≤ n → (signsF qt d s).length ≤ s.length
 | _, [], qt, d, _ => by unfold signsF; exact Nat.le_refl _
 | 0, c :: r, _, _, h => by simp at h
 | n + 1, c :: r, qt, d, h => by
  have ih := fun qt d => signsF_len n r qt d (by simpa using h)
  unfold signsF
  split
  ·
   cases r with
   | nil => simp
   | cons x r2 =>
    have ih2 := signsF_len n r2 qt d (by simp at h; omega)
    simp only [List.length_cons]
    omega
  ·
   split
   ·
    have := ih (!qt) d; simp only [List.length_cons]; omega
   ·
    split
    ·
     have := ih qt (d + 1); simp only [List.length_cons]; omega
    ·
     split
     ·
      have := ih qt (d - 1); simp only [List.length_cons]; omega
     ·
      have := ih qt d; simp only [List.length_cons]; omega
def sayS : Bool → Tx → List Sg → Tx
 | _, out, [] => out
 | gap, out, x :: r => if x.r = true ∨ (x.Pl ∧ Bl x.c) then sayS true out r else sayS false ((if gap = true ∧ out ≠ [] then out ++ [32] else out) ++ [x.c]) r
theorem sayS_len : ∀ (l : List Sg) (gap : Bool) (out : Tx), (sayS gap out l).length ≤ out.length + 2 * l.length
 | [], _, out => by simp [sayS]
 | x :: r, gap, out => by
  unfold sayS
  split
  ·
   have := sayS_len r true out
   simp only [List.length_cons]; omega
  ·
   have := sayS_len r false ((if gap = true ∧ out ≠ [] then out ++ [32] else out) ++ [x.c])
   have h2 : (if gap = true ∧ out ≠ [] then out ++ [32] else out).length ≤ out.length + 1 := by split <;> simp
   rw [List.length_append] at this
   simp only [List.length_cons, List.length_nil] at this ⊢
   omega
def cutS : Bool → List Sg → List Sg → List (List Sg)
 | _, cur, [] => [cur]
 | ang, cur, x :: r =>
  if (x.Pl ∧ x.c = 44) ∧ (if x.Pl ∧ x.c = 62 then false else if x.Pl ∧ x.c = 60 then true else ang) = false then cur :: cutS (if x.Pl ∧ x.c = 62 then false else if x.Pl ∧ x.c = 60 then true else ang) [] r
  else cutS (if x.Pl ∧ x.c = 62 then false else if x.Pl ∧ x.c = 60 then true else ang) (cur ++ [x]) r
def remS : Bool → Tx → List Sg → Tx
 | _, out, [] => out
 | inn, out, x :: r => if x.op = true then remS true out r else if x.sh = true then out else remS inn (if inn = true ∧ x.r = true then out ++ [x.c] else out) r
theorem remS_len : ∀ (l : List Sg) (inn : Bool) (out : Tx), (remS inn out l).length ≤ out.length + l.length
 | [], _, out => by simp [remS]
 | x :: r, inn, out => by
  unfold remS
  split
  ·
   have := remS_len r true out; simp only [List.length_cons]; omega
  ·
   split
   ·
    omega
   ·
    have := remS_len r inn (if inn = true ∧ x.r = true then out ++ [x.c] else out)
    have h2 : (if inn = true ∧ x.r = true then out ++ [x.c] else out).length ≤ out.length + 1 := by split <;> simp
    simp only [List.length_cons]; omega
def fS (x : UInt8) : List Sg → Nat → Int
 | [], _ => -1
 | y :: r, k => if y.Pl ∧ y.c = x then (k : Int) else fS x r (k + 1)
def toS (l : List Sg) (f : Nat) : Nat := if fS 62 (l.drop (f + 1)) (f + 1) < 0 then l.length else (fS 62 (l.drop (f + 1)) (f + 1)).toNat
def nmS (l : List Sg) : Tx := if fS 60 l 0 < 0 then trimQ (remS false [] l) else sayS false [] (l.take (fS 60 l 0).toNat)
def allS (l : List Sg) : Tx := if fS 60 l 0 < 0 then sayS false [] l else sayS false [] ((l.drop ((fS 60 l 0).toNat + 1)).take (toS l (fS 60 l 0).toNat - ((fS 60 l 0).toNat + 1)))
def oneR (l : List Sg) : Adr := ⟨nmS l, (boxHost (allS l)).1, (boxHost (allS l)).2⟩
def listR (s : Tx) : List Adr := ((cutS false [] (signsF false 0 s)).map oneR).filter (fun a => decide (a ≠ ⟨[], [], []⟩))

theorem both (P : Nat → Nat → Tx → Prop)
  (hnil : ∀ u d, (u = 2 ↔ 0 < d) → u ≤ 2 → P u d [])
  (hesc1 : ∀ u d, (u = 2 ↔ 0 < d) → u ≤ 2 → u ≠ 0 → usesF u d [92] = [3] → signsF (decide (u = 1)) d [92] = [] → P u d [92])
  (hesc : ∀ u d x r, (u = 2 ↔ 0 < d) → u ≤ 2 → u ≠ 0 → (∀ t, usesF u d (92 :: x :: t) = 3 :: u :: usesF u d t) → (∀ t, signsF (decide (u = 1)) d (92 :: x :: t) = ⟨x, decide (u = 1), decide (u = 2), false, false⟩ :: signsF (decide (u = 1)) d t) → P u d r → P u d (92 :: x :: r))
  (hquo : ∀ u d u2 r, (u = 2 ↔ 0 < d) → u ≤ 2 → (u2 = 2 ↔ 0 < d) → u2 ≤ 2 → d = 0 → (∀ t, usesF u d (34 :: t) = 3 :: usesF u2 d t) → (∀ t, signsF (decide (u = 1)) d (34 :: t) = signsF (decide (u2 = 1)) d t) → P u2 d r → P u d (34 :: r))
  (hin : ∀ u d r, (u = 2 ↔ 0 < d) → u ≤ 2 → u ≠ 1 → (∀ t, usesF u d (40 :: t) = 2 :: usesF 2 (d + 1) t) → (∀ t, signsF (decide (u = 1)) d (40 :: t) = ⟨40, false, true, decide (d = 0), false⟩ :: signsF (decide ((2 : Nat) = 1)) (d + 1) t) → P 2 (d + 1) r → P u d (40 :: r))
  (hout : ∀ u d u2 r, (u = 2 ↔ 0 < d) → u = 2 → (u2 = 2 ↔ 0 < d - 1) → u2 ≤ 2 → (∀ t, usesF u d (41 :: t) = 2 :: usesF u2 (d - 1) t) → (∀ t, signsF (decide (u = 1)) d (41 :: t) = ⟨41, false, true, false, decide (d - 1 = 0)⟩ :: signsF (decide (u2 = 1)) (d - 1) t) → P u2 (d - 1) r → P u d (41 :: r))
  (hon : ∀ u d c r, (u = 2 ↔ 0 < d) → u ≤ 2 → (u = 2 → c ≠ 40 ∧ c ≠ 41) → (∀ t, usesF u d (c :: t) = u :: usesF u d t) → (∀ t, signsF (decide (u = 1)) d (c :: t) = ⟨c, decide (u = 1), decide (u = 2), false, false⟩ :: signsF (decide (u = 1)) d t) → P u d r → P u d (c :: r)) :
  ∀ (n : Nat) (s : Tx) (u d : Nat), s.length ≤ n → (u = 2 ↔ 0 < d) → u ≤ 2 → P u d s
 | _, [], u, d, _, hi, hu => hnil u d hi hu
 | 0, c :: r, _, _, h, _, _ => by simp at h
 | n + 1, c :: r, u, d, h, hi, hu => by
  have ih := fun u d => both P hnil hesc1 hesc hquo hin hout hon n r u d (by simpa using h)
  have hq0 : (decide (u = 1) = true ∨ 0 < d) ↔ u ≠ 0 := by
   rw [decide_eq_true_eq, ← hi]
   omega
  have hdd : decide (0 < d) = decide (u = 2) := decide_eq_decide.2 hi.symm
  by_cases h1 : u ≠ 0 ∧ c = 92
  ·
   obtain ⟨h1a, rfl⟩ := h1
   cases r with
   | nil => exact hesc1 u d hi hu h1a (uses_esc1 ⟨h1a, rfl⟩) (sg_esc1 ⟨hq0.2 h1a, rfl⟩)
   | cons x r2 => exact hesc u d x r2 hi hu h1a (fun t => uses_esc ⟨h1a, rfl⟩) (fun t => by rw [sg_esc ⟨hq0.2 h1a, rfl⟩, hdd]) (both P hnil hesc1 hesc hquo hin hout hon n r2 u d (by simp at h; omega) hi hu)
  ·
   have g1 : ¬ ((decide (u = 1) = true ∨ 0 < d) ∧ c = 92) := fun hh => h1 ⟨hq0.1 hh.1, hh.2⟩
   by_cases h2 : u = 0 ∧ c = 34
   ·
    obtain ⟨rfl, rfl⟩ := h2
    have hd : d = 0 := by have := hi.2; omega
    subst hd
    exact hquo 0 0 1 r hi hu (by simp) (by omega) rfl (fun t => uses_open h1 ⟨rfl, rfl⟩) (fun t => sg_quo g1 ⟨rfl, rfl⟩) (ih 1 0 (by simp) (by omega))
   ·
    by_cases h3 : u = 1 ∧ c = 34
    ·
     obtain ⟨rfl, rfl⟩ := h3
     have hd : d = 0 := by have := hi.2; omega
     subst hd
     exact hquo 1 0 0 r hi hu (by simp) (by omega) rfl (fun t => uses_shut h1 h2 ⟨rfl, rfl⟩) (fun t => sg_quo g1 ⟨rfl, rfl⟩) (ih 0 0 (by simp) (by omega))
    ·
     have g2 : ¬ (d = 0 ∧ c = 34) := fun hh => by
      have : u ≠ 2 := fun e => by have := hi.1 e; omega
      rcases (show u = 0 ∨ u = 1 by omega) with e | e
      ·
       exact h2 ⟨e, hh.2⟩
      ·
       exact h3 ⟨e, hh.2⟩
     by_cases h4 : u ≠ 1 ∧ c = 40
     ·
      obtain ⟨h4a, rfl⟩ := h4
      have e1 : decide (u = 1) = false := decide_eq_false h4a
      refine hin u d r hi hu h4a (fun t => uses_in h1 h2 h3 ⟨h4a, rfl⟩) (fun t => ?_) (ih 2 (d + 1) (by simp) (by omega))
      rw [sg_in g1 g2 ⟨e1, rfl⟩, e1]
      rfl
     ·
      have g3 : ¬ (decide (u = 1) = false ∧ c = 40) := fun hh => h4 ⟨of_decide_eq_false hh.1, hh.2⟩
      by_cases h5 : u = 2 ∧ c = 41
      ·
       obtain ⟨rfl, rfl⟩ := h5
       have hd := hi.1 rfl
       have hi2 : (if d - 1 = 0 then 0 else 2) = 2 ↔ 0 < d - 1 := by split <;> omega
       have hi3 : (if d - 1 = 0 then 0 else 2) ≤ 2 := by split <;> omega
       have hi4 : decide ((2 : Nat) = 1) = decide ((if d - 1 = 0 then 0 else 2) = 1) := by split <;> rfl
       refine hout 2 d _ r hi rfl hi2 hi3 (fun t => uses_out h1 h2 h3 h4 ⟨rfl, rfl⟩) (fun t => ?_) (ih _ (d - 1) hi2 hi3)
       rw [sg_out g1 g2 g3 ⟨hd, rfl⟩, ← hi4]
      ·
       have g4 : ¬ (0 < d ∧ c = 41) := fun hh => h5 ⟨hi.2 hh.1, hh.2⟩
       refine hon u d c r hi hu (fun e => ⟨fun e2 => h4 ⟨by omega, e2⟩, fun e2 => h5 ⟨e, e2⟩⟩) (fun t => uses_in_it h1 h2 h3 h4 h5) (fun t => ?_) (ih u d hi hu)
       rw [sg_on g1 g2 g3 g4, hdd]
def sgZ : List (UInt8 × Nat) → List (UInt8 × Nat)
 | [] => []
 | (c, u) :: r => if u = 3 then sgZ r else (c, u) :: sgZ r
def Sg.u (x : Sg) : Nat := if x.q = true then 1 else if x.r = true then 2 else 0
theorem sg_proj (s : Tx) (u d : Nat) (hi : u = 2 ↔ 0 < d) (hu : u ≤ 2) : (signsF (decide (u = 1)) d s).map (fun x => (x.c, x.u)) = sgZ (s.zip (usesF u d s)) := by
 refine both (fun u d s => (signsF (decide (u = 1)) d s).map (fun x => (x.c, x.u)) = sgZ (s.zip (usesF u d s))) ?_ ?_ ?_ ?_ ?_ ?_ ?_ s.length s u d (Nat.le_refl _) hi hu
 ·
  intro u d _ _; unfold signsF; rfl
 ·
  intro u d _ _ _ h1 h2; rw [h1, h2]; rfl
 ·
  intro u d x r hi hu h0 h1 h2 ih
  rw [h1, h2]
  show _ = sgZ ((92, 3) :: (x, u) :: r.zip (usesF u d r))
  rw [sgZ, if_pos rfl, sgZ, if_neg (by omega), ← ih, List.map_cons]
  congr 1
  rcases (show u = 1 ∨ u = 2 by omega) with rfl | rfl <;> rfl
 ·
  intro u d u2 r hi hu hi2 hu2 hd h1 h2 ih
  rw [h1, h2]
  show _ = sgZ ((34, 3) :: r.zip (usesF u2 d r))
  rw [sgZ, if_pos rfl, ← ih]
 ·
  intro u d r hi hu h0 h1 h2 ih
  rw [h1, h2]
  show _ = sgZ ((40, 2) :: r.zip (usesF 2 (d + 1) r))
  rw [sgZ, if_neg (by omega), ← ih]
  rfl
 ·
  intro u d u2 r hi hu hi2 hu2 h1 h2 ih
  rw [h1, h2]
  show _ = sgZ ((41, 2) :: r.zip (usesF u2 (d - 1) r))
  rw [sgZ, if_neg (by omega), ← ih]
  rfl
 ·
  intro u d c r hi hu _ h1 h2 ih
  rw [h1, h2]
  show _ = sgZ ((c, u) :: r.zip (usesF u d r))
  rw [sgZ, if_neg (by omega), ← ih, List.map_cons]
  congr 1
  rcases (show u = 0 ∨ u = 1 ∨ u = 2 by omega) with rfl | rfl | rfl <;> rfl
def Sg.Ok (x : Sg) : Prop := ¬ (x.q = true ∧ x.r = true)
theorem sg_ok (s : Tx) (u d : Nat) (hi : u = 2 ↔ 0 < d) (hu : u ≤ 2) : ∀ x ∈ signsF (decide (u = 1)) d s, x.Ok := by
 refine both (fun u d s => ∀ x ∈ signsF (decide (u = 1)) d s, x.Ok) ?_ ?_ ?_ ?_ ?_ ?_ ?_ s.length s u d (Nat.le_refl _) hi hu
 ·
  intro u d _ _ x hx; unfold signsF at hx; simp at hx
 ·
  intro u d _ _ _ _ h2 x hx; rw [h2] at hx; simp at hx
 ·
  intro u d c r hi hu h0 _ h2 ih x hx
  rw [h2] at hx
  rcases List.mem_cons.1 hx with rfl | hx
  ·
   unfold Sg.Ok; simp; omega
  ·
   exact ih x hx
 ·
  intro u d u2 r hi hu hi2 hu2 hd _ h2 ih x hx
  rw [h2] at hx; exact ih x hx
 ·
  intro u d r hi hu h0 _ h2 ih x hx
  rw [h2] at hx
  rcases List.mem_cons.1 hx with rfl | hx
  ·
   unfold Sg.Ok; simp
  ·
   exact ih x hx
 ·
  intro u d u2 r hi hu hi2 hu2 _ h2 ih x hx
  rw [h2] at hx
  rcases List.mem_cons.1 hx with rfl | hx
  ·
   unfold Sg.Ok; simp
  ·
   exact ih x hx
 ·
  intro u d c r hi hu _ _ h2 ih x hx
  rw [h2] at hx
  rcases List.mem_cons.1 hx with rfl | hx
  ·
   unfold Sg.Ok; simp; omega
  ·
   exact ih x hx
theorem says_sgZ : ∀ (z : List (UInt8 × Nat)) (wt : Bool) (out : Tx), saysF wt out z = saysF wt out (sgZ z)
 | [], _, _ => rfl
 | (c, u) :: r, wt, out => by
  unfold sgZ
  split
  ·
   rename_i h
   rw [← says_sgZ r wt out]
   conv => lhs; unfold saysF
   rw [if_pos h]
  ·
   rename_i h
   conv => lhs; unfold saysF
   conv => rhs; unfold saysF
   rw [if_neg h, if_neg h]
   split
   ·
    exact says_sgZ r _ _
   ·
    exact says_sgZ r _ _
theorem say_says : ∀ (l : List Sg) (gap wt : Bool) (out : Tx), (∀ x ∈ l, x.Ok) → wt = decide (gap = true ∧ out ≠ []) → sayS gap out l = saysF wt out (l.map fun x => (x.c, x.u))
 | [], _, _, _, _, _ => rfl
 | x :: r, gap, wt, out, hok, hw => by
  have hx := hok x (by simp)
  have hr := fun y hy => hok y (List.mem_cons_of_mem x hy)
  have h3 : ¬ x.u = 3 := by unfold Sg.u; split <;> (try split) <;> omega
  have h2 : (x.u = 2 ∨ (x.u = 0 ∧ Bl x.c)) ↔ (x.r = true ∨ (x.Pl ∧ Bl x.c)) := by
   unfold Sg.Ok at hx
   unfold Sg.u Sg.Pl
   cases hq : x.q <;> cases hrr : x.r <;> simp [hq, hrr] at hx ⊢
  rw [List.map_cons]
  unfold sayS saysF
  rw [if_neg h3]
  by_cases hc : x.r = true ∨ (x.Pl ∧ Bl x.c)
  ·
   rw [if_pos hc, if_pos (h2.2 hc)]
   refine say_says r true _ out hr ?_
   cases out with
   | nil => rfl
   | cons a b => simp
  ·
   rw [if_neg hc, if_neg (fun h => hc (h2.1 h))]
   have e : (if gap = true ∧ out ≠ [] then out ++ [32] else out) = if wt = true then out ++ [32] else out := by
    rw [hw]
    by_cases h : gap = true ∧ out ≠ []
    ·
     rw [if_pos h, decide_eq_true h, if_pos rfl]
    ·
     rw [if_neg h, decide_eq_false h, if_neg (by simp)]
   rw [e]
   refine say_says r false false _ hr ?_
   simp
theorem say_of {l : List Sg} {z : List (UInt8 × Nat)} (hok : ∀ x ∈ l, x.Ok) (h : l.map (fun x => (x.c, x.u)) = sgZ z) : sayS false [] l = saysQ z := by
 rw [say_says l false false [] hok (by simp), h, ← says_sgZ]
 rfl
theorem frz_skip {fr : Bool} {d : Int} {out : Tx} {c : UInt8} {u : Nat} {r : List (UInt8 × Nat)} (h : u ≠ 2) : frsA fr d out ((c, u) :: r) = frsA (decide (u ≠ 3 ∨ c ≠ 92)) d out r := by
 rw [frsA]; simp [h]
theorem frz_put {fr : Bool} {d : Int} {out : Tx} {c : UInt8} {r : List (UInt8 × Nat)} (hd : d ≠ 0) (h1 : ¬ (c = 40 ∧ fr = true)) (h2 : ¬ (c = 41 ∧ fr = true)) : frsA fr d out ((c, 2) :: r) = frsA true d (out ++ [c]) r := by
 rw [frsA]; simp [hd, h1, h2]
theorem frz_open0 {out : Tx} {r : List (UInt8 × Nat)} : frsA true 0 out ((40, 2) :: r) = frsA true 1 out r := by
 rw [frsA]; simp
theorem frz_open {d : Int} {out : Tx} {r : List (UInt8 × Nat)} (hd : 0 < d) : frsA true d out ((40, 2) :: r) = frsA true (d + 1) (out ++ [40]) r := by
 have h1 : d ≠ 0 := by omega
 have h2 : d + 1 ≠ 0 := by omega
 rw [frsA]; simp [h1, h2]
theorem frz_shut0 {out : Tx} {r : List (UInt8 × Nat)} : frsA true 1 out ((41, 2) :: r) = out := by
 rw [frsA]; simp
theorem frz_shut {d : Int} {out : Tx} {r : List (UInt8 × Nat)} (hd : 1 < d) : frsA true d out ((41, 2) :: r) = frsA true (d - 1) (out ++ [41]) r := by
 have h2 : d - 1 ≠ 0 := by omega
 rw [frsA]; simp [h2]
theorem rem_op {inn : Bool} {out : Tx} {x : Sg} {r : List Sg} (h : x.op = true) : remS inn out (x :: r) = remS true out r := by rw [remS, if_pos h]
theorem rem_sh {inn : Bool} {out : Tx} {x : Sg} {r : List Sg} (h : x.op = false) (h2 : x.sh = true) : remS inn out (x :: r) = out := by rw [remS, if_neg (by simp [h]), if_pos h2]
theorem rem_on {inn : Bool} {out : Tx} {x : Sg} {r : List Sg} (h : x.op = false) (h2 : x.sh = false) : remS inn out (x :: r) = remS inn (if inn = true ∧ x.r = true then out ++ [x.c] else out) r := by rw [remS, if_neg (by simp [h]), if_neg (by simp [h2])]
theorem rem_first (s : Tx) (u d : Nat) (hi : u = 2 ↔ 0 < d) (hu : u ≤ 2) : ∀ out : Tx, frsA true (d : Int) out (s.zip (usesF u d s)) = remS (decide (0 < d)) out (signsF (decide (u = 1)) d s) := by
 refine both (fun u d s => ∀ out : Tx, frsA true (d : Int) out (s.zip (usesF u d s)) = remS (decide (0 < d)) out (signsF (decide (u = 1)) d s)) ?_ ?_ ?_ ?_ ?_ ?_ ?_ s.length s u d (Nat.le_refl _) hi hu
 ·
  intro u d _ _ out; unfold signsF; rfl
 ·
  intro u d _ _ _ h1 h2 out
  rw [h1, h2]
  show frsA true (d : Int) out [(92, 3)] = out
  rw [frz_skip (by omega)]
  rfl
 ·
  intro u d x r hi hu h0 h1 h2 ih out
  rw [h1, h2, rem_on rfl rfl]
  show frsA true (d : Int) out ((92, 3) :: (x, u) :: r.zip (usesF u d r)) = _
  rw [frz_skip (by omega)]
  by_cases h : u = 2
  ·
   subst h
   have hd := hi.1 rfl
   rw [frz_put (by omega) (fun hh => absurd hh.2 (by decide)) (fun hh => absurd hh.2 (by decide)), ih, decide_eq_true hd]
   rfl
  ·
   have hd : ¬ 0 < d := fun hh => h (hi.2 hh)
   rw [frz_skip h, show (decide (u ≠ 3 ∨ x ≠ 92)) = true by simp; omega, ih, decide_eq_false hd]
   rfl
 ·
  intro u d u2 r hi hu hi2 hu2 hd h1 h2 ih out
  rw [h1, h2]
  show frsA true (d : Int) out ((34, 3) :: r.zip (usesF u2 d r)) = _
  rw [frz_skip (by omega)]
  exact ih out
 ·
  intro u d r hi hu h0 h1 h2 ih out
  rw [h1, h2]
  show frsA true (d : Int) out ((40, 2) :: r.zip (usesF 2 (d + 1) r)) = _
  by_cases hd : d = 0
  ·
   subst hd
   rw [rem_op rfl]
   have := ih out
   show frsA true 0 out _ = _
   rw [frz_open0]
   exact this
  ·
   rw [rem_on (by simp [hd]) rfl, frz_open (by omega)]
   have := ih (out ++ [40])
   rw [show ((d + 1 : Nat) : Int) = (d : Int) + 1 by omega] at this
   rw [this, decide_eq_true (show 0 < d + 1 by omega), decide_eq_true (show 0 < d by omega)]
   rfl
 ·
  intro u d u2 r hi hu hi2 hu2 h1 h2 ih out
  rw [h1, h2]
  have hd := hi.1 hu
  show frsA true (d : Int) out ((41, 2) :: r.zip (usesF u2 (d - 1) r)) = _
  by_cases h0 : d - 1 = 0
  ·
   rw [rem_sh rfl (by simp [h0]), show (d : Int) = 1 by omega, frz_shut0]
  ·
   rw [rem_on rfl (by simp [h0]), frz_shut (by omega)]
   have := ih (out ++ [41])
   rw [show ((d - 1 : Nat) : Int) = (d : Int) - 1 by omega] at this
   rw [this, decide_eq_true (show 0 < d - 1 by omega), decide_eq_true hd]
   rfl
 ·
  intro u d c r hi hu hc h1 h2 ih out
  rw [h1, h2, rem_on rfl rfl]
  show frsA true (d : Int) out ((c, u) :: r.zip (usesF u d r)) = _
  by_cases h : u = 2
  ·
   subst h
   have hd := hi.1 rfl
   rw [frz_put (by omega) (fun hh => (hc rfl).1 hh.1) (fun hh => (hc rfl).2 hh.1), ih, decide_eq_true hd]
   rfl
  ·
   have hd : ¬ 0 < d := fun hh => h (hi.2 hh)
   rw [frz_skip h, show (decide (u ≠ 3 ∨ c ≠ 92)) = true by simp; omega, ih, decide_eq_false hd]
   rfl
theorem rem_one (p : Tx) : firstA (p.zip (usesQ p)) = trimQ (remS false [] (signsF false 0 p)) := by
 have h := rem_first p 0 0 (by simp) (by omega) []
 unfold firstA usesQ
 rw [show (0 : Int) = ((0 : Nat) : Int) from rfl, h]
 rfl

theorem fndA_split (x : UInt8) : ∀ (z : List (UInt8 × Nat)) (k : Nat), (fndA x z k = -1 ∧ (x, 0) ∉ z) ∨ ∃ a b, z = a ++ (x, 0) :: b ∧ (x, 0) ∉ a ∧ fndA x z k = ((k + a.length : Nat) : Int)
 | [], _ => .inl ⟨rfl, by simp⟩
 | (c, u) :: r, k => by
  unfold fndA
  by_cases h : u = 0 ∧ c = x
  ·
   rw [if_pos h]
   exact .inr ⟨[], r, by rw [h.1, h.2]; rfl, by simp, by simp⟩
  ·
   rw [if_neg h]
   have hne : (x, 0) ≠ (c, u) := fun e => h (by cases e; exact ⟨rfl, rfl⟩)
   rcases fndA_split x r (k + 1) with ⟨h1, h2⟩ | ⟨a, b, h1, h2, h3⟩
   ·
    exact .inl ⟨h1, by simp only [List.mem_cons, not_or]; exact ⟨hne, h2⟩⟩
   ·
    exact .inr ⟨(c, u) :: a, b, by rw [h1]; rfl, by simp only [List.mem_cons, not_or]; exact ⟨hne, h2⟩, by rw [h3, List.length_cons]; congr 1; omega⟩
theorem pl_u {y : Sg} (h : y.Ok) (x : UInt8) : (y.Pl ∧ y.c = x) ↔ (y.c, y.u) = (x, 0) := by
 unfold Sg.Ok at h
 unfold Sg.Pl Sg.u
 cases hq : y.q <;> cases hr : y.r <;> simp [hq, hr] at h ⊢
theorem fS_split (x : UInt8) : ∀ (l : List Sg) (k : Nat), (∀ y ∈ l, y.Ok) → (fS x l k = -1 ∧ (x, 0) ∉ l.map (fun y => (y.c, y.u))) ∨ ∃ a y b, l = a ++ y :: b ∧ (y.c, y.u) = (x, 0) ∧ (x, 0) ∉ a.map (fun y => (y.c, y.u)) ∧ fS x l k = ((k + a.length : Nat) : Int)
 | [], _, _ => .inl ⟨rfl, by simp⟩
 | y :: r, k, hok => by
  have hy := hok y (by simp)
  unfold fS
  by_cases h : y.Pl ∧ y.c = x
  ·
   rw [if_pos h]
   exact .inr ⟨[], y, r, rfl, (pl_u hy x).1 h, by simp, by simp⟩
  ·
   rw [if_neg h]
   have hne : (x, 0) ≠ (y.c, y.u) := fun e => h ((pl_u hy x).2 e.symm)
   rcases fS_split x r (k + 1) (fun z hz => hok z (by simp [hz])) with ⟨h1, h2⟩ | ⟨a, y2, b, h1, h2, h3, h4⟩
   ·
    exact .inl ⟨h1, by simp only [List.map_cons, List.mem_cons, not_or]; exact ⟨hne, h2⟩⟩
   ·
    exact .inr ⟨y :: a, y2, b, by rw [h1]; rfl, h2, by simp only [List.map_cons, List.mem_cons, not_or]; exact ⟨hne, h3⟩, by rw [h4, List.length_cons]; congr 1; omega⟩
theorem sgZ_app : ∀ a b : List (UInt8 × Nat), sgZ (a ++ b) = sgZ a ++ sgZ b
 | [], _ => rfl
 | (c, u) :: r, b => by
  show sgZ ((c, u) :: (r ++ b)) = _
  rw [sgZ, sgZ]
  split
  ·
   exact sgZ_app r b
  ·
   rw [sgZ_app r b]; rfl
theorem sgZ_mem {p : UInt8 × Nat} : ∀ {z : List (UInt8 × Nat)}, p.2 ≠ 3 → (p ∈ sgZ z ↔ p ∈ z)
 | [], _ => Iff.rfl
 | (c, u) :: r, h => by
  unfold sgZ
  split
  ·
   rename_i hu
   rw [sgZ_mem h, List.mem_cons]
   exact ⟨.inr, fun hh => hh.resolve_left (fun e => h (by rw [e]; exact hu))⟩
  ·
   rw [List.mem_cons, List.mem_cons, sgZ_mem h]
theorem split_uni {α : Type} {v : α} : ∀ {a a2 b b2 : List α}, a ++ v :: b = a2 ++ v :: b2 → v ∉ a → v ∉ a2 → a = a2 ∧ b = b2
 | [], [], b, b2, h, _, _ => ⟨rfl, (List.cons.inj h).2⟩
 | [], x :: a2, b, b2, h, _, h2 => absurd (List.cons.inj h).1 (fun e => h2 (by rw [e]; simp))
 | x :: a, [], b, b2, h, h1, _ => absurd (List.cons.inj h).1 (fun e => h1 (by rw [e]; simp))
 | x :: a, y :: a2, b, b2, h, h1, h2 => by
  simp only [List.cons_append] at h
  obtain ⟨e1, e2⟩ := List.cons.inj h
  obtain ⟨e3, e4⟩ := split_uni e2 (fun hh => h1 (by simp [hh])) (fun hh => h2 (by simp [hh]))
  exact ⟨by rw [e1, e3], e4⟩
theorem first_both {l : List Sg} {z : List (UInt8 × Nat)} (hok : ∀ x ∈ l, x.Ok) (h : l.map (fun x => (x.c, x.u)) = sgZ z) (x : UInt8) (k j : Nat) :
  (fS x l k = -1 ∧ fndA x z j = -1) ∨ ∃ a y b za zb, l = a ++ y :: b ∧ z = za ++ (x, 0) :: zb ∧ fS x l k = ((k + a.length : Nat) : Int) ∧ fndA x z j = ((j + za.length : Nat) : Int) ∧ a.map (fun x => (x.c, x.u)) = sgZ za ∧ b.map (fun x => (x.c, x.u)) = sgZ zb := by
 rcases fndA_split x z j with ⟨h1, h2⟩ | ⟨za, zb, h1, h2, h3⟩
 ·
  rcases fS_split x l k hok with ⟨g1, g2⟩ | ⟨a, y, b, g1, g2, g3, g4⟩
  ·
   exact .inl ⟨g1, h1⟩
  ·
   have hm : (x, 0) ∈ l.map (fun x => (x.c, x.u)) := by rw [g1, List.map_append, List.map_cons, g2]; simp
   rw [h, sgZ_mem (by simp)] at hm
   exact absurd hm h2
 ·
  rcases fS_split x l k hok with ⟨g1, g2⟩ | ⟨a, y, b, g1, g2, g3, g4⟩
  ·
   have hm : (x, 0) ∈ z := by rw [h1]; simp
   rw [← sgZ_mem (by simp), ← h] at hm
   exact absurd hm g2
  ·
   have e : sgZ z = sgZ za ++ (x, 0) :: sgZ zb := by rw [h1, sgZ_app]; congr 1
   rw [g1, List.map_append, List.map_cons, g2, e] at h
   obtain ⟨e1, e2⟩ := split_uni h g3 (fun hh => h2 ((sgZ_mem (by simp)).1 hh))
   exact .inr ⟨a, y, b, za, zb, g1, h1, g4, h3, e1, e2⟩
theorem one_eq (p : Tx) : oneR (signsF false 0 p) = oneA p := by
 have hok := sg_ok p 0 0 (by simp) (by omega)
 have hpr := sg_proj p 0 0 (by simp) (by omega)
 have e0 : decide ((0 : Nat) = 1) = false := rfl
 rw [e0] at hok hpr
 have hrem := rem_one p
 have hz : usesF 0 0 p = usesQ p := rfl
 rw [hz] at hpr
 unfold oneR oneA
 generalize p.zip (usesQ p) = z at *
 generalize signsF false 0 p = l at *
 have key : nmS l = nmA z ∧ allS l = allA z := by
  unfold nmS nmA allS allA
  rcases first_both hok hpr 60 0 0 with ⟨h1, h2⟩ | ⟨a, y, b, za, zb, h1, h2, h3, h4, h5, h6⟩
  ·
   rw [h1, h2, if_pos (by omega), if_pos (by omega), if_pos (by omega), if_pos (by omega)]
   exact ⟨by rw [hrem], say_of hok hpr⟩
  ·
   have hoka : ∀ x ∈ a, x.Ok := fun x hx => hok x (by rw [h1]; simp [hx])
   have hokb : ∀ x ∈ b, x.Ok := fun x hx => hok x (by rw [h1]; simp [hx])
   rw [h3, h4, Nat.zero_add, Nat.zero_add, if_neg (by omega), if_neg (by omega), if_neg (by omega), if_neg (by omega), Int.toNat_natCast, Int.toNat_natCast]
   unfold toS angTo
   have e1 : l.take a.length = a := by rw [h1, List.take_left]
   have e2 : z.take za.length = za := by rw [h2, List.take_left]
   have e3 : l.drop (a.length + 1) = b := by rw [h1, ← List.drop_drop, List.drop_left]; rfl
   have e4 : z.drop (za.length + 1) = zb := by rw [h2, ← List.drop_drop, List.drop_left]; rfl
   have e5 : z.drop za.length = (60, 0) :: zb := by rw [h2, List.drop_left]
   have e6 : fndA 62 ((60, 0) :: zb) za.length = fndA 62 zb (za.length + 1) := by
    conv => lhs; unfold fndA
    rw [if_neg (fun hh => absurd hh.2 (by decide))]
   have e7 : l.length = a.length + 1 + b.length := by rw [h1]; simp; omega
   have e8 : z.length = za.length + 1 + zb.length := by rw [h2]; simp; omega
   rw [e1, e2, e3, e4, e5, e6]
   refine ⟨say_of hoka h5, ?_⟩
   rcases first_both hokb h6 62 (a.length + 1) (za.length + 1) with ⟨g1, g2⟩ | ⟨a2, y2, b2, za2, zb2, g1, g2, g3, g4, g5, g6⟩
   ·
    rw [g1, g2, if_pos (by omega), if_pos (by omega), e7, e8, List.take_of_length_le (by omega), List.take_of_length_le (by omega)]
    exact say_of hokb h6
   ·
    rw [g3, g4, if_neg (by omega), if_neg (by omega), Int.toNat_natCast, Int.toNat_natCast, show a.length + 1 + a2.length - (a.length + 1) = a2.length by omega, show za.length + 1 + za2.length - (za.length + 1) = za2.length by omega]
    have e9 : b.take a2.length = a2 := by rw [g1, List.take_left]
    have e10 : zb.take za2.length = za2 := by rw [g2, List.take_left]
    rw [e9, e10]
    exact say_of (fun x hx => hokb x (by rw [g1]; simp [hx])) g5
 rw [key.1, key.2]
theorem cut_step (ang : Bool) (cur : List Sg) (x : Sg) (r : List Sg) (h : ¬ x.Pl) : cutS ang cur (x :: r) = cutS ang (cur ++ [x]) r := by
 rw [cutS, if_neg (fun hh => h hh.1.1), if_neg (fun hh => h hh.1), if_neg (fun hh => h hh.1)]
theorem pieces_eq (s : Tx) (u d : Nat) (t : Tx) (hi : u = 2 ↔ 0 < d) (hu : u ≤ 2) :
  ∀ (pre p : Tx) (ps : List Sg) (ang : Bool) (out : List Tx), s = pre ++ (p ++ t) → (∀ t2, signsF false 0 (p ++ t2) = ps ++ signsF (decide (u = 1)) d t2) →
   (pcsA s (t.zip (usesF u d t)) (pre.length + p.length) pre.length ang out).map (signsF false 0) = out.map (signsF false 0) ++ cutS ang ps (signsF (decide (u = 1)) d t) := by
 have fin : ∀ (pre p : Tx) (out : List Tx), s = pre ++ p → (pcsA s [] (pre.length + p.length) pre.length true out) = out ++ [p] := by
  intro pre p out hs
  show out ++ [s.drop pre.length] = _
  rw [hs, List.drop_left]
 have nilE : ∀ u d, signsF u d [] = [] := fun u d => by unfold signsF; rfl
 refine both (fun u d t => ∀ (pre p : Tx) (ps : List Sg) (ang : Bool) (out : List Tx), s = pre ++ (p ++ t) → (∀ t2, signsF false 0 (p ++ t2) = ps ++ signsF (decide (u = 1)) d t2) →
   (pcsA s (t.zip (usesF u d t)) (pre.length + p.length) pre.length ang out).map (signsF false 0) = out.map (signsF false 0) ++ cutS ang ps (signsF (decide (u = 1)) d t)) ?_ ?_ ?_ ?_ ?_ ?_ ?_ t.length t u d (Nat.le_refl _) hi hu
 ·
  intro u d _ _ pre p ps ang out hs hp
  rw [List.append_nil] at hs
  have h := hp []
  rw [List.append_nil, nilE, List.append_nil] at h
  show (out ++ [s.drop pre.length]).map (signsF false 0) = _
  rw [hs, List.drop_left, nilE, List.map_append, List.map_cons, List.map_nil, h]
  rfl
 ·
  intro u d _ _ h0 h1 h2 pre p ps ang out hs hp
  rw [h1, h2]
  have h := hp [92]
  rw [h2, List.append_nil] at h
  show (pcsA s [(92, 3)] (pre.length + p.length) pre.length ang out).map (signsF false 0) = _
  rw [pcsA, if_pos (by omega)]
  show (out ++ [s.drop pre.length]).map (signsF false 0) = _
  rw [hs, List.drop_left, List.map_append, List.map_cons, List.map_nil, h]
  rfl
 ·
  intro u d x r hi hu h0 h1 h2 ih pre p ps ang out hs hp
  rw [h1, h2, cut_step _ _ _ _ (by unfold Sg.Pl; simp; omega)]
  show (pcsA s ((92, 3) :: (x, u) :: r.zip (usesF u d r)) (pre.length + p.length) pre.length ang out).map (signsF false 0) = _
  rw [pcsA, if_pos (by omega), pcsA, if_pos h0]
  have := ih pre (p ++ [92, x]) (ps ++ [⟨x, decide (u = 1), decide (u = 2), false, false⟩]) ang out (by rw [hs]; simp) (fun t2 => by
   have e := hp (92 :: x :: t2)
   rw [h2] at e
   rw [List.append_assoc, List.append_assoc]
   exact e)
  rw [List.length_append] at this
  exact this
 ·
  intro u d u2 r hi hu hi2 hu2 hd h1 h2 ih pre p ps ang out hs hp
  rw [h1, h2]
  show (pcsA s ((34, 3) :: r.zip (usesF u2 d r)) (pre.length + p.length) pre.length ang out).map (signsF false 0) = _
  rw [pcsA, if_pos (by omega)]
  have := ih pre (p ++ [34]) ps ang out (by rw [hs]; simp) (fun t2 => by
   have e := hp (34 :: t2)
   rw [h2] at e
   rw [List.append_assoc]
   exact e)
  rw [List.length_append] at this
  exact this
 ·
  intro u d r hi hu h0 h1 h2 ih pre p ps ang out hs hp
  rw [h1, h2, cut_step _ _ _ _ (by unfold Sg.Pl; simp)]
  show (pcsA s ((40, 2) :: r.zip (usesF 2 (d + 1) r)) (pre.length + p.length) pre.length ang out).map (signsF false 0) = _
  rw [pcsA, if_pos (by omega)]
  have := ih pre (p ++ [40]) (ps ++ [⟨40, false, true, decide (d = 0), false⟩]) ang out (by rw [hs]; simp) (fun t2 => by
   have e := hp (40 :: t2)
   rw [h2] at e
   rw [List.append_assoc, List.append_assoc]
   exact e)
  rw [List.length_append] at this
  exact this
 ·
  intro u d u2 r hi hu hi2 hu2 h1 h2 ih pre p ps ang out hs hp
  rw [h1, h2, cut_step _ _ _ _ (by unfold Sg.Pl; simp)]
  show (pcsA s ((41, 2) :: r.zip (usesF u2 (d - 1) r)) (pre.length + p.length) pre.length ang out).map (signsF false 0) = _
  rw [pcsA, if_pos (by omega)]
  have := ih pre (p ++ [41]) (ps ++ [⟨41, false, true, false, decide (d - 1 = 0)⟩]) ang out (by rw [hs]; simp) (fun t2 => by
   have e := hp (41 :: t2)
   rw [h2] at e
   rw [List.append_assoc, List.append_assoc]
   exact e)
  rw [List.length_append] at this
  exact this
 ·
  intro u d c r hi hu hc h1 h2 ih pre p ps ang out hs hp
  rw [h1, h2]
  show (pcsA s ((c, u) :: r.zip (usesF u d r)) (pre.length + p.length) pre.length ang out).map (signsF false 0) = _
  have step : ∀ ang2, (pcsA s (r.zip (usesF u d r)) (pre.length + p.length + 1) pre.length ang2 out).map (signsF false 0) = out.map (signsF false 0) ++ cutS ang2 (ps ++ [⟨c, decide (u = 1), decide (u = 2), false, false⟩]) (signsF (decide (u = 1)) d r) := fun ang2 => by
   have := ih pre (p ++ [c]) (ps ++ [⟨c, decide (u = 1), decide (u = 2), false, false⟩]) ang2 out (by rw [hs]; simp) (fun t2 => by
    have e := hp (c :: t2)
    rw [h2] at e
    rw [List.append_assoc, List.append_assoc]
    exact e)
   rw [List.length_append] at this
   exact this
  by_cases h0 : u = 0
  ·
   subst h0
   have hd : d = 0 := by have := hi.2; omega
   subst hd
   have hpl : (⟨c, decide ((0 : Nat) = 1), decide ((0 : Nat) = 2), false, false⟩ : Sg).Pl := ⟨rfl, rfl⟩
   rw [pcsA, if_neg (by omega), cutS]
   by_cases h60 : c = 60
   ·
    rw [if_pos h60, if_neg (fun hh => absurd (hh.1.2.symm.trans h60) (by decide)), if_neg (fun hh => absurd (hh.2.symm.trans h60) (by decide)), if_pos ⟨hpl, h60⟩]
    exact step true
   ·
    by_cases h62 : c = 62
    ·
     rw [if_neg h60, if_pos h62, if_neg (fun hh => absurd (hh.1.2.symm.trans h62) (by decide)), if_pos ⟨hpl, h62⟩]
     exact step false
    ·
     have eang : (if (⟨c, decide ((0 : Nat) = 1), decide ((0 : Nat) = 2), false, false⟩ : Sg).Pl ∧ (⟨c, decide ((0 : Nat) = 1), decide ((0 : Nat) = 2), false, false⟩ : Sg).c = 62 then false else if (⟨c, decide ((0 : Nat) = 1), decide ((0 : Nat) = 2), false, false⟩ : Sg).Pl ∧ (⟨c, decide ((0 : Nat) = 1), decide ((0 : Nat) = 2), false, false⟩ : Sg).c = 60 then true else ang) = ang := by
      rw [if_neg (fun hh => h62 hh.2), if_neg (fun hh => h60 hh.2)]
     rw [eang, if_neg h60, if_neg h62]
     by_cases h44 : c = 44 ∧ ang = false
     ·
      rw [if_pos h44, if_pos ⟨⟨hpl, h44.1⟩, h44.2⟩]
      have hps : signsF false 0 p = ps := by
       have e := hp []
       rw [List.append_nil, nilE, List.append_nil] at e
       exact e
      have hsl : sliceQ s pre.length (pre.length + p.length) = p := by
       unfold sliceQ
       rw [hs, List.drop_left, show pre.length + p.length - pre.length = p.length by omega, List.take_left]
      have := ih (pre ++ (p ++ [c])) [] [] ang (out ++ [p]) (by rw [hs]; simp) (fun t2 => rfl)
      rw [List.map_append, List.map_cons, List.map_nil, hps, List.append_assoc] at this
      rw [hsl]
      rw [show (pre ++ (p ++ [c])).length = pre.length + p.length + 1 by simp; omega] at this
      exact this
     ·
      rw [if_neg h44, if_neg (fun hh => h44 ⟨hh.1.2, hh.2⟩)]
      exact step ang
  ·
   rw [pcsA, if_pos h0, cut_step _ _ _ _ (by unfold Sg.Pl; simp; omega)]
   exact step ang
theorem list_eq (s : Tx) : listR s = listA s := by
 have h := pieces_eq s 0 0 s (by simp) (by omega) [] [] [] false [] rfl (fun t2 => rfl)
 have h : (piecesA s).map (signsF false 0) = cutS false [] (signsF false 0 s) := h
 unfold listR listA
 rw [← h, List.map_map]
 have e : (oneR ∘ signsF false 0) = oneA := funext fun p => one_eq p
 rw [e]
end Go.Proofs.YtenbjndldenkfaaGreatDoor
namespace Go.Proofs.YtenbjndldenkfaaGreatDoor
open Go.RowKit Go.Sort
def SG1 (x : Sg) : List Value := [.int .u8 ((x.c.toNat : Nat) : Int), .bool x.q, .bool x.r, .bool x.op, .bool x.sh]
theorem SG1_len (x : Sg) : (SG1 x).length = 5 := rfl
theorem SG1_one (x : Sg) : ∀ u ∈ SG1 x, u.oneCell' = true := by
 intro u hu
 simp only [SG1, List.mem_cons, List.not_mem_nil, or_false] at hu
 rcases hu with rfl | rfl | rfl | rfl | rfl <;> rfl
def SG (l : List Sg) : List Value := l.flatMap SG1
theorem SG_append (a b : List Sg) : SG (a ++ b) = SG a ++ SG b := by simp [SG]
theorem SG_one (l : List Sg) : ∀ u ∈ SG l, u.oneCell' = true := flat_one SG1 SG1_one l
theorem SG_at {w : World} {A : Option Addr} {l : List Sg} {k : Nat} (h : Rd w 5 A l.length (SG l)) (hk : k < l.length) : ∃ ad, A = some ad ∧ ∀ j v, (SG1 l[k])[j]? = some v → w.cell? ((ad.add (k * 5)).add j) = some v := by
 obtain ⟨ad, rfl, hc⟩ := h.elem hk
 refine ⟨ad, rfl, fun j v hj => hc j v ?_⟩
 rw [show SG l = l.flatMap SG1 from rfl, flat_get SG1 5 SG1_len l k hk]
 exact hj
theorem hrdSg {w w' : World} {t : TypeId} {x : Sg} (h : Fresh w w' t (SG1 x).toArray) : Rd w' 5 (some ⟨w.heap.size, 0, none⟩) 1 (SG [x]) := Rd.of_blk (n := 1) (size := 5) h.blk rfl
theorem SG_take : ∀ (n : Nat) (l : List Sg), SG (l.take n) = (SG l).take (n * 5)
 | 0, l => by simp [SG]
 | n + 1, [] => by simp [SG]
 | n + 1, x :: l => by
  show SG1 x ++ SG (l.take n) = List.take ((n + 1) * 5) (SG1 x ++ SG l)
  rw [SG_take n l, Nat.succ_mul]
  rfl
theorem SG_drop : ∀ (n : Nat) (l : List Sg), SG (l.drop n) = (SG l).drop (n * 5)
 | 0, l => by simp
 | n + 1, [] => by simp [SG]
 | n + 1, x :: l => by
  show SG (l.drop n) = List.drop ((n + 1) * 5) (SG1 x ++ SG l)
  rw [SG_drop n l, Nat.succ_mul]
  rfl
theorem SG_cut {w : World} {A : Option Addr} {c : Nat} {l : List Sg} (h : Rd w 5 A l.length (SG l)) {a b : Nat} (h1 : a ≤ b) (h2 : b ≤ l.length) (hc : l.length ≤ c) : Rd w 5 (cutA A c a 5) ((l.drop a).take (b - a)).length (SG ((l.drop a).take (b - a))) := by
 have e := h.cut (l := a) (r := b) (cap := c) h1 h2 hc
 have e1 : ((l.drop a).take (b - a)).length = b - a := by simp; omega
 have e2 : SG ((l.drop a).take (b - a)) = ((SG l).drop (a * 5)).take ((b - a) * 5) := by
  rw [SG_take, SG_drop]
 rw [e1, e2]
 exact e
set_option maxRecDepth 100000 in
theorem rplain_spec (x : Sg) (w : World) : Calls Tryz.prog 100 #[.agg (SG1 x).toArray] w fun e w' => e = .returned (.bool (decide x.Pl)) ∧ Frm [] w w' := by
 refine VC.calls (nt := 11) (res := #[.tmp 2]) Tryz.func100 rfl Tryz.ntmps100 Tryz.results100 rfl ?_
 refine js (jr ?_)
 refine Ops.m (Does.box rfl) rfl ?_
 rintro _ w1 ⟨rfl, hF1⟩
 have hb1 : Blk w1 w.heap.size 130 (SG1 x).toArray := hF1.blk
 have K := hF1.frm
 generalize w.heap.size = g1 at hb1 ⊢
 refine ja ?_
 refine jo (jn (jv1 1 ?_))
 refine js ?_
 refine VC.split1 [] .nil 2 (.bool (decide ((x.q = false) ∧ (x.r = false)))) ?_ ?_
 ·
  by_cases hs0 : x.q = false
  ·
   refine jr ?_
   refine Ops.r (Run.fieldAddr rfl Tryz.underlying130 rfl Tryz.sizeOf4 (by decide)) rfl ?_
   refine Ops.r (Run.load rfl Tryz.isAgg4 (hb1.cell 1)) rfl ?_
   refine Ops.r (Run.not rfl) rfl ?_
   rw [show (!x.q) = decide (x.q = false) by cases x.q <;> rfl]
   refine jm ?_
   refine Ops.rg rfl au (Run.fieldAddr rfl Tryz.underlying130 rfl Tryz.sizeOf4 (by decide)) rfl ?_
   refine Ops.rg rfl au (Run.load rfl Tryz.isAgg4 (hb1.cell 2)) rfl ?_
   refine Ops.rg rfl au (Run.not rfl) rfl ?_
   rw [show (!x.r) = decide (x.r = false) by cases x.r <;> rfl]
   refine Ops.r (Run.pickT rfl rfl au) rfl ?_
   refine ja ?_
   refine jo ?_
   refine jn ⟨(js1 (by rw [dand1 hs0]; rfl)), rfl⟩
  ·
   refine jr ?_
   refine Ops.r (Run.fieldAddr rfl Tryz.underlying130 rfl Tryz.sizeOf4 (by decide)) rfl ?_
   refine Ops.r (Run.load rfl Tryz.isAgg4 (hb1.cell 1)) rfl ?_
   refine Ops.r (Run.not rfl) rfl ?_
   rw [show (!x.q) = decide (x.q = false) by cases x.q <;> rfl]
   refine jm ?_
   refine ju ?_
   refine ju ?_
   refine ju ?_
   refine Ops.r (Run.pickF rfl rfl au) rfl ?_
   refine ja ?_
   refine jo ?_
   refine jn ⟨(js1 (by rw [dand0 hs0]; rfl)), rfl⟩
 ·
  intro Γ hΓ
  refine jn (VC.sub _ hΓ ?_)
  refine jt ?_
  refine end1 rfl ?_
  exact ⟨by rfl, K⟩
set_option maxRecDepth 100000 in
set_option maxHeartbeats 1600000 in
theorem rsigns_spec (q : Tx) (w : World) (hq : q.length ≤ 1000000) : Calls Tryz.prog 99 #[encStr q] w fun e w' => Frm [] w w' ∧ ∃ A c, e = .returned (.slice A (signsF false 0 q).length c) ∧ Own w' 130 5 A (signsF false 0 q).length c (SG (signsF false 0 q)) ∧ ∀ y ∈ ob A, w.heap.size ≤ y := by
 have K := Frm.refl [] w
 refine VC.calls (nt := 90) (res := #[.tmp 2]) Tryz.func99 rfl Tryz.ntmps99 Tryz.results99 rfl ?_
 refine js (jr (ja ?_))
 refine jo (jn (jv1 0 ?_))
 refine js (jr (ja ?_))
 refine jo (jn (js (jr (ja ?_))))
 refine jo (jn (js (jr ?_)))
 refine Ops.r (v := .int .i64 ((0 : Nat) : Int)) (Run.asg rfl) rfl ?_
 refine jo (jn (js (js (jr ?_))))
 refine Ops.r (v := .int .i64 ((0 : Nat) : Int)) (Run.asg rfl) rfl ?_
 refine jo (jn (jb ?_))
 refine VC.loop (σ := Nat × Bool × Nat × List Sg × Option Addr × Nat) (fun s => [(0, encStr q), (3, .slice s.2.2.2.2.1 s.2.2.2.1.length s.2.2.2.2.2), (4, .bool s.2.1), (5, .int .i64 ((s.2.2.1 : Nat) : Int)), (6, .int .i64 ((s.1 : Nat) : Int))]) (fun s wr => s.1 ≤ q.length ∧ s.2.2.2.1 ++ signsF s.2.1 s.2.2.1 (q.drop s.1) = signsF false 0 q ∧ s.2.2.1 ≤ s.1 ∧ s.2.2.2.1.length ≤ s.1 ∧ Own wr 130 5 s.2.2.2.2.1 s.2.2.2.1.length s.2.2.2.2.2 (SG s.2.2.2.1) ∧ Frm [] w wr ∧ ∀ y ∈ ob s.2.2.2.2.1, w.heap.size ≤ y) (fun s => q.length - s.1) (0, false, 0, [], none, 0) (js5 rfl rfl rfl rfl rfl) ⟨Nat.zero_le _, rfl, Nat.le_refl _, Nat.le_refl _, Own.nil _ _ _, K, by simp [ob]⟩ ?_
 rintro ⟨i, qt, d, l, A, c⟩ wr ⟨hi, hl, hd, hll, hO, K, hub⟩
 dsimp only at hi hl hd hll hO hub ⊢
 refine js (js (jr (jm ?_)))
 refine jm ?_
 refine Ops.r (Run.lenT rfl Tryz.underlying9) rfl ?_
 refine Ops.r (Run.bin rfl rfl (Bin.lssN _ _)) rfl ?_
 refine jo (jn (jv6 0 3 4 5 6 11 ?_))
 refine VC.condD rfl (fun hc1 => ?_) (fun hc1 => ?_)
 ·
  have hgx := hdA_at hc1
  have hdr := hdA_drop hc1
  rw [hdr] at hl
  generalize hdA q i = x at *
  have e92 : x.toNat = 92 ↔ x = 92 := u8n rfl
  have e34 : x.toNat = 34 ↔ x = 34 := u8n rfl
  have e40 : x.toNat = 40 ↔ x = 40 := u8n rfl
  have e41 : x.toNat = 41 ↔ x = 41 := u8n rfl
  refine jk (jn (jv5 0 3 4 5 6 ?_))
  refine js ?_
  refine VC.meet (σ := Nat × Bool × Nat × List Sg × Option Addr × Nat) (fun s => [(0, encStr q), (3, .slice s.2.2.2.2.1 s.2.2.2.1.length s.2.2.2.2.2), (4, .bool s.2.1), (5, .int .i64 ((s.2.2.1 : Nat) : Int)), (6, .int .i64 ((s.1 : Nat) : Int))]) (fun s wr => i ≤ s.1 ∧ s.1 < q.length ∧ s.2.2.2.1 ++ signsF s.2.1 s.2.2.1 (q.drop (s.1 + 1)) = signsF false 0 q ∧ s.2.2.1 ≤ (s.1 + 1) ∧ s.2.2.2.1.length ≤ (s.1 + 1) ∧ Own wr 130 5 s.2.2.2.2.1 s.2.2.2.1.length s.2.2.2.2.2 (SG s.2.2.2.1) ∧ Frm [] w wr ∧ ∀ y ∈ ob s.2.2.2.2.1, w.heap.size ≤ y) ?_ ?_
  ·
   refine jb (js (jr (jm ?_)))
   refine jm ?_
   refine Ops.r (Run.indexT _ rfl rfl Tryz.underlying9 hgx) rfl ?_
   refine ja ?_
   refine jo (jn (jv6 0 3 4 5 6 7 ?_))
   refine js (js ?_)
   refine VC.split1 [(0, _), (3, _), (4, _), (5, _), (6, _), (7, _)] (js6 rfl rfl rfl rfl rfl rfl) 25 (.bool (decide ((qt = true ∨ 0 < d) ∧ x.toNat = 92))) ?_ ?_
   ·
    refine jr ?_
    refine jm ?_
    by_cases hs17 : qt = true
    ·
     refine jm ?_
     refine ju ?_
     refine ju ?_
     refine Ops.r (Run.pickT rfl rfl au) rfl ?_
     refine jm ?_
     refine jg ?_
     refine Ops.rg rfl au (Run.bin rfl rfl (Bin.eqlN _ 92)) rfl ?_
     by_cases hs24 : x.toNat = 92
     ·
      refine Ops.r (Run.pickT rfl rfl au) rfl ?_
      refine jo ?_
      refine jn ⟨(js7 (jc (by simp [*])) rfl rfl rfl rfl rfl rfl), rfl⟩
     ·
      refine Ops.r (Run.pickT rfl rfl au) rfl ?_
      refine jo ?_
      refine jn ⟨(js7 (jc (by simp [*])) rfl rfl rfl rfl rfl rfl), rfl⟩
    ·
     refine jm ?_
     refine jg ?_
     refine Ops.rg rfl au (Run.bin rfl rfl (Bin.gtrN _ 0)) rfl ?_
     by_cases hs20 : 0 < d
     ·
      refine Ops.r (Run.pickF rfl rfl au) rfl ?_
      refine jm ?_
      refine jg ?_
      refine Ops.rg rfl au (Run.bin rfl rfl (Bin.eqlN _ 92)) rfl ?_
      by_cases hs24 : x.toNat = 92
      ·
       refine Ops.r (Run.pickT rfl rfl au) rfl ?_
       refine jo ?_
       refine jn ⟨(js7 (jc (by simp [*])) rfl rfl rfl rfl rfl rfl), rfl⟩
      ·
       refine Ops.r (Run.pickT rfl rfl au) rfl ?_
       refine jo ?_
       refine jn ⟨(js7 (jc (by simp [*])) rfl rfl rfl rfl rfl rfl), rfl⟩
     ·
      refine Ops.r (Run.pickF rfl rfl au) rfl ?_
      refine jm ?_
      refine ju ?_
      refine ju ?_
      refine Ops.r (Run.pickF rfl rfl au) rfl ?_
      refine jo ?_
      refine jn ⟨(js7 (jc (by simp [*])) rfl rfl rfl rfl rfl rfl), rfl⟩
   ·
    intro Γ hΓ
    refine jn (VC.sub _ hΓ ?_)
    refine VC.condD rfl (fun hc2 => ?_) (fun hc2 => ?_)
    ·
     have hes : (qt = true ∨ 0 < d) ∧ x = 92 := ⟨hc2.1, e92.1 hc2.2⟩
     refine js (js (jr (jm ?_)))
     refine Ops.r (Run.bin rfl rfl (Bin.add_i64 _ 1 (by omega))) rfl ?_
     refine jm ?_
     refine Ops.r (Run.lenT rfl Tryz.underlying9) rfl ?_
     refine Ops.r (Run.bin rfl rfl (Bin.lssN _ _)) rfl ?_
     refine jo (jn (jv6 0 3 4 5 6 30 ?_))
     refine VC.condD rfl (fun hc3 => ?_) (fun hc3 => ?_)
     ·
      have hgy := hdA_at hc3
      rw [hdA_drop hc3] at hl
      generalize hdA q (i + 1) = y at *
      rw [sg_esc hes] at hl
      refine js (jr (jm ?_))
      refine Ops.r (Run.bin rfl rfl (Bin.add_i64 _ 1 (by omega))) rfl ?_
      refine ja ?_
      refine jo (jn (jv5 0 3 4 5 6 ?_))
      refine jr (jm ?_)
      refine jm ?_
      refine jm ?_
      refine Ops.r (Run.indexT _ rfl rfl Tryz.underlying9 hgy) rfl ?_
      refine jm ?_
      refine jm ?_
      refine Ops.r (Run.bin rfl rfl (Bin.gtrN _ 0)) rfl ?_
      refine Ops.r (Run.build (evs.cons rfl (evs.cons rfl (evs.cons rfl evs.nil))) zero130 (places130).choose_spec.1 (places130).choose_spec.2 rfl) rfl ?_
      refine Ops.m (Does.buildS1 rfl Tryz.underlying127 Tryz.sizeOf130 zero130 (by decide) (by decide) rfl rfl) rfl ?_
      rintro _ wa ⟨rfl, hFa⟩
      have hrda := hrdSg (x := (⟨y, qt, decide (0 < d), false, false⟩ : Sg)) hFa
      have hO := hO.frm hFa.frm (by simp)
      have K := K.trans hFa.frm (by simp)
      refine Ops.m (Does.app rfl rfl Tryz.underlying127 (info130) rfl (by decide) hO hrda (SG_one _) (by omega) (by omega)) rfl ?_
      rintro _ va ⟨Aa, ca, rfl, hOa, fa, hoba⟩
      have sK := K.size
      have K := Frm.own K fa hub
      have hOa : Own va 130 5 Aa (l ++ [(⟨y, qt, decide (0 < d), false, false⟩ : Sg)]).length ca (SG (l ++ [(⟨y, qt, decide (0 < d), false, false⟩ : Sg)])) := by rw [SG_append, List.length_append]; exact hOa
      refine ja ?_
      refine jo (jn (jv5 0 3 4 5 6 ?_))
      refine jx ?_
      refine thenQ_x (blockQ_x ?_)
      refine jn ⟨(i + 1, qt, d, l ++ [(⟨y, qt, decide (0 < d), false, false⟩ : Sg)], Aa, ca), (js5 rfl (by rw [List.length_append]; rfl) rfl rfl rfl), ?_⟩
      exact ⟨by dsimp only; omega, by dsimp only; omega, by rw [List.append_assoc]; exact hl, by dsimp only; omega, by simp; omega, hOa, K, up_app hub hoba (by omega)⟩
     ·
      have hone : q.drop (i + 1) = [] := List.drop_of_length_le (by omega)
      rw [hone, sg_esc1 hes, List.append_nil] at hl
      refine jk (jn (jv5 0 3 4 5 6 ?_))
      refine jx ?_
      refine thenQ_x (blockQ_x ?_)
      refine jn ⟨(i, qt, d, l, A, c), (js5 rfl rfl rfl rfl rfl), ?_⟩
      refine ⟨Nat.le_refl _, hc1, ?_, by dsimp only; omega, by dsimp only; omega, hO, K, hub⟩
      have hn : signsF qt d [] = [] := by unfold signsF; rfl
      dsimp only
      rw [hone, hn, List.append_nil]
      exact hl
    ·
     have hes : ¬ ((qt = true ∨ 0 < d) ∧ x = 92) := fun h => hc2 ⟨h.1, e92.2 h.2⟩
     refine jk (jn (jv6 0 3 4 5 6 7 ?_))
     refine js (js ?_)
     refine VC.split1 [(0, _), (3, _), (4, _), (5, _), (6, _), (7, _)] (js6 rfl rfl rfl rfl rfl rfl) 48 (.bool (decide ((d = 0) ∧ (x.toNat = 34)))) ?_ ?_
     ·
      by_cases hs0 : d = 0
      ·
       refine jr (jm ?_)
       refine Ops.r (Run.bin rfl rfl (Bin.eqlN _ 0)) rfl ?_
       refine jm ?_
       refine jg ?_
       refine Ops.rg rfl au (Run.bin rfl rfl (Bin.eqlN _ 34)) rfl ?_
       refine Ops.r (Run.pickT rfl rfl au) rfl ?_
       refine jo ?_
       refine jn ⟨(js7 (by rw [dand1 hs0]; rfl) rfl rfl rfl rfl rfl rfl), rfl⟩
      ·
       refine jr (jm ?_)
       refine Ops.r (Run.bin rfl rfl (Bin.eqlN _ 0)) rfl ?_
       refine jm ?_
       refine ju ?_
       refine ju ?_
       refine Ops.r (Run.pickF rfl rfl au) rfl ?_
       refine jo ?_
       refine jn ⟨(js7 (by rw [dand0 hs0]; rfl) rfl rfl rfl rfl rfl rfl), rfl⟩
     ·
      intro Γ hΓ
      refine jn (VC.sub _ hΓ ?_)
      refine VC.condD rfl (fun hc4 => ?_) (fun hc4 => ?_)
      ·
       rw [sg_quo hes ⟨hc4.1, e34.1 hc4.2⟩] at hl
       refine js (jr (jm ?_))
       refine Ops.r (Run.not rfl) rfl ?_
       refine ja ?_
       refine jo (jn (jv5 0 3 4 5 6 ?_))
       refine jx ?_
       refine thenQ_x (blockQ_x ?_)
       refine jn ⟨(i, !qt, d, l, A, c), (js5 rfl rfl rfl rfl rfl), ?_⟩
       exact ⟨Nat.le_refl _, hc1, hl, by dsimp only; omega, by dsimp only; omega, hO, K, hub⟩
      ·
       have hq4 : ¬ (d = 0 ∧ x = 34) := fun h => hc4 ⟨h.1, e34.2 h.2⟩
       refine jk (jn (jv6 0 3 4 5 6 7 ?_))
       refine js (js ?_)
       refine VC.split1 [(0, _), (3, _), (4, _), (5, _), (6, _), (7, _)] (js6 rfl rfl rfl rfl rfl rfl) 56 (.bool (decide ((qt = false) ∧ (x.toNat = 40)))) ?_ ?_
       ·
        by_cases hs0 : qt = false
        ·
         refine jr (jm ?_)
         refine Ops.r (Run.not rfl) rfl ?_
         rw [show (!qt) = decide (qt = false) by cases qt <;> rfl]
         refine jm ?_
         refine jg ?_
         refine Ops.rg rfl au (Run.bin rfl rfl (Bin.eqlN _ 40)) rfl ?_
         refine Ops.r (Run.pickT rfl rfl au) rfl ?_
         refine jo ?_
         refine jn ⟨(js7 (by rw [dand1 hs0]; rfl) rfl rfl rfl rfl rfl rfl), rfl⟩
        ·
         refine jr (jm ?_)
         refine Ops.r (Run.not rfl) rfl ?_
         rw [show (!qt) = decide (qt = false) by cases qt <;> rfl]
         refine jm ?_
         refine ju ?_
         refine ju ?_
         refine Ops.r (Run.pickF rfl rfl au) rfl ?_
         refine jo ?_
         refine jn ⟨(js7 (by rw [dand0 hs0]; rfl) rfl rfl rfl rfl rfl rfl), rfl⟩
       ·
        intro Γ hΓ
        refine jn (VC.sub _ hΓ ?_)
        refine VC.condD rfl (fun hc5 => ?_) (fun hc5 => ?_)
        ·
         rw [sg_in hes hq4 ⟨hc5.1, e40.1 hc5.2⟩] at hl
         refine js (jr (jm ?_))
         refine jm ?_
         refine jm ?_
         refine Ops.r (Run.bin rfl rfl (Bin.eqlN _ 0)) rfl ?_
         refine Ops.r (Run.build (evs.cons rfl (evs.cons rfl (evs.cons rfl evs.nil))) zero130 (places130).choose_spec.1 (places130).choose_spec.2 rfl) rfl ?_
         refine Ops.m (Does.buildS1 rfl Tryz.underlying127 Tryz.sizeOf130 zero130 (by decide) (by decide) rfl rfl) rfl ?_
         rintro _ wb ⟨rfl, hFb⟩
         have hrdb := hrdSg (x := (⟨x, false, true, decide (d = 0), false⟩ : Sg)) hFb
         have hO := hO.frm hFb.frm (by simp)
         have K := K.trans hFb.frm (by simp)
         refine Ops.m (Does.app rfl rfl Tryz.underlying127 (info130) rfl (by decide) hO hrdb (SG_one _) (by omega) (by omega)) rfl ?_
         rintro _ vb ⟨Ab, cb, rfl, hOb, fb, hobb⟩
         have sK := K.size
         have K := Frm.own K fb hub
         have hOb : Own vb 130 5 Ab (l ++ [(⟨x, false, true, decide (d = 0), false⟩ : Sg)]).length cb (SG (l ++ [(⟨x, false, true, decide (d = 0), false⟩ : Sg)])) := by rw [SG_append, List.length_append]; exact hOb
         refine ja ?_
         refine jo (jn (jv5 0 3 4 5 6 ?_))
         refine js (jr (jm ?_))
         refine Ops.r (Run.bin rfl rfl (Bin.add_i64 _ 1 (by omega))) rfl ?_
         refine ja ?_
         refine jo (jn (jv5 0 3 4 5 6 ?_))
         refine jx ?_
         refine thenQ_x (blockQ_x ?_)
         refine jn ⟨(i, qt, d + 1, l ++ [(⟨x, false, true, decide (d = 0), false⟩ : Sg)], Ab, cb), (js5 rfl (by rw [List.length_append]; rfl) rfl rfl rfl), ?_⟩
         exact ⟨by dsimp only; omega, by dsimp only; omega, by rw [List.append_assoc]; exact hl, by dsimp only; omega, by simp; omega, hOb, K, up_app hub hobb (by omega)⟩
        ·
         have hq5 : ¬ (qt = false ∧ x = 40) := fun h => hc5 ⟨h.1, e40.2 h.2⟩
         refine jk (jn (jv6 0 3 4 5 6 7 ?_))
         refine js (js ?_)
         refine VC.split1 [(0, _), (3, _), (4, _), (5, _), (6, _), (7, _)] (js6 rfl rfl rfl rfl rfl rfl) 71 (.bool (decide ((0 < d) ∧ (x.toNat = 41)))) ?_ ?_
         ·
          by_cases hs0 : 0 < d
          ·
           refine jr (jm ?_)
           refine Ops.r (Run.bin rfl rfl (Bin.gtrN _ 0)) rfl ?_
           refine jm ?_
           refine jg ?_
           refine Ops.rg rfl au (Run.bin rfl rfl (Bin.eqlN _ 41)) rfl ?_
           refine Ops.r (Run.pickT rfl rfl au) rfl ?_
           refine jo ?_
           refine jn ⟨(js7 (by rw [dand1 hs0]; rfl) rfl rfl rfl rfl rfl rfl), rfl⟩
          ·
           refine jr (jm ?_)
           refine Ops.r (Run.bin rfl rfl (Bin.gtrN _ 0)) rfl ?_
           refine jm ?_
           refine ju ?_
           refine ju ?_
           refine Ops.r (Run.pickF rfl rfl au) rfl ?_
           refine jo ?_
           refine jn ⟨(js7 (by rw [dand0 hs0]; rfl) rfl rfl rfl rfl rfl rfl), rfl⟩
         ·
          intro Γ hΓ
          refine jn (VC.sub _ hΓ ?_)
          refine VC.condD rfl (fun hc6 => ?_) (fun hc6 => ?_)
          ·
           rw [sg_out hes hq4 hq5 ⟨hc6.1, e41.1 hc6.2⟩] at hl
           have hd0 := hc6.1
           refine js (jr (jm ?_))
           refine Ops.r (Run.bin rfl rfl (Bin.sub_i64 _ 1 (by omega) (by omega))) rfl ?_
           refine ja ?_
           refine jo (jn (jv6 0 3 4 5 6 7 ?_))
           refine js (jr (jm ?_))
           refine jm ?_
           refine jm ?_
           refine Ops.r (Run.bin rfl rfl (Bin.eqlN _ 0)) rfl ?_
           refine Ops.r (Run.build (evs.cons rfl (evs.cons rfl (evs.cons rfl evs.nil))) zero130 (places130).choose_spec.1 (places130).choose_spec.2 rfl) rfl ?_
           refine Ops.m (Does.buildS1 rfl Tryz.underlying127 Tryz.sizeOf130 zero130 (by decide) (by decide) rfl rfl) rfl ?_
           rintro _ we ⟨rfl, hFe⟩
           have hrde := hrdSg (x := (⟨x, false, true, false, decide (d - 1 = 0)⟩ : Sg)) hFe
           have hO := hO.frm hFe.frm (by simp)
           have K := K.trans hFe.frm (by simp)
           refine Ops.m (Does.app rfl rfl Tryz.underlying127 (info130) rfl (by decide) hO hrde (SG_one _) (by omega) (by omega)) rfl ?_
           rintro _ ve ⟨Ae, ce, rfl, hOe, fe, hobe⟩
           have sK := K.size
           have K := Frm.own K fe hub
           have hOe : Own ve 130 5 Ae (l ++ [(⟨x, false, true, false, decide (d - 1 = 0)⟩ : Sg)]).length ce (SG (l ++ [(⟨x, false, true, false, decide (d - 1 = 0)⟩ : Sg)])) := by rw [SG_append, List.length_append]; exact hOe
           refine ja ?_
           refine jo (jn (jv5 0 3 4 5 6 ?_))
           refine jx ?_
           refine thenQ_x (blockQ_x ?_)
           refine jn ⟨(i, qt, d - 1, l ++ [(⟨x, false, true, false, decide (d - 1 = 0)⟩ : Sg)], Ae, ce), (js5 rfl (by rw [List.length_append]; rfl) rfl rfl rfl), ?_⟩
           exact ⟨by dsimp only; omega, by dsimp only; omega, by rw [List.append_assoc]; exact hl, by dsimp only; omega, by simp; omega, hOe, K, up_app hub hobe (by omega)⟩
          ·
           rw [sg_on hes hq4 hq5 (fun h => hc6 ⟨h.1, e41.2 h.2⟩)] at hl
           refine jk (jn (jv6 0 3 4 5 6 7 ?_))
           refine jr (jm ?_)
           refine jm ?_
           refine jm ?_
           refine jm ?_
           refine Ops.r (Run.bin rfl rfl (Bin.gtrN _ 0)) rfl ?_
           refine Ops.r (Run.build (evs.cons rfl (evs.cons rfl (evs.cons rfl evs.nil))) zero130 (places130).choose_spec.1 (places130).choose_spec.2 rfl) rfl ?_
           refine Ops.m (Does.buildS1 rfl Tryz.underlying127 Tryz.sizeOf130 zero130 (by decide) (by decide) rfl rfl) rfl ?_
           rintro _ wf ⟨rfl, hFf⟩
           have hrdf := hrdSg (x := (⟨x, qt, decide (0 < d), false, false⟩ : Sg)) hFf
           have hO := hO.frm hFf.frm (by simp)
           have K := K.trans hFf.frm (by simp)
           refine Ops.m (Does.app rfl rfl Tryz.underlying127 (info130) rfl (by decide) hO hrdf (SG_one _) (by omega) (by omega)) rfl ?_
           rintro _ vf ⟨Af, cf, rfl, hOf, ff, hobf⟩
           have sK := K.size
           have K := Frm.own K ff hub
           have hOf : Own vf 130 5 Af (l ++ [(⟨x, qt, decide (0 < d), false, false⟩ : Sg)]).length cf (SG (l ++ [(⟨x, qt, decide (0 < d), false, false⟩ : Sg)])) := by rw [SG_append, List.length_append]; exact hOf
           refine ja ?_
           refine jo ?_
           refine blockQ_n (jn ⟨(i, qt, d, l ++ [(⟨x, qt, decide (0 < d), false, false⟩ : Sg)], Af, cf), (js5 rfl (by rw [List.length_append]; rfl) rfl rfl rfl), ?_⟩)
           exact ⟨by dsimp only; omega, by dsimp only; omega, by rw [List.append_assoc]; exact hl, by dsimp only; omega, by simp; omega, hOf, K, up_app hub hobf (by omega)⟩
  ·
   rintro ⟨i2, qt2, d2, l2, A2, c2⟩ wr2 ⟨hi2, hi2l, hl2, hd2, hll2, hO2, K2, hub2⟩ Γ hΓ
   dsimp only at hi2 hi2l hl2 hd2 hll2 hO2 hub2
   refine jn (VC.sub _ hΓ ?_)
   refine jr (jm ?_)
   refine Ops.r (Run.bin rfl rfl (Bin.add_i64 _ 1 (by omega))) rfl ?_
   refine ja ?_
   refine jo ?_
   refine jn ⟨(i2 + 1, qt2, d2, l2, A2, c2), (js5 rfl rfl rfl rfl rfl), ?_, ?_⟩
   ·
    exact ⟨hi2l, hl2, hd2, hll2, hO2, K2, hub2⟩
   ·
    first | omega | (dsimp only; omega)
 ·
  have hil : i = q.length := by omega
  rw [List.drop_of_length_le (by omega)] at hl
  have hn : signsF qt d [] = [] := by unfold signsF; rfl
  rw [hn, List.append_nil] at hl
  subst hl
  refine jx ?_
  refine thenQ_x (thenQ_x (blockQ_x ?_))
  refine jn (jv1 3 ?_)
  refine js (jr (jm ?_))
  refine ja ?_
  refine jo (jn (jv1 2 ?_))
  refine jt ?_
  refine end1 rfl ?_
  exact ⟨K, A, c, rfl, hO, hub⟩
set_option maxRecDepth 100000 in
set_option maxHeartbeats 1600000 in
theorem rsay_spec (A : Option Addr) (c : Nat) (l : List Sg) (w : World) (hrd : Rd w 5 A l.length (SG l)) (hl : l.length ≤ 1000000) : Calls Tryz.prog 102 #[.slice A l.length c] w fun e w' => e = .returned (encStr (sayS false [] l)) ∧ Frm [] w w' := by
 have K := Frm.refl [] w
 refine VC.calls (nt := 57) (res := #[.tmp 2]) Tryz.func102 rfl Tryz.ntmps102 Tryz.results102 rfl ?_
 refine js (jr (ja ?_))
 refine jo (jn (jv1 0 ?_))
 refine js (jr (ja ?_))
 refine jo (jn (js (jr (ja ?_))))
 refine jo (jn (js (js (jr ?_))))
 refine Ops.r (v := .int .i64 ((0 : Nat) : Int)) (Run.asg rfl) rfl ?_
 refine jo (jn (jb ?_))
 refine VC.loop (σ := Nat × Bool × Tx) (fun s => [(0, .slice A l.length c), (3, encStr s.2.2), (4, .bool s.2.1), (5, .int .i64 ((s.1 : Nat) : Int))]) (fun s wr => s.1 ≤ l.length ∧ sayS s.2.1 s.2.2 (l.drop s.1) = sayS false [] l ∧ s.2.2.length ≤ 2 * s.1 ∧ Frm [] w wr) (fun s => l.length - s.1) (0, false, []) (js4 rfl rfl rfl rfl) ⟨Nat.zero_le _, rfl, Nat.le_refl _, K⟩ ?_
 rintro ⟨i, gap, t⟩ wr ⟨hi, hs, ht, K⟩
 dsimp only at hi hs ht ⊢
 refine js (js (jr (jm ?_)))
 refine jm ?_
 refine Ops.r (Run.lenS rfl Tryz.underlying127) rfl ?_
 refine Ops.r (Run.bin rfl rfl (Bin.lssN _ _)) rfl ?_
 refine jo (jn (jv5 0 3 4 5 9 ?_))
 refine VC.condD rfl (fun hc1 => ?_) (fun hc1 => ?_)
 ·
  obtain ⟨ad, hAe, hcell⟩ := SG_at (hrd.frm K (by simp)) hc1
  have hcw : ∀ W, Frm [] w W → ∀ j v, (SG1 l[i])[j]? = some v → W.cell? ((ad.add (i * 5)).add j) = some v := fun W hW => by
   obtain ⟨ad2, h2, hc2⟩ := SG_at (hrd.frm hW (by simp)) hc1
   cases hAe.symm.trans h2
   exact hc2
  have hdl := List.drop_eq_getElem_cons hc1
  rw [hdl] at hs
  generalize l[i] = x at *
  have e32 : x.c.toNat = 32 ↔ x.c = 32 := u8n rfl
  have e9 : x.c.toNat = 9 ↔ x.c = 9 := u8n rfl
  have hs' : (if x.r = true ∨ (x.Pl ∧ Bl x.c) then sayS true t (l.drop (i + 1)) else sayS false ((if gap = true ∧ t ≠ [] then t ++ [32] else t) ++ [x.c]) (l.drop (i + 1))) = sayS false [] l := hs
  refine jk (jn (jv4 0 3 4 5 ?_))
  refine js ?_
  refine VC.meet (σ := Bool × Tx) (fun s => [(0, .slice A l.length c), (3, encStr s.2), (4, .bool s.1), (5, .int .i64 ((i : Nat) : Int))]) (fun s wr => sayS s.1 s.2 (l.drop (i + 1)) = sayS false [] l ∧ s.2.length ≤ 2 * (i + 1) ∧ Frm [] w wr) ?_ ?_
  ·
   refine jb (js (js ?_))
   refine VC.splitR [(0, .slice A l.length c), (3, encStr t), (4, .bool gap), (5, .int .i64 ((i : Nat) : Int))] (Frm [] wr) 39 (.bool (decide (x.r = true ∨ (x.Pl ∧ Bl x.c)))) ?_ ?_
   ·
    refine jr ?_
    refine jm ?_
    refine jm ?_
    refine Ops.r (Run.indexS i (by rw [← hAe]; rfl) rfl Tryz.underlying127 Tryz.sizeOf130 hc1) rfl ?_
    refine Ops.r (Run.fieldAddr rfl Tryz.underlying130 rfl Tryz.sizeOf4 (by decide)) rfl ?_
    refine Ops.r (Run.load rfl Tryz.isAgg4 (hcell 2 _ rfl)) rfl ?_
    by_cases hs16 : x.r = true
    ·
     refine jm ?_
     refine ju ?_
     refine ju ?_
     refine ju ?_
     refine ju ?_
     refine ju ?_
     refine ju ?_
     refine Ops.skU rfl rfl ?_
     refine Ops.skU rfl rfl ?_
     refine Ops.skU rfl rfl ?_
     refine Ops.skU rfl rfl ?_
     refine Ops.skU rfl rfl ?_
     refine Ops.skU rfl rfl ?_
     refine Ops.skU rfl rfl ?_
     refine Ops.skU rfl rfl ?_
     refine Ops.skU rfl rfl ?_
     refine Ops.skU rfl rfl ?_
     refine Ops.skU rfl rfl ?_
     refine Ops.skU rfl rfl ?_
     refine Ops.skU rfl rfl ?_
     refine Ops.skU rfl rfl ?_
     refine ju ?_
     refine Ops.r (Run.pickT rfl rfl au) rfl ?_
     refine jo ?_
     refine jn ⟨(js5 (jc (by first | (simp [hs16]; done) | (simp [hs16, hs22]; done) | (simp [hs16, hs22, e32.1 hs29]; done) | (simp [hs16, hs22, hs29, e9.1 hs36]; done) | (have h1 : ¬ x.c = 32 := fun h => hs29 (e32.2 h); have h2 : ¬ x.c = 9 := fun h => hs36 (e9.2 h); simp [hs16, hs22, hs29, hs36, h1, h2]; done))) rfl rfl rfl rfl), ((by first | exact Frm.refl _ _ | exact fw5))⟩
    ·
     refine jm ?_
     refine jg ?_
     refine jg ?_
     refine Ops.rg rfl au (Run.indexS i (by rw [← hAe]; rfl) rfl Tryz.underlying127 Tryz.sizeOf130 hc1) rfl ?_
     refine Ops.rg rfl au (Run.loadA rfl Tryz.isAgg130 Tryz.sizeOf130 hcell (by first | rfl | (simp; done))) rfl ?_
     refine Ops.clg rfl au (Enters.fn (evs.cons rfl evs.nil) Tryz.call100) ((rplain_spec x _)) rfl ?_
     rintro e w5 ⟨rfl, fw5⟩
     refine ⟨_, rfl, ?_⟩
     have hcell := hcw _ (K.trans fw5 (by simp))
     by_cases hs22 : x.Pl
     ·
      refine jg ?_
      refine jg ?_
      refine jg ?_
      refine Ops.rg rfl au (Run.indexS i (by rw [← hAe]; rfl) rfl Tryz.underlying127 Tryz.sizeOf130 hc1) rfl ?_
      refine Ops.rg rfl au (Run.fieldAddr rfl Tryz.underlying130 rfl Tryz.sizeOf5 (by decide)) rfl ?_
      refine Ops.rg rfl au (Run.load rfl Tryz.isAgg5 (hcell 0 _ rfl)) rfl ?_
      refine Ops.rg rfl au (Run.bin rfl rfl (Bin.eqlN _ 32)) rfl ?_
      by_cases hs29 : x.c.toNat = 32
      ·
       refine jg ?_
       refine ju ?_
       refine ju ?_
       refine ju ?_
       refine ju ?_
       refine ju ?_
       refine ju ?_
       refine Ops.rg rfl au (Run.pickT rfl rfl au) rfl ?_
       refine Ops.rg rfl au (Run.pickT rfl rfl au) rfl ?_
       refine Ops.r (Run.pickF rfl rfl au) rfl ?_
       refine jo ?_
       refine jn ⟨(js5 (jc (by first | (simp [hs16]; done) | (simp [hs16, hs22]; done) | (simp [hs16, hs22, e32.1 hs29]; done) | (simp [hs16, hs22, hs29, e9.1 hs36]; done) | (have h1 : ¬ x.c = 32 := fun h => hs29 (e32.2 h); have h2 : ¬ x.c = 9 := fun h => hs36 (e9.2 h); simp [hs16, hs22, hs29, hs36, h1, h2]; done))) rfl rfl rfl rfl), ((by first | exact Frm.refl _ _ | exact fw5))⟩
      ·
       refine jg ?_
       refine jg ?_
       refine jg ?_
       refine Ops.rg rfl au (Run.indexS i (by rw [← hAe]; rfl) rfl Tryz.underlying127 Tryz.sizeOf130 hc1) rfl ?_
       refine Ops.rg rfl au (Run.fieldAddr rfl Tryz.underlying130 rfl Tryz.sizeOf5 (by decide)) rfl ?_
       refine Ops.rg rfl au (Run.load rfl Tryz.isAgg5 (hcell 0 _ rfl)) rfl ?_
       refine Ops.rg rfl au (Run.bin rfl rfl (Bin.eqlN _ 9)) rfl ?_
       by_cases hs36 : x.c.toNat = 9
       ·
        refine Ops.rg rfl au (Run.pickF rfl rfl au) rfl ?_
        refine Ops.rg rfl au (Run.pickT rfl rfl au) rfl ?_
        refine Ops.r (Run.pickF rfl rfl au) rfl ?_
        refine jo ?_
        refine jn ⟨(js5 (jc (by first | (simp [hs16]; done) | (simp [hs16, hs22]; done) | (simp [hs16, hs22, e32.1 hs29]; done) | (simp [hs16, hs22, hs29, e9.1 hs36]; done) | (have h1 : ¬ x.c = 32 := fun h => hs29 (e32.2 h); have h2 : ¬ x.c = 9 := fun h => hs36 (e9.2 h); simp [hs16, hs22, hs29, hs36, h1, h2]; done))) rfl rfl rfl rfl), ((by first | exact Frm.refl _ _ | exact fw5))⟩
       ·
        refine Ops.rg rfl au (Run.pickF rfl rfl au) rfl ?_
        refine Ops.rg rfl au (Run.pickT rfl rfl au) rfl ?_
        refine Ops.r (Run.pickF rfl rfl au) rfl ?_
        refine jo ?_
        refine jn ⟨(js5 (jc (by first | (simp [hs16]; done) | (simp [hs16, hs22]; done) | (simp [hs16, hs22, e32.1 hs29]; done) | (simp [hs16, hs22, hs29, e9.1 hs36]; done) | (have h1 : ¬ x.c = 32 := fun h => hs29 (e32.2 h); have h2 : ¬ x.c = 9 := fun h => hs36 (e9.2 h); simp [hs16, hs22, hs29, hs36, h1, h2]; done))) rfl rfl rfl rfl), ((by first | exact Frm.refl _ _ | exact fw5))⟩
     ·
      refine jg ?_
      refine ju ?_
      refine ju ?_
      refine ju ?_
      refine ju ?_
      refine ju ?_
      refine ju ?_
      refine ju ?_
      refine Ops.skU rfl rfl ?_
      refine Ops.skU rfl rfl ?_
      refine Ops.skU rfl rfl ?_
      refine Ops.skU rfl rfl ?_
      refine Ops.skU rfl rfl ?_
      refine Ops.skU rfl rfl ?_
      refine ju ?_
      refine Ops.rg rfl au (Run.pickF rfl rfl au) rfl ?_
      refine Ops.r (Run.pickF rfl rfl au) rfl ?_
      refine jo ?_
      refine jn ⟨(js5 (jc (by first | (simp [hs16]; done) | (simp [hs16, hs22]; done) | (simp [hs16, hs22, e32.1 hs29]; done) | (simp [hs16, hs22, hs29, e9.1 hs36]; done) | (have h1 : ¬ x.c = 32 := fun h => hs29 (e32.2 h); have h2 : ¬ x.c = 9 := fun h => hs36 (e9.2 h); simp [hs16, hs22, hs29, hs36, h1, h2]; done))) rfl rfl rfl rfl), ((by first | exact Frm.refl _ _ | exact fw5))⟩
   ·
    intro Γ wR hΓ hR
    refine jn (VC.sub _ hΓ ?_)
    refine VC.condD rfl (fun hc2 => ?_) (fun hc2 => ?_)
    ·
     rw [if_pos hc2] at hs'
     have K := K.trans hR (by simp)
     refine js (jr (ja ?_))
     refine jo (jn (jv4 0 3 4 5 ?_))
     refine jx ?_
     refine thenQ_x (blockQ_x ?_)
     refine jn ⟨(true, t), (js4 rfl rfl rfl rfl), ?_⟩
     exact ⟨hs', by dsimp only; omega, K⟩
    ·
     rw [if_neg hc2] at hs'
     have K := K.trans hR (by simp)
     refine jk (jn (jv4 0 3 4 5 ?_))
     refine js (js ?_)
     refine VC.split1 [(0, _), (3, _), (5, _)] (js3 rfl rfl rfl) 44 (.bool (decide (gap = true ∧ t ≠ []))) ?_ ?_
     ·
      refine jr ?_
      refine jm ?_
      by_cases hs40 : gap = true
      ·
       refine jm ?_
       refine jg ?_
       refine Ops.rg rfl au (Run.neqT rfl rfl) rfl ?_
       by_cases hs43 : t ≠ []
       ·
        refine Ops.r (Run.pickT rfl rfl au) rfl ?_
        refine jo ?_
        refine jn ⟨(js4 (jc (by simp [*])) rfl rfl rfl), rfl⟩
       ·
        refine Ops.r (Run.pickT rfl rfl au) rfl ?_
        refine jo ?_
        refine jn ⟨(js4 (jc (by simp [*])) rfl rfl rfl), rfl⟩
      ·
       refine jm ?_
       refine ju ?_
       refine ju ?_
       refine Ops.r (Run.pickF rfl rfl au) rfl ?_
       refine jo ?_
       refine jn ⟨(js4 (jc (by simp [*])) rfl rfl rfl), rfl⟩
     ·
      intro Γ hΓ
      refine jn (VC.sub _ hΓ ?_)
      refine VC.meet (σ := Unit) (fun s => [(0, .slice A l.length c), (3, encStr (if gap = true ∧ t ≠ [] then t ++ [32] else t)), (5, .int .i64 ((i : Nat) : Int))]) (fun s wr => wR = wr) ?_ ?_
      ·
       refine VC.condD rfl (fun hc3 => ?_) (fun hc3 => ?_)
       ·
        refine jr (jm ?_)
        refine Ops.r (Run.addT (b := [32]) rfl rfl (by simp; omega)) rfl ?_
        refine ja ?_
        refine jo ?_
        refine jn ⟨(), (js3 rfl (by rw [if_pos hc3]; rfl) rfl), ?_⟩
        exact rfl
       ·
        refine jk ?_
        refine jn ⟨(), (js3 rfl (by rw [if_neg hc3]; rfl) rfl), ?_⟩
        exact rfl
      ·
       rintro _ _ rfl Γ hΓ
       have htl : (if gap = true ∧ t ≠ [] then t ++ [32] else t).length ≤ 2 * i + 1 := by
        split
        ·
         simp; omega
        ·
         omega
       generalize (if gap = true ∧ t ≠ [] then t ++ [32] else t) = t3 at *
       have hcell := hcw _ K
       refine jn (VC.sub _ hΓ ?_)
       refine js (jr (ja ?_))
       refine jo (jn (jr (jm ?_)))
       refine jm ?_
       refine jm ?_
       refine Ops.r (Run.indexS i (by rw [← hAe]; rfl) rfl Tryz.underlying127 Tryz.sizeOf130 hc1) rfl ?_
       refine Ops.r (Run.fieldAddr rfl Tryz.underlying130 rfl Tryz.sizeOf5 (by decide)) rfl ?_
       refine Ops.r (Run.load rfl Tryz.isAgg5 (hcell 0 _ rfl)) rfl ?_
       refine Ops.m (Does.buildS1 rfl Tryz.underlying22 Tryz.sizeOf5 zero5 (by decide) (by decide) rfl rfl) rfl ?_
       rintro _ w7 ⟨rfl, hF7⟩
       have hr53 : Rd w7 1 (some ⟨_, 0, none⟩) 1 (U8 [x.c]) := Rd.of_blk (n := 1) (size := 1) hF7.blk rfl
       have K := K.trans hF7.frm (by simp)
       refine Ops.r (Run.strOfT rfl Tryz.underlying22 Tryz.underlying5 Tryz.underlying9 hr53) rfl ?_
       refine Ops.r (Run.addT rfl rfl (by simp; omega)) rfl ?_
       refine ja ?_
       refine jo ?_
       refine blockQ_n (jn ⟨(false, t3 ++ [x.c]), (js4 rfl rfl rfl rfl), ?_⟩)
       exact ⟨hs', by simp; omega, K⟩
  ·
   rintro ⟨gap2, t2⟩ wr2 ⟨hs2, ht2, K2⟩ Γ hΓ
   dsimp only at hs2 ht2
   refine jn (VC.sub _ hΓ ?_)
   refine jr (jm ?_)
   refine Ops.r (Run.bin rfl rfl (Bin.add_i64 _ 1 (by omega))) rfl ?_
   refine ja ?_
   refine jo ?_
   refine jn ⟨(i + 1, gap2, t2), (js4 rfl rfl rfl rfl), ?_, ?_⟩
   ·
    exact ⟨hc1, hs2, ht2, K2⟩
   ·
    first | omega | (dsimp only; omega)
 ·
  rw [List.drop_of_length_le (by omega)] at hs
  have hs : t = sayS false [] l := hs
  refine jx ?_
  refine thenQ_x (thenQ_x (blockQ_x ?_))
  refine jn (jv1 3 ?_)
  refine js (jr (jm ?_))
  refine ja ?_
  refine jo (jn (jv1 2 ?_))
  refine jt ?_
  refine end1 rfl ?_
  exact ⟨by rw [← hs], K⟩
end Go.Proofs.YtenbjndldenkfaaGreatDoor
namespace Go.Proofs.YtenbjndldenkfaaGreatDoor
open Go.RowKit Go.Sort
abbrev Pw := List Sg × Option Addr × Nat
def RW (l : List Pw) : List Value := l.map fun y => .slice y.2.1 y.1.length y.2.2
theorem RW_len (l : List Pw) : (RW l).length = l.length := by simp [RW]
theorem RW_one (l : List Pw) : ∀ u ∈ RW l, u.oneCell' = true := by
 intro u hu
 obtain ⟨y, _, rfl⟩ := List.mem_map.1 hu
 rfl
theorem RW_append (a b : List Pw) : RW (a ++ b) = RW a ++ RW b := by simp [RW]
theorem RW_at {w : World} {A : Option Addr} {l : List Pw} {k : Nat} (h : Rd w 1 A l.length (RW l)) (hk : k < l.length) : ∃ ad, A = some ad ∧ w.cell? (ad.add (k * 1)) = some (.slice l[k].2.1 l[k].1.length l[k].2.2) := by
 obtain ⟨ad, rfl, hlt, hc⟩ := h.2 (by omega)
 refine ⟨ad, rfl, ?_⟩
 rw [Nat.mul_one]
 exact hc k _ (by simp [RW, List.getElem?_eq_getElem hk])
theorem RW_set (t : List Pw) (x y : Pw) : (RW (t ++ [x])).set t.length (.slice y.2.1 y.1.length y.2.2) = RW (t ++ [y]) := by
 rw [RW_append, RW_append, ← RW_len t, List.set_append_right _ _ (Nat.le_refl _), Nat.sub_self]
 rfl
def PWo (w : World) (l : List Pw) : Prop := ∀ y ∈ l, Own w 130 5 y.2.1 y.1.length y.2.2 (SG y.1)
theorem PWo.frm0 {w w' : World} {l : List Pw} (h : PWo w l) (k : Frm [] w w') : PWo w' l := fun y hy => (h y hy).frm k (by simp)
theorem PWo.frm {w w' : World} {S : List Nat} {l : List Pw} (h : PWo w l) (k : Frm S w w') (hS : ∀ y ∈ l, ∀ b ∈ ob y.2.1, b ∉ S) : PWo w' l := fun y hy => (h y hy).frm k (hS y hy)
theorem PWo.own {w w' : World} {l : List Pw} {e size n c : Nat} {A : Option Addr} {xs : List Value} (h : PWo w l) (k : Frm (ob A) w w') (ho : Own w e size A n c xs) (hne : 130 ≠ e) : PWo w' l := fun y hy => (h y hy).frm k (fun b hb => (h y hy).ne_own ho hne b hb)
def angS (x : Sg) (ang : Bool) : Bool := if x.Pl ∧ x.c = 62 then false else if x.Pl ∧ x.c = 60 then true else ang
theorem cut_yes {ang : Bool} {cur : List Sg} {x : Sg} {r : List Sg} (h : (x.Pl ∧ x.c = 44) ∧ angS x ang = false) : cutS ang cur (x :: r) = cur :: cutS (angS x ang) [] r := by
 rw [cutS]
 exact if_pos h
theorem cut_no {ang : Bool} {cur : List Sg} {x : Sg} {r : List Sg} (h : ¬ ((x.Pl ∧ x.c = 44) ∧ angS x ang = false)) : cutS ang cur (x :: r) = cutS (angS x ang) (cur ++ [x]) r := by
 rw [cutS]
 exact if_neg h
theorem cutS_count : ∀ (l : List Sg) (ang : Bool) (cur : List Sg), (cutS ang cur l).length ≤ l.length + 1 ∧ ∀ p ∈ cutS ang cur l, p.length ≤ cur.length + l.length
 | [], ang, cur => ⟨Nat.le_refl _, fun p hp => by
  have hp : p ∈ [cur] := hp
  simp only [List.mem_singleton] at hp
  subst hp
  exact Nat.le_refl _⟩
 | x :: r, ang, cur => by
  by_cases h : (x.Pl ∧ x.c = 44) ∧ angS x ang = false
  ·
   rw [cut_yes h]
   obtain ⟨h1, h2⟩ := cutS_count r (angS x ang) []
   refine ⟨by simp only [List.length_cons]; omega, fun p hp => ?_⟩
   rcases List.mem_cons.1 hp with rfl | hp
   ·
    simp
   ·
    have := h2 p hp; simp only [List.length_cons, List.length_nil] at this ⊢; omega
  ·
   rw [cut_no h]
   obtain ⟨h1, h2⟩ := cutS_count r (angS x ang) (cur ++ [x])
   refine ⟨by simp only [List.length_cons]; omega, fun p hp => ?_⟩
   have := h2 p hp
   simp only [List.length_cons, List.length_append, List.length_nil] at this ⊢
   omega
set_option maxRecDepth 100000 in
set_option maxHeartbeats 3200000 in
theorem rcut18_spec (A : Option Addr) (c : Nat) (l : List Sg) (w : World) (hrd : Rd w 5 A l.length (SG l)) (hl : l.length ≤ 1000000) : Calls Tryz.prog 98 #[.slice A l.length c] w fun e w' => Frm [] w w' ∧ ∃ (ps : List Pw) (OA : Option Addr) (oc : Nat), ps.map (·.1) = cutS false [] l ∧ e = .returned (.slice OA ps.length oc) ∧ Own w' 127 1 OA ps.length oc (RW ps) ∧ PWo w' ps := by
 have K := Frm.refl [] w
 refine VC.calls (nt := 77) (res := #[.tmp 2]) Tryz.func98 rfl Tryz.ntmps98 Tryz.results98 rfl ?_
 refine js (jr (ja ?_))
 refine jo (jn (jv1 0 ?_))
 refine js (jr ?_)
 refine Ops.m (Does.buildS1 rfl Tryz.underlying125 Tryz.sizeOf127 zero127 (by decide) (by decide) rfl rfl) rfl ?_
 rintro _ w1 ⟨rfl, hF1⟩
 have hO0 : Own w1 127 1 (some ⟨w.heap.size, 0, none⟩) 1 1 (RW ([([], none, 0)] : List Pw)) := Own.of_blk (n := 1) (size := 1) hF1.blk rfl (by decide)
 have K := K.trans hF1.frm (by simp)
 refine ja ?_
 refine jo (jn (jv2 0 3 ?_))
 refine js (jr (ja ?_))
 refine jo (jn (js (js (jr ?_))))
 refine Ops.r (v := .int .i64 ((0 : Nat) : Int)) (Run.asg rfl) rfl ?_
 refine jo (jn (jb ?_))
 refine VC.loop (σ := Nat × Bool × List Pw × List Sg × Option Addr × Nat × Option Addr × Nat) (fun s => [(0, .slice A l.length c), (3, .slice s.2.2.2.2.2.2.1 ((s.2.2.1 ++ [(s.2.2.2.1, s.2.2.2.2.1, s.2.2.2.2.2.1)]) : List Pw).length s.2.2.2.2.2.2.2), (4, .bool s.2.1), (5, .int .i64 ((s.1 : Nat) : Int))]) (fun s wr => s.1 ≤ l.length ∧ s.2.2.1.map (·.1) ++ cutS s.2.1 s.2.2.2.1 (l.drop s.1) = cutS false [] l ∧ s.2.2.1.length ≤ s.1 ∧ s.2.2.2.1.length ≤ s.1 ∧ Own wr 127 1 s.2.2.2.2.2.2.1 (s.2.2.1 ++ [(s.2.2.2.1, s.2.2.2.2.1, s.2.2.2.2.2.1)]).length s.2.2.2.2.2.2.2 (RW (s.2.2.1 ++ [(s.2.2.2.1, s.2.2.2.2.1, s.2.2.2.2.2.1)])) ∧ PWo wr (s.2.2.1 ++ [(s.2.2.2.1, s.2.2.2.2.1, s.2.2.2.2.2.1)]) ∧ (∀ y ∈ s.2.2.1, ∀ b ∈ ob y.2.1, b ∉ ob s.2.2.2.2.1) ∧ Frm [] w wr ∧ (∀ y ∈ ob s.2.2.2.2.2.2.1, w.heap.size ≤ y) ∧ ∀ y ∈ s.2.2.1 ++ [(s.2.2.2.1, s.2.2.2.2.1, s.2.2.2.2.2.1)], ∀ b ∈ ob y.2.1, w.heap.size ≤ b) (fun s => l.length - s.1) (0, false, [], [], none, 0, some ⟨w.heap.size, 0, none⟩, 1) (js4 rfl rfl rfl rfl) ⟨Nat.zero_le _, rfl, Nat.le_refl _, Nat.le_refl _, hO0, (fun y hy => by simp only [List.nil_append, List.mem_singleton] at hy; subst hy; exact Own.nil _ _ _), (by simp), K, (by simp [ob]), (by simp [ob])⟩ ?_
 rintro ⟨i, ang, init, cur, CA, cc, OA, oc⟩ wr ⟨hi, hs, hil, hcl, hO, hP, hdj, K, hubO, hubP⟩
 dsimp only at hi hs hil hcl hO hP hdj hubO hubP ⊢
 refine js (js (jr (jm ?_)))
 refine jm ?_
 refine Ops.r (Run.lenS rfl Tryz.underlying127) rfl ?_
 refine Ops.r (Run.bin rfl rfl (Bin.lssN _ _)) rfl ?_
 refine jo (jn (jv5 0 3 4 5 10 ?_))
 refine VC.condD rfl (fun hc1 => ?_) (fun hc1 => ?_)
 ·
  obtain ⟨ad, hAe, hcell⟩ := SG_at (hrd.frm K (by simp)) hc1
  have hcw : ∀ W, Frm [] w W → ∀ j v, (SG1 l[i])[j]? = some v → W.cell? ((ad.add (i * 5)).add j) = some v := fun W hW => by
   obtain ⟨ad2, h2, hc2⟩ := SG_at (hrd.frm hW (by simp)) hc1
   cases hAe.symm.trans h2
   exact hc2
  have hdl := List.drop_eq_getElem_cons hc1
  rw [hdl] at hs
  generalize hxe : l[i] = x at *
  have e60 : x.c.toNat = 60 ↔ x.c = 60 := u8n rfl
  have e62 : x.c.toNat = 62 ↔ x.c = 62 := u8n rfl
  have e44 : x.c.toNat = 44 ↔ x.c = 44 := u8n rfl
  refine jk (jn (jv4 0 3 4 5 ?_))
  refine js (jb (js (js ?_)))
  refine VC.splitR [(0, .slice A l.length c), (3, .slice OA ((init ++ [(cur, CA, cc)]) : List Pw).length oc), (4, .bool ang), (5, .int .i64 ((i : Nat) : Int))] (Frm [] wr) 25 (.bool (decide (x.Pl ∧ x.c.toNat = 60))) ?_ ?_
  ·
   refine jr ?_
   refine jm ?_
   refine jm ?_
   refine Ops.r (Run.indexS i (by rw [← hAe]; rfl) rfl Tryz.underlying127 Tryz.sizeOf130 hc1) rfl ?_
   refine Ops.r (Run.loadA rfl Tryz.isAgg130 Tryz.sizeOf130 hcell (by first | rfl | (simp; done))) rfl ?_
   refine Ops.cl (Enters.fn (evs.cons rfl evs.nil) Tryz.call100) ((rplain_spec x _)) rfl ?_
   rintro e w5 ⟨rfl, fw5⟩
   refine ⟨_, rfl, ?_⟩
   have hcell := hcw _ (K.trans fw5 (by simp))
   by_cases hs17 : x.Pl
   ·
    refine jm ?_
    refine jg ?_
    refine jg ?_
    refine Ops.rg rfl au (Run.indexS i (by rw [← hAe]; rfl) rfl Tryz.underlying127 Tryz.sizeOf130 hc1) rfl ?_
    refine Ops.rg rfl au (Run.fieldAddr rfl Tryz.underlying130 rfl Tryz.sizeOf5 (by decide)) rfl ?_
    refine Ops.rg rfl au (Run.load rfl Tryz.isAgg5 (hcell 0 _ rfl)) rfl ?_
    refine Ops.rg rfl au (Run.bin rfl rfl (Bin.eqlN _ 60)) rfl ?_
    by_cases hs24 : x.c.toNat = 60
    ·
     refine Ops.r (Run.pickT rfl rfl au) rfl ?_
     refine jo ?_
     refine jn ⟨(js5 (jc (by first | (simp [hs17]; done) | simp [hs17, hs24])) rfl rfl rfl rfl), ((by first | exact Frm.refl _ _ | exact fw5))⟩
    ·
     refine Ops.r (Run.pickT rfl rfl au) rfl ?_
     refine jo ?_
     refine jn ⟨(js5 (jc (by first | (simp [hs17]; done) | simp [hs17, hs24])) rfl rfl rfl rfl), ((by first | exact Frm.refl _ _ | exact fw5))⟩
   ·
    refine jm ?_
    refine ju ?_
    refine ju ?_
    refine ju ?_
    refine ju ?_
    refine ju ?_
    refine ju ?_
    refine Ops.r (Run.pickF rfl rfl au) rfl ?_
    refine jo ?_
    refine jn ⟨(js5 (jc (by first | (simp [hs17]; done) | simp [hs17, hs24])) rfl rfl rfl rfl), ((by first | exact Frm.refl _ _ | exact fw5))⟩
  ·
   intro Γ wR hΓ hR
   refine jn (VC.sub _ hΓ ?_)
   refine VC.meet (σ := Unit) (fun s => [(0, .slice A l.length c), (3, .slice OA ((init ++ [(cur, CA, cc)]) : List Pw).length oc), (4, .bool (if x.Pl ∧ x.c = 60 then true else ang)), (5, .int .i64 ((i : Nat) : Int))]) (fun s wz => Frm [] wr wz) ?_ ?_
   ·
    refine VC.condD rfl (fun hc2 => ?_) (fun hc2 => ?_)
    ·
     have ha2 : (if x.Pl ∧ x.c = 60 then true else ang) = true := if_pos ⟨hc2.1, e60.1 hc2.2⟩
     refine jr (ja ?_)
     refine jo ?_
     refine jn ⟨(), (js4 rfl rfl (by rw [ha2]; rfl) rfl), ?_⟩
     exact hR
    ·
     have ha2 : (if x.Pl ∧ x.c = 60 then true else ang) = ang := if_neg (fun h => hc2 ⟨h.1, e60.2 h.2⟩)
     refine jk ?_
     refine jn ⟨(), (js4 rfl rfl (by rw [ha2]; rfl) rfl), ?_⟩
     exact hR
   ·
    rintro _ wz f8 Γ hΓ
    have hO := hO.frm f8 (by simp)
    have hP := hP.frm0 f8
    have K := K.trans f8 (by simp)
    have hcell := hcw _ K
    refine jn (VC.sub _ hΓ ?_)
    refine js (js ?_)
    refine VC.splitR [(0, .slice A l.length c), (3, .slice OA ((init ++ [(cur, CA, cc)]) : List Pw).length oc), (4, .bool (if x.Pl ∧ x.c = 60 then true else ang)), (5, .int .i64 ((i : Nat) : Int))] (Frm [] wz) 38 (.bool (decide (x.Pl ∧ x.c.toNat = 62))) ?_ ?_
    ·
     refine jr ?_
     refine jm ?_
     refine jm ?_
     refine Ops.r (Run.indexS i (by rw [← hAe]; rfl) rfl Tryz.underlying127 Tryz.sizeOf130 hc1) rfl ?_
     refine Ops.r (Run.loadA rfl Tryz.isAgg130 Tryz.sizeOf130 hcell (by first | rfl | (simp; done))) rfl ?_
     refine Ops.cl (Enters.fn (evs.cons rfl evs.nil) Tryz.call100) ((rplain_spec x _)) rfl ?_
     rintro e w6 ⟨rfl, fw6⟩
     refine ⟨_, rfl, ?_⟩
     have hcell := hcw _ (K.trans fw6 (by simp))
     by_cases hs30 : x.Pl
     ·
      refine jm ?_
      refine jg ?_
      refine jg ?_
      refine Ops.rg rfl au (Run.indexS i (by rw [← hAe]; rfl) rfl Tryz.underlying127 Tryz.sizeOf130 hc1) rfl ?_
      refine Ops.rg rfl au (Run.fieldAddr rfl Tryz.underlying130 rfl Tryz.sizeOf5 (by decide)) rfl ?_
      refine Ops.rg rfl au (Run.load rfl Tryz.isAgg5 (hcell 0 _ rfl)) rfl ?_
      refine Ops.rg rfl au (Run.bin rfl rfl (Bin.eqlN _ 62)) rfl ?_
      by_cases hs37 : x.c.toNat = 62
      ·
       refine Ops.r (Run.pickT rfl rfl au) rfl ?_
       refine jo ?_
       refine jn ⟨(js5 (jc (by first | (simp [hs30]; done) | simp [hs30, hs37])) rfl rfl rfl rfl), ((by first | exact Frm.refl _ _ | exact fw6))⟩
      ·
       refine Ops.r (Run.pickT rfl rfl au) rfl ?_
       refine jo ?_
       refine jn ⟨(js5 (jc (by first | (simp [hs30]; done) | simp [hs30, hs37])) rfl rfl rfl rfl), ((by first | exact Frm.refl _ _ | exact fw6))⟩
     ·
      refine jm ?_
      refine ju ?_
      refine ju ?_
      refine ju ?_
      refine ju ?_
      refine ju ?_
      refine ju ?_
      refine Ops.r (Run.pickF rfl rfl au) rfl ?_
      refine jo ?_
      refine jn ⟨(js5 (jc (by first | (simp [hs30]; done) | simp [hs30, hs37])) rfl rfl rfl rfl), ((by first | exact Frm.refl _ _ | exact fw6))⟩
    ·
     intro Γ wR hΓ hR
     refine jn (VC.sub _ hΓ ?_)
     refine VC.meet (σ := Unit) (fun s => [(0, .slice A l.length c), (3, .slice OA ((init ++ [(cur, CA, cc)]) : List Pw).length oc), (4, .bool (angS x ang)), (5, .int .i64 ((i : Nat) : Int))]) (fun s wy => Frm [] wz wy) ?_ ?_
     ·
      refine VC.condD rfl (fun hc3 => ?_) (fun hc3 => ?_)
      ·
       have ha3 : angS x ang = false := if_pos ⟨hc3.1, e62.1 hc3.2⟩
       refine jr (ja ?_)
       refine jo ?_
       refine jn ⟨(), (js4 rfl rfl (by rw [ha3]; rfl) rfl), ?_⟩
       exact hR
      ·
       have ha3 : angS x ang = (if x.Pl ∧ x.c = 60 then true else ang) := if_neg (fun h => hc3 ⟨h.1, e62.2 h.2⟩)
       refine jk ?_
       refine jn ⟨(), (js4 rfl rfl (by rw [ha3]; rfl) rfl), ?_⟩
       exact hR
     ·
      rintro _ wy f9 Γ hΓ
      have hO := hO.frm f9 (by simp)
      have hP := hP.frm0 f9
      have K := K.trans f9 (by simp)
      have hcell := hcw _ K
      refine jn (VC.sub _ hΓ ?_)
      refine js ?_
      refine VC.splitR [(0, .slice A l.length c), (3, .slice OA ((init ++ [(cur, CA, cc)]) : List Pw).length oc), (4, .bool (angS x ang)), (5, .int .i64 ((i : Nat) : Int))] (Frm [] wy) 55 (.bool (decide ((x.Pl ∧ x.c.toNat = 44) ∧ angS x ang = false))) ?_ ?_
      ·
       refine jr ?_
       refine jm ?_
       refine jm ?_
       refine Ops.r (Run.indexS i (by rw [← hAe]; rfl) rfl Tryz.underlying127 Tryz.sizeOf130 hc1) rfl ?_
       refine Ops.r (Run.loadA rfl Tryz.isAgg130 Tryz.sizeOf130 hcell (by first | rfl | (simp; done))) rfl ?_
       refine Ops.cl (Enters.fn (evs.cons rfl evs.nil) Tryz.call100) ((rplain_spec x _)) rfl ?_
       rintro e w7 ⟨rfl, fw7⟩
       refine ⟨_, rfl, ?_⟩
       have hcell := hcw _ (K.trans fw7 (by simp))
       by_cases hs43 : x.Pl
       ·
        refine jm ?_
        refine jg ?_
        refine jg ?_
        refine Ops.rg rfl au (Run.indexS i (by rw [← hAe]; rfl) rfl Tryz.underlying127 Tryz.sizeOf130 hc1) rfl ?_
        refine Ops.rg rfl au (Run.fieldAddr rfl Tryz.underlying130 rfl Tryz.sizeOf5 (by decide)) rfl ?_
        refine Ops.rg rfl au (Run.load rfl Tryz.isAgg5 (hcell 0 _ rfl)) rfl ?_
        refine Ops.rg rfl au (Run.bin rfl rfl (Bin.eqlN _ 44)) rfl ?_
        by_cases hs50 : x.c.toNat = 44
        ·
         refine Ops.r (Run.pickT rfl rfl au) rfl ?_
         refine jm ?_
         refine jg ?_
         refine Ops.rg rfl au (Run.not rfl) rfl ?_
         rw [show (!angS x ang) = decide (angS x ang = false) by cases angS x ang <;> rfl]
         by_cases hs54 : angS x ang = false
         ·
          refine Ops.r (Run.pickT rfl rfl au) rfl ?_
          refine jo ?_
          refine jn ⟨(js5 (jc (by first | (simp [hs43]; done) | (simp [hs43, hs50]; done) | simp [hs43, hs50, hs54])) rfl rfl rfl rfl), ((by first | exact Frm.refl _ _ | exact fw7))⟩
         ·
          refine Ops.r (Run.pickT rfl rfl au) rfl ?_
          refine jo ?_
          refine jn ⟨(js5 (jc (by first | (simp [hs43]; done) | (simp [hs43, hs50]; done) | simp [hs43, hs50, hs54])) rfl rfl rfl rfl), ((by first | exact Frm.refl _ _ | exact fw7))⟩
        ·
         refine Ops.r (Run.pickT rfl rfl au) rfl ?_
         refine jm ?_
         refine ju ?_
         refine ju ?_
         refine Ops.r (Run.pickF rfl rfl au) rfl ?_
         refine jo ?_
         refine jn ⟨(js5 (jc (by first | (simp [hs43]; done) | (simp [hs43, hs50]; done) | simp [hs43, hs50, hs54])) rfl rfl rfl rfl), ((by first | exact Frm.refl _ _ | exact fw7))⟩
       ·
        refine jm ?_
        refine ju ?_
        refine ju ?_
        refine ju ?_
        refine ju ?_
        refine ju ?_
        refine ju ?_
        refine Ops.r (Run.pickF rfl rfl au) rfl ?_
        refine jm ?_
        refine ju ?_
        refine ju ?_
        refine Ops.r (Run.pickF rfl rfl au) rfl ?_
        refine jo ?_
        refine jn ⟨(js5 (jc (by first | (simp [hs43]; done) | (simp [hs43, hs50]; done) | simp [hs43, hs50, hs54])) rfl rfl rfl rfl), ((by first | exact Frm.refl _ _ | exact fw7))⟩
      ·
       intro Γ wR hΓ hR
       refine jn (VC.sub _ hΓ ?_)
       refine VC.meet (σ := List Pw × List Sg × Option Addr × Nat × Option Addr × Nat) (fun s => [(0, .slice A l.length c), (3, .slice s.2.2.2.2.1 ((s.1 ++ [(s.2.1, s.2.2.1, s.2.2.2.1)]) : List Pw).length s.2.2.2.2.2), (4, .bool (angS x ang)), (5, .int .i64 ((i : Nat) : Int))]) (fun s wq => s.1.map (·.1) ++ cutS (angS x ang) s.2.1 (l.drop (i + 1)) = cutS false [] l ∧ s.1.length ≤ (i + 1) ∧ s.2.1.length ≤ (i + 1) ∧ Own wq 127 1 s.2.2.2.2.1 (s.1 ++ [(s.2.1, s.2.2.1, s.2.2.2.1)]).length s.2.2.2.2.2 (RW (s.1 ++ [(s.2.1, s.2.2.1, s.2.2.2.1)])) ∧ PWo wq (s.1 ++ [(s.2.1, s.2.2.1, s.2.2.2.1)]) ∧ (∀ y ∈ s.1, ∀ b ∈ ob y.2.1, b ∉ ob s.2.2.1) ∧ Frm [] w wq ∧ (∀ y ∈ ob s.2.2.2.2.1, w.heap.size ≤ y) ∧ ∀ y ∈ s.1 ++ [(s.2.1, s.2.2.1, s.2.2.2.1)], ∀ b ∈ ob y.2.1, w.heap.size ≤ b) ?_ ?_
       ·
        refine VC.condD rfl (fun hc4 => ?_) (fun hc4 => ?_)
        ·
         have hO := hO.frm hR (by simp)
         have hP := hP.frm0 hR
         have K := K.trans hR (by simp)
         have hcell := hcw _ K
         have hlol : (init ++ [(cur, CA, cc)]).length = init.length + 1 := by simp
         rw [cut_yes ⟨⟨hc4.1.1, e44.1 hc4.1.2⟩, hc4.2⟩] at hs
         refine jr (jm ?_)
         refine Ops.m (Does.buildS1 rfl Tryz.underlying125 Tryz.sizeOf127 zero127 (by decide) (by decide) rfl rfl) rfl ?_
         rintro _ w11 ⟨rfl, hF11⟩
         have hr11 : Rd w11 1 (some ⟨_, 0, none⟩) 1 (RW [([], none, 0)]) := Rd.of_blk (n := 1) (size := 1) hF11.blk rfl
         have hO := hO.frm hF11.frm (by simp)
         have hP := hP.frm0 hF11.frm
         have K := K.trans hF11.frm (by simp)
         refine Ops.m (Does.app rfl rfl Tryz.underlying125 (info127) rfl (by decide) hO hr11 (RW_one _) (by omega) (by omega)) rfl ?_
         rintro _ w12 ⟨A12, c12, rfl, hO12, f12, hob12⟩
         have sK := K.size
         have hP := hP.own f12 hO (by decide)
         have K := Frm.own K f12 hubO
         have hO12 : Own w12 127 1 A12 ((init ++ [(cur, CA, cc)]) ++ [(([], none, 0) : Pw)]).length c12 (RW ((init ++ [(cur, CA, cc)]) ++ [([], none, 0)])) := by rw [RW_append, List.length_append]; exact hO12
         have hP12 : PWo w12 ((init ++ [(cur, CA, cc)]) ++ [([], none, 0)]) := fun y hy => by
          rcases List.mem_append.1 hy with h | h
          ·
           exact hP y h
          ·
           simp only [List.mem_singleton] at h; subst h; exact Own.nil _ _ _
         have hub12 : ∀ y ∈ (init ++ [(cur, CA, cc)]) ++ [(([], none, 0) : Pw)], ∀ b ∈ ob y.2.1, w.heap.size ≤ b := fun y hy => by
          rcases List.mem_append.1 hy with h | h
          ·
           exact hubP y h
          ·
           simp only [List.mem_singleton] at h; subst h; simp [ob]
         refine ja ?_
         refine jo ?_
         refine jn ⟨(init ++ [(cur, CA, cc)], [], none, 0, A12, c12), (js4 rfl (by rw [show ((init ++ [(cur, CA, cc)]) ++ [(([], none, 0) : Pw)]).length = (init ++ [(cur, CA, cc)]).length + 1 from List.length_append]; rfl) rfl rfl), ?_⟩
         exact ⟨by rw [List.map_append, List.append_assoc]; exact hs, by simp; omega, Nat.zero_le _, hO12, hP12, by simp [ob], K, up_app hubO hob12 sK, hub12⟩
        ·
         have hO := hO.frm hR (by simp)
         have hP := hP.frm0 hR
         have K := K.trans hR (by simp)
         have hcell := hcw _ K
         have hlol : (init ++ [(cur, CA, cc)]).length = init.length + 1 := by simp
         rw [cut_no (fun h => hc4 ⟨⟨h.1.1, e44.2 h.1.2⟩, h.2⟩)] at hs
         obtain ⟨adO, hOe, _⟩ := RW_at hO.rd (k := init.length) (by simp)
         subst hOe
         have hCur : Own wR 130 5 CA cur.length cc (SG cur) := hP (cur, CA, cc) (by simp)
         have hIni : PWo wR init := fun y hy => hP y (by simp [hy])
         have hubC : ∀ b ∈ ob CA, w.heap.size ≤ b := hubP (cur, CA, cc) (by simp)
         have hA : ∀ b ∈ ob A, b < w.heap.size := fun b hb => hrd.lt (by omega) b hb
         have hrow : ∀ W, Frm (ob CA) wR W → W.cell? (adO.add (init.length * 1)) = some (.slice CA cur.length cc) := fun W hW => by
          obtain ⟨ad2, h2, hc2_⟩ := RW_at (hO.rd.frm hW (fun _ b hb h => hO.ne_own hCur (by decide) b hb h)) (k := init.length) (by simp)
          cases h2
          rw [show (init ++ [(cur, CA, cc)])[init.length]'(by simp) = (cur, CA, cc) from List.getElem_concat_length rfl _] at hc2_
          exact hc2_
         have hcwC : ∀ W, Frm (ob CA) wR W → ∀ j v, (SG1 x)[j]? = some v → W.cell? ((ad.add (i * 5)).add j) = some v := fun W hW j v hj => by
          obtain ⟨ad2, h2, hc2_⟩ := SG_at ((hrd.frm K (by simp)).frm hW (fun _ b hb h => by have := hA b hb; have := hubC b h; omega)) hc1
          cases hAe.symm.trans h2
          exact hc2_ j v (by rw [hxe]; exact hj)
         have hCur0 := hCur
         refine VC.heldL 17 (fun W => Frm (ob CA) wR W) jK ?_
         have hS : Frm (ob CA) wR wR.drew := (Frm.refl _ _).drew
         have hCur := hCur.drawn (Drawn.drew _)
         refine jh 0 rfl hS (fun w0 hw0 => Run.mv rfl) ?_
         refine jh 1 rfl hS (fun w0 hw0 => Run.mv rfl) ?_
         refine jh 2 rfl hS (fun w0 hw0 => Run.lenS rfl Tryz.underlying125) ?_
         refine jh 3 rfl hS (fun w0 hw0 => Run.bin rfl rfl (Bin.sub_i64 _ 1 (by omega) (by omega))) ?_
         rw [show (init ++ [(cur, CA, cc)]).length - 1 = init.length by omega]
         refine jh 4 rfl hS (fun w0 hw0 => Run.mv rfl) ?_
         refine jh 5 rfl hS (fun w0 hw0 => Run.mv rfl) ?_
         refine jh 6 rfl hS (fun w0 hw0 => Run.lenS rfl Tryz.underlying125) ?_
         refine jh 7 rfl hS (fun w0 hw0 => Run.bin rfl rfl (Bin.sub_i64 _ 1 (by omega) (by omega))) ?_
         rw [show (init ++ [(cur, CA, cc)]).length - 1 = init.length by omega]
         refine jh 8 rfl hS (fun w0 hw0 => Run.indexS init.length rfl rfl Tryz.underlying125 Tryz.sizeOf127 (by simp)) ?_
         refine jh 9 rfl hS (fun w0 hw0 => Run.load rfl Tryz.isAgg127 (hrow _ (by first | exact hw0 | exact hS))) ?_
         refine jh 10 rfl hS (fun w0 hw0 => Run.mv rfl) ?_
         refine HOps.r1 11 rfl jK hS (Run.mv rfl) trivial rfl rfl ?_
         refine HOps.r1 12 rfl jK hS (Run.indexS i (by rw [← hAe]; rfl) rfl Tryz.underlying127 Tryz.sizeOf130 hc1) trivial rfl rfl ?_
         refine HOps.r1 13 rfl jK hS (Run.loadA rfl Tryz.isAgg130 Tryz.sizeOf130 (hcwC _ (by first | exact hw0 | exact hS)) (by first | rfl | (simp; done))) trivial rfl rfl ?_
         refine HOps.m 14 rfl jK (Does.buildS1 rfl Tryz.underlying127 Tryz.sizeOf130 zero130 (by decide) (by decide) rfl rfl) trivial rfl rfl ?_
         rintro _ w13 ⟨rfl, hF13⟩
         have hr13 := hrdSg (x := x) hF13
         have hS := hS.trans hF13.frm (by simp)
         have hCur := hCur.frm hF13.frm (by simp)
         refine ⟨hS, ?_⟩
         refine HOps.m 15 rfl jK (Does.app rfl rfl Tryz.underlying127 (info130) rfl (by decide) hCur hr13 (SG_one _) (by omega) (by omega)) trivial rfl rfl ?_
         rintro _ w14 ⟨A14, c14, rfl, hC14, f14, hob14⟩
         have sz13 := (Frm.own K hS hubC).size
         have hI13 := hIni.frm hS (fun y hy b hb => hdj y hy b hb)
         have hI13l : ∀ y ∈ init, ∀ b ∈ ob y.2.1, b < w13.heap.size := fun y hy b hb => (hI13 y hy).lt b hb
         have hS := hS.trans f14 (fun b h => .inl h)
         have hO14 := hO.frm hS (fun b hb h => hO.ne_own hCur0 (by decide) b hb h)
         have hI14 := hI13.frm f14 (fun y hy b hb => hdj y hy b hb)
         have K14 := Frm.own K hS hubC
         have hC14 : Own w14 130 5 A14 (cur ++ [x]).length c14 (SG (cur ++ [x])) := by rw [SG_append, List.length_append]; exact hC14
         refine ⟨hS, ?_⟩
         refine HOps.r1 16 rfl jK hS (Run.indexS init.length rfl rfl Tryz.underlying125 Tryz.sizeOf127 (by simp)) trivial rfl rfl ?_
         refine HOps.stL rfl jK (Acts.storeOwn init.length (congrArg (fun n => some (Value.pointer (some (adO.add n)))) (Nat.mul_one init.length)) rfl Tryz.sizeOf127 hO14 rfl (by simp) rfl) trivial rfl ?_
         rintro w15 ⟨hO15, f15, _⟩
         have hC15 := hC14.frm f15 (fun b hb h => hC14.ne_own hO14 (by decide) b hb h)
         have hI15 := hI14.own f15 hO14 (by decide)
         have K15 := Frm.own K14 f15 hubO
         have hO15 : Own w15 127 1 (some adO) (init ++ [((cur ++ [x], A14, c14) : Pw)]).length oc (RW (init ++ [(cur ++ [x], A14, c14)])) := by
          rw [show (init ++ [((cur ++ [x], A14, c14) : Pw)]).length = (init ++ [(cur, CA, cc)]).length by simp, ← RW_set init (cur, CA, cc) (cur ++ [x], A14, c14)]
          rw [show ((cur ++ [x]) : List Sg).length = cur.length + 1 from List.length_append]
          exact hO15
         have hdj15 : ∀ y ∈ init, ∀ b ∈ ob y.2.1, b ∉ ob A14 := fun y hy b hb h => by
          rcases hob14 with e | e
          ·
           rw [e] at h; exact hdj y hy b hb h
          ·
           rw [e] at h; simp only [List.mem_singleton] at h; have := hI13l y hy b hb; omega
         have hub15 : ∀ y ∈ init ++ [((cur ++ [x], A14, c14) : Pw)], ∀ b ∈ ob y.2.1, w.heap.size ≤ b := fun y hy => by
          rcases List.mem_append.1 hy with h | h
          ·
           exact hubP y (by simp [h])
          ·
           simp only [List.mem_singleton] at h; subst h; exact up_app hubC hob14 sz13
         refine HOps.done jK ?_
         refine jn ⟨(init, cur ++ [x], A14, c14, some adO, oc), (js4 rfl (by rw [show (init ++ [((cur ++ [x], A14, c14) : Pw)]).length = (init ++ [(cur, CA, cc)]).length by simp]; rfl) rfl rfl), ?_⟩
         exact ⟨hs, by dsimp only; omega, by simp; omega, hO15, (fun y hy => by
          rcases List.mem_append.1 hy with h | h
          ·
           exact hI15 y h
          ·
           simp only [List.mem_singleton] at h; subst h; exact hC15), hdj15, K15, hubO, hub15⟩
       ·
        rintro ⟨init2, cur2, CA2, cc2, OA2, oc2⟩ wq ⟨hs2, hil2, hcl2, hO2, hP2, hdj2, K2, hubO2, hubP2⟩ Γ hΓ
        dsimp only at hs2 hil2 hcl2 hO2 hP2 hdj2 hubO2 hubP2
        refine blockQ_n (jn (VC.sub _ hΓ ?_))
        refine jr (jm ?_)
        refine Ops.r (Run.bin rfl rfl (Bin.add_i64 _ 1 (by omega))) rfl ?_
        refine ja ?_
        refine jo ?_
        refine jn ⟨(i + 1, angS x ang, init2, cur2, CA2, cc2, OA2, oc2), (js4 rfl rfl rfl rfl), ?_, ?_⟩
        ·
         exact ⟨hc1, hs2, hil2, hcl2, hO2, hP2, hdj2, K2, hubO2, hubP2⟩
        ·
         first | omega | (dsimp only; omega)
 ·
  rw [List.drop_of_length_le (by omega)] at hs
  have hs : (init ++ [(cur, CA, cc)]).map (·.1) = cutS false [] l := by rw [← hs, List.map_append]; rfl
  refine jx ?_
  refine thenQ_x (thenQ_x (blockQ_x ?_))
  refine jn (jv1 3 ?_)
  refine js (jr (jm ?_))
  refine ja ?_
  refine jo (jn (jv1 2 ?_))
  refine jt ?_
  refine end1 rfl ?_
  exact ⟨K, _, OA, oc, hs, rfl, hO, hP⟩
end Go.Proofs.YtenbjndldenkfaaGreatDoor
namespace Go.Proofs.YtenbjndldenkfaaGreatDoor
open Go.RowKit Go.Sort
set_option maxRecDepth 100000 in
set_option maxHeartbeats 1600000 in
theorem rremark_spec (A : Option Addr) (c : Nat) (l : List Sg) (w : World) (hrd : Rd w 5 A l.length (SG l)) (hl : l.length ≤ 1000000) : Calls Tryz.prog 101 #[.slice A l.length c] w fun e w' => e = .returned (encStr (trimQ (remS false [] l))) ∧ Frm [] w w' := by
 have K := Frm.refl [] w
 refine VC.calls (nt := 79) (res := #[.tmp 2]) Tryz.func101 rfl Tryz.ntmps101 Tryz.results101 rfl ?_
 refine js (jr (ja ?_))
 refine jo (jn (jv1 0 ?_))
 refine js (jr (ja ?_))
 refine jo (jn (js (jr (ja ?_))))
 refine jo (jn (js (js (jr ?_))))
 refine Ops.r (v := .int .i64 ((0 : Nat) : Int)) (Run.asg rfl) rfl ?_
 refine jo (jn ?_)
 refine VC.meet (σ := Unit) (fun s => [(3, encStr (remS false [] l))]) (fun s wr => Frm [] w wr) ?_ ?_
 ·
  refine jb ?_
  refine VC.loop (σ := Nat × Bool × Tx) (fun s => [(0, .slice A l.length c), (3, encStr s.2.2), (4, .bool s.2.1), (5, .int .i64 ((s.1 : Nat) : Int))]) (fun s wr => s.1 ≤ l.length ∧ remS s.2.1 s.2.2 (l.drop s.1) = remS false [] l ∧ s.2.2.length ≤ s.1 ∧ Frm [] w wr) (fun s => l.length - s.1) (0, false, []) (js4 rfl rfl rfl rfl) ⟨Nat.zero_le _, rfl, Nat.le_refl _, K⟩ ?_
  rintro ⟨i, inn, t⟩ wr ⟨hi, hs, ht, K⟩
  dsimp only at hi hs ht ⊢
  refine js (js (jr (jm ?_)))
  refine jm ?_
  refine Ops.r (Run.lenS rfl Tryz.underlying127) rfl ?_
  refine Ops.r (Run.bin rfl rfl (Bin.lssN _ _)) rfl ?_
  refine jo (jn (jv5 0 3 4 5 9 ?_))
  refine VC.condD rfl (fun hc1 => ?_) (fun hc1 => ?_)
  ·
   obtain ⟨ad, hAe, hcell⟩ := SG_at (hrd.frm K (by simp)) hc1
   have hcw : ∀ W, Frm [] w W → ∀ j v, (SG1 l[i])[j]? = some v → W.cell? ((ad.add (i * 5)).add j) = some v := fun W hW => by
    obtain ⟨ad2, h2, hc2⟩ := SG_at (hrd.frm hW (by simp)) hc1
    cases hAe.symm.trans h2
    exact hc2
   have hdl := List.drop_eq_getElem_cons hc1
   rw [hdl] at hs
   generalize l[i] = x at *
   refine jk (jn (jv4 0 3 4 5 ?_))
   refine js ?_
   refine VC.meet (σ := Bool × Tx) (fun s => [(0, .slice A l.length c), (3, encStr s.2), (4, .bool s.1), (5, .int .i64 ((i : Nat) : Int))]) (fun s wr => remS s.1 s.2 (l.drop (i + 1)) = remS false [] l ∧ s.2.length ≤ i + 1 ∧ Frm [] w wr) ?_ ?_
   ·
    refine jb (js (js (jr (jm ?_))))
    refine jm ?_
    refine Ops.r (Run.indexS i (by rw [← hAe]; rfl) rfl Tryz.underlying127 Tryz.sizeOf130 hc1) rfl ?_
    refine Ops.r (Run.fieldAddr rfl Tryz.underlying130 rfl Tryz.sizeOf4 (by decide)) rfl ?_
    refine Ops.r (Run.load rfl Tryz.isAgg4 (hcell 3 _ rfl)) rfl ?_
    refine jo (jn (jv5 0 3 4 5 16 ?_))
    refine VC.condB rfl (fun hc2 => ?_) (fun hc2 => ?_)
    ·
     rw [rem_op hc2] at hs
     refine js (jr (ja ?_))
     refine jo (jn (jv4 0 3 4 5 ?_))
     refine jx ?_
     refine thenQ_x (blockQ_x ?_)
     refine jn ⟨(true, t), (js4 rfl rfl rfl rfl), ?_⟩
     exact ⟨hs, by dsimp only; omega, K⟩
    ·
     refine jk (jn (jv4 0 3 4 5 ?_))
     refine js (js (jr (jm ?_)))
     refine jm ?_
     refine Ops.r (Run.indexS i (by rw [← hAe]; rfl) rfl Tryz.underlying127 Tryz.sizeOf130 hc1) rfl ?_
     refine Ops.r (Run.fieldAddr rfl Tryz.underlying130 rfl Tryz.sizeOf4 (by decide)) rfl ?_
     refine Ops.r (Run.load rfl Tryz.isAgg4 (hcell 4 _ rfl)) rfl ?_
     refine jo (jn (jv5 0 3 4 5 21 ?_))
     refine VC.condB rfl (fun hc3 => ?_) (fun hc3 => ?_)
     ·
      refine jx ?_
      refine thenQ_x (blockQ_o rfl (thenQ_x (thenQ_x (thenQ_x (blockQ_x ?_)))))
      refine jn ⟨(), (js1 (by rw [← hs, rem_sh (by simpa using hc2) hc3]; rfl)), ?_⟩
      exact K
     ·
      rw [rem_on (by simpa using hc2) (by simpa using hc3)] at hs
      refine jk (jn (jv4 0 3 4 5 ?_))
      refine js ?_
      refine VC.split1 [(0, _), (3, _), (4, _), (5, _)] (js4 rfl rfl rfl rfl) 29 (.bool (decide (inn = true ∧ x.r = true))) ?_ ?_
      ·
       refine jr ?_
       refine jm ?_
       by_cases hs22 : inn = true
       ·
        refine jm ?_
        refine jg ?_
        refine jg ?_
        refine Ops.rg rfl au (Run.indexS i (by rw [← hAe]; rfl) rfl Tryz.underlying127 Tryz.sizeOf130 hc1) rfl ?_
        refine Ops.rg rfl au (Run.fieldAddr rfl Tryz.underlying130 rfl Tryz.sizeOf4 (by decide)) rfl ?_
        refine Ops.rg rfl au (Run.load rfl Tryz.isAgg4 (hcell 2 _ rfl)) rfl ?_
        by_cases hs28 : x.r = true
        ·
         refine Ops.r (Run.pickT rfl rfl au) rfl ?_
         refine jo ?_
         refine jn ⟨(js5 (jc (by simp [*])) rfl rfl rfl rfl), rfl⟩
        ·
         refine Ops.r (Run.pickT rfl rfl au) rfl ?_
         refine jo ?_
         refine jn ⟨(js5 (jc (by simp [*])) rfl rfl rfl rfl), rfl⟩
       ·
        refine jm ?_
        refine ju ?_
        refine ju ?_
        refine ju ?_
        refine ju ?_
        refine ju ?_
        refine Ops.r (Run.pickF rfl rfl au) rfl ?_
        refine jo ?_
        refine jn ⟨(js5 (jc (by simp [*])) rfl rfl rfl rfl), rfl⟩
      ·
       intro Γ hΓ
       refine jn (VC.sub _ hΓ ?_)
       refine VC.condD rfl (fun hc4 => ?_) (fun hc4 => ?_)
       ·
        rw [if_pos hc4] at hs
        refine jr (jm ?_)
        refine jm ?_
        refine jm ?_
        refine Ops.r (Run.indexS i (by rw [← hAe]; rfl) rfl Tryz.underlying127 Tryz.sizeOf130 hc1) rfl ?_
        refine Ops.r (Run.fieldAddr rfl Tryz.underlying130 rfl Tryz.sizeOf5 (by decide)) rfl ?_
        refine Ops.r (Run.load rfl Tryz.isAgg5 (hcell 0 _ rfl)) rfl ?_
        refine Ops.m (Does.buildS1 rfl Tryz.underlying22 Tryz.sizeOf5 zero5 (by decide) (by decide) rfl rfl) rfl ?_
        rintro _ w7 ⟨rfl, hF7⟩
        have hr36 : Rd w7 1 (some ⟨_, 0, none⟩) 1 (U8 [x.c]) := Rd.of_blk (n := 1) (size := 1) hF7.blk rfl
        have K := K.trans hF7.frm (by simp)
        refine Ops.r (Run.strOfT rfl Tryz.underlying22 Tryz.underlying5 Tryz.underlying9 hr36) rfl ?_
        refine Ops.r (Run.addT rfl rfl (by simp; omega)) rfl ?_
        refine ja ?_
        refine jo ?_
        refine blockQ_n (jn ⟨(inn, t ++ [x.c]), (js4 rfl rfl rfl rfl), ?_⟩)
        exact ⟨hs, by simp; omega, K⟩
       ·
        rw [if_neg hc4] at hs
        refine jk ?_
        refine blockQ_n (jn ⟨(inn, t), (js4 rfl rfl rfl rfl), ?_⟩)
        exact ⟨hs, by dsimp only; omega, K⟩
   ·
    rintro ⟨in2, t2⟩ wr2 ⟨hs2, ht2, K2⟩ Γ hΓ
    dsimp only at hs2 ht2
    refine jn (VC.sub _ hΓ ?_)
    refine jr (jm ?_)
    refine Ops.r (Run.bin rfl rfl (Bin.add_i64 _ 1 (by omega))) rfl ?_
    refine ja ?_
    refine jo ?_
    refine jn ⟨(i + 1, in2, t2), (js4 rfl rfl rfl rfl), ?_, ?_⟩
    ·
     exact ⟨hc1, hs2, ht2, K2⟩
    ·
     first | omega | (dsimp only; omega)
  ·
   rw [List.drop_of_length_le (by omega)] at hs
   have hs : t = remS false [] l := hs
   refine jx ?_
   refine thenQ_x (thenQ_x (blockQ_x ?_))
   refine jn ⟨(), (js1 (by rw [← hs]; rfl)), ?_⟩
   exact K
 ·
  rintro _ WW K Γ hΓ
  have hrl := remS_len l false []
  generalize remS false [] l = q at *
  simp only [List.length_nil, Nat.zero_add] at hrl
  refine jn (VC.sub _ hΓ ?_)
  refine js (jb ?_)
  refine VC.loop (σ := Tx) (fun s => [(3, encStr s)]) (fun s wr => WW = wr ∧ s.length ≤ q.length ∧ leftB s = leftB q) (fun s => s.length) q (js1 rfl) ⟨rfl, Nat.le_refl _, rfl⟩ ?_
  rintro t _ ⟨rfl, htl, ht⟩
  have hg0 : 0 < t.length → t[0]? = some (hdA t 0) := hdA_at
  refine js (js ?_)
  refine VC.split1 [(3, _)] (js1 rfl) 51 (.bool (decide (0 < t.length ∧ ((hdA t 0).toNat = 32 ∨ (hdA t 0).toNat = 9)))) ?_ ?_
  ·
   refine jr ?_
   refine jm ?_
   refine Ops.r (Run.lenT rfl Tryz.underlying9) rfl ?_
   refine Ops.r (Run.bin rfl rfl (Bin.gtrN _ 0)) rfl ?_
   by_cases hs41 : 0 < t.length
   ·
    refine jm ?_
    refine jg ?_
    refine Ops.rg rfl au (Run.indexT 0 rfl rfl Tryz.underlying9 (hg0 hs41)) rfl ?_
    refine Ops.rg rfl au (Run.bin rfl rfl (Bin.eqlN _ 32)) rfl ?_
    by_cases hs45 : (hdA t 0).toNat = 32
    ·
     refine jg ?_
     refine ju ?_
     refine ju ?_
     refine ju ?_
     refine Ops.rg rfl au (Run.pickT rfl rfl au) rfl ?_
     refine Ops.r (Run.pickT rfl rfl au) rfl ?_
     refine jo ?_
     refine jn ⟨(js2 (jc (by simp [*])) rfl), rfl⟩
    ·
     refine jg ?_
     refine jg ?_
     refine Ops.rg rfl au (Run.indexT 0 rfl rfl Tryz.underlying9 (hg0 hs41)) rfl ?_
     refine Ops.rg rfl au (Run.bin rfl rfl (Bin.eqlN _ 9)) rfl ?_
     by_cases hs49 : (hdA t 0).toNat = 9
     ·
      refine Ops.rg rfl au (Run.pickF rfl rfl au) rfl ?_
      refine Ops.r (Run.pickT rfl rfl au) rfl ?_
      refine jo ?_
      refine jn ⟨(js2 (jc (by simp [*])) rfl), rfl⟩
     ·
      refine Ops.rg rfl au (Run.pickF rfl rfl au) rfl ?_
      refine Ops.r (Run.pickT rfl rfl au) rfl ?_
      refine jo ?_
      refine jn ⟨(js2 (jc (by simp [*])) rfl), rfl⟩
   ·
    refine jm ?_
    refine ju ?_
    refine ju ?_
    refine ju ?_
    refine ju ?_
    refine Ops.skU rfl rfl ?_
    refine Ops.skU rfl rfl ?_
    refine Ops.skU rfl rfl ?_
    refine ju ?_
    refine Ops.r (Run.pickF rfl rfl au) rfl ?_
    refine jo ?_
    refine jn ⟨(js2 (jc (by simp [*])) rfl), rfl⟩
  ·
   intro Γ hΓ
   refine jn (VC.sub _ hΓ ?_)
   refine VC.condD rfl (fun hc5 => ?_) (fun hc5 => ?_)
   ·
    have hd0 := hdA_drop hc5.1
    rw [List.drop_zero] at hd0
    rw [hd0, leftB_on (hc5.2.imp (u8n (x := 32) rfl).1 (u8n (x := 9) rfl).1)] at ht
    refine jk (jn (jv1 3 ?_))
    refine jb (jr (jm ?_))
    refine Ops.r (Run.sliceT 1 t.length rfl Tryz.underlying9 (evB.some_ rfl) evB.none_ (by omega) (by omega)) rfl ?_
    rw [show (t.drop 1).take (t.length - 1) = t.drop 1 from List.take_of_length_le (by simp)]
    refine ja ?_
    refine jo ?_
    refine blockQ_n (jn ⟨(t.drop 1), (js1 rfl), ?_, ?_⟩)
    ·
     exact ⟨rfl, by simp; omega, ht⟩
    ·
     have := hc5.1; simp; omega
   ·
    have hlt : leftB t = t := by
     cases t with
     | nil => rfl
     | cons x r => exact leftB_off (fun h => hc5 ⟨by simp, h.imp (u8n (x := 32) rfl).2 (u8n (x := 9) rfl).2⟩)
    rw [hlt] at ht
    have htq : rightB t = trimQ q := by rw [ht]; exact trim_comm q
    refine jx ?_
    refine thenQ_x (thenQ_x (blockQ_x ?_))
    refine jn (jv1 3 ?_)
    refine js (jb ?_)
    refine VC.loop (σ := Tx) (fun s => [(3, encStr s)]) (fun s wr => WW = wr ∧ s.length ≤ q.length ∧ rightB s = trimQ q) (fun s => s.length) t (js1 rfl) ⟨rfl, htl, htq⟩ ?_
    rintro u _ ⟨rfl, hul, hu⟩
    have hgl : 0 < u.length → u[u.length - 1]? = some (hdA u (u.length - 1)) := fun h => hdA_at (by omega)
    refine js (js ?_)
    refine VC.split1 [(3, _)] (js1 rfl) 72 (.bool (decide (0 < u.length ∧ ((hdA u (u.length - 1)).toNat = 32 ∨ (hdA u (u.length - 1)).toNat = 9)))) ?_ ?_
    ·
     refine jr ?_
     refine jm ?_
     refine Ops.r (Run.lenT rfl Tryz.underlying9) rfl ?_
     refine Ops.r (Run.bin rfl rfl (Bin.gtrN _ 0)) rfl ?_
     by_cases hs56 : 0 < u.length
     ·
      refine jm ?_
      refine jg ?_
      refine jg ?_
      refine Ops.rg rfl au (Run.lenT rfl Tryz.underlying9) rfl ?_
      refine Ops.rg rfl au (Run.bin rfl rfl (Bin.sub_i64 _ 1 (by omega) (by omega))) rfl ?_
      refine Ops.rg rfl au (Run.indexT _ rfl rfl Tryz.underlying9 (hgl hs56)) rfl ?_
      refine Ops.rg rfl au (Run.bin rfl rfl (Bin.eqlN _ 32)) rfl ?_
      by_cases hs63 : (hdA u (u.length - 1)).toNat = 32
      ·
       refine jg ?_
       refine ju ?_
       refine ju ?_
       refine ju ?_
       refine ju ?_
       refine ju ?_
       refine ju ?_
       refine Ops.rg rfl au (Run.pickT rfl rfl au) rfl ?_
       refine Ops.r (Run.pickT rfl rfl au) rfl ?_
       refine jo ?_
       refine jn ⟨(js2 (jc (by simp [*])) rfl), rfl⟩
      ·
       refine jg ?_
       refine jg ?_
       refine jg ?_
       refine Ops.rg rfl au (Run.lenT rfl Tryz.underlying9) rfl ?_
       refine Ops.rg rfl au (Run.bin rfl rfl (Bin.sub_i64 _ 1 (by omega) (by omega))) rfl ?_
       refine Ops.rg rfl au (Run.indexT _ rfl rfl Tryz.underlying9 (hgl hs56)) rfl ?_
       refine Ops.rg rfl au (Run.bin rfl rfl (Bin.eqlN _ 9)) rfl ?_
       by_cases hs70 : (hdA u (u.length - 1)).toNat = 9
       ·
        refine Ops.rg rfl au (Run.pickF rfl rfl au) rfl ?_
        refine Ops.r (Run.pickT rfl rfl au) rfl ?_
        refine jo ?_
        refine jn ⟨(js2 (jc (by simp [*])) rfl), rfl⟩
       ·
        refine Ops.rg rfl au (Run.pickF rfl rfl au) rfl ?_
        refine Ops.r (Run.pickT rfl rfl au) rfl ?_
        refine jo ?_
        refine jn ⟨(js2 (jc (by simp [*])) rfl), rfl⟩
     ·
      refine jm ?_
      refine ju ?_
      refine ju ?_
      refine ju ?_
      refine ju ?_
      refine ju ?_
      refine ju ?_
      refine ju ?_
      refine Ops.skU rfl rfl ?_
      refine Ops.skU rfl rfl ?_
      refine Ops.skU rfl rfl ?_
      refine Ops.skU rfl rfl ?_
      refine Ops.skU rfl rfl ?_
      refine Ops.skU rfl rfl ?_
      refine ju ?_
      refine Ops.r (Run.pickF rfl rfl au) rfl ?_
      refine jo ?_
      refine jn ⟨(js2 (jc (by simp [*])) rfl), rfl⟩
    ·
     intro Γ hΓ
     refine jn (VC.sub _ hΓ ?_)
     refine VC.condD rfl (fun hc6 => ?_) (fun hc6 => ?_)
     ·
      obtain ⟨v, x, hv, hx, hvt⟩ := last_at hc6.1
      have hbx : Bl x := by
       have h1 := hgl hc6.1
       rw [hx] at h1
       rw [Option.some.inj h1]
       exact hc6.2.imp (u8n (x := 32) rfl).1 (u8n (x := 9) rfl).1
      have hvl : v.length + 1 = u.length := by rw [hv]; simp
      have hrv : rightB v = trimQ q := by rw [← hu, hv, rightB_on hbx]
      refine jk (jn (jv1 3 ?_))
      refine jb (jr (jm ?_))
      refine jm ?_
      refine Ops.r (Run.lenT rfl Tryz.underlying9) rfl ?_
      refine Ops.r (Run.bin rfl rfl (Bin.sub_i64 _ 1 (by omega) (by omega))) rfl ?_
      refine Ops.r (Run.sliceT 0 (u.length - 1) rfl Tryz.underlying9 evB.none_ (evB.some_ rfl) (by omega) (by omega)) rfl ?_
      rw [show (u.drop 0).take (u.length - 1 - 0) = v by rw [hvt]; rfl]
      refine ja ?_
      refine jo ?_
      refine blockQ_n (jn ⟨v, (js1 rfl), ?_, ?_⟩)
      ·
       exact ⟨rfl, by omega, hrv⟩
      ·
       omega
     ·
      have hru : rightB u = u := by
       by_cases h0 : 0 < u.length
       ·
        obtain ⟨v, x, hv, hx, hvt⟩ := last_at h0
        have hnx : ¬ Bl x := fun h => hc6 ⟨h0, by
         have h1 := hgl h0
         rw [hx] at h1
         rw [← Option.some.inj h1]
         exact h.imp (u8n (x := 32) rfl).2 (u8n (x := 9) rfl).2⟩
        rw [hv]
        exact rightB_off hnx
       ·
        rw [List.length_eq_zero_iff.1 (show u.length = 0 by omega)]
        rfl
      rw [hru] at hu
      refine jx ?_
      refine thenQ_x (thenQ_x (blockQ_x ?_))
      refine jn (jv1 3 ?_)
      refine js (jr (jm ?_))
      refine ja ?_
      refine jo (jn (jv1 2 ?_))
      refine jt ?_
      refine end1 rfl ?_
      exact ⟨by rw [hu], K⟩
end Go.Proofs.YtenbjndldenkfaaGreatDoor
