/-
  Lemmas on the way, joined: RefO, RefQ, RefR, RefS, RefT, BackD, SegP, SegW, Eng16, SegB, Eng17, SegS, SegC, SegT, SegF, SegU.
-/
import Derived.Lib.AppendStr
import Derived.ArgAppend
import Derived.Test.YtndjgmbfkkgpdaaGreatPk4
set_option maxRecDepth 100000
namespace Go.Proofs.YtndjgmbfkkgpdaaGreat
section
open Go.RowKit
theorem IsU.keepB {w w' : World} {g x : Nat} {A : Option Addr} {l : List Bool} {t : TypeId} {cs : Array Value} (h : IsU w g A l) (f : Frm (g :: ob A) w w') (hb : Blk w x t cs) (h1 : 124 ≠ t) (h2 : 4 ≠ t) : Blk w' x t cs := by
 obtain ⟨c, h3, h4⟩ := h
 refine hb.frm f (fun hx => ?_)
 rcases zbv.1 hx with rfl | hx
 · exact h3.ne hb h1 rfl
 exact h4.ne_blk hb h2 hx
theorem IsU.keepO {w w' : World} {g e size n c : Nat} {A B : Option Addr} {l : List Bool} {xs : List Value} (h : IsU w g A l) (f : Frm (g :: ob A) w w') (ho : Own w e size B n c xs) (h1 : 124 ≠ e) (h2 : 4 ≠ e) : Own w' e size B n c xs := by
 obtain ⟨c2, h3, h4⟩ := h
 refine ho.frm f (fun x hx hx2 => ?_)
 rcases zbv.1 hx2 with rfl | hx2
 · exact ho.ne_blk h3 (Ne.symm h1) hx
 exact h4.ne_own ho h2 x hx2 hx
theorem IsU.new {w w' : World} {g : Nat} {A : Option Addr} {l : List Bool} (h : IsU w g A l) (f : Frm [] w w') : IsU w' g A l := h.frm f jp
theorem wV (A : Option Addr) (c0 : Nat) (l : List Int) (w : World) (h : LOk l) (hr : Rd w 1 A l.length (IB l)) :
  Calls Tryz.prog 80 #[.slice A l.length c0] w fun e w' => ∃ B c, e = .returned (.slice B l.length c) ∧ Own w' 179 2 B l.length c ((cW l).flatMap CB) ∧ Frm [] w w' := by
 refine (qJo A c0 l w h.1 hr).mono ?_
 rintro e w' ⟨B, c, h1, h2, h3, _⟩
 exact ⟨B, c, h1, h2, h3⟩
theorem qCb (n : Nat) : symV oU n 29 = lenS n := zJ longT n 29 jd
theorem qCc (n : Nat) : symV tM n 30 = wayS n := zJ wayT n 30 jd
theorem qVn (A : Option Addr) (c n : Nat) (w : World) (hr : Rd w 1 A 29 (NI oU)) : Calls Tryz.prog 74 #[.slice A 29 c, .int .i64 ((n : Nat) : Int)] w fun e w' => e = .returned (.int .i64 ((lenS n : Nat) : Int)) ∧ w = w' := by
 rw [← qCb n]
 exact qQx A c n oU w jd hr
theorem qVo (A : Option Addr) (c n : Nat) (w : World) (hr : Rd w 1 A 30 (NI tM)) : Calls Tryz.prog 74 #[.slice A 30 c, .int .i64 ((n : Nat) : Int)] w fun e w' => e = .returned (.int .i64 ((wayS n : Nat) : Int)) ∧ w = w' := by
 rw [← qCc n]
 exact qQx A c n tM w jd hr
theorem UR.trans {w w1 w2 : World} {g : Nat} {A A1 : Option Addr} {l2 : List Bool} (f : Frm (g :: ob A) w w1) (hA : ∀ x ∈ ob A1, x ∈ ob A ∨ w.heap.size ≤ x) (h : UR w1 w2 g A1 l2) : UR w w2 g A l2 := by
 obtain ⟨A2, h1, h2, h3⟩ := h
 refine ⟨A2, h1, f.trans h2 (fun x hx => ?_), fun x hx => ?_⟩
 ·
  rcases zbv.1 hx with rfl | hx
  · exact .inl jp
  rcases hA x hx with h | h
  · exact .inl (by simp [h])
  exact .inr h
 rcases h3 x hx with h | h
 · exact hA x h
 exact .inr (zn f.size h)
theorem qVp (g ct c1 c2 : Nat) (A Bt La Lb : Option Addr) (l : List Bool) (lt : List Tk) (a b : List Int) (w : World) (ha : LOk a) (hb : LOk b) (hna : 286 ≤ a.length) (hnb : 30 ≤ b.length) (hlt : ∀ t ∈ lt, pM t) (hll : lt.length ≤ 1000000) (hl : l.length ≤ 100000000) (hU : IsU w g A l) (hot : Own w 132 3 Bt lt.length ct (TC lt)) (hra : Rd w 1 La a.length (IB a)) (hrb : Rd w 1 Lb b.length (IB b)) :
  Calls Tryz.prog 72 #[.pointer (some ⟨g, 0, none⟩), .slice Bt lt.length ct, .slice La a.length c1, .slice Lb b.length c2] w fun e w' => e = .returned (.tuple #[]) ∧ UR w w' g A (l ++ cT a b lt) := by
 have hfl := mW ha hb hna hnb
 refine VC.calls (nt := 78) (res := #[]) Tryz.func72 rfl Tryz.ntmps72 Tryz.results72 rfl ?_
 refine jS (jR (jM ?_))
 refine Ops.cl (jE1 Tryz.call80) (wV La c1 a w ha hra) rfl ?_
 rintro e w1 ⟨Ba, ca, rfl, hoa, hf1⟩
 refine ⟨_, rfl, ?_⟩
 refine jM ?_
 refine Ops.cl (jE1 Tryz.call80) (wV Lb c2 b w1 hb (hrb.frm hf1 jp)) rfl ?_
 rintro e w2 ⟨Bb, cb, rfl, hob, hf2⟩
 refine ⟨_, rfl, ?_⟩
 have hoa := hoa.frm hf2 jp
 have hf0 := hf1.trans hf2 jp
 have hU0 := hU.new hf0
 have hot := hot.frm hf0 jp
 refine ja rfl (ja rfl (jO (jN (jv4 0 1 8 9 ?_))))
 refine jS (jS (jR (jz 0 (jO (jN (jB ?_))))))
 refine VC.loop (σ := Nat × Option Addr) (fun s => [(0, .pointer (some ⟨g, 0, none⟩)), (1, .slice Bt lt.length ct), (8, .slice Ba a.length ca), (9, .slice Bb b.length cb), (10, .int .i64 ((s.1 : Nat) : Int))]) (fun s wr => s.1 ≤ lt.length ∧ IsU wr g s.2 (l ++ (lt.take s.1).flatMap (fM a b)) ∧ Own wr 179 2 Ba a.length ca ((cW a).flatMap CB) ∧ Own wr 179 2 Bb b.length cb ((cW b).flatMap CB) ∧ Own wr 132 3 Bt lt.length ct (TC lt) ∧ Frm (g :: ob A) w wr ∧ ∀ x ∈ ob s.2, x ∈ ob A ∨ w.heap.size ≤ x) (fun s => lt.length - s.1) (0, A) (js5 rfl rfl rfl rfl rfl) ⟨zak _, by simpa using hU0, hoa, hob, hot, hf0.mono jp, fun x hx => .inl hx⟩ ?_
 rintro ⟨i, A1⟩ wr ⟨hi, hU, hoa, hob, hot, hfr, hA1⟩
 dsimp only at hi hU hA1 ⊢
 have hfi := hfl (lt.take i) (fun t ht => hlt t (zaf ht))
 rw [zi, zal hi] at hfi
 refine jS (jS (jR (jm rfl (jm rfl (je (Run.lenS rfl zbp) (jb rfl rfl (Bin.lssN _ _) (jO (jN (jv6 0 1 8 9 10 20 ?_)))))))))
 refine jD rfl (fun hc1 => ?_) fun hc1 => ?_
 ·
  obtain ⟨ad, rfl, hel⟩ := hot.rd.elem hc1
  rw [qQg lt i hc1] at hel
  have hsn := pN hc1
  have hqok := hlt (lt.getD i (0, 0, 0)) (by rw [ze, zb hc1]; exact zt hc1)
  generalize lt.getD i (0, 0, 0) = q at hel hsn hqok
  refine jQ (jN (jv5 0 1 8 9 10 ?_))
  refine jS (jB (jS (jR (jm rfl (jm rfl (je (Run.indexS _ rfl rfl zbp zcs jo) (je (Run.loadA rfl Tryz.isAgg132 zcs hel (by first | rfl | (simp; done))) ?_)))))))
  refine Ops.m (qV.alloc gW) rfl ?_
  rintro _ w1 ⟨rfl, hF1⟩
  refine Ops.st (qR.storeA rfl rfl zcs hF1.blk rfl (by intro v hv; exact TC_one [q] v (by simpa [TC] using hv))) ?_
  rintro w2 ⟨hS, hf12, hs12⟩
  have hf2 : Frm [] wr w2 := hF1.frm.own hf12 jp
  have hU := hU.new hf2
  have hoa := hoa.frm hf2 jp
  have hob := hob.frm hf2 jp
  have hot := hot.frm hf2 jp
  have hfr0 := hfr
  have hfr := hfr.trans hf2 jp
  refine jO (jN (jv6 0 1 8 9 10 11 ?_))
  refine jS (jS (jR (jf rfl zbg rfl zc (jl rfl zg (hS.cell 1) (jb rfl rfl (Bin.eqlN _ 0) (jO (jN (jv7 0 1 8 9 10 11 29 ?_))))))))
  refine jD rfl (fun hc2 => ?_) fun hc2 => ?_
  ·
   have hq8 : q.1 < 256 := by rcases hqok with ⟨_, _, h⟩ | ⟨_, h, _⟩ <;> omega
   have etok : fM a b q = bH a q.1 := by unfold fM; rw [if_pos hc2]
   refine jS (jR (jm rfl (jm rfl (jf rfl zbg rfl zad (jl rfl zdr (hS.cell 0) (je (Run.convN _ rfl zat zaa (by simp only [bmax]; omega)) ?_))))))
   refine Ops.cl (jE3 Tryz.call81) (nZ g q.1 ca A1 Ba _ a w2 ha.1 ha.2 jo (by rw [za]; omega) hU hoa) rfl ?_
   rintro e w3 ⟨rfl, A2, hU3, hf7, hA3⟩
   refine ⟨_, rfl, ?_⟩
   have hoa := hU.keepO hf7 hoa jd jd
   have hob := hU.keepO hf7 hob jd jd
   have hot := hU.keepO hf7 hot jd jd
   have hfr' := hfr.trans hf7 (fun x hx => vS hA1 hfr.size x hx)
   have hA1 := vT hA1 hfr.size hA3
   refine jO (jN (jv5 0 1 8 9 10 ?_))
   refine jX ?_
   refine qZ (qW ?_)
   refine jN (jR (jm rfl (jb rfl rfl (Bin.add_i64 _ 1 jo) (ja rfl (jO ?_)))))
   refine jN ⟨(i + 1, A2), (js5 rfl rfl rfl rfl rfl), ?_, ?_⟩
   · exact ⟨hc1, by rw [hsn, zw, zcp, etok, ← zj]; exact hU3, hoa, hob, hot, hfr', hA1⟩
   first | omega | (dsimp only; omega)
  obtain ⟨q1, q3, q4, q5, q6⟩ : q.1 = 0 ∧ 3 ≤ q.2.1 ∧ q.2.1 ≤ 258 ∧ 1 ≤ q.2.2 ∧ q.2.2 ≤ 32768 := by
   rcases hqok with ⟨h, _⟩ | h
   · exact absurd h hc2
   exact h
  have etok : fM a b q = lT a q.2.1 ++ mD b q.2.2 := by unfold fM; rw [if_neg hc2]
  have hlf := fA q3 q4
  have hwf := fI q5 q6
  have hc11 := eY ha.1 ha.2 (jo : 257 + lenS q.2.1 < a.length)
  have hc12 := eY hb.1 hb.2 (jo : wayS q.2.2 < b.length)
  have hl9 := qRz (lenS q.2.1) hlf.1
  have hw9 := qT6 (wayS q.2.2) hwf.1
  refine jQ (jN (jv6 0 1 8 9 10 11 ?_))
  refine jS ?_
  refine VC.held (fun v => Blk v wr.heap.size 132 (gF q).toArray) jK ?_
  have hS : (fun v => Blk v wr.heap.size 132 (gF q).toArray) w2.drew := hS.drawn (qQ.drew _)
  have hU := hU.new (qQ.drew w2).frm
  have hoa := hoa.frm (qQ.drew w2).frm jp
  have hob := hob.frm (qQ.drew w2).frm jp
  have hot := hot.frm (qQ.drew w2).frm jp
  have hfr := hfr.drawn (qQ.drew w2)
  refine jH 1 rfl hS (fun w0 hw0 => Run.fieldAddr rfl zbg rfl zc jd) ?_
  refine jH 2 rfl hS (fun w0 hw0 => Run.load rfl zg (hw0.cell 1)) ?_
  refine qK.cl 0 rfl jK (jE0 Tryz.call75) (oG _) trivial rfl rfl ?_
  rintro e w3 ⟨AL, cL, rfl, hL, hf5, _⟩
  have hS := hS.frm hf5 jp
  have hU := hU.new hf5
  have hoa := hoa.frm hf5 jp
  have hob := hob.frm hf5 jp
  have hot := hot.frm hf5 jp
  have hfr := hfr.trans hf5 jp
  refine ⟨_, rfl, hS, ?_⟩
  refine qK.cl 3 rfl jK (jE2 Tryz.call74) (qVn AL cL _ w3 hL.rd) trivial rfl rfl ?_
  rintro e _ ⟨rfl, rfl⟩
  refine ⟨_, rfl, hS, ?_⟩
  refine jH 4 rfl hS (fun w0 hw0 => Run.asg rfl) ?_
  refine qK.done jK ?_
  refine jN (jv7 0 1 8 9 10 11 12 ?_)
  refine jS (jR (jm rfl (jm rfl (jm rfl (jb rfl rfl (Bin.add_i64 257 _ jo) ?_)))))
  refine Ops.cl (jE3 Tryz.call81) (nZ g (257 + lenS q.2.1) ca A1 Ba _ a w3 ha.1 ha.2 jo (by simp only [za, qN]; omega) hU hoa) rfl ?_
  rintro e w4 ⟨rfl, A2, hU3, hf7, hA3⟩
  have hS := hU.keepB hf7 hS jd jd
  have hoa := hU.keepO hf7 hoa jd jd
  have hob := hU.keepO hf7 hob jd jd
  have hot := hU.keepO hf7 hot jd jd
  have hA1n := vT hA1 hfr.size hA3
  have hfr := hfr.trans hf7 (fun x hx => vS hA1 hfr.size x hx)
  have hA1 := hA1n
  have hU := hU3
  clear hU3 hA3 hf7 hA1n
  refine ⟨_, rfl, ?_⟩
  refine jO (jN (jv7 0 1 8 9 10 11 12 ?_))
  refine jS ?_
  refine VC.held (fun v => Blk v wr.heap.size 132 (gF q).toArray) jK ?_
  have hS : (fun v => Blk v wr.heap.size 132 (gF q).toArray) w4.drew := hS.drawn (qQ.drew _)
  have hU := hU.new (qQ.drew w4).frm
  have hoa := hoa.frm (qQ.drew w4).frm jp
  have hob := hob.frm (qQ.drew w4).frm jp
  have hot := hot.frm (qQ.drew w4).frm jp
  have hfr := hfr.drawn (qQ.drew w4)
  refine jH 0 rfl hS (fun w0 hw0 => Run.mv rfl) ?_
  refine jH 1 rfl hS (fun w0 hw0 => Run.fieldAddr rfl zbg rfl zc jd) ?_
  refine jH 2 rfl hS (fun w0 hw0 => Run.load rfl zg (hw0.cell 1)) ?_
  refine jH 4 rfl hS (fun w0 hw0 => Run.mv rfl) ?_
  refine jH 8 rfl hS (fun w0 hw0 => Run.mv rfl) ?_
  refine qK.cl 3 rfl jK (jE0 Tryz.call75) (oG _) trivial rfl rfl ?_
  rintro e w5 ⟨AL, cL, rfl, hL, hf5, _⟩
  have hS := hS.frm hf5 jp
  have hU := hU.new hf5
  have hoa := hoa.frm hf5 jp
  have hob := hob.frm hf5 jp
  have hot := hot.frm hf5 jp
  have hfr := hfr.trans hf5 jp
  refine ⟨_, rfl, hS, ?_⟩
  obtain ⟨adL, rfl, hadlt, hadc⟩ := hL.rd.2 jo
  have hcell := hadc (lenS q.2.1) _ (eZ oU _ hlf.1)
  rw [hl9] at hcell
  refine qK.moreC hcell ?_
  have hS := And.intro hS hcell
  refine jH 5 rfl hS (fun w0 hw0 => Run.index1 _ rfl rfl zd zc jo) ?_
  refine jH 6 rfl hS (fun w0 hw0 => Run.load rfl zg hw0.2) ?_
  refine jH 7 rfl hS (fun w0 hw0 => Run.bin rfl rfl (Bin.sub_i64 _ _ jo jo)) ?_
  refine qK.cl 9 rfl jK (jE1 Tryz.call105) (qXg _ _ hlf.1) trivial rfl rfl ?_
  rintro e _ ⟨rfl, rfl⟩
  refine ⟨_, rfl, hS, ?_⟩
  refine qK.cl 10 rfl jK (jE3 zed) (dW g (q.2.1 - (longT.getD (lenS q.2.1) (0, 0)).1) (longT.getD (lenS q.2.1) (0, 0)).2 A2 _ w5 jo jo (by simp only [za, qN]; omega) hU) trivial rfl rfl ?_
  rintro e w6 ⟨rfl, A3, hU3, hf7, hA3⟩
  obtain ⟨_, hq, _, hadc⟩ := (hU.keepO hf7 hL jd jd).rd.2 jo
  cases hq
  have hcell := hadc (lenS q.2.1) _ (eZ oU _ hlf.1)
  rw [hl9] at hcell
  have hS := And.intro (hU.keepB hf7 hS.1 jd jd) hcell
  have hoa := hU.keepO hf7 hoa jd jd
  have hob := hU.keepO hf7 hob jd jd
  have hot := hU.keepO hf7 hot jd jd
  have hA1n := vT hA1 hfr.size hA3
  have hfr := hfr.trans hf7 (fun x hx => vS hA1 hfr.size x hx)
  have hA1 := hA1n
  have hU := hU3
  clear hU3 hA3 hf7 hA1n
  refine ⟨_, rfl, hS, ?_⟩
  have hS := hS.1
  refine qK.done jK ?_
  refine jN (jv6 0 1 8 9 10 11 ?_)
  refine jS ?_
  refine VC.held (fun v => Blk v wr.heap.size 132 (gF q).toArray) jK ?_
  have hS : (fun v => Blk v wr.heap.size 132 (gF q).toArray) w6.drew := hS.drawn (qQ.drew _)
  have hU := hU.new (qQ.drew w6).frm
  have hoa := hoa.frm (qQ.drew w6).frm jp
  have hob := hob.frm (qQ.drew w6).frm jp
  have hot := hot.frm (qQ.drew w6).frm jp
  have hfr := hfr.drawn (qQ.drew w6)
  refine jH 1 rfl hS (fun w0 hw0 => Run.fieldAddr rfl zbg rfl zc jd) ?_
  refine jH 2 rfl hS (fun w0 hw0 => Run.load rfl zg (hw0.cell 2)) ?_
  refine qK.cl 0 rfl jK (jE0 Tryz.call76) (tN _) trivial rfl rfl ?_
  rintro e w7 ⟨AL, cL, rfl, hL, hf5, _⟩
  have hS := hS.frm hf5 jp
  have hU := hU.new hf5
  have hoa := hoa.frm hf5 jp
  have hob := hob.frm hf5 jp
  have hot := hot.frm hf5 jp
  have hfr := hfr.trans hf5 jp
  refine ⟨_, rfl, hS, ?_⟩
  refine qK.cl 3 rfl jK (jE2 Tryz.call74) (qVo AL cL _ w7 hL.rd) trivial rfl rfl ?_
  rintro e _ ⟨rfl, rfl⟩
  refine ⟨_, rfl, hS, ?_⟩
  refine jH 4 rfl hS (fun w0 hw0 => Run.asg rfl) ?_
  refine qK.done jK ?_
  refine jN (jv7 0 1 8 9 10 11 12 ?_)
  refine jS (jR (jm rfl (jm rfl (jM ?_))))
  refine Ops.cl (jE3 Tryz.call81) (nZ g (wayS q.2.2) cb A3 Bb _ b w7 hb.1 hb.2 jo (by simp only [za, qN]; omega) hU hob) rfl ?_
  rintro e w8 ⟨rfl, A4, hU3, hf7, hA3⟩
  have hS := hU.keepB hf7 hS jd jd
  have hoa := hU.keepO hf7 hoa jd jd
  have hob := hU.keepO hf7 hob jd jd
  have hot := hU.keepO hf7 hot jd jd
  have hA1n := vT hA1 hfr.size hA3
  have hfr := hfr.trans hf7 (fun x hx => vS hA1 hfr.size x hx)
  have hA1 := hA1n
  have hU := hU3
  clear hU3 hA3 hf7 hA1n
  refine ⟨_, rfl, ?_⟩
  refine jO (jN (jv7 0 1 8 9 10 11 12 ?_))
  refine VC.held (fun v => Blk v wr.heap.size 132 (gF q).toArray) jK ?_
  have hS : (fun v => Blk v wr.heap.size 132 (gF q).toArray) w8.drew := hS.drawn (qQ.drew _)
  have hU := hU.new (qQ.drew w8).frm
  have hoa := hoa.frm (qQ.drew w8).frm jp
  have hob := hob.frm (qQ.drew w8).frm jp
  have hot := hot.frm (qQ.drew w8).frm jp
  have hfr := hfr.drawn (qQ.drew w8)
  refine jH 0 rfl hS (fun w0 hw0 => Run.mv rfl) ?_
  refine jH 1 rfl hS (fun w0 hw0 => Run.fieldAddr rfl zbg rfl zc jd) ?_
  refine jH 2 rfl hS (fun w0 hw0 => Run.load rfl zg (hw0.cell 2)) ?_
  refine jH 4 rfl hS (fun w0 hw0 => Run.mv rfl) ?_
  refine jH 8 rfl hS (fun w0 hw0 => Run.mv rfl) ?_
  refine qK.cl 3 rfl jK (jE0 Tryz.call76) (tN _) trivial rfl rfl ?_
  rintro e w9 ⟨AL, cL, rfl, hL, hf5, _⟩
  have hS := hS.frm hf5 jp
  have hU := hU.new hf5
  have hoa := hoa.frm hf5 jp
  have hob := hob.frm hf5 jp
  have hot := hot.frm hf5 jp
  have hfr := hfr.trans hf5 jp
  refine ⟨_, rfl, hS, ?_⟩
  obtain ⟨adL, rfl, hadlt, hadc⟩ := hL.rd.2 jo
  have hcell := hadc (wayS q.2.2) _ (eZ tM _ hwf.1)
  rw [hw9] at hcell
  refine qK.moreC hcell ?_
  have hS := And.intro hS hcell
  refine jH 5 rfl hS (fun w0 hw0 => Run.index1 _ rfl rfl zd zc jo) ?_
  refine jH 6 rfl hS (fun w0 hw0 => Run.load rfl zg hw0.2) ?_
  refine jH 7 rfl hS (fun w0 hw0 => Run.bin rfl rfl (Bin.sub_i64 _ _ jo jo)) ?_
  refine qK.cl 9 rfl jK (jE1 Tryz.call106) (qJp _ _ hwf.1) trivial rfl rfl ?_
  rintro e _ ⟨rfl, rfl⟩
  refine ⟨_, rfl, hS, ?_⟩
  refine qK.cl 10 rfl jK (jE3 zed) (dW g (q.2.2 - (wayT.getD (wayS q.2.2) (0, 0)).1) (wayT.getD (wayS q.2.2) (0, 0)).2 A4 _ w9 jo jo (by simp only [za, qN]; omega) hU) trivial rfl rfl ?_
  rintro e w10 ⟨rfl, A5, hU3, hf7, hA3⟩
  obtain ⟨_, hq, _, hadc⟩ := (hU.keepO hf7 hL jd jd).rd.2 jo
  cases hq
  have hcell := hadc (wayS q.2.2) _ (eZ tM _ hwf.1)
  rw [hw9] at hcell
  have hS := And.intro (hU.keepB hf7 hS.1 jd jd) hcell
  have hoa := hU.keepO hf7 hoa jd jd
  have hob := hU.keepO hf7 hob jd jd
  have hot := hU.keepO hf7 hot jd jd
  have hA1n := vT hA1 hfr.size hA3
  have hfr := hfr.trans hf7 (fun x hx => vS hA1 hfr.size x hx)
  have hA1 := hA1n
  have hU := hU3
  clear hU3 hA3 hf7 hA1n
  refine ⟨_, rfl, hS, ?_⟩
  have hS := hS.1
  refine qK.done jK ?_
  refine qJ (jN ?_)
  refine jv5 0 1 8 9 10 ?_
  refine jR (jm rfl (jb rfl rfl (Bin.add_i64 _ 1 jo) (ja rfl (jO ?_))))
  refine jN ⟨(i + 1, A5), (js5 rfl rfl rfl rfl rfl), ?_, ?_⟩
  · exact ⟨hc1, by rw [hsn, zw, zcp, etok]; unfold lT mD; simpa [zj] using hU, hoa, hob, hot, hfr, hA1⟩
  first | omega | (dsimp only; omega)
 refine jX ?_
 refine qZ (qZ (qW ?_))
 refine jN (jv2 0 8 ?_)
 refine jR (jm rfl (jM ?_))
 refine Ops.cl (jE3 Tryz.call81) (nZ g 256 ca A1 Ba _ a wr ha.1 ha.2 jo (by rw [za]; omega) hU hoa) rfl ?_
 rintro e w3 ⟨rfl, h60⟩
 refine ⟨_, rfl, ?_⟩
 refine jO ?_
 refine eM ?_
 have ei : i = lt.length := jo
 subst ei
 rw [zas, zj] at h60
 exact ⟨rfl, UR.trans hfr hA1 h60⟩
end
section
open Go.RowKit
theorem qPc (A : Option Addr) (c : Nat) (l : List Nat) (w : World) (hl : l.length ≤ 100000) (hr : Rd w 1 A l.length (NI l)) :
  Calls Tryz.prog 79 #[.slice A l.length c] w fun e w' => ∃ B d, e = .returned (.slice B (dK l 0).length d) ∧ Own w' 140 3 B (dK l 0).length d (SDC (dK l 0)) ∧ Frm [] w w' ∧ ∀ x ∈ ob B, w.heap.size ≤ x := by
 refine VC.calls (nt := 109) (res := #[.tmp 2]) Tryz.func79 rfl Tryz.ntmps79 Tryz.results79 rfl ?_
 refine jS (jR (ja rfl (jO (jN (jv1 0 ?_)))))
 refine jS (jR (ja rfl (jO (jN (jS (jR (jz 0 (jO (jN (jS (jB ?_)))))))))))
 refine VC.loop (σ := Nat × List Sd × Option Addr × Nat) (fun s => [(0, .slice A l.length c), (3, .slice s.2.2.1 s.2.1.length s.2.2.2), (4, .int .i64 ((s.1 : Nat) : Int))]) (fun s wr => s.1 ≤ l.length ∧ dK l 0 = s.2.1 ++ dK l s.1 ∧ s.2.1.length ≤ s.1 ∧ Own wr 140 3 s.2.2.1 s.2.1.length s.2.2.2 (SDC s.2.1) ∧ Frm [] w wr ∧ ∀ x ∈ ob s.2.2.1, w.heap.size ≤ x) (fun s => l.length - s.1) (0, [], none, 0) (js3 rfl rfl rfl) ⟨zak _, rfl, zk _, Own.nil _ _ _, Frm.refl _ _, by simp [ob]⟩ ?_
 rintro ⟨a, pre, B, d⟩ wo ⟨ha, hsp, hpl, hO, K, hup⟩
 dsimp only at ha hsp hpl hO hup ⊢
 refine jS (jS (jR (jm rfl (jm rfl (je (Run.lenS rfl zd) (jb rfl rfl (Bin.lssN _ _) (jO (jN (jv4 0 3 4 9 ?_)))))))))
 refine jD rfl (fun hc1 => ?_) fun hc1 => ?_
 ·
  obtain ⟨ad, hA, _, hadc⟩ := (hr.frm K jp).2 jo
  subst hA
  have hcell0 : ∀ j, j < l.length → wo.cell? (ad.add j) = some (.int .i64 ((l.getD j 0 : Nat) : Int)) := fun j hj => hadc j _ (eZ l j hj)
  refine jQ (jN (jv3 0 3 4 ?_))
  refine jB (jS (jR (jz 1 (jO (jN (jS (jB ?_)))))))
  refine VC.loop (σ := Nat) (fun s => [(0, .slice (some ad) l.length c), (3, .slice B pre.length d), (4, .int .i64 ((a : Nat) : Int)), (5, .int .i64 ((s : Nat) : Int))]) (fun s wr => 1 ≤ s ∧ a + s ≤ l.length ∧ runN l a = s + nN l (l.getD a 0) (l.length - (a + s)) (a + s) ∧ qQ wo wr) (fun s => l.length - (a + s)) 1 (js4 rfl rfl rfl rfl) ⟨zk _, jo, by unfold runN; rw [sT hc1 rfl jo, show l.length - a - 1 = l.length - (a + 1) by omega]; omega, qQ.refl wo⟩ ?_
  rintro n wR ⟨hn1, hn, hcn, hd⟩
  have hcell : ∀ j, j < l.length → wR.cell? (ad.add j) = some (.int .i64 ((l.getD j 0 : Nat) : Int)) := fun j hj => by
   obtain ⟨m, rfl⟩ := hd
   exact hcell0 j hj
  refine jS (jS ?_)
  refine VC.splitR [(0, .slice (some ad) l.length c), (3, .slice B pre.length d), (4, .int .i64 ((a : Nat) : Int)), (5, .int .i64 ((n : Nat) : Int))] (qQ wo) 28 (.bool (decide (a + n < l.length ∧ l.getD (a + n) 0 = l.getD a 0))) ?_ ?_
  ·
   refine VC.still jK jK ?_
   refine qM ?_
   refine qM ?_
   refine qE (Run.bin rfl rfl (Bin.add_i64 _ _ jo)) ?_
   refine qM ?_
   refine qE (Run.lenS rfl zd) ?_
   refine qE (Run.bin rfl rfl (Bin.lssN _ _)) ?_
   by_cases hs15 : a + n < l.length
   ·
    refine qM ?_
    refine qG (Run.mv rfl) ?_
    refine qG (Run.mv rfl) ?_
    refine qG (Run.mv rfl) ?_
    refine qG (Run.bin rfl rfl (Bin.add_i64 _ _ jo)) ?_
    refine qG (Run.index1 _ rfl rfl zd zc jo) ?_
    refine qG (Run.load rfl zg (hcell _ jo)) ?_
    refine qG (Run.mv rfl) ?_
    refine qG (Run.mv rfl) ?_
    refine qG (Run.index1 _ rfl rfl zd zc jo) ?_
    refine qG (Run.load rfl zg (hcell _ jo)) ?_
    refine qG (Run.bin rfl rfl (Bin.eqlN _ _)) ?_
    by_cases hs27 : l.getD (a + n) 0 = l.getD a 0
    ·
     refine qE (Run.pickT rfl rfl au) ?_
     refine qH.nil ?_
     refine jN ⟨(js5 (jC (by simp [*])) rfl rfl rfl rfl), (hd.trans (qQ.drew _))⟩
    refine qE (Run.pickT rfl rfl au) ?_
    refine qH.nil ?_
    refine jN ⟨(js5 (jC (by simp [*])) rfl rfl rfl rfl), (hd.trans (qQ.drew _))⟩
   refine qM ?_
   refine qU ?_
   refine qU ?_
   refine qU ?_
   refine qU ?_
   refine qU ?_
   refine qU ?_
   refine qU ?_
   refine qU ?_
   refine qU ?_
   refine qU ?_
   refine qU ?_
   refine qE (Run.pickF rfl rfl au) ?_
   refine qH.nil ?_
   refine jN ⟨(js5 (jC (by simp [*])) rfl rfl rfl rfl), (hd.trans (qQ.drew _))⟩
  intro Γ wr2 hΓ hd2
  refine jN (VC.sub _ hΓ ?_)
  refine jD rfl (fun hc2 => ?_) fun hc2 => ?_
  ·
   refine jQ (jN (jv4 0 3 4 5 ?_))
   refine jB (jR (jm rfl (jb rfl rfl (Bin.add_i64 _ 1 jo) (ja rfl (jO ?_)))))
   refine qJ (jN ⟨n + 1, (js4 rfl rfl rfl rfl), ?_, ?_⟩)
   ·
    refine ⟨jo, jo, ?_, hd2⟩
    rw [hcn, sT hc2.1 hc2.2 jo, show l.length - (a + (n + 1)) = l.length - (a + n) - 1 by omega, zek a n 1]
    omega
   first | omega | (dsimp only; omega)
  have hrv : runN l a = n := by rw [hcn, vU hc2]; rfl
  have hO := hO.drawn hd2
  have K := K.drawn hd2
  have hrn := qXh (l := l) (a := a)
  have hrp := yE hc1
  have hat := qKu hrv
  have hcell2 : ∀ j, j < l.length → wr2.cell? (ad.add j) = some (.int .i64 ((l.getD j 0 : Nat) : Int)) := fun j hj => by
   obtain ⟨m, rfl⟩ := hd2
   exact hcell0 j hj
  refine jX ?_
  refine qZ (qZ (qW ?_))
  refine jN (jv4 0 3 4 5 ?_)
  refine jS ?_
  refine VC.split1 [(0, _), (3, _), (4, _), (5, _)] (js4 rfl rfl rfl rfl) 39 (.bool (decide (l.getD a 0 = 0 ∧ 10 < n))) ?_ ?_
  ·
   refine jR ?_
   refine jm rfl (jm rfl (je (Run.index1 _ rfl rfl zd zc jo) (jl rfl zg (hcell2 _ hc1) (jb rfl rfl (Bin.eqlN _ 0) ?_))))
   by_cases hs35 : l.getD a 0 = 0
   ·
    refine jM ?_
    refine jG ?_
    refine jk (Run.bin rfl rfl (Bin.gtrN _ 10)) ?_
    by_cases hs38 : 10 < n
    ·
     refine je (Run.pickT rfl rfl au) (jO ?_)
     refine jN ⟨(js5 (jC (by first | exact decide_eq_decide.2 ⟨fun h => ⟨by assumption, h⟩, fun h => h.2⟩ | exact (decide_eq_false (fun h => absurd h.1 (by assumption))).symm)) rfl rfl rfl rfl), rfl⟩
    refine je (Run.pickT rfl rfl au) (jO ?_)
    refine jN ⟨(js5 (jC (by first | exact decide_eq_decide.2 ⟨fun h => ⟨by assumption, h⟩, fun h => h.2⟩ | exact (decide_eq_false (fun h => absurd h.1 (by assumption))).symm)) rfl rfl rfl rfl), rfl⟩
   refine jM ?_
   refine jU ?_
   refine jU ?_
   refine je (Run.pickF rfl rfl au) (jO ?_)
   refine jN ⟨(js5 (jC (by first | exact decide_eq_decide.2 ⟨fun h => ⟨by assumption, h⟩, fun h => h.2⟩ | exact (decide_eq_false (fun h => absurd h.1 (by assumption))).symm)) rfl rfl rfl rfl), rfl⟩
  intro Γ hΓ
  refine jN (VC.sub _ hΓ ?_)
  refine jD rfl (fun hc3 => ?_) fun hc3 => ?_
  ·
   have hs : bB l a = ((18, 7, min n 138 - 11), min n 138) := by rw [hat, if_pos (show l.getD a 0 = 0 ∧ 11 ≤ n from hc3)]
   refine jS (jS (jR (jm rfl (jb rfl rfl (Bin.gtrN _ 138) (jO (jN (jv5 0 3 4 5 41 ?_)))))))
   refine VC.meet (σ := Unit) (fun s => [(0, .slice (some ad) l.length c), (3, .slice B pre.length d), (4, .int .i64 ((a : Nat) : Int)), (5, .int .i64 ((min n 138 : Nat) : Int))]) (fun s wz => wr2 = wz) ?_ ?_
   ·
    refine jD rfl (fun hc4 => ?_) fun hc4 => ?_
    ·
     refine jR (jz 138 (jO ?_))
     refine jN ⟨(), (js4 rfl rfl rfl (by rw [show min n 138 = 138 by omega]; rfl)), ?_⟩
     rfl
    refine jQ ?_
    refine jN ⟨(), (js4 rfl rfl rfl (by rw [show min n 138 = n by omega]; rfl)), ?_⟩
    rfl
   rintro s _ rfl Γ hΓ
   refine jN (VC.sub _ hΓ (jS (jR (jm rfl (jm rfl (jb rfl rfl (Bin.sub_i64 _ 11 jo jo) (je (Run.build (evs.cons rfl (evs.cons rfl (evs.cons rfl evs.nil))) lO (gM).choose_spec.1 (gM).choose_spec.2 rfl) ?_)))))))
   refine Ops.m (qV.buildS1 rfl zcl zfn lO jd jd rfl rfl) rfl ?_
   rintro _ w2 ⟨rfl, hF2⟩
   have hO2 := hO.frm hF2.frm jp
   have hrd2 : Rd w2 3 (some ⟨_, 0, none⟩) 1 (SDC [(18, 7, min n 138 - 11)]) := Rd.of_blk (n := 1) (size := 3) hF2.blk rfl
   refine Ops.m (qV.app rfl rfl zcl (wT) rfl jd hO2 hrd2 (SDC_one _) jo jo) rfl ?_
   rintro _ w3 ⟨B3, d3, rfl, hO3, hf3, hob3⟩
   rw [← fO] at hO3
   have K3 := (K.trans hF2.frm jp).own hf3 hup
   have hup3 := cG hup hob3 (by have := K.size; have := hF2.size; omega)
   refine ja rfl (jO (jN (jv4 0 3 4 5 ?_)))
   refine jR (jm rfl (jm rfl (jb rfl rfl (Bin.add_i64 _ _ jo) (ja rfl (jO ?_)))))
   refine qJ (jN ⟨(a + min n 138, pre ++ [(18, 7, min n 138 - 11)], B3, d3), (js3 rfl (by rw [za]; rfl) rfl), ?_, ?_⟩)
   ·
    refine ⟨by dsimp only; omega, ?_, by rw [za]; simp only [zp, zbx]; omega, by rw [za]; exact hO3, K3, hup3⟩
    rw [hsp, fL hc1, hs]
    simp
   first | omega | (dsimp only; omega)
  refine jS ?_
  refine VC.split1 [(0, _), (3, _), (4, _), (5, _)] (js4 rfl rfl rfl rfl) 59 (.bool (decide (l.getD a 0 = 0 ∧ 2 < n))) ?_ ?_
  ·
   refine jR ?_
   refine jm rfl (jm rfl (je (Run.index1 _ rfl rfl zd zc jo) (jl rfl zg (hcell2 _ hc1) (jb rfl rfl (Bin.eqlN _ 0) ?_))))
   by_cases hs55 : l.getD a 0 = 0
   ·
    refine jM ?_
    refine jG ?_
    refine jk (Run.bin rfl rfl (Bin.gtrN _ 2)) ?_
    by_cases hs58 : 2 < n
    ·
     refine je (Run.pickT rfl rfl au) (jO ?_)
     refine jN ⟨(js5 (jC (by first | exact decide_eq_decide.2 ⟨fun h => ⟨by assumption, h⟩, fun h => h.2⟩ | exact (decide_eq_false (fun h => absurd h.1 (by assumption))).symm)) rfl rfl rfl rfl), rfl⟩
    refine je (Run.pickT rfl rfl au) (jO ?_)
    refine jN ⟨(js5 (jC (by first | exact decide_eq_decide.2 ⟨fun h => ⟨by assumption, h⟩, fun h => h.2⟩ | exact (decide_eq_false (fun h => absurd h.1 (by assumption))).symm)) rfl rfl rfl rfl), rfl⟩
   refine jM ?_
   refine jU ?_
   refine jU ?_
   refine je (Run.pickF rfl rfl au) (jO ?_)
   refine jN ⟨(js5 (jC (by first | exact decide_eq_decide.2 ⟨fun h => ⟨by assumption, h⟩, fun h => h.2⟩ | exact (decide_eq_false (fun h => absurd h.1 (by assumption))).symm)) rfl rfl rfl rfl), rfl⟩
  intro Γ hΓ
  refine jN (VC.sub _ hΓ ?_)
  refine jD rfl (fun hc5 => ?_) fun hc5 => ?_
  ·
   have hs : bB l a = ((17, 3, n - 3), n) := by rw [hat, if_neg (show ¬ (l.getD a 0 = 0 ∧ 11 ≤ n) from hc3), if_pos (show l.getD a 0 = 0 ∧ 3 ≤ n from hc5), show min n 10 = n from zal (by have := hc5.1; by_cases h : 11 ≤ n; exact absurd ⟨this, h⟩ hc3; omega)]
   refine jS (jR (jm rfl (jm rfl (jb rfl rfl (Bin.sub_i64 _ 3 jo jo) (je (Run.build (evs.cons rfl (evs.cons rfl (evs.cons rfl evs.nil))) lO (gM).choose_spec.1 (gM).choose_spec.2 rfl) ?_)))))
   refine Ops.m (qV.buildS1 rfl zcl zfn lO jd jd rfl rfl) rfl ?_
   rintro _ w2 ⟨rfl, hF2⟩
   have hO2 := hO.frm hF2.frm jp
   have hrd2 : Rd w2 3 (some ⟨_, 0, none⟩) 1 (SDC [(17, 3, n - 3)]) := Rd.of_blk (n := 1) (size := 3) hF2.blk rfl
   refine Ops.m (qV.app rfl rfl zcl (wT) rfl jd hO2 hrd2 (SDC_one _) jo jo) rfl ?_
   rintro _ w3 ⟨B3, d3, rfl, hO3, hf3, hob3⟩
   rw [← fO] at hO3
   have K3 := (K.trans hF2.frm jp).own hf3 hup
   have hup3 := cG hup hob3 (by have := K.size; have := hF2.size; omega)
   refine ja rfl (jO (jN (jv4 0 3 4 5 ?_)))
   refine jR (jm rfl (jm rfl (jb rfl rfl (Bin.add_i64 _ _ jo) (ja rfl (jO ?_)))))
   refine qJ (jN ⟨(a + n, pre ++ [(17, 3, n - 3)], B3, d3), (js3 rfl (by rw [za]; rfl) rfl), ?_, ?_⟩)
   ·
    refine ⟨by dsimp only; omega, ?_, by rw [za]; simp only [zp, zbx]; omega, by rw [za]; exact hO3, K3, hup3⟩
    rw [hsp, fL hc1, hs]
    simp
   first | omega | (dsimp only; omega)
  refine jS ?_
  refine VC.splitR [(0, .slice (some ad) l.length c), (3, .slice B pre.length d), (4, .int .i64 ((a : Nat) : Int)), (5, .int .i64 ((n : Nat) : Int))] (qQ wr2) 86 (.bool (decide (0 < a ∧ l.getD (a - 1) 0 = l.getD a 0 ∧ 2 < n))) ?_ ?_
  ·
   refine VC.still jK jK ?_
   refine qM ?_
   refine qE (Run.bin rfl rfl (Bin.gtrN _ 0)) ?_
   by_cases hs70 : 0 < a
   ·
    refine qM ?_
    refine qG (Run.mv rfl) ?_
    refine qG (Run.mv rfl) ?_
    refine qG (Run.bin rfl rfl (Bin.sub_i64 _ 1 jo jo)) ?_
    refine qG (Run.index1 _ rfl rfl zd zc jo) ?_
    refine qG (Run.load rfl zg (hcell2 _ jo)) ?_
    refine qG (Run.mv rfl) ?_
    refine qG (Run.mv rfl) ?_
    refine qG (Run.index1 _ rfl rfl zd zc jo) ?_
    refine qG (Run.load rfl zg (hcell2 _ hc1)) ?_
    refine qG (Run.bin rfl rfl (Bin.eqlN _ _)) ?_
    by_cases hs81 : l.getD (a - 1) 0 = l.getD a 0
    ·
     refine qE (Run.pickT rfl rfl au) ?_
     refine qM ?_
     refine qG (Run.mv rfl) ?_
     refine qG (Run.bin rfl rfl (Bin.gtrN _ 2)) ?_
     by_cases hs85 : 2 < n
     ·
      refine qE (Run.pickT rfl rfl au) ?_
      refine qH.nil ?_
      refine jN ⟨(js5 (jC (by first | exact decide_eq_decide.2 ⟨fun h => ⟨by assumption, by assumption, h⟩, fun h => h.2.2⟩ | exact (decide_eq_false (fun h => absurd h.1 (by assumption))).symm | exact (decide_eq_false (fun h => absurd h.2.1 (by assumption))).symm)) rfl rfl rfl rfl), (qQ.drew _)⟩
     refine qE (Run.pickT rfl rfl au) ?_
     refine qH.nil ?_
     refine jN ⟨(js5 (jC (by first | exact decide_eq_decide.2 ⟨fun h => ⟨by assumption, by assumption, h⟩, fun h => h.2.2⟩ | exact (decide_eq_false (fun h => absurd h.1 (by assumption))).symm | exact (decide_eq_false (fun h => absurd h.2.1 (by assumption))).symm)) rfl rfl rfl rfl), (qQ.drew _)⟩
    refine qE (Run.pickT rfl rfl au) ?_
    refine qM ?_
    refine qU ?_
    refine qU ?_
    refine qE (Run.pickF rfl rfl au) ?_
    refine qH.nil ?_
    refine jN ⟨(js5 (jC (by first | exact decide_eq_decide.2 ⟨fun h => ⟨by assumption, by assumption, h⟩, fun h => h.2.2⟩ | exact (decide_eq_false (fun h => absurd h.1 (by assumption))).symm | exact (decide_eq_false (fun h => absurd h.2.1 (by assumption))).symm)) rfl rfl rfl rfl), (qQ.drew _)⟩
   refine qM ?_
   refine qU ?_
   refine qU ?_
   refine qU ?_
   refine qU ?_
   refine qU ?_
   refine qU ?_
   refine qU ?_
   refine qU ?_
   refine qU ?_
   refine qU ?_
   refine qE (Run.pickF rfl rfl au) ?_
   refine qM ?_
   refine qU ?_
   refine qU ?_
   refine qE (Run.pickF rfl rfl au) ?_
   refine qH.nil ?_
   refine jN ⟨(js5 (jC (by first | exact decide_eq_decide.2 ⟨fun h => ⟨by assumption, by assumption, h⟩, fun h => h.2.2⟩ | exact (decide_eq_false (fun h => absurd h.1 (by assumption))).symm | exact (decide_eq_false (fun h => absurd h.2.1 (by assumption))).symm)) rfl rfl rfl rfl), (qQ.drew _)⟩
  intro Γ w9 hΓ hd9
  refine jN (VC.sub _ hΓ ?_)
  refine jD rfl (fun hc6 => ?_) fun hc6 => ?_
  ·
   have hs : bB l a = ((16, 2, min n 6 - 3), min n 6) := by rw [hat, if_neg (show ¬ (l.getD a 0 = 0 ∧ 11 ≤ n) from hc3), if_neg (show ¬ (l.getD a 0 = 0 ∧ 3 ≤ n) from hc5), if_pos (show 0 < a ∧ l.getD (a - 1) 0 = l.getD a 0 ∧ 3 ≤ n from hc6)]
   have hO := hO.drawn hd9
   have K := K.drawn hd9
   refine jS (jS (jR (jm rfl (jb rfl rfl (Bin.gtrN _ 6) (jO (jN (jv5 0 3 4 5 88 ?_)))))))
   refine VC.meet (σ := Unit) (fun s => [(0, .slice (some ad) l.length c), (3, .slice B pre.length d), (4, .int .i64 ((a : Nat) : Int)), (5, .int .i64 ((min n 6 : Nat) : Int))]) (fun s wz => w9 = wz) ?_ ?_
   ·
    refine jD rfl (fun hc7 => ?_) fun hc7 => ?_
    ·
     refine jR (jz 6 (jO ?_))
     refine jN ⟨(), (js4 rfl rfl rfl (by rw [show min n 6 = 6 by omega]; rfl)), ?_⟩
     rfl
    refine jQ ?_
    refine jN ⟨(), (js4 rfl rfl rfl (by rw [show min n 6 = n by omega]; rfl)), ?_⟩
    rfl
   rintro s _ rfl Γ hΓ
   refine jN (VC.sub _ hΓ (jS (jR (jm rfl (jm rfl (jb rfl rfl (Bin.sub_i64 _ 3 jo jo) (je (Run.build (evs.cons rfl (evs.cons rfl (evs.cons rfl evs.nil))) lO (gM).choose_spec.1 (gM).choose_spec.2 rfl) ?_)))))))
   refine Ops.m (qV.buildS1 rfl zcl zfn lO jd jd rfl rfl) rfl ?_
   rintro _ w2 ⟨rfl, hF2⟩
   have hO2 := hO.frm hF2.frm jp
   have hrd2 : Rd w2 3 (some ⟨_, 0, none⟩) 1 (SDC [(16, 2, min n 6 - 3)]) := Rd.of_blk (n := 1) (size := 3) hF2.blk rfl
   refine Ops.m (qV.app rfl rfl zcl (wT) rfl jd hO2 hrd2 (SDC_one _) jo jo) rfl ?_
   rintro _ w3 ⟨B3, d3, rfl, hO3, hf3, hob3⟩
   rw [← fO] at hO3
   have K3 := (K.trans hF2.frm jp).own hf3 hup
   have hup3 := cG hup hob3 (by have := K.size; have := hF2.size; omega)
   refine ja rfl (jO (jN (jv4 0 3 4 5 ?_)))
   refine jR (jm rfl (jm rfl (jb rfl rfl (Bin.add_i64 _ _ jo) (ja rfl (jO ?_)))))
   refine qJ (jN ⟨(a + min n 6, pre ++ [(16, 2, min n 6 - 3)], B3, d3), (js3 rfl (by rw [za]; rfl) rfl), ?_, ?_⟩)
   ·
    refine ⟨by dsimp only; omega, ?_, by rw [za]; simp only [zp, zbx]; omega, by rw [za]; exact hO3, K3, hup3⟩
    rw [hsp, fL hc1, hs]
    simp
   first | omega | (dsimp only; omega)
  have hs : bB l a = ((l.getD a 0, 0, 0), 1) := by rw [hat, if_neg (show ¬ (l.getD a 0 = 0 ∧ 11 ≤ n) from hc3), if_neg (show ¬ (l.getD a 0 = 0 ∧ 3 ≤ n) from hc5), if_neg (show ¬ (0 < a ∧ l.getD (a - 1) 0 = l.getD a 0 ∧ 3 ≤ n) from hc6)]
  have hO := hO.drawn hd9
  have K := K.drawn hd9
  have hcell9 : ∀ j, j < l.length → w9.cell? (ad.add j) = some (.int .i64 ((l.getD j 0 : Nat) : Int)) := fun j hj => by
   obtain ⟨m, rfl⟩ := hd9
   exact hcell2 j hj
  refine jS (jR (jm rfl (jm rfl (jm rfl (je (Run.index1 _ rfl rfl zd zc jo) (jl rfl zg (hcell9 _ hc1) (je (Run.build (evs.cons rfl (evs.cons rfl (evs.cons rfl evs.nil))) lO (gM).choose_spec.1 (gM).choose_spec.2 rfl) ?_)))))))
  refine Ops.m (qV.buildS1 rfl zcl zfn lO jd jd rfl rfl) rfl ?_
  rintro _ w2 ⟨rfl, hF2⟩
  have hO2 := hO.frm hF2.frm jp
  have hrd2 : Rd w2 3 (some ⟨_, 0, none⟩) 1 (SDC [(l.getD a 0, 0, 0)]) := Rd.of_blk (n := 1) (size := 3) hF2.blk rfl
  refine Ops.m (qV.app rfl rfl zcl (wT) rfl jd hO2 hrd2 (SDC_one _) jo jo) rfl ?_
  rintro _ w3 ⟨B3, d3, rfl, hO3, hf3, hob3⟩
  rw [← fO] at hO3
  have K3 := (K.trans hF2.frm jp).own hf3 hup
  have hup3 := cG hup hob3 (by have := K.size; have := hF2.size; omega)
  refine ja rfl (jO (jN (jv3 0 3 4 ?_)))
  refine jR (jm rfl (jb rfl rfl (Bin.add_i64 _ 1 jo) (ja rfl (jO ?_))))
  refine qJ (jN ⟨(a + 1, pre ++ [(l.getD a 0, 0, 0)], B3, d3), (js3 rfl (by rw [za]; rfl) rfl), ?_, ?_⟩)
  ·
   refine ⟨by dsimp only; omega, ?_, by rw [za]; simp only [zp, zbx]; omega, by rw [za]; exact hO3, K3, hup3⟩
   rw [hsp, fL hc1, hs]
   simp
  first | omega | (dsimp only; omega)
 refine jX ?_
 refine qZ (qZ (qW ?_))
 refine jN (jv1 3 ?_)
 refine jS (jR (jm rfl (ja rfl (jO (jN (jv1 2 ?_))))))
 refine jT ?_
 refine qT rfl ?_
 have ea : a = l.length := jo
 have et : dK l 0 = pre := by rw [hsp, yA jo, zdd]
 rw [et]
 exact ⟨B, d, rfl, hO, K, hup⟩
end
section
open Go.RowKit
theorem qPd {n : Nat} (h : n < 65536) : bitsL n 16 = ofB [n % 256, n / 256] := by
 have e : ofB [n % 256, n / 256] = bitsL (n % 256) 8 ++ bitsL (n / 256) 8 := by simp [ofB]
 rw [e]
 refine qTs (by simp [qN]) ?_
 rw [qHe jo jo, eD 16 n jo]
 omega
theorem qHl {pre : List Nat} {h n : Nat} {x : List Nat} (hn : x.length = n) (hn2 : n ≤ 65535) : ofB (pre ++ [h]) ++ bitsL n 16 ++ bitsL (65535 - n) 16 ++ ofB x = ofB (pre ++ eH h x) := by
 rw [qPd jo, qPd jo, ← fZ, ← fZ, ← fZ]
 congr 1
 have e2 : (65535 - n) % 256 = 255 - n % 256 := jo
 have e3 : (65535 - n) / 256 = 255 - n / 256 := jo
 unfold eH
 rw [hn, e2, e3]
 simp only [zj, zcr, zbf]
theorem qSr {α : Type} {X Y : List α} {k : Nat} (h : Y.length = k) : X.length + k = (X ++ Y).length := by subst h; rw [za]
theorem of_n (B : Option Addr) (n c0 : Nat) (bs : List Nat) (w : World) (hn : bs.length = n) (hl : n ≤ 1000000) (hb : ∀ b ∈ bs, b < 256) (hr : Rd w 1 B bs.length (NB bs)) :
  Calls Tryz.prog 69 #[.slice B n c0] w fun e w' => ∃ A c, e = .returned (.slice A (8 * n) c) ∧ Own w' 4 1 A (8 * n) c (BL (ofB bs)) ∧ Frm [] w w' ∧ ∀ x ∈ ob A, w.heap.size ≤ x := by
 subst hn
 exact qTz B c0 bs w hl hb hr
theorem qZ7 (g ct c1 c2 na nb nt : Nat) (A Bt La Lb : Option Addr) (l : List Bool) (lt : List Tk) (a b : List Int) (w : World) (hna : a.length = na) (hnb : b.length = nb) (hnt : lt.length = nt) (ha : LOk a) (hb : LOk b) (ha2 : 286 ≤ na) (hb2 : 30 ≤ nb) (hlt : ∀ t ∈ lt, pM t) (hll : nt ≤ 1000000) (hl : l.length ≤ 100000000) (hU : IsU w g A l) (hot : Own w 132 3 Bt nt ct (TC lt)) (hra : Rd w 1 La na (IB a)) (hrb : Rd w 1 Lb nb (IB b)) :
  Calls Tryz.prog 72 #[.pointer (some ⟨g, 0, none⟩), .slice Bt nt ct, .slice La na c1, .slice Lb nb c2] w fun e w' => e = .returned (.tuple #[]) ∧ UR w w' g A (l ++ cT a b lt) := by
 subst hna hnb hnt
 exact qVp g ct c1 c2 A Bt La Lb l lt a b w ha hb ha2 hb2 hlt hll hl hU hot hra hrb
theorem qHm (A0 : Option Addr) (c : Nat) (bs : List Nat) (w : World) (hl : bs.length ≤ 1000000) (hc : bs.length ≤ c) (hB : ∀ b ∈ bs, b < 256) (hr : Rd w 1 A0 bs.length (NB bs)) :
  Calls Tryz.prog 37 #[.slice A0 bs.length c] w fun e w' => e = .returned (.string (eT (cS bs))) ∧ Frm [] w w' := by
 refine VC.calls (nt := 60) (res := #[.tmp 2]) Tryz.func37 rfl Tryz.ntmps37 Tryz.results37 rfl ?_
 refine jS (jR (ja rfl (jO (jN (jv1 0 ?_)))))
 refine jS (jR (je (Run.build evs.nil qQ6 (mQ).choose_spec.1 (mQ).choose_spec.2 rfl) ?_))
 refine Ops.m (qV.box rfl) rfl ?_
 rintro _ w1 ⟨rfl, hF1⟩
 have hU0 : IsU w1 w.heap.size none [] := ⟨0, hF1.blk, Own.nil _ _ _⟩
 have K := hF1.frm
 obtain ⟨g, hgl, hgv⟩ : ∃ g, w.heap.size ≤ g ∧ g = w.heap.size := ⟨_, zk _, rfl⟩
 rw [← hgv] at hU0
 refine ja rfl (jO (jN (jv2 0 3 ?_)))
 refine jS (jR (jz 0 (jO (jN (jB ?_)))))
 refine VC.loop (σ := Nat × Option Addr × List Nat) (fun s => [(0, .slice A0 bs.length c), (3, .pointer (some ⟨g, 0, none⟩)), (4, .int .i64 ((s.1 : Nat) : Int))]) (fun s wr => s.1 ≤ bs.length ∧ IsU wr g s.2.1 (ofB s.2.2) ∧ Frm [] w wr ∧ (∀ x ∈ ob s.2.1, w.heap.size ≤ x) ∧ s.2.2 ++ cS (bs.drop s.1) = cS bs ∧ s.2.2.length + 2 * (bs.length - s.1) ≤ 2 * bs.length ∧ ∀ b ∈ s.2.2, b < 256) (fun s => bs.length - s.1) (0, none, []) (js3 rfl (by rw [hgv]; rfl) rfl) ⟨zak _, hU0, K, by simp [ob], rfl, jp, jp⟩ ?_
 rintro ⟨a, A, pre⟩ wr ⟨ha, hU, K, hA, hm, hlen, hpb⟩
 dsimp only at ha hU hA hm hlen hpb ⊢
 refine jB (jS (jR (jm rfl (je (Run.lenS rfl zf) (jm rfl (jb rfl rfl (Bin.sub_i64 _ _ jo jo) (ja rfl (jO (jN (jv4 0 3 4 5 ?_))))))))))
 refine jS (jR (jz 1 (jO (jN (jS (jS (jR (jm rfl (jb rfl rfl (Bin.gtrN _ 65535) (jO (jN (jv6 0 3 4 5 6 14 ?_))))))))))))
 refine VC.meet (σ := Nat × Nat) (fun s => [(0, .slice A0 bs.length c), (3, .pointer (some ⟨g, 0, none⟩)), (4, .int .i64 ((a : Nat) : Int)), (5, .int .i64 ((s.1 : Nat) : Int)), (6, .int .i64 ((s.2 : Nat) : Int))]) (fun s wz => wr = wz ∧ s.1 ≤ 65535 ∧ a + s.1 ≤ bs.length ∧ s.2 < 2 ∧ (s.2 = 0 → s.1 = 65535 ∧ 65535 < bs.length - a) ∧ (s.2 = 1 → s.1 = bs.length - a)) ?_ ?_
 ·
  refine jD rfl (fun hc1 => ?_) fun hc1 => ?_
  ·
   refine jS (jR (jz 65535 (jO (jN (jv4 0 3 4 5 ?_)))))
   refine jR (jz 0 (jO ?_))
   refine jN ⟨(65535, 0), (js5 rfl rfl rfl rfl rfl), ?_⟩
   exact ⟨rfl, by dsimp only; omega, by dsimp only; omega, by dsimp only; omega, fun _ => ⟨rfl, hc1⟩, fun h => absurd h jp⟩
  refine jQ ?_
  refine jN ⟨(bs.length - a, 1), (js5 rfl rfl rfl rfl rfl), ?_⟩
  exact ⟨rfl, by dsimp only; omega, by dsimp only; omega, by dsimp only; omega, (fun h => absurd h jp), fun _ => rfl⟩
 rintro ⟨n, h⟩ _ ⟨rfl, hn1, hn2, hh, hh0, hh1⟩ Γ hΓ
 dsimp only at hn1 hn2 hh hh0 hh1 hΓ ⊢
 refine jN (VC.sub _ hΓ (jS (jR (jm rfl (jM ?_)))))
 refine Ops.cl (jE3 zed) (dW g h 1 A (ofB pre) wr jo jo (by simp only [za, bL, qN]; omega) hU) rfl ?_
 rintro e w2 ⟨rfl, A2, hU2, hfp, hAp⟩
 refine ⟨_, rfl, ?_⟩
 have Kn := K.own hfp (fun x hx => by rcases zbv.1 hx with rfl | hx; exact hgl; exact hA x hx)
 have hA : ∀ x ∈ ob A2, w.heap.size ≤ x := fun x hx => by rcases hAp x hx with h | h; exact hA x h; have := K.size; omega
 have K := Kn
 clear Kn hfp hAp
 refine jO (jN (jv5 0 3 4 5 6 ?_))
 refine jS (jR (jM ?_))
 refine Ops.cl (jE3 zed) (dW g 0 2 A2 _ w2 jo jo (by simp only [za, bL, qN]; omega) hU2) rfl ?_
 rintro e w3 ⟨rfl, A3, hU3, hfp, hAp⟩
 refine ⟨_, rfl, ?_⟩
 have Kn := K.own hfp (fun x hx => by rcases zbv.1 hx with rfl | hx; exact hgl; exact hA x hx)
 have hA : ∀ x ∈ ob A3, w.heap.size ≤ x := fun x hx => by rcases hAp x hx with h | h; exact hA x h; have := K.size; omega
 have K := Kn
 clear Kn hfp hAp
 obtain ⟨c3, hb3, ho3⟩ := hU3
 refine jO (jN (jv5 0 3 4 5 6 ?_))
 refine jS (jR (jm rfl (jm rfl (je (Run.nilck rfl) (jf rfl zdb rfl zcx (jl rfl zgl (hb3.cell 0) ?_))))))
 refine Ops.cl (jE1 Tryz.call68) (zF A3 c3 _ w3 (by simp only [za, bL, qN]; omega) ho3.rd) rfl ?_
 rintro e w4 ⟨A4, c4, rfl, ho4, hf4, hA4⟩
 refine ⟨_, rfl, ?_⟩
 have hb4 := hb3.frm hf4 jp
 have hA : ∀ x ∈ ob A4, w.heap.size ≤ x := fun x hx => zn K.size (hA4 x hx)
 have K := K.trans hf4 jp
 refine je (Run.nilck rfl) (jf rfl zdb rfl zcx ?_)
 refine Ops.st (qR.store rfl rfl zcx hb4 rfl rfl) ?_
 rintro w5 ⟨hb5, hf5, hs5⟩
 have hgA := ho4.ne_blk hb4 jd
 have hU5 : IsU w5 g A4 (cB (ofB pre ++ bitsL h 1 ++ bitsL 0 2)) := ⟨c4, hb5, ho4.frm hf5 (fun x hx hx2 => by rw [zh] at hx2; subst hx2; exact hgA hx)⟩
 rw [qQr hh] at hU5
 have K := K.own hf5 (by simp; omega)
 clear hb3 ho3 hb4 ho4 hA4 hb5 hgA
 refine jO (jN (jv5 0 3 4 5 6 ?_))
 refine jS (jR (jm rfl (jM ?_)))
 refine Ops.cl (jE3 zed) (dW g n 16 A4 _ w5 jo jo (by simp only [za, bL, qN, zp, zbx]; omega) hU5) rfl ?_
 rintro e w6 ⟨rfl, A6, hU6, hfp, hAp⟩
 refine ⟨_, rfl, ?_⟩
 have Kn := K.own hfp (fun x hx => by rcases zbv.1 hx with rfl | hx; exact hgl; exact hA x hx)
 have hA : ∀ x ∈ ob A6, w.heap.size ≤ x := fun x hx => by rcases hAp x hx with h | h; exact hA x h; have := K.size; omega
 have K := Kn
 clear Kn hfp hAp
 refine jO (jN (jv5 0 3 4 5 6 ?_))
 refine jS (jR (jm rfl (jm rfl (jb rfl rfl (Bin.sub_i64 65535 _ jo jo) ?_))))
 refine Ops.cl (jE3 zed) (dW g (65535 - n) 16 A6 _ w6 jo jo (by simp only [za, bL, qN, zp, zbx]; omega) hU6) rfl ?_
 rintro e w7 ⟨rfl, A7, hU7, hfp, hAp⟩
 refine ⟨_, rfl, ?_⟩
 have Kn := K.own hfp (fun x hx => by rcases zbv.1 hx with rfl | hx; exact hgl; exact hA x hx)
 have hA : ∀ x ∈ ob A7, w.heap.size ≤ x := fun x hx => by rcases hAp x hx with h | h; exact hA x h; have := K.size; omega
 have K := Kn
 clear Kn hfp hAp
 obtain ⟨c7, hb7, ho7⟩ := hU7
 refine jO (jN (jv5 0 3 4 5 6 ?_))
 refine jS ?_
 refine VC.heldL 15 (fun v => Blk v g 124 #[.slice A7 (ofB (pre ++ [h]) ++ bitsL n 16 ++ bitsL (65535 - n) 16).length c7]) jK ?_
 have hS : (fun v => Blk v g 124 #[.slice A7 (ofB (pre ++ [h]) ++ bitsL n 16 ++ bitsL (65535 - n) 16).length c7]) w7.drew := hb7.drawn (qQ.drew _)
 have ho7 := ho7.drawn (qQ.drew w7)
 have K := K.drawn (qQ.drew w7)
 have hln : ((bs.drop a).take n).length = n := by rw [zi, zr]; omega
 have hlb : (ofB (pre ++ [h]) ++ bitsL n 16 ++ bitsL (65535 - n) 16).length = 8 * pre.length + 40 := by simp only [za, bL, qN, zp, zbx]; omega
 refine jH 0 rfl hS (fun w0 hw0 => Run.mv rfl) ?_
 refine jH 1 rfl hS (fun w0 hw0 => Run.mv rfl) ?_
 refine jH 2 rfl hS (fun w0 hw0 => Run.nilck rfl) ?_
 refine jH 3 rfl hS (fun w0 hw0 => Run.fieldAddr rfl zdb rfl zcx jd) ?_
 refine jH 4 rfl hS (fun w0 hw0 => Run.load rfl zgl (hw0.cell 0)) ?_
 refine jH 5 rfl hS (fun w0 hw0 => Run.mv rfl) ?_
 refine jH 6 rfl hS (fun w0 hw0 => Run.mv rfl) ?_
 refine jH 7 rfl hS (fun w0 hw0 => Run.mv rfl) ?_
 refine qK.r1 8 rfl jK hS (Run.mv rfl) trivial rfl rfl ?_
 refine qK.r1 9 rfl jK hS (Run.bin rfl rfl (Bin.add_i64 _ _ jo)) trivial rfl rfl ?_
 refine qK.r1 10 rfl jK hS (Run.sliceS _ _ rfl zf zad (evB.some_ rfl) (evB.some_ rfl) jo jo) trivial rfl rfl ?_
 have eN : a + n - a = n := jo
 rw [eN]
 refine qK.cl 11 rfl jK (jE1 Tryz.call69) (of_n (cC A0 c a 1) n _ ((bs.drop a).take n) _ hln jo (fun b hb => hB b (zch (zaf hb))) (oX bs a n jo (hr.frm K jp) hc)) trivial rfl rfl ?_
 rintro e w8 ⟨A8, c8, rfl, ho8, hf8, _⟩
 have hS := hS.frm hf8 jp
 have ho7 := ho7.frm hf8 jp
 have K := K.trans hf8 jp
 refine ⟨_, rfl, hS, ?_⟩
 refine qK.m 12 rfl jK (qV.app rfl rfl zaw (oN) rfl jd ho7 ho8.rd (oQ _) jo jo) trivial rfl rfl ?_
 rintro _ w9 ⟨A9, c9, rfl, ho9, hf9, hob9⟩
 have hgA := ho7.ne_blk hS jd
 have hS := hS.frm hf9 hgA
 have hK8 := K.size
 have K := K.own hf9 hA
 have hA9 : ∀ x ∈ ob A9, w.heap.size ≤ x := fun x hx => by rcases hob9 with h | h; rw [h] at hx; exact hA x hx; rw [h, zh] at hx; omega
 refine ⟨hS, ?_⟩
 refine qK.r1 13 rfl jK hS (Run.nilck rfl) trivial rfl rfl ?_
 refine qK.r1 14 rfl jK hS (Run.fieldAddr rfl zdb rfl zcx jd) trivial rfl rfl ?_
 refine qK.stL rfl jK (qR.store rfl rfl zcx hS rfl rfl) trivial rfl ?_
 rintro w10 ⟨hb10, hf10, hs10⟩
 have hgA9 := ho9.ne_blk hS jd
 rw [← kX] at ho9
 have hl9 : (ofB (pre ++ [h]) ++ bitsL n 16 ++ bitsL (65535 - n) 16).length + 8 * n = (ofB (pre ++ [h]) ++ bitsL n 16 ++ bitsL (65535 - n) 16 ++ ofB ((bs.drop a).take n)).length := qSr (by rw [bL, hln])
 rw [hl9, qHl hln hn1] at ho9 hb10
 have hU10 : IsU w10 g A9 (ofB (pre ++ eH h ((bs.drop a).take n))) := ⟨c9, hb10, ho9.frm hf10 (fun x hx hx2 => by rw [zh] at hx2; subst hx2; exact hgA9 hx)⟩
 have K := K.own hf10 (by simp; omega)
 have hpb2 : ∀ b ∈ pre ++ eH h ((bs.drop a).take n), b < 256 := fun b hb => by
  rcases List.mem_append.1 hb with hb | hb
  · exact hpb b hb
  exact qXr hh (fun b hb => hB b (zch (zaf hb))) jo b hb
 obtain ⟨c10, hb10, ho10⟩ := hU10
 refine qK.done jK ?_
 refine jN (jv5 0 3 4 5 6 ?_)
 refine jS (jR (jm rfl (jm rfl (jb rfl rfl (Bin.add_i64 _ _ jo) (ja rfl (jO (jN (jv4 0 3 4 6 ?_))))))))
 refine jS (jR (jm rfl (jb rfl rfl (Bin.eqlN _ 1) (jO (jN (jv4 0 3 4 54 ?_))))))
 refine jD rfl (fun hc2 => ?_) fun hc2 => ?_
 ·
  have hh1n := hh1 hc2
  subst hc2
  have hm2 : pre ++ eH 1 ((bs.drop a).take n) = cS bs := by
   rw [lD, if_neg (by rw [zr]; omega)] at hm
   rw [zm (by rw [zr]; omega)]
   exact hm
  rw [hm2] at hpb2 hb10 ho10
  refine jS (jR (jm rfl (je (Run.nilck rfl) (jf rfl zdb rfl zcx (jl rfl zgl (hb10.cell 0) ?_)))))
  refine Ops.cl (jE1 Tryz.call70) (oY A9 c10 (ofB (cS bs)) w10 (by rw [bL]; have := rB _ bs (zk _); omega) ho10.rd) rfl ?_
  rintro e w11 ⟨rfl, hf11⟩
  refine ⟨_, rfl, ?_⟩
  rw [yQ _ hpb2]
  refine ja rfl (jO (jN (jv1 2 ?_)))
  refine jT ?_
  refine qO (qP (qO (qT rfl ?_)))
  exact ⟨rfl, K.trans hf11 jp⟩
 refine jQ ?_
 refine qJ (jN ⟨(a + n, A9, pre ++ eH h ((bs.drop a).take n)), (js3 rfl rfl rfl), ?_, ?_⟩)
 ·
  have h0 : h = 0 := jo
  obtain ⟨h65, h66⟩ := hh0 h0
  subst h0 h65
  rw [lD, if_pos (by rw [zr]; exact h66), ← zj, List.drop_drop] at hm
  exact ⟨by dsimp only; omega, ⟨c10, hb10, ho10⟩, K, hA9, hm, by dsimp only; rw [za, tO, hln]; omega, hpb2⟩
 dsimp only; have := hh0 (jo : h = 0); omega
theorem qPe (A0 : Option Addr) (c : Nat) (bs : List Nat) (w : World) (hl : bs.length ≤ 32768) (hB : ∀ b ∈ bs, b < 256) (hr : Rd w 1 A0 bs.length (NB bs)) :
  Calls Tryz.prog 38 #[.slice A0 bs.length c] w fun e w' => e = .returned (.string (eT (qC (eQ bs)))) ∧ Frm [] w w' := by
 have htl := oZ bs
 have hok := nM bs 0 hl hB
 have hfl := qKr bs hl hB
 refine VC.calls (nt := 27) (res := #[.tmp 2]) Tryz.func38 rfl Tryz.ntmps38 Tryz.results38 rfl ?_
 refine jS (jR (ja rfl (jO (jN (jv1 0 ?_)))))
 refine jS (jR (je (Run.build evs.nil qQ6 (mQ).choose_spec.1 (mQ).choose_spec.2 rfl) ?_))
 refine Ops.m (qV.box rfl) rfl ?_
 rintro _ w1 ⟨rfl, hF1⟩
 have hU0 : IsU w1 w.heap.size none [] := ⟨0, hF1.blk, Own.nil _ _ _⟩
 have K := hF1.frm
 have hA : ∀ x ∈ ob (none : Option Addr), w.heap.size ≤ x := by simp [ob]
 obtain ⟨g, hgl, hgv⟩ : ∃ g, w.heap.size ≤ g ∧ g = w.heap.size := ⟨_, zk _, rfl⟩
 rw [← hgv] at hU0
 rw [← hgv]
 refine ja rfl (jO (jN (jv2 0 3 ?_)))
 refine jS (jR (jM ?_))
 refine Ops.cl (jE3 zed) (dW g 1 1 none _ w1 jo jo jp hU0) rfl ?_
 rintro e w2 ⟨rfl, A2, hU2, hfp, hAp⟩
 refine ⟨_, rfl, ?_⟩
 have Kn := K.own hfp (fun x hx => by rcases zbv.1 hx with rfl | hx; exact hgl; exact hA x hx)
 have hA : ∀ x ∈ ob A2, w.heap.size ≤ x := fun x hx => by rcases hAp x hx with h | h; exact hA x h; have := K.size; omega
 have K := Kn
 clear Kn hfp hAp
 refine jO (jN (jv2 0 3 ?_))
 refine jS (jR (jM ?_))
 refine Ops.cl (jE3 zed) (dW g 1 2 A2 _ w2 jo jo (by simp [qN]) hU2) rfl ?_
 rintro e w3 ⟨rfl, A3, hU3, hfp, hAp⟩
 refine ⟨_, rfl, ?_⟩
 have Kn := K.own hfp (fun x hx => by rcases zbv.1 hx with rfl | hx; exact hgl; exact hA x hx)
 have hA : ∀ x ∈ ob A3, w.heap.size ≤ x := fun x hx => by rcases hAp x hx with h | h; exact hA x h; have := K.size; omega
 have K := Kn
 clear Kn hfp hAp
 refine jO (jN (jv2 0 3 ?_))
 refine jS (jR ?_)
 refine Ops.cl (jE0 Tryz.call71) (qWn _) rfl ?_
 rintro e w5 ⟨La, c1, Lb, c2, rfl, hoa, hob, hf5⟩
 refine ⟨_, rfl, ?_⟩
 have hU3 := hU3.new hf5
 have K := K.trans hf5 jp
 refine jm rfl (je (Run.extract rfl rfl) (je (Run.extract rfl rfl) (ja rfl (ja rfl (jO (jN (jv4 0 3 4 5 ?_)))))))
 refine jS (jR (jm rfl (jM ?_)))
 refine Ops.cl (jE1 Tryz.call73) (qQw A0 c bs w5 hl (hr.frm K jp)) rfl ?_
 rintro e w6 ⟨Bt, dt, rfl, hot, hf6, _⟩
 refine ⟨_, rfl, ?_⟩
 have hU3 := hU3.new hf6
 have hoa := hoa.frm hf6 jp
 have hob := hob.frm hf6 jp
 have K := K.trans hf6 jp
 refine jm rfl (jM ?_)
 refine Ops.cl (jE4 Tryz.call72) (qZ7 g dt c1 c2 288 32 _ A3 Bt La Lb _ (qS bs 0) cQ cX w6 mE mF rfl mY rY jo jo hok jo (by simp [qN]) hU3 hot hoa.rd hob.rd) rfl ?_
 rintro e w7 ⟨rfl, A4, hU4, hf7, hA4⟩
 refine ⟨_, rfl, ?_⟩
 have K := K.own hf7 (fun x hx => by rcases zbv.1 hx with rfl | hx; exact hgl; exact hA x hx)
 obtain ⟨c4, hb4, ho4⟩ := hU4
 have hfx : [] ++ bitsL 1 1 ++ bitsL 1 2 ++ cT cQ cX (qS bs 0) = eQ bs := rfl
 rw [hfx] at hb4 ho4
 refine jO (jN (jv1 3 ?_))
 refine jS (jR (jm rfl (je (Run.nilck rfl) (jf rfl zdb rfl zcx (jl rfl zgl (hb4.cell 0) ?_)))))
 refine Ops.cl (jE1 Tryz.call70) (oY A4 c4 (eQ bs) w7 jo ho4.rd) rfl ?_
 rintro e w8 ⟨rfl, hf8⟩
 refine ⟨_, rfl, ?_⟩
 refine ja rfl (jO (jN (jv1 2 ?_)))
 refine jT ?_
 refine qT rfl ?_
 exact ⟨rfl, K.trans hf8 jp⟩
end
section
open Go.RowKit
theorem qXs (A : Option Addr) (n c0 : Nat) (cs : List Nat) (m : Nat) (w : World) (hn : cs.length = n) (hl : n ≤ 320) (hb : ∀ x ∈ cs, x ≤ 2147483647) (hm1 : 1 ≤ m) (hm2 : m ≤ 15) (hf : n ≤ 2 ^ m) (hr : Rd w 1 A n (NI cs)) :
  Calls Tryz.prog 77 #[.slice A n c0, .int .i64 ((m : Nat) : Int)] w fun e w' => ∃ B c, e = .returned (.tuple #[.slice B n c, .int .i64 ((0 : Nat) : Int)]) ∧ Own w' 3 1 B n c (NI (dJ cs m)) ∧ Frm [] w w' ∧ LenOk cs (dJ cs m) m := by
 subst hn
 exact qSh A c0 cs m w hl hb hm1 hm2 hf hr
theorem qXt (A : Option Addr) (n c least : Nat) (l : List Nat) (w : World) (hn : l.length = n) (hl : n ≤ 1000000) (hle : least ≤ n) (hr : Rd w 1 A n (NI l)) :
  Calls Tryz.prog 78 #[.slice A n c, .int .i64 ((least : Nat) : Int)] w fun e w' => e = .returned (.int .i64 (((cN l least).length : Nat) : Int)) ∧ w = w' := by
 subst hn
 have h := qHk A c least l w hl jo hr
 rw [qZ6 l least _ hle, ← gJ] at h
 exact h
theorem qBv (A : Option Addr) (n c : Nat) (l : List Nat) (w : World) (hn : l.length = n) (hl : n ≤ 100000) (hr : Rd w 1 A n (NI l)) :
  Calls Tryz.prog 79 #[.slice A n c] w fun e w' => ∃ B d, e = .returned (.slice B (dK l 0).length d) ∧ Own w' 140 3 B (dK l 0).length d (SDC (dK l 0)) ∧ Frm [] w w' ∧ ∀ x ∈ ob B, w.heap.size ≤ x := by
 subst hn
 exact qPc A c l w hl hr
theorem qSs (A : Option Addr) (n c0 : Nat) (l : List Nat) (w : World) (hn : l.length = n) (h : LOk (toZ l)) (hr : Rd w 1 A n (NI l)) :
  Calls Tryz.prog 80 #[.slice A n c0] w fun e w' => ∃ B c, e = .returned (.slice B n c) ∧ Own w' 179 2 B n c ((cW (toZ l)).flatMap CB) ∧ Frm [] w w' := by
 subst hn
 have h1 := wV A c0 (toZ l) w h (by rw [bM, ← oK]; exact hr)
 rw [bM] at h1
 exact h1
theorem qUr (n g s c1 : Nat) (A B : Option Addr) (l : List Bool) (ls : List Int) (w : World) (hn : ls.length = n) (hg : fG ls) (hk : KC (cn ls) 16 ≤ 32768) (hs : s < n) (hl : l.length ≤ 1000000000) (hU : IsU w g A l) (hc : Own w 179 2 B n c1 ((cW ls).flatMap CB)) :
  Calls Tryz.prog 81 #[.pointer (some ⟨g, 0, none⟩), .slice B n c1, .int .i64 ((s : Nat) : Int)] w fun e w' => e = .returned (.tuple #[]) ∧ UR w w' g A (l ++ bH ls s) := by
 subst hn
 exact nZ g s c1 A B l ls w hg hk hs hl hU hc
theorem qXu {w : World} {e g n : Nat} {xs : List Value} (h : Own w e 1 (some ⟨g, 0, none⟩) n n xs) (hn : 0 < n) : Blk w g e xs.toArray := by
 rcases h.cases with ⟨h1, _⟩ | ⟨g', cur, h1, hb, _, _, hs, ht⟩
 · cases h1
 cases h1
 rw [zm (by simp [hs])] at ht
 rw [← ht]
 exact hb
theorem qQy {w : World} {e n c : Nat} {ad : Addr} {L : List Sd} (h : Own w e 3 (some ad) n c (SDC L)) (hn : L.length = n) {i : Nat} (hi : i < n) (j : Nat) (v : Value) (hj : (sdC (L.getD i (0, 0, 0)))[j]? = some v) : w.cell? ((ad.add (i * 3)).add j) = some v := by
 obtain ⟨ad', h1, hel⟩ := h.rd.elem hi
 cases h1
 rw [qQs L i jo] at hel
 exact hel j v hj
theorem qQz {w : World} {e n c : Nat} {ad : Addr} {L : List Tk} (h : Own w e 3 (some ad) n c (TC L)) (hn : L.length = n) {i : Nat} (hi : i < n) (j : Nat) (v : Value) (hj : (gF (L.getD i (0, 0, 0)))[j]? = some v) : w.cell? ((ad.add (i * 3)).add j) = some v := by
 obtain ⟨ad', h1, hel⟩ := h.rd.elem hi
 cases h1
 rw [qQg L i jo] at hel
 exact hel j v hj
theorem zK {w : World} {e size n c : Nat} {A : Option Addr} {xs : List Value} (h : Own w e size A n c xs) (hn : 0 < n) : ∃ ad, A = some ad := by
 obtain ⟨ad, h1, _⟩ := h.rd.2 hn
 exact ⟨ad, h1⟩
theorem uJ : bX.length = 19 := rfl
theorem qUs {i : Nat} (h : i < 19) : bX.getD i 0 < 19 := by
 have : ∀ i, i < 19 → bX.getD i 0 < 19 := jd
 exact this i h
theorem qSt (l : List Nat) {i : Nat} (h : i < 19) : (cU l).take (i + 1) = (cU l).take i ++ [l.getD (bX.getD i 0) 0] := by
 rw [nT (L := cU l) (by rw [eO]; exact h)]
 congr 2
 unfold cU
 rw [ze, zbd, zb (show i < bX.length by rw [uJ]; exact h)]
 rw [ze (l := bX), zb (show i < bX.length by rw [uJ]; exact h)]
 rfl
theorem qZ8 (A0 : Option Addr) (c : Nat) (bs : List Nat) (w : World) (hl : bs.length ≤ 32768) (hB : ∀ b ∈ bs, b < 256) (hr : Rd w 1 A0 bs.length (NB bs)) :
  Calls Tryz.prog 39 #[.slice A0 bs.length c] w fun e w' => e = .returned (.string (eT (qC (eG bs)))) ∧ Frm [] w w' := by
 have htl := oZ bs
 have hok := nM bs 0 hl hB
 refine VC.calls (nt := 203) (res := #[.tmp 2]) Tryz.func39 rfl Tryz.ntmps39 Tryz.results39 rfl ?_
 refine jS (jR (ja rfl (jO (jN (jv1 0 ?_)))))
 refine jS (jR (jM ?_))
 refine Ops.cl (jE1 Tryz.call73) (qQw A0 c bs w hl hr) rfl ?_
 rintro e w1 ⟨Bt, dt, rfl, hot, K, _⟩
 refine ⟨_, rfl, ?_⟩
 have hnt : (qS bs 0).length = (qS bs 0).length := rfl
 generalize hntv : (qS bs 0).length = nt at *
 refine ja rfl (jO (jN (jv1 3 ?_)))
 refine jS ?_
 refine VC.held (fun W => Frm [] w1 W) jK ?_
 have hS : Frm [] w1 w1.drew := (Frm.refl _ _).drew
 refine qK.par (target := #[true, true, true, false]) [⟨0, 22, [], false, fun _ u lo hi W => (u = .slice (some ⟨lo, 0, none⟩) 286 286 ∧ lo < hi) ∧ Blk W lo 3 (NI (rep 286)).toArray⟩, ⟨1, 23, [], false, fun _ u lo hi W => (u = .slice (some ⟨lo, 0, none⟩) 30 30 ∧ lo < hi) ∧ Blk W lo 3 (NI (rep 30)).toArray⟩, PT.mv 2 4 22 []] 3 rfl jK (show List.Nodup ([22, 23, 4] : List Nat) by decide) (show List.Nodup ([0, 1, 2] : List Nat) by decide) (fun t ht => ?_) (fun t ht => ?_) (fun W hW => ?_) (fun t ht => ?_) (fun t ht => ?_) (fun t ht W g hW hD hE => ?_) (fun g W hW hA => ?_)
 ·
  simp only [zbv, zbm, or_false] at ht
  rcases ht with rfl | rfl | rfl
  · rfl
  · rfl
  rfl
 ·
  simp only [zbv, zbm, or_false] at ht
  rcases ht with rfl | rfl | rfl
  · exact fun x hx => absurd hx jp
  · exact fun x hx => absurd hx jp
  intro x hx
  simp only [zbv, zbm, or_false] at hx
  rcases hx with rfl
  exact ⟨_, (.head _), rfl⟩
 · exact hS.trans hW jp
 ·
  simp only [zbv, zbm, or_false] at ht
  rcases ht with rfl | rfl | rfl
  · exact fun _ v lo hi W W' hf h => ⟨h.1, h.2.frm hf jp⟩
  · exact fun _ v lo hi W W' hf h => ⟨h.1, h.2.frm hf jp⟩
  exact fun _ _ _ _ _ _ _ h => h
 ·
  simp only [zbv, zbm, or_false] at ht
  rcases ht with rfl | rfl | rfl
  · exact fun _ _ _ _ _ _ _ h => h
  · exact fun _ _ _ _ _ _ _ h => h
  exact fun ρ ρ' v lo hi W h e => e.trans (h _ (.head _))
 ·
  simp only [zbv, zbm, or_false] at ht
  rcases ht with rfl | rfl | rfl
  ·
   refine lZ.m rfl rfl rfl rfl rfl (qV.makeS (n := 286) rfl rfl zd (dX) rfl jo jo) ?_
   rintro _ W' ⟨rfl, hO, hF, hsz⟩
   exact ⟨hF, ⟨rfl, by rw [hsz]; omega⟩, qXu (xs := NI (rep 286)) hO jo⟩
  ·
   refine lZ.m rfl rfl rfl rfl rfl (qV.makeS (n := 30) rfl rfl zd (dX) rfl jo jo) ?_
   rintro _ W' ⟨rfl, hO, hF, hsz⟩
   exact ⟨hF, ⟨rfl, by rw [hsz]; omega⟩, qXu (xs := NI (rep 30)) hO jo⟩
  exact lZ.r rfl rfl rfl rfl (fun _ => Run.asg rfl) rfl
 have hA22 := hA.1 _ (.head _)
 have hA23 := hA.1 _ (.tail _ (.head _))
 have hA4 := hA.1 _ (.tail _ (.tail _ (.head _)))
 have hA22_23 := hA.2 _ (.head _) _ (.tail _ (.head _)) (show (22 : Nat) ≠ 23 by decide)
 clear hA
 simp only [zai, zhv, zcr, zbf]
 dsimp only at hA22 hA23 hA4 hA22_23
 generalize g 22 = q22 at *
 obtain ⟨u22, lo22, hi22⟩ := q22
 generalize g 23 = q23 at *
 obtain ⟨u23, lo23, hi23⟩ := q23
 generalize g 4 = q4 at *
 obtain ⟨u4, lo4, hi4⟩ := q4
 dsimp only at hA22 hA23 hA4 hA22_23 ⊢
 obtain ⟨⟨⟨rfl, hlt22⟩, hbl⟩, hA22⟩ := hA22
 obtain ⟨⟨⟨rfl, hlt23⟩, hbw⟩, hA23⟩ := hA23
 change w1.heap.size ≤ _ ∧ _ at hA22
 change w1.heap.size ≤ _ ∧ _ at hA23
 have hne : lo22 ≠ lo23 := jo
 have hgl := hA22.1
 have hgw := hA23.1
 have hS := hS.trans hW jp
 clear hA22 hA23 hA22_23
 obtain rfl := hA4.1
 refine jH 3 rfl hS (fun w0 hw0 => Run.asg rfl) ?_
 refine qK.done jK ?_
 refine jN (jv3 3 4 5 ?_)
 refine jS (jR (jm rfl (je (Run.index1 256 rfl rfl zd zc jo) ?_)))
 refine Ops.st (qR.store rfl rfl zc hbl (by rw [zep]; simp [NI, rep]) rfl) ?_
 rintro w3 ⟨hbl3, hf3, hs3⟩
 have hbl : Blk w3 lo22 3 (NI (dQ ((qS bs 0).take 0))).toArray := by
  have e : (NI (rep 286)).toArray.setIfInBounds 256 (.int .i64 ((1 : Nat) : Int)) = (NI (dQ ((qS bs 0).take 0))).toArray := oO (rep 286) 256 1
  rw [← e]
  exact hbl3
 have hbw : Blk w3 lo23 3 (NI (eJ ((qS bs 0).take 0))).toArray := hbw.frm hf3 (by simp; omega)
 have hS := hS.own hf3 (by simp; omega)
 clear hbl3
 refine jO (jN (jv3 3 4 5 ?_))
 refine jS (jS (jR (jz 0 (jO (jN (jB ?_))))))
 refine VC.loop (σ := Nat) (fun s => [(3, .slice Bt nt dt), (4, .slice (some ⟨lo22, 0, none⟩) 286 286), (5, .slice (some ⟨lo23, 0, none⟩) 30 30), (6, .int .i64 ((s : Nat) : Int))]) (fun s wr => s ≤ nt ∧ Blk wr lo22 3 (NI (dQ ((qS bs 0).take s))).toArray ∧ Blk wr lo23 3 (NI (eJ ((qS bs 0).take s))).toArray ∧ Frm [] w1 wr) (fun s => nt - s) 0 (js4 rfl rfl rfl rfl) ⟨zak _, hbl, hbw, hS⟩ ?_
 rintro i wr ⟨hi, hbl, hbw, hS⟩
 refine jS (jS (jR (jm rfl (jm rfl (je (Run.lenS rfl zbp) (jb rfl rfl (Bin.lssN _ _) (jO (jN (jv5 3 4 5 6 29 ?_)))))))))
 refine jD rfl (fun hc1 => ?_) fun hc1 => ?_
 ·
  have hotr := hot.frm hS jp
  obtain ⟨ad, hAd⟩ := zK hotr jo
  subst hAd
  have hsn := pN (jo : i < (qS bs 0).length)
  have hqok := hok ((qS bs 0).getD i (0, 0, 0)) (by rw [ze, zb (jo : i < (qS bs 0).length)]; exact zt _)
  have hll1 := dV ((qS bs 0).take i)
  have hwl1 := dD ((qS bs 0).take i)
  have hle1 := wD ((qS bs 0).take i)
  have hle2 := wE ((qS bs 0).take i)
  rw [zi, zal (jo : i ≤ (qS bs 0).length)] at hle1 hle2
  have hl1 := qZl ((qS bs 0).take i) ((qS bs 0).getD i (0, 0, 0))
  have hl2 := qZm ((qS bs 0).take i) ((qS bs 0).getD i (0, 0, 0))
  rw [← hsn] at hl1 hl2
  generalize dQ ((qS bs 0).take i) = cl at *
  generalize eJ ((qS bs 0).take i) = cw at *
  clear hsn
  refine jQ (jN (jv4 3 4 5 6 ?_))
  refine jS (jB (jS (jR (jm rfl (jm rfl (je (Run.indexS _ rfl rfl zbp zcs jo) (jf rfl zbg rfl zc (jl rfl zg (qQz hotr hntv hc1 1 _ rfl) (jb rfl rfl (Bin.eqlN _ 0) (jO (jN (jv5 3 4 5 6 37 ?_))))))))))))
  refine jD rfl (fun hc2 => ?_) fun hc2 => ?_
  ·
   have hq8 : ((qS bs 0).getD i (0, 0, 0)).1 < 256 := by rcases hqok with ⟨_, _, h⟩ | ⟨_, h, _⟩ <;> omega
   have hv1 := mH hle1 ((qS bs 0).getD i (0, 0, 0)).1
   unfold eW at hl1
   rw [if_pos hc2] at hl1
   unfold eB at hl2
   rw [if_pos hc2] at hl2
   refine jR (jm rfl (jm rfl (jm rfl (je (Run.indexS _ rfl rfl zbp zcs jo) (jf rfl zbg rfl zad (jl rfl zdr (qQz hotr hntv hc1 0 _ rfl) (je (Run.index1 _ rfl rfl zd zc jo) (jl rfl zg (by rw [fY, hbl.cell]; exact pQ _ _ jo) (jb rfl rfl (Bin.add_i64 _ 1 jo) (je (Run.index1 _ rfl rfl zd zc jo) ?_))))))))))
   refine Ops.st (qR.store0 rfl rfl zc hbl (by simp only [zca, NI, zl]; omega) rfl) ?_
   rintro w6 ⟨hbl, hf6, hs6⟩
   rw [oO, ← hl1] at hbl
   refine jO ?_
   refine qJ (jN ?_)
   refine jv4 3 4 5 6 ?_
   refine jR (jm rfl (jb rfl rfl (Bin.add_i64 _ 1 jo) (ja rfl (jO ?_))))
   refine jN ⟨i + 1, (js4 rfl rfl rfl rfl), ?_, ?_⟩
   ·
    rw [← hl2] at hbw
    exact ⟨hc1, hbl, hbw.frm hf6 (by simp; omega), hS.own hf6 (by simp; omega)⟩
   first | omega | (dsimp only; omega)
  obtain ⟨q1, q3, q4, q5, q6⟩ : ((qS bs 0).getD i (0, 0, 0)).1 = 0 ∧ 3 ≤ ((qS bs 0).getD i (0, 0, 0)).2.1 ∧ ((qS bs 0).getD i (0, 0, 0)).2.1 ≤ 258 ∧ 1 ≤ ((qS bs 0).getD i (0, 0, 0)).2.2 ∧ ((qS bs 0).getD i (0, 0, 0)).2.2 ≤ 32768 := by
   rcases hqok with ⟨h, _⟩ | h
   · exact absurd h hc2
   exact h
  have hlf := fA q3 q4
  have hwf := fI q5 q6
  have hv1 := mH hle1 (257 + lenS ((qS bs 0).getD i (0, 0, 0)).2.1)
  have hv2 := mH hle2 (wayS ((qS bs 0).getD i (0, 0, 0)).2.2)
  unfold eW at hl1
  rw [if_neg hc2] at hl1
  unfold eB at hl2
  rw [if_neg hc2] at hl2
  refine jS ?_
  refine VC.heldL 13 (fun v => Own v 132 3 (some ad) nt dt (TC (qS bs 0)) ∧ Blk v lo22 3 (NI cl).toArray) jK ?_
  have hb0 := hbw.drawn (qQ.drew wr)
  have hSS : (fun v => Own v 132 3 (some ad) nt dt (TC (qS bs 0)) ∧ Blk v lo22 3 (NI cl).toArray) wr.drew := ⟨hotr.drawn (qQ.drew wr), hbl.drawn (qQ.drew wr)⟩
  have hK9 := hS.drawn (qQ.drew wr)
  have hS := hSS
  refine jH 0 rfl hS (fun w0 hw0 => Run.mv rfl) ?_
  refine jH 2 rfl hS (fun w0 hw0 => Run.mv rfl) ?_
  refine jH 3 rfl hS (fun w0 hw0 => Run.mv rfl) ?_
  refine jH 4 rfl hS (fun w0 hw0 => Run.indexS _ rfl rfl zbp zcs jo) ?_
  refine jH 5 rfl hS (fun w0 hw0 => Run.fieldAddr rfl zbg rfl zc jd) ?_
  refine jH 6 rfl hS (fun w0 hw0 => Run.load rfl zg (qQz hw0.1 hntv hc1 1 _ rfl)) ?_
  refine qK.cl 1 rfl jK (jE0 Tryz.call75) (oG _) trivial rfl rfl ?_
  rintro e w5 ⟨AL, cL, rfl, hL, hf5, _⟩
  have hS := And.intro (hS.1.frm hf5 jp) (hS.2.frm hf5 jp)
  have hb0 := hb0.frm hf5 jp
  have hK9 := hK9.trans hf5 jp
  refine ⟨_, rfl, hS, ?_⟩
  refine qK.cl 7 rfl jK (jE2 Tryz.call74) (qVn AL cL _ w5 hL.rd) trivial rfl rfl ?_
  rintro e _ ⟨rfl, rfl⟩
  refine ⟨_, rfl, hS, ?_⟩
  refine qK.r1 8 rfl jK hS (Run.bin rfl rfl (Bin.add_i64 257 _ jo)) trivial rfl rfl ?_
  refine qK.r1 9 rfl jK hS (Run.index1 _ rfl rfl zd zc jo) trivial rfl rfl ?_
  refine qK.r1 10 rfl jK hS (Run.load rfl zg (by rw [fY, hS.2.cell]; exact pQ _ _ jo)) trivial rfl rfl ?_
  refine qK.r1 11 rfl jK hS (Run.bin rfl rfl (Bin.add_i64 _ 1 jo)) trivial rfl rfl ?_
  refine qK.r1 12 rfl jK hS (Run.index1 _ rfl rfl zd zc jo) trivial rfl rfl ?_
  refine qK.stL rfl jK (qR.store0 rfl rfl zc hS.2 (by simp only [zca, NI, zl]; omega) rfl) trivial rfl ?_
  rintro w6 ⟨hbl, hf6, hs6⟩
  rw [oO, ← hl1] at hbl
  have hot6 := hS.1.frm hf6 (fun x hx hx2 => by rw [zh] at hx2; subst hx2; exact hS.1.ne_blk hS.2 jd hx)
  have hb0 := hb0.frm hf6 (by simp; omega)
  have hK9 := hK9.own hf6 (by simp; omega)
  refine qK.done jK ?_
  refine jN (jv4 3 4 5 6 ?_)
  refine VC.heldL 12 (fun v => Own v 132 3 (some ad) nt dt (TC (qS bs 0)) ∧ Blk v lo23 3 (NI cw).toArray) jK ?_
  have hbl := hbl.drawn (qQ.drew w6)
  have hS : (fun v => Own v 132 3 (some ad) nt dt (TC (qS bs 0)) ∧ Blk v lo23 3 (NI cw).toArray) w6.drew := ⟨hot6.drawn (qQ.drew w6), hb0.drawn (qQ.drew w6)⟩
  have hK9 := hK9.drawn (qQ.drew w6)
  refine jH 0 rfl hS (fun w0 hw0 => Run.mv rfl) ?_
  refine jH 2 rfl hS (fun w0 hw0 => Run.mv rfl) ?_
  refine jH 3 rfl hS (fun w0 hw0 => Run.mv rfl) ?_
  refine jH 4 rfl hS (fun w0 hw0 => Run.indexS _ rfl rfl zbp zcs jo) ?_
  refine jH 5 rfl hS (fun w0 hw0 => Run.fieldAddr rfl zbg rfl zc jd) ?_
  refine jH 6 rfl hS (fun w0 hw0 => Run.load rfl zg (qQz hw0.1 hntv hc1 2 _ rfl)) ?_
  refine qK.cl 1 rfl jK (jE0 Tryz.call76) (tN _) trivial rfl rfl ?_
  rintro e w7 ⟨AL2, cL2, rfl, hL2, hf7, _⟩
  have hS := And.intro (hS.1.frm hf7 jp) (hS.2.frm hf7 jp)
  have hbl := hbl.frm hf7 jp
  have hK9 := hK9.trans hf7 jp
  refine ⟨_, rfl, hS, ?_⟩
  refine qK.cl 7 rfl jK (jE2 Tryz.call74) (qVo AL2 cL2 _ w7 hL2.rd) trivial rfl rfl ?_
  rintro e _ ⟨rfl, rfl⟩
  refine ⟨_, rfl, hS, ?_⟩
  refine qK.r1 8 rfl jK hS (Run.index1 _ rfl rfl zd zc jo) trivial rfl rfl ?_
  refine qK.r1 9 rfl jK hS (Run.load rfl zg (by rw [fY, hS.2.cell]; exact pQ _ _ jo)) trivial rfl rfl ?_
  refine qK.r1 10 rfl jK hS (Run.bin rfl rfl (Bin.add_i64 _ 1 jo)) trivial rfl rfl ?_
  refine qK.r1 11 rfl jK hS (Run.index1 _ rfl rfl zd zc jo) trivial rfl rfl ?_
  refine qK.stL rfl jK (qR.store0 rfl rfl zc hS.2 (by simp only [zca, NI, zl]; omega) rfl) trivial rfl ?_
  rintro w8 ⟨hbw, hf8, hs8⟩
  rw [oO, ← hl2] at hbw
  have hbl := hbl.frm hf8 (by simp; omega)
  have hK9 := hK9.own hf8 (by simp; omega)
  refine qK.done jK ?_
  refine qJ (jN ?_)
  refine jv4 3 4 5 6 ?_
  refine jR (jm rfl (jb rfl rfl (Bin.add_i64 _ 1 jo) (ja rfl (jO ?_))))
  refine jN ⟨i + 1, (js4 rfl rfl rfl rfl), ?_, ?_⟩
  · exact ⟨hc1, hbl, hbw, hK9⟩
  first | omega | (dsimp only; omega)
 refine jX ?_
 refine qZ (qZ (qW ?_))
 refine jN (jv3 3 4 5 ?_)
 refine jS (jR (jM ?_))
 have ei : nt = i := jo
 subst ei
 rw [← hntv, zas] at hbl hbw
 refine Ops.cl (jE2 Tryz.call77) (qXs (some ⟨lo22, 0, none⟩) 286 286 (dQ (qS bs 0)) 15 wr (dV _) jo (fun x hx => by have := wD _ x hx; omega) jo jo jd (Rd.of_blk (n := 286) (size := 1) hbl (by simp [NI, dV]))) rfl ?_
 rintro e w10 ⟨Ba, ca, rfl, hoa, hf10, hlo⟩
 refine ⟨_, rfl, ?_⟩
 have hbw := hbw.frm hf10 jp
 have hS := hS.trans hf10 jp
 refine jm rfl (je (Run.extract rfl rfl) (je (Run.extract rfl rfl) (ja rfl (jO (jN (jv3 3 4 5 ?_))))))
 refine jS (jR (jM ?_))
 refine Ops.cl (jE2 Tryz.call77) (qXs (some ⟨lo23, 0, none⟩) 30 30 (eJ (qS bs 0)) 15 w10 (dD _) jo (fun x hx => by have := wE _ x hx; omega) jo jo jd (Rd.of_blk (n := 30) (size := 1) hbw (by simp [NI, dD]))) rfl ?_
 rintro e w11 ⟨Bb, cb, rfl, hob, hf11, hwo⟩
 refine ⟨_, rfl, ?_⟩
 have hoa := hoa.frm hf11 jp
 have hS := hS.trans hf11 jp
 have hlo : LenOk (dQ (qS bs 0)) (dZ bs) 15 := hlo
 have hwo : LenOk (eJ (qS bs 0)) (dT bs) 15 := hwo
 have hoa : Own w11 3 1 Ba 286 ca (NI (dZ bs)) := hoa
 have hob : Own w11 3 1 Bb 30 cb (NI (dT bs)) := hob
 obtain ⟨hL1, hL2, hM1, hM2, hF1, hF2, hLok, hLl⟩ := uQ bs hlo hwo
 have hot := hot.frm hS jp
 have K := K.trans hS jp
 refine jm rfl (je (Run.extract rfl rfl) (je (Run.extract rfl rfl) (ja rfl (jO (jN (jv3 3 4 5 ?_))))))
 refine jS (jR (jM ?_))
 refine Ops.cl (jE2 Tryz.call78) (qXt Ba 286 ca 257 (dZ bs) w11 hL1 jo jo hoa.rd) rfl ?_
 rintro e _ ⟨rfl, rfl⟩
 refine ⟨_, rfl, ?_⟩
 have em : (cN (dZ bs) 257).length = (bW bs).length := rfl
 rw [em]
 refine jM ?_
 refine Ops.cl (jE2 Tryz.call78) (qXt Bb 30 cb 1 (dT bs) w11 hL2 jo jo hob.rd) rfl ?_
 rintro e _ ⟨rfl, rfl⟩
 refine ⟨_, rfl, ?_⟩
 have ef : (cN (dT bs) 1).length = (bF bs).length := rfl
 rw [ef]
 generalize hvm : (bW bs).length = vm at *
 generalize hvf : (bF bs).length = vf at *
 have hmt : bW bs = (dZ bs).take vm := by rw [← hvm]; unfold bW cN; rw [zi, zal (mG _ _ _)]
 have hft : bF bs = (dT bs).take vf := by rw [← hvf]; unfold bF cN; rw [zi, zal (mG _ _ _)]
 refine ja rfl (ja rfl (jO (jN (jv5 3 4 5 7 8 ?_))))
 refine jS ?_
 refine VC.held (fun v => Frm [] w11 v) jK ?_
 have hS : Frm [] w11 w11.drew := (Frm.refl _ _).drew
 have hcaL := hoa.le
 have hcbL := hob.le
 refine jH 1 rfl hS (fun w0 hw0 => Run.mv rfl) ?_
 refine jH 2 rfl hS (fun w0 hw0 => Run.mv rfl) ?_
 refine jH 3 rfl hS (fun w0 hw0 => Run.sliceS 0 _ rfl zd zc evB.none_ (evB.some_ rfl) jo jo) ?_
 rw [pH, zcf, zcf]
 refine jH 5 rfl hS (fun w0 hw0 => Run.mv rfl) ?_
 refine jH 6 rfl hS (fun w0 hw0 => Run.mv rfl) ?_
 refine jH 7 rfl hS (fun w0 hw0 => Run.sliceS 0 _ rfl zd zc evB.none_ (evB.some_ rfl) jo jo) ?_
 rw [pH, zcf, zcf]
 refine qK.m 0 rfl jK (qV.buildS0 zd zc) trivial rfl rfl ?_
 rintro _ w12 ⟨rfl, hF12⟩
 have hS := hS.trans hF12.frm jp
 refine ⟨hS, ?_⟩
 have ho12 : Own w12 3 1 (some ⟨w11.heap.size, 0, none⟩) 0 0 (NI []) := Own.of_blk hF12.blk rfl (by simp [maxLen])
 have hsz12 := hF12.size
 have hgx : w11.heap.size ≤ w11.drew.heap.size := zk _
 have hrm12 : Rd w12 1 Ba vm (NI (bW bs)) := by
  have h := (hoa.frm hS jp).rd.cut (l := 0) (r := vm) (cap := ca) jo jo hoa.le
  rw [pH] at h
  rw [hmt]
  simpa [NI, zdf] using h
 refine qK.m 4 rfl jK (qV.app rfl rfl zd (dX) rfl jd ho12 hrm12 (fH _) jo jo) trivial rfl rfl ?_
 rintro _ w13 ⟨A13, c13, rfl, ho13, hf13, hob13⟩
 have hS := hS.own hf13 (by simp [ob])
 refine ⟨hS, ?_⟩
 have hu13 : ∀ x ∈ ob A13, w11.heap.size ≤ x := fun x hx => by
  rcases hob13 with h | h
  · rw [h] at hx; simp [ob] at hx; omega
  rw [h, zh] at hx; have := hF12.frm.size; have := hgx; omega
 have hrf13 : Rd w13 1 Bb vf (NI (bF bs)) := by
  have h := (hob.frm hS jp).rd.cut (l := 0) (r := vf) (cap := cb) jo jo hob.le
  rw [pH] at h
  rw [hft]
  simpa [NI, zdf] using h
 refine qK.m 8 rfl jK (qV.app rfl rfl zd (dX) rfl jd ho13 hrf13 (fH _) jo jo) trivial rfl rfl ?_
 rintro _ w14 ⟨A14, c14, rfl, ho14, hf14, hob14⟩
 have hS := hS.own hf14 hu13
 refine ⟨hS, ?_⟩
 rw [show NI [] ++ NI (bW bs) ++ NI (bF bs) = NI (bW bs ++ bF bs) by simp [NI]] at ho14
 refine qK.cl 9 rfl jK (jE1 Tryz.call79) (qBv A14 (0 + vm + vf) c14 (bW bs ++ bF bs) w14 (by rw [za]; omega) jo ho14.rd) trivial rfl rfl ?_
 rintro e w15 ⟨Bl, dl, rfl, hol, hf15, _⟩
 have hS := hS.trans hf15 jp
 refine ⟨_, rfl, hS, ?_⟩
 have hot := hot.frm hS jp
 have hoa := hoa.frm hS jp
 have hob := hob.frm hS jp
 have K := K.trans hS jp
 have hol : Own w15 140 3 Bl (qL bs).length dl (SDC (qL bs)) := hol
 have el : (dK (bW bs ++ bF bs) 0).length = (qL bs).length := rfl
 rw [el]
 generalize hlv : (qL bs).length = ln at *
 clear ho12 ho13 ho14 hrm12 hrf13 hob13 hob14 hu13 hf13 hf14
 refine jH 10 rfl hS (fun w0 hw0 => Run.asg rfl) ?_
 refine qK.done jK ?_
 refine jN (jv6 3 4 5 7 8 9 ?_)
 refine jS (jR ?_)
 refine Ops.m (qV.makeS (n := 19) rfl rfl zd (dX) rfl jo jo) rfl ?_
 rintro _ w16 ⟨rfl, hO16, hF16, hsz16⟩
 have hb3 : Blk w16 w15.heap.size 3 (NI (dM ((qL bs).take 0))).toArray := qXu (xs := NI (rep 19)) hO16 jo
 have hg3 : w15.heap.size ≤ w15.heap.size := zk _
 have KS : Frm [] w15 w16 := hF16
 generalize hgv : w15.heap.size = g3 at hb3 hg3 ⊢
 have hg3 : w15.heap.size ≤ g3 := jo
 refine ja rfl (jO (jN (jv7 3 4 5 7 8 9 10 ?_)))
 refine jS (jS (jR (jz 0 (jO (jN (jB ?_))))))
 refine VC.loop (σ := Nat) (fun s => [(3, _), (4, _), (5, _), (7, _), (8, _), (9, .slice Bl ln dl), (10, .slice (some ⟨g3, 0, none⟩) 19 19), (11, .int .i64 ((s : Nat) : Int))]) (fun s wr => s ≤ ln ∧ Blk wr g3 3 (NI (dM ((qL bs).take s))).toArray ∧ Frm [] w15 wr) (fun s => ln - s) 0 (js8 rfl rfl rfl rfl rfl rfl rfl rfl) ⟨zak _, hb3, KS⟩ ?_
 rintro i wr ⟨hi, hb3, KS⟩
 refine jS (jS (jR (jm rfl (jm rfl (je (Run.lenS rfl zcl) (jb rfl rfl (Bin.lssN _ _) (jO (jN (jv9 3 4 5 7 8 9 10 11 101 ?_)))))))))
 refine jD rfl (fun hc3 => ?_) fun hc3 => ?_
 ·
  have holr := hol.frm KS jp
  obtain ⟨ad, hAd⟩ := zK holr jo
  subst hAd
  have hsn := wI (jo : i < (qL bs).length)
  have hqok := hLok ((qL bs).getD i (0, 0, 0)) (by rw [ze, zb (jo : i < (qL bs).length)]; exact zt _)
  have hq19 := hqok.1
  have hts := xN ((qL bs).take i) ((qL bs).getD i (0, 0, 0))
  rw [← hsn] at hts
  have htl1 := eK ((qL bs).take i)
  have hle1 := rR ((qL bs).take i)
  rw [zi, zal (jo : i ≤ (qL bs).length)] at hle1
  generalize dM ((qL bs).take i) = ct at *
  have hv1 := mH hle1 ((qL bs).getD i (0, 0, 0)).1
  refine jQ (jN (jv8 3 4 5 7 8 9 10 11 ?_))
  refine jS (jB (jR (jm rfl (jm rfl (jm rfl (je (Run.indexS _ rfl rfl zcl zfn jo) (jf rfl zgo rfl zc (jl rfl zg (qQy holr hlv hc3 0 _ rfl) (je (Run.index1 _ rfl rfl zd zc jo) (jl rfl zg (by rw [fY, hb3.cell]; exact pQ _ _ jo) (jb rfl rfl (Bin.add_i64 _ 1 jo) (je (Run.index1 _ rfl rfl zd zc jo) ?_))))))))))))
  refine Ops.st (qR.store0 rfl rfl zc hb3 (by simp only [zca, NI, zl]; omega) rfl) ?_
  rintro w17 ⟨hb13, hf13, hs13⟩
  rw [oO] at hb13
  unfold timeStep at hts
  rw [← hts] at hb13
  refine jO ?_
  refine qJ (jN ?_)
  refine jv8 3 4 5 7 8 9 10 11 ?_
  refine jR (jm rfl (jb rfl rfl (Bin.add_i64 _ 1 jo) (ja rfl (jO ?_))))
  refine jN ⟨i + 1, (js8 rfl rfl rfl rfl rfl rfl rfl rfl), ?_, ?_⟩
  · exact ⟨hc3, hb13, KS.own hf13 (by simp; omega)⟩
  first | omega | (dsimp only; omega)
 refine jX ?_
 refine qZ (qZ (qW ?_))
 refine jN (jv7 3 4 5 7 8 9 10 ?_)
 refine jS (jR (jM ?_))
 have ei : ln = i := jo
 subst ei
 rw [← hlv, zas] at hb3
 refine Ops.cl (jE2 Tryz.call77) (qXs (some ⟨g3, 0, none⟩) 19 19 (dM (qL bs)) 7 wr (eK _) jo (fun x hx => by have := rR _ x hx; omega) jo jo jd (Rd.of_blk (n := 19) (size := 1) hb3 (by simp [NI, eK]))) rfl ?_
 rintro e w18 ⟨B3, c3, rfl, ho3, hf18, h3o⟩
 refine ⟨_, rfl, ?_⟩
 have KS := KS.trans hf18 jp
 have ho3 : Own w18 3 1 B3 19 c3 (NI (bJ bs)) := ho3
 have h3o : LenOk (dM (qL bs)) (bJ bs) 7 := h3o
 have h3l : (bJ bs).length = 19 := h3o.len.trans (eK _)
 refine jm rfl (je (Run.extract rfl rfl) (je (Run.extract rfl rfl) (ja rfl (jO (jN (jv7 3 4 5 7 8 9 10 ?_))))))
 refine jS (jR ?_)
 refine Ops.m (qV.buildN (cells := (NI bX).toArray) (evs.cons rfl (evs.cons rfl (evs.cons rfl (evs.cons rfl (evs.cons rfl (evs.cons rfl (evs.cons rfl (evs.cons rfl (evs.cons rfl (evs.cons rfl (evs.cons rfl (evs.cons rfl (evs.cons rfl (evs.cons rfl (evs.cons rfl (evs.cons rfl (evs.cons rfl (evs.cons rfl (evs.cons rfl evs.nil))))))))))))))))))) zd zc fS rfl rfl jK) rfl ?_
 rintro _ w19 ⟨rfl, hF19⟩
 have hbo : Blk w19 w18.heap.size 3 (NI bX).toArray := hF19.blk
 have ho3 := ho3.frm hF19.frm jp
 have KS := KS.trans hF19.frm jp
 have hot := hot.frm KS jp
 have hoa := hoa.frm KS jp
 have hob := hob.frm KS jp
 have hol := hol.frm KS jp
 have K := K.trans KS jp
 generalize w18.heap.size = go at hbo ⊢
 clear hb3
 refine ja rfl (jO (jN (jv8 3 4 5 7 8 9 10 12 ?_)))
 refine jS (jR (ja rfl (jO (jN (jS (jS (jR (jz 0 (jO (jN (jB ?_)))))))))))
 refine VC.loop (σ := Nat × Option Addr × Nat) (fun s => [(3, _), (4, _), (5, _), (7, _), (8, _), (9, _), (10, .slice B3 19 c3), (12, .slice (some ⟨go, 0, none⟩) 19 19), (13, .slice s.2.1 s.1 s.2.2), (14, .int .i64 ((s.1 : Nat) : Int))]) (fun s wr => s.1 ≤ 19 ∧ Own wr 3 1 s.2.1 s.1 s.2.2 (NI ((cU (bJ bs)).take s.1)) ∧ Frm [] w19 wr ∧ ∀ x ∈ ob s.2.1, w19.heap.size ≤ x) (fun s => 19 - s.1) (0, none, 0) (js10 rfl rfl rfl rfl rfl rfl rfl rfl rfl rfl) ⟨zak _, Own.nil _ _ _, Frm.refl _ _, by simp [ob]⟩ ?_
 rintro ⟨i, Bw, dw⟩ wr ⟨hi, how, KS, huw⟩
 dsimp only at hi how huw ⊢
 refine jS (jS (jR (jm rfl (jb rfl rfl (Bin.lssN _ 19) (jO (jN (jv11 3 4 5 7 8 9 10 12 13 14 121 ?_)))))))
 refine jD rfl (fun hc4 => ?_) fun hc4 => ?_
 ·
  have ho19 : bX.getD i 0 < 19 := qUs hc4
  obtain ⟨ad3, hA3, _, hadc3⟩ := (ho3.frm KS jp).rd.2 jo
  subst hA3
  have hcell3 := hadc3 (bX.getD i 0) _ (eZ (bJ bs) _ (by rw [h3l]; exact ho19))
  refine jQ (jN (jv10 3 4 5 7 8 9 10 12 13 14 ?_))
  refine jS (jB (jR (jm rfl (jm rfl (jm rfl (jm rfl (je (Run.index1 _ rfl rfl zd zc jo) (jl rfl zg (by rw [fY, (hbo.frm KS jp).cell]; exact pQ _ _ (by rw [uJ]; omega)) (je (Run.index1 _ rfl rfl zd zc jo) (jl rfl zg hcell3 ?_))))))))))
  refine Ops.m (qV.buildS1 rfl zd zc fS jd jd rfl rfl) rfl ?_
  rintro _ w20 ⟨rfl, hF20⟩
  have how2 := how.frm hF20.frm jp
  have hrd20 : Rd w20 1 (some ⟨_, 0, none⟩) 1 (NI [(bJ bs).getD (bX.getD i 0) 0]) := Rd.of_blk (n := 1) (size := 1) hF20.blk rfl
  refine Ops.m (qV.app rfl rfl zd (dX) rfl jd how2 hrd20 (fH _) jo jo) rfl ?_
  rintro _ w21 ⟨B21, d21, rfl, ho21, hf21, hob21⟩
  rw [show NI ((cU (bJ bs)).take i) ++ NI [(bJ bs).getD (bX.getD i 0) 0] = NI ((cU (bJ bs)).take (i + 1)) by rw [qSt (bJ bs) hc4]; simp [NI]] at ho21
  have KS3 := (KS.trans hF20.frm jp).own hf21 huw
  have hup3 := cG huw hob21 (by have := KS.size; have := hF20.size; omega)
  refine ja rfl (jO ?_)
  refine qJ (jN ?_)
  refine jv10 3 4 5 7 8 9 10 12 13 14 ?_
  refine jR (jm rfl (jb rfl rfl (Bin.add_i64 _ 1 jo) (ja rfl (jO ?_))))
  refine jN ⟨(i + 1, B21, d21), (js10 rfl rfl rfl rfl rfl rfl rfl rfl rfl rfl), ?_, ?_⟩
  · exact ⟨hc4, ho21, KS3, hup3⟩
  first | omega | (dsimp only; omega)
 refine jX ?_
 refine qZ (qZ (qW ?_))
 refine jN (jv8 3 4 5 7 8 9 10 13 ?_)
 refine jS (jR (jM ?_))
 have ei : i = 19 := jo
 subst ei
 rw [zm (by rw [eO]; omega)] at how
 refine Ops.cl (jE2 Tryz.call78) (qXt Bw 19 dw 4 (cU (bJ bs)) wr (eO _) jo jo how.rd) rfl ?_
 rintro e _ ⟨rfl, rfl⟩
 refine ⟨_, rfl, ?_⟩
 have ew : (cN (cU (bJ bs)) 4).length = (bY bs).length := rfl
 rw [ew]
 have hwb : 4 ≤ (bY bs).length ∧ (bY bs).length ≤ 19 := by
  have := nQ (cU (bJ bs)) 4 (by rw [eO]; omega)
  rw [eO] at this
  exact this
 have hw7 : ∀ i, (bY bs).getD i 0 ≤ 7 := mM _ _ _ (qZy _ _ h3o.most)
 generalize hvw : (bY bs).length = vw at *
 have hwt : bY bs = (cU (bJ bs)).take vw := by rw [← hvw]; unfold bY cN; rw [zi, zal (mG _ _ _)]
 have hot := hot.frm KS jp
 have hoa := hoa.frm KS jp
 have hob := hob.frm KS jp
 have hol := hol.frm KS jp
 have ho3 := ho3.frm KS jp
 have K := K.trans KS jp
 refine ja rfl (jO (jN (jv9 3 4 5 7 8 9 10 13 15 ?_)))
 refine jS (jR (je (Run.build evs.nil qQ6 (mQ).choose_spec.1 (mQ).choose_spec.2 rfl) ?_))
 refine Ops.m (qV.box rfl) rfl ?_
 rintro _ w22 ⟨rfl, hF22⟩
 have hU0 : IsU w22 wr.heap.size none [] := ⟨0, hF22.blk, Own.nil _ _ _⟩
 have KU := hF22.frm
 have hA : ∀ x ∈ ob (none : Option Addr), wr.heap.size ≤ x := by simp [ob]
 obtain ⟨g, hgl, hgv⟩ : ∃ g, wr.heap.size ≤ g ∧ g = wr.heap.size := ⟨_, zk _, rfl⟩
 rw [← hgv] at hU0
 rw [← hgv]
 obtain ⟨wb, hwb0⟩ : ∃ x, x = wr := ⟨_, rfl⟩
 rw [← hwb0] at hgl hA KU how hot hoa hob hol ho3 K
 refine ja rfl (jO (jN (jv10 3 4 5 7 8 9 10 13 15 16 ?_)))
 refine jS (jR (jM ?_))
 refine Ops.cl (jE3 zed) (dW g 1 1 none _ w22 jo jo jp hU0) rfl ?_
 rintro e w23 ⟨rfl, A1, hU1, hfp, hAp⟩
 refine ⟨_, rfl, ?_⟩
 have KUn := KU.own hfp (fun x hx => by rcases zbv.1 hx with rfl | hx; exact hgl; exact hA x hx)
 have hA : ∀ x ∈ ob A1, wb.heap.size ≤ x := fun x hx => by rcases hAp x hx with h | h; exact hA x h; have := KU.size; omega
 have KU := KUn
 clear KUn hfp hAp
 refine jO (jN (jv10 3 4 5 7 8 9 10 13 15 16 ?_))
 refine jS (jR (jM ?_))
 refine Ops.cl (jE3 zed) (dW g 2 2 A1 _ w23 jo jo (by simp [qN]) hU1) rfl ?_
 rintro e w24 ⟨rfl, A2, hU2, hfp, hAp⟩
 refine ⟨_, rfl, ?_⟩
 have KUn := KU.own hfp (fun x hx => by rcases zbv.1 hx with rfl | hx; exact hgl; exact hA x hx)
 have hA : ∀ x ∈ ob A2, wb.heap.size ≤ x := fun x hx => by rcases hAp x hx with h | h; exact hA x h; have := KU.size; omega
 have KU := KUn
 clear KUn hfp hAp
 refine jO (jN (jv10 3 4 5 7 8 9 10 13 15 16 ?_))
 refine jS (jR (jm rfl (jm rfl (jb rfl rfl (Bin.sub_i64 _ 257 jo jo) ?_))))
 refine Ops.cl (jE3 zed) (dW g (vm - 257) 5 A2 _ w24 jo jo (by simp [qN]) hU2) rfl ?_
 rintro e w25 ⟨rfl, A3, hU3, hfp, hAp⟩
 refine ⟨_, rfl, ?_⟩
 have KUn := KU.own hfp (fun x hx => by rcases zbv.1 hx with rfl | hx; exact hgl; exact hA x hx)
 have hA : ∀ x ∈ ob A3, wb.heap.size ≤ x := fun x hx => by rcases hAp x hx with h | h; exact hA x h; have := KU.size; omega
 have KU := KUn
 clear KUn hfp hAp
 refine jO (jN (jv9 3 4 5 8 9 10 13 15 16 ?_))
 refine jS (jR (jm rfl (jm rfl (jb rfl rfl (Bin.sub_i64 _ 1 jo jo) ?_))))
 refine Ops.cl (jE3 zed) (dW g (vf - 1) 5 A3 _ w25 jo jo (by simp [qN]) hU3) rfl ?_
 rintro e w26 ⟨rfl, A4, hU4, hfp, hAp⟩
 refine ⟨_, rfl, ?_⟩
 have KUn := KU.own hfp (fun x hx => by rcases zbv.1 hx with rfl | hx; exact hgl; exact hA x hx)
 have hA : ∀ x ∈ ob A4, wb.heap.size ≤ x := fun x hx => by rcases hAp x hx with h | h; exact hA x h; have := KU.size; omega
 have KU := KUn
 clear KUn hfp hAp
 refine jO (jN (jv8 3 4 5 9 10 13 15 16 ?_))
 refine jS (jR (jm rfl (jm rfl (jb rfl rfl (Bin.sub_i64 _ 4 jo jo) ?_))))
 refine Ops.cl (jE3 zed) (dW g (vw - 4) 4 A4 _ w26 jo jo (by simp [qN]) hU4) rfl ?_
 rintro e w27 ⟨rfl, A5, hU5, hfp, hAp⟩
 refine ⟨_, rfl, ?_⟩
 have KUn := KU.own hfp (fun x hx => by rcases zbv.1 hx with rfl | hx; exact hgl; exact hA x hx)
 have hA : ∀ x ∈ ob A5, wb.heap.size ≤ x := fun x hx => by rcases hAp x hx with h | h; exact hA x h; have := KU.size; omega
 have KU := KUn
 clear KUn hfp hAp
 refine jO (jN (jv8 3 4 5 9 10 13 15 16 ?_))
 refine jS (jS (jR (jz 0 (jO (jN (jB ?_))))))
 obtain ⟨PRE, hPRE⟩ : ∃ P, P = (([] : List Bool) ++ bitsL 1 1 ++ bitsL 2 2 ++ bitsL (vm - 257) 5 ++ bitsL (vf - 1) 5 ++ bitsL (vw - 4) 4) := ⟨_, rfl⟩
 rw [← hPRE] at hU5
 have hPl : PRE.length = 17 := by rw [hPRE]; simp [qN]
 refine VC.loop (σ := Nat × Option Addr) (fun s => [(3, _), (4, _), (5, _), (9, _), (10, _), (13, .slice Bw 19 dw), (15, .int .i64 ((vw : Nat) : Int)), (16, .pointer (some ⟨g, 0, none⟩)), (17, .int .i64 ((s.1 : Nat) : Int))]) (fun s wr => s.1 ≤ vw ∧ IsU wr g s.2 (PRE ++ ((bY bs).take s.1).flatMap (fun n => bitsL n 3)) ∧ Frm [] wb wr ∧ ∀ x ∈ ob s.2, wb.heap.size ≤ x) (fun s => vw - s.1) (0, A5) (js9 rfl rfl rfl rfl rfl rfl rfl rfl rfl) ⟨zak _, by simpa using hU5, KU, hA⟩ ?_
 rintro ⟨i, A6⟩ wr ⟨hi, hU6, KU, hA⟩
 dsimp only at hi hU6 hA ⊢
 have hfl := kD ((bY bs).take i)
 have hti := List.length_take_le i (bY bs)
 refine jS (jS (jR (jm rfl (jm rfl (jb rfl rfl (Bin.lssN _ _) (jO (jN (jv10 3 4 5 9 10 13 15 16 17 156 ?_))))))))
 refine jD rfl (fun hc5 => ?_) fun hc5 => ?_
 ·
  obtain ⟨ad, hAd, _, hadc⟩ := (how.frm KU jp).rd.2 jo
  subst hAd
  have hcell := hadc i _ (eZ (cU (bJ bs)) i (by rw [eO]; omega))
  have hsn := nT (jo : i < (bY bs).length)
  have hq7 := hw7 i
  have hqe : (bY bs).getD i 0 = (cU (bJ bs)).getD i 0 := by rw [hwt, ze, zaq jo, ← ze]
  rw [← hqe] at hcell
  generalize (bY bs).getD i 0 = q at hcell hsn hq7
  refine jQ (jN (jv9 3 4 5 9 10 13 15 16 17 ?_))
  refine jS (jB (jR (jm rfl (jm rfl (jm rfl (je (Run.index1 _ rfl rfl zd zc jo) (jl rfl zg hcell ?_)))))))
  refine Ops.cl (jE3 zed) (dW g q 3 A6 _ wr jo jo (by rw [za]; omega) hU6) rfl ?_
  rintro e w28 ⟨rfl, A7, hU7, hfp, hAp⟩
  refine ⟨_, rfl, ?_⟩
  have KUn := KU.own hfp (fun x hx => by rcases zbv.1 hx with rfl | hx; exact hgl; exact hA x hx)
  have hA : ∀ x ∈ ob A7, wb.heap.size ≤ x := fun x hx => by rcases hAp x hx with h | h; exact hA x h; have := KU.size; omega
  refine jO ?_
  refine qJ (jN ?_)
  refine jv9 3 4 5 9 10 13 15 16 17 ?_
  refine jR (jm rfl (jb rfl rfl (Bin.add_i64 _ 1 jo) (ja rfl (jO ?_))))
  refine jN ⟨(i + 1, A7), (js9 rfl rfl rfl rfl rfl rfl rfl rfl rfl), ?_, ?_⟩
  · exact ⟨hc5, by rw [hsn, zw, zcp, ← zj]; exact hU7, KUn, hA⟩
  first | omega | (dsimp only; omega)
 refine jX ?_
 refine qZ (qZ (qW ?_))
 refine jN (jv6 3 4 5 9 10 16 ?_)
 refine jS (jR (jM ?_))
 refine Ops.cl (jE1 Tryz.call80) (qSs B3 19 c3 (bJ bs) wr h3l h3o.ok (ho3.frm KU jp).rd) rfl ?_
 rintro e w29 ⟨Bc, cc, rfl, hoc, hf29⟩
 refine ⟨_, rfl, ?_⟩
 have hU6 := hU6.new hf29
 have KU := KU.trans hf29 jp
 have ei : vw = i := jo
 subst ei
 rw [← hvw, zas] at hU6
 refine ja rfl (jO (jN (jv6 3 4 5 9 16 18 ?_)))
 refine jS (jS (jR (jz 0 (jO (jN (jB ?_))))))
 refine VC.loop (σ := Nat × Option Addr) (fun s => [(3, _), (4, _), (5, _), (9, .slice Bl ln dl), (16, .pointer (some ⟨g, 0, none⟩)), (18, .slice Bc 19 cc), (19, .int .i64 ((s.1 : Nat) : Int))]) (fun s wr => s.1 ≤ ln ∧ IsU wr g s.2 (PRE ++ (bY bs).flatMap (fun n => bitsL n 3) ++ ((qL bs).take s.1).flatMap (dF (toZ (bJ bs)))) ∧ Frm [] wb wr ∧ (∀ x ∈ ob s.2, wb.heap.size ≤ x) ∧ Own wr 179 2 Bc 19 cc ((cW (toZ (bJ bs))).flatMap CB)) (fun s => ln - s.1) (0, A6) (js7 rfl rfl rfl rfl rfl rfl rfl) ⟨zak _, by simpa using hU6, KU, hA, hoc⟩ ?_
 rintro ⟨i, A8⟩ wr ⟨hi, hU8, KU, hA, hoc⟩
 dsimp only at hi hU8 hA ⊢
 have hfl2 := zQ h3o.ok (by rw [bM, h3l]; omega) ((qL bs).take i) (fun t ht => hLok t (zaf ht))
 have hti2 : ((qL bs).take i).length = i := by rw [zi, zal jo]
 have hfl3 := kD (bY bs)
 have hbl : (PRE ++ (bY bs).flatMap (fun n => bitsL n 3) ++ ((qL bs).take i).flatMap (dF (toZ (bJ bs)))).length ≤ 100000 := by
  rw [za, za, hPl, hfl3, hvw]
  omega
 refine jS (jS (jR (jm rfl (jm rfl (je (Run.lenS rfl zcl) (jb rfl rfl (Bin.lssN _ _) (jO (jN (jv8 3 4 5 9 16 18 19 170 ?_)))))))))
 refine jD rfl (fun hc6 => ?_) fun hc6 => ?_
 ·
  have holr := hol.frm KU jp
  obtain ⟨ad, hAd⟩ := zK holr jo
  subst hAd
  have hsn := wI (jo : i < (qL bs).length)
  obtain ⟨q, hq⟩ : ∃ q, (qL bs).getD i (0, 0, 0) = q := ⟨_, rfl⟩
  have hqok := hLok ((qL bs).getD i (0, 0, 0)) (by rw [ze, zb (jo : i < (qL bs).length)]; exact zt _)
  rw [hq] at hqok hsn
  refine jQ (jN (jv7 3 4 5 9 16 18 19 ?_))
  refine jS (jB (jS (jR (jm rfl (jm rfl (jm rfl (jm rfl (je (Run.indexS _ rfl rfl zcl zfn jo) (jf rfl zgo rfl zc (jl rfl zg (qQy holr hlv hc6 0 _ (by rw [hq]; rfl)) ?_))))))))))
  refine Ops.cl (jE3 Tryz.call81) (qUr 19 g q.1 cc A8 Bc _ (toZ (bJ bs)) wr (by rw [bM, h3l]) h3o.ok.1 h3o.ok.2 hqok.1 jo hU8 hoc) rfl ?_
  rintro e w30 ⟨rfl, A9, hU9, hf30, hA9⟩
  refine ⟨_, rfl, ?_⟩
  have hoc := hU8.keepO hf30 hoc jd jd
  have hA0n : ∀ x ∈ ob A9, wb.heap.size ≤ x := fun x hx => by rcases hA9 x hx with h | h; exact hA x h; have := KU.size; omega
  have KU := KU.own hf30 (fun x hx => by rcases zbv.1 hx with rfl | hx; exact hgl; exact hA x hx)
  refine jO (jN (jv7 3 4 5 9 16 18 19 ?_))
  refine VC.held (fun v => Own v 140 3 (some ad) ln dl (SDC (qL bs))) jK ?_
  have hS : (fun v => Own v 140 3 (some ad) ln dl (SDC (qL bs))) w30.drew := (hol.frm KU jp).drawn (qQ.drew _)
  have hU9 := hU9.new (qQ.drew w30).frm
  have hoc := hoc.drawn (qQ.drew w30)
  have KU := KU.drawn (qQ.drew w30)
  refine jH 0 rfl hS (fun w0 hw0 => Run.mv rfl) ?_
  refine jH 1 rfl hS (fun w0 hw0 => Run.mv rfl) ?_
  refine jH 2 rfl hS (fun w0 hw0 => Run.mv rfl) ?_
  refine jH 3 rfl hS (fun w0 hw0 => Run.indexS _ rfl rfl zcl zfn jo) ?_
  refine jH 4 rfl hS (fun w0 hw0 => Run.fieldAddr rfl zgo rfl zc jd) ?_
  refine jH 5 rfl hS (fun w0 hw0 => Run.load rfl zg (qQy hw0 hlv hc6 2 _ (by rw [hq]; rfl))) ?_
  refine jH 6 rfl hS (fun w0 hw0 => Run.mv rfl) ?_
  refine jH 7 rfl hS (fun w0 hw0 => Run.mv rfl) ?_
  refine jH 8 rfl hS (fun w0 hw0 => Run.indexS _ rfl rfl zcl zfn jo) ?_
  refine jH 9 rfl hS (fun w0 hw0 => Run.fieldAddr rfl zgo rfl zc jd) ?_
  refine jH 10 rfl hS (fun w0 hw0 => Run.load rfl zg (qQy hw0 hlv hc6 1 _ (by rw [hq]; rfl))) ?_
  refine qK.cl 11 rfl jK (jE3 zed) (dW g q.2.2 q.2.1 A9 _ _ (by have := hqok.2.2; have h7 := hqok.2.1; have : 2 ^ q.2.1 ≤ 2 ^ 7 := zz jo h7; omega) (by have h7 := hqok.2.1; omega) (by have := eY h3o.ok.1 h3o.ok.2 (show q.1 < (toZ (bJ bs)).length by rw [bM, h3l]; exact hqok.1); rw [za]; omega) hU9) trivial rfl rfl ?_
  rintro e w31 ⟨rfl, A10, hU10, hf31, hA10⟩
  have hS := hU9.keepO hf31 hS jd jd
  refine ⟨_, rfl, hS, ?_⟩
  have hoc := hU9.keepO hf31 hoc jd jd
  have hA1n : ∀ x ∈ ob A10, wb.heap.size ≤ x := fun x hx => by rcases hA10 x hx with h | h; exact hA0n x h; have h2 := KU.size; omega
  have KU := KU.own hf31 (fun x hx => by rcases zbv.1 hx with rfl | hx; exact hgl; exact hA0n x hx)
  refine qK.done jK ?_
  refine qJ (jN ?_)
  refine jv7 3 4 5 9 16 18 19 ?_
  refine jR (jm rfl (jb rfl rfl (Bin.add_i64 _ 1 jo) (ja rfl (jO ?_))))
  refine jN ⟨(i + 1, A10), (js7 rfl rfl rfl rfl rfl rfl rfl), ?_, ?_⟩
  · exact ⟨hc6, by rw [hsn, zw, zcp]; unfold dF at hU10 ⊢; simpa [zj] using hU10, KU, hA1n, hoc⟩
  first | omega | (dsimp only; omega)
 refine jX ?_
 refine qZ (qZ (qW ?_))
 refine jN (jv4 3 4 5 16 ?_)
 refine jS (jR (jm rfl (jm rfl (jm rfl (jM ?_)))))
 refine Ops.cl (jE4 Tryz.call72) (qZ7 g dt ca cb 286 30 nt A8 Bt Ba Bb _ (qS bs 0) (toZ (dZ bs)) (toZ (dT bs)) wr (by rw [bM, hL1]) (by rw [bM, hL2]) hntv hlo.ok hwo.ok jo jo hok jo jo hU8 (hot.frm KU jp) (by rw [← oK]; exact (hoa.frm KU jp).rd) (by rw [← oK]; exact (hob.frm KU jp).rd)) rfl ?_
 rintro e w32 ⟨rfl, A11, hU11, hf32, hA11⟩
 refine ⟨_, rfl, ?_⟩
 have KU := KU.own hf32 (fun x hx => by rcases zbv.1 hx with rfl | hx; exact hgl; exact hA x hx)
 have ei : ln = i := jo
 subst ei
 have hfin : PRE ++ (bY bs).flatMap (fun n => bitsL n 3) ++ ((qL bs).take ln).flatMap (dF (toZ (bJ bs))) ++ cT (toZ (dZ bs)) (toZ (dT bs)) (qS bs 0) = eG bs := by
  rw [zm jo, hPRE]
  unfold eG
  rw [hvm, hvf, hvw, zbf]
 have hdl : (eG bs).length ≤ 1000000000 := by
  have h1 := mW hlo.ok hwo.ok (by rw [bM]; omega) (by rw [bM]; omega) _ hok
  have h3 := eY hlo.ok.1 hlo.ok.2 (show 256 < (toZ (dZ bs)).length by rw [bM]; omega)
  rw [← hfin]
  unfold cT
  simp only [za] at hbl ⊢
  omega
 rw [hfin] at hU11
 obtain ⟨c11, hb11, ho11⟩ := hU11
 refine jO (jN (jv1 16 ?_))
 refine jS (jR (jm rfl (je (Run.nilck rfl) (jf rfl zdb rfl zcx (jl rfl zgl (hb11.cell 0) ?_)))))
 refine Ops.cl (jE1 Tryz.call70) (oY A11 c11 (eG bs) w32 hdl ho11.rd) rfl ?_
 rintro e w33 ⟨rfl, hf33⟩
 refine ⟨_, rfl, ?_⟩
 refine ja rfl (jO (jN (jv1 2 ?_)))
 refine jT ?_
 refine qT rfl ?_
 exact ⟨rfl, (K.trans KU jp).trans hf33 jp⟩
end
section
open Go.RowKit
theorem wO (bs : List Nat) : cO bs 2 = if (qC (eG bs)).length < (if (qC (eQ bs)).length < (cS bs).length then qC (eQ bs) else cS bs).length then qC (eG bs) else (if (qC (eQ bs)).length < (cS bs).length then qC (eQ bs) else cS bs) := rfl
theorem qHn (A0 : Option Addr) (c : Nat) (bs : List Nat) (w : World) (hl : bs.length ≤ 32768) (hc : bs.length ≤ c) (hB : ∀ b ∈ bs, b < 256) (hr : Rd w 1 A0 bs.length (NB bs)) :
  Calls Tryz.prog 22 #[.slice A0 bs.length c] w fun e w' => e = .returned (.string (eT (cO bs 2))) ∧ Frm [] w w' := by
 refine VC.calls (nt := 25) (res := #[.tmp 2]) Tryz.func22 rfl Tryz.ntmps22 Tryz.results22 rfl ?_
 refine jS (jR (ja rfl (jO (jN (jv1 0 ?_)))))
 refine jS (jR (jM ?_))
 refine Ops.cl (jE1 Tryz.call37) (qHm A0 c bs w jo hc hB hr) rfl ?_
 rintro e w1 ⟨rfl, hfw1⟩
 refine ⟨_, rfl, ?_⟩
 refine ja rfl (jO (jN (jv2 0 3 ?_)))
 refine jS (jS (jR (jM ?_)))
 refine Ops.cl (jE1 Tryz.call38) (qPe A0 c bs w1 hl hB (hr.frm hfw1 jp)) rfl ?_
 rintro e w2 ⟨rfl, hfw2⟩
 refine ⟨_, rfl, ?_⟩
 refine ja rfl (jO (jN (jv3 0 3 4 ?_)))
 refine jS (jR (jm rfl (je (Run.lenStr rfl zci) (jm rfl (je (Run.lenStr rfl zci) (jb rfl rfl (Bin.lssN _ _) (jO (jN (jv4 0 3 4 14 ?_)))))))))
 refine jD rfl (fun hc1 => ?_) fun hc1 => ?_
 ·
  refine jR (jm rfl (ja rfl (jO (jN (jv2 0 3 ?_)))))
  refine jS (jS (jR (jM ?_)))
  refine Ops.cl (jE1 Tryz.call39) (qZ8 A0 c bs w2 hl hB (hr.frm (hfw1.trans hfw2 jp) jp)) rfl ?_
  rintro e w3 ⟨rfl, hfw3⟩
  refine ⟨_, rfl, ?_⟩
  refine ja rfl (jO (jN (jv2 3 5 ?_)))
  refine jS (jR (jm rfl (je (Run.lenStr rfl zci) (jm rfl (je (Run.lenStr rfl zci) (jb rfl rfl (Bin.lssN _ _) (jO (jN (jv3 3 5 22 ?_)))))))))
  refine jD rfl (fun hc2 => ?_) fun hc2 => ?_
  ·
   refine jR (jm rfl (ja rfl (jO (jN (jv1 3 ?_)))))
   refine jS (jR (jm rfl (ja rfl (jO (jN (jv1 2 ?_))))))
   refine jT ?_
   refine qT rfl ?_
   rw [cZ, cZ] at hc1 hc2
   have hc1 :  (qC (eQ bs)).length < (cS bs).length := hc1
   have hc2 :  (qC (eG bs)).length < (qC (eQ bs)).length := hc2
   have e : cO bs 2 = qC (eG bs) := by
    rw [wO, if_pos hc1, if_pos hc2]
   rw [e]
   exact ⟨rfl, (hfw1.trans hfw2 jp).trans hfw3 jp⟩
  refine jQ (jN (jv1 3 ?_))
  refine jS (jR (jm rfl (ja rfl (jO (jN (jv1 2 ?_))))))
  refine jT ?_
  refine qT rfl ?_
  rw [cZ, cZ] at hc1 hc2
  have hc1 :  (qC (eQ bs)).length < (cS bs).length := hc1
  have hc2 : ¬ (qC (eG bs)).length < (qC (eQ bs)).length := hc2
  have e : cO bs 2 = qC (eQ bs) := by
   rw [wO, if_pos hc1, if_neg hc2]
  rw [e]
  exact ⟨rfl, (hfw1.trans hfw2 jp).trans hfw3 jp⟩
 refine jQ (jN (jv2 0 3 ?_))
 refine jS (jS (jR (jM ?_)))
 refine Ops.cl (jE1 Tryz.call39) (qZ8 A0 c bs w2 hl hB (hr.frm (hfw1.trans hfw2 jp) jp)) rfl ?_
 rintro e w3 ⟨rfl, hfw3⟩
 refine ⟨_, rfl, ?_⟩
 refine ja rfl (jO (jN (jv2 3 5 ?_)))
 refine jS (jR (jm rfl (je (Run.lenStr rfl zci) (jm rfl (je (Run.lenStr rfl zci) (jb rfl rfl (Bin.lssN _ _) (jO (jN (jv3 3 5 22 ?_)))))))))
 refine jD rfl (fun hc2 => ?_) fun hc2 => ?_
 ·
  refine jR (jm rfl (ja rfl (jO (jN (jv1 3 ?_)))))
  refine jS (jR (jm rfl (ja rfl (jO (jN (jv1 2 ?_))))))
  refine jT ?_
  refine qT rfl ?_
  rw [cZ, cZ] at hc1 hc2
  have hc1 : ¬ (qC (eQ bs)).length < (cS bs).length := hc1
  have hc2 :  (qC (eG bs)).length < (cS bs).length := hc2
  have e : cO bs 2 = qC (eG bs) := by
   rw [wO, if_neg hc1, if_pos hc2]
  rw [e]
  exact ⟨rfl, (hfw1.trans hfw2 jp).trans hfw3 jp⟩
 refine jQ (jN (jv1 3 ?_))
 refine jS (jR (jm rfl (ja rfl (jO (jN (jv1 2 ?_))))))
 refine jT ?_
 refine qT rfl ?_
 rw [cZ, cZ] at hc1 hc2
 have hc1 : ¬ (qC (eQ bs)).length < (cS bs).length := hc1
 have hc2 : ¬ (qC (eG bs)).length < (cS bs).length := hc2
 have e : cO bs 2 = cS bs := by
  rw [wO, if_neg hc1, if_neg hc2]
 rw [e]
 exact ⟨rfl, (hfw1.trans hfw2 jp).trans hfw3 jp⟩
end
section
open Go.RowKit
theorem oF : (∀ i, i < 288 → cQ.getD i 0 ≠ 0) ∧ ∀ i, i < 32 → cX.getD i 0 ≠ 0 := by decide +kernel
theorem qSu (bs : List Nat) (hl : bs.length ≤ 32768) (hB : ∀ b ∈ bs, b < 256) : jP (qC (eQ bs)) bs.length = .ok (bs, (qC (eQ bs)).length) := by
 have h := qZ4 (bs := bs) (c1 := cQ) (c2 := cX) (H := []) (k := 1) hl hB qZ1.1 qZ1.2 (oF.1 256 jo) (fun t ht => by
  have hq := nM bs 0 hl hB t ht
  unfold wX
  split
  ·
   rename_i h0
   exact oF.1 _ (by rcases hq with ⟨_, _, h⟩ | ⟨_, h, _⟩ <;> omega)
  rename_i h0
  obtain ⟨q3, q4, q5, q6⟩ : 3 ≤ t.2.1 ∧ t.2.1 ≤ 258 ∧ 1 ≤ t.2.2 ∧ t.2.2 ≤ 32768 := by
   rcases hq with ⟨h, _⟩ | ⟨_, h⟩
   · exact absurd h h0
   exact h
  have hl := (fA q3 q4).1
  have hw := (fI q5 q6).1
  exact ⟨oF.1 _ jo, oF.2 _ jo⟩) (.inl ⟨rfl, rfl, rfl, rfl⟩)
 rw [zdd] at h
 exact h
theorem qVq {l : List Nat} {least s : Nat} (h : l.getD s 0 ≠ 0) : s < (cN l least).length ∧ (cN l least).getD s 0 = l.getD s 0 := by
 have hs := nX h
 have h1 : s < (cN l least).length := by
  rw [gJ]
  rcases zha s (fN l least l.length) with h2 | h2
  · exact h2
  exact absurd (rT l least l.length s h2 hs) h
 refine ⟨h1, ?_⟩
 rw [gJ] at h1
 unfold cN
 rw [ze, zaq h1, ← ze]
theorem qVr (bs : List Nat) (hl : bs.length ≤ 32768) (hB : ∀ b ∈ bs, b < 256) : jP (qC (eG bs)) bs.length = .ok (bs, (qC (eG bs)).length) := by
 have hok := nM bs 0 hl hB
 obtain ⟨hlo, hlr⟩ := wQ (cs := dQ (qS bs 0)) (m := 15) (by rw [dV]; omega) jo jo (by rw [dV]; decide)
 obtain ⟨hwo, hwr⟩ := wQ (cs := eJ (qS bs 0)) (m := 15) (by rw [dD]; omega) jo jo (by rw [dD]; decide)
 obtain ⟨h3o, h3r⟩ := wQ (cs := dM (qL bs)) (m := 7) (by rw [eK]; omega) jo jo (by rw [eK]; decide)
 have hlo : LenOk (dQ (qS bs 0)) (dZ bs) 15 := hlo
 have hwo : LenOk (eJ (qS bs 0)) (dT bs) 15 := hwo
 have h3o : LenOk (dM (qL bs)) (bJ bs) 7 := h3o
 have hlr : ROk (toZ (dZ bs)) := hlr
 have hwr : ROk (toZ (dT bs)) := hwr
 have h3r : ROk (toZ (bJ bs)) := h3r
 obtain ⟨hL1, hL2, hM1, hM2, hF1, hF2, hLok, hLl⟩ := uQ bs hlo hwo
 have h3l : (bJ bs).length = 19 := h3o.len.trans (eK _)
 obtain ⟨huse, h256⟩ := qWw hok
 have hlit : ∀ s, (dQ (qS bs 0)).getD s 0 ≠ 0 → (dZ bs).getD s 0 ≠ 0 := fun s hs h0 => hs ((hlo.come s (nX hs)).1 h0)
 have hway : ∀ s, (eJ (qS bs 0)).getD s 0 ≠ 0 → (dT bs).getD s 0 ≠ 0 := fun s hs h0 => hs ((hwo.come s (nX hs)).1 h0)
 have hthi : ∀ s, (dM (qL bs)).getD s 0 ≠ 0 → (bJ bs).getD s 0 ≠ 0 := fun s hs h0 => hs ((h3o.come s (nX hs)).1 h0)
 have hmr : ROk (toZ (bW bs)) := hlr.cut 257
 have hfr : ROk (toZ (bF bs)) := hwr.cut 1
 have hml : ∀ s, (dQ (qS bs 0)).getD s 0 ≠ 0 → s < (bW bs).length ∧ (bW bs).getD s 0 ≠ 0 := fun s hs => by
  have h1 := hlit s hs
  have h2 := qVq (least := 257) h1
  exact ⟨h2.1, by unfold bW; rw [h2.2]; exact h1⟩
 have hfl : ∀ s, (eJ (qS bs 0)).getD s 0 ≠ 0 → s < (bF bs).length ∧ (bF bs).getD s 0 ≠ 0 := fun s hs => by
  have h1 := hway s hs
  have h2 := qVq (least := 1) h1
  exact ⟨h2.1, by unfold bF; rw [h2.2]; exact h1⟩
 have hz : ∀ (l : List Nat) s, l.getD s 0 ≠ 0 → (toZ l).getD s 0 ≠ 0 := fun l s h => by rw [nS]; omega
 have hu : ∀ t ∈ qS bs 0, wX (toZ (bW bs)) (toZ (bF bs)) t := fun t ht => by
  have h1 := huse t ht
  unfold wX
  split
  ·
   rename_i h0
   rw [if_pos h0] at h1
   exact hz _ _ (hml _ h1).2
  rename_i h0
  rw [if_neg h0] at h1
  exact ⟨hz _ _ (hml _ h1.1).2, hz _ _ (hfl _ h1.2).2⟩
 have htok : cT (toZ (dZ bs)) (toZ (dT bs)) (qS bs 0) = cT (toZ (bW bs)) (toZ (bF bs)) (qS bs 0) := by
  have hc : ∀ t ∈ qS bs 0, fM (toZ (dZ bs)) (toZ (dT bs)) t = fM (toZ (bW bs)) (toZ (bF bs)) t := fun t ht => by
   have h1 := huse t ht
   unfold fM
   split
   ·
    rename_i h0
    rw [if_pos h0] at h1
    exact rU _ 257 _ (hml _ h1).1
   rename_i h0
   rw [if_neg h0] at h1
   unfold lT mD
   have e1 : bH (toZ (dZ bs)) (257 + lenS t.2.1) = bH (toZ (bW bs)) (257 + lenS t.2.1) := rU _ 257 _ (hml _ h1.1).1
   have e2 : bH (toZ (dT bs)) (wayS t.2.2) = bH (toZ (bF bs)) (wayS t.2.2) := rU _ 1 _ (hfl _ h1.2).1
   rw [e1, e2]
  have e3 : bH (toZ (dZ bs)) 256 = bH (toZ (bW bs)) 256 := rU _ 257 _ (hml _ h256).1
  unfold cT
  rw [e3]
  congr 1
  exact wK _ hc
 have h256m := hz _ _ (hml _ h256).2
 have hxb : ∀ i, (bW bs ++ bF bs).getD i 0 ≤ 15 := xP _ _ _ (mM _ _ _ hlo.most) (mM _ _ _ hwo.most)
 have hw19 : 4 ≤ (bY bs).length ∧ (bY bs).length ≤ 19 := by
  have := nQ (cU (bJ bs)) 4 (by rw [eO]; omega)
  rw [eO] at this
  exact this
 have hwm : bY bs = (bX.take (bY bs).length).map (fun s => (bJ bs).getD s 0) := by
  have e : bY bs = (cU (bJ bs)).take (bY bs).length := by
   have h1 := mG (cU (bJ bs)) 4 (cU (bJ bs)).length
   have h2 : (bY bs).length = fN (cU (bJ bs)) 4 (cU (bJ bs)).length := gJ _ _
   rw [h2]
   rfl
  rw [zdf]
  exact e
 have hxl : (bW bs ++ bF bs).length = (bW bs).length + (bF bs).length := za
 have h := qZ4 (bs := bs) (c1 := toZ (bW bs)) (c2 := toZ (bF bs)) (H := bitsL ((bW bs).length - 257) 5 ++ bitsL ((bF bs).length - 1) 5 ++ bitsL ((bY bs).length - 4) 4 ++ (bY bs).flatMap (fun n => bitsL n 3) ++ (qL bs).flatMap (dF (toZ (bJ bs)))) (k := 2) hl hB hmr hfr h256m hu (.inr ⟨rfl, fun C => ?_⟩)
 ·
  have e : bitsL 1 1 ++ bitsL 2 2 ++ (bitsL ((bW bs).length - 257) 5 ++ bitsL ((bF bs).length - 1) 5 ++ bitsL ((bY bs).length - 4) 4 ++ (bY bs).flatMap (fun n => bitsL n 3) ++ (qL bs).flatMap (dF (toZ (bJ bs)))) ++ cT (toZ (bW bs)) (toZ (bF bs)) (qS bs 0) = eG bs := by
   unfold eG
   rw [htok]
   simp only [zj]
  rw [e] at h
  exact h
 generalize hTC : cT (toZ (bW bs)) (toZ (bF bs)) (qS bs 0) ++ C = TC
 rw [zj _ _ C, hTC]
 generalize hLd : bitsL 1 1 ++ bitsL 2 2 ++ (bitsL ((bW bs).length - 257) 5 ++ bitsL ((bF bs).length - 1) 5 ++ bitsL ((bY bs).length - 4) 4 ++ (bY bs).flatMap (fun n => bitsL n 3) ++ (qL bs).flatMap (dF (toZ (bJ bs)))) ++ TC = L
 have ht1 := eC (L := L) (A := bitsL 1 1 ++ bitsL 2 2) (B := bitsL ((bW bs).length - 257) 5) (n := 5) (p := 3) ⟨_, by rw [← hLd]; simp only [zj]; rfl⟩ (by rw [qN]) (by simp [qN])
 have ht2 := eC (L := L) (A := bitsL 1 1 ++ bitsL 2 2 ++ bitsL ((bW bs).length - 257) 5) (B := bitsL ((bF bs).length - 1) 5) (n := 5) (p := 8) ⟨_, by rw [← hLd]; simp only [zj]; rfl⟩ (by rw [qN]) (by simp [qN])
 have ht3 := eC (L := L) (A := bitsL 1 1 ++ bitsL 2 2 ++ bitsL ((bW bs).length - 257) 5 ++ bitsL ((bF bs).length - 1) 5) (B := bitsL ((bY bs).length - 4) 4) (n := 4) (p := 13) ⟨_, by rw [← hLd]; simp only [zj]; rfl⟩ (by rw [qN]) (by simp [qN])
 rw [eD 5 _ jo] at ht1 ht2
 rw [eD 4 _ jo] at ht3
 have hth := qQt (L := L) (v := fun s => (bJ bs).getD s 0) h3o.most (bX.take (bY bs).length) (bitsL 1 1 ++ bitsL 2 2 ++ bitsL ((bW bs).length - 257) 5 ++ bitsL ((bF bs).length - 1) 5 ++ bitsL ((bY bs).length - 4) 4) ((qL bs).flatMap (dF (toZ (bJ bs))) ++ TC) 17 (List.replicate 19 0) (by rw [← hwm, ← hLd]; simp only [zj]) (by simp [qN])
 rw [qHh h3l (bY bs).length rfl] at hth
 have htl : (bX.take (bY bs).length).length = (bY bs).length := by rw [zi, pA]; omega
 rw [htl] at hth
 have hfl3 := kD (bY bs)
 have hle : qL bs = dK (bW bs ++ bF bs) 0 := rfl
 have hmo := qQv (L := L) (third := toZ (bJ bs)) (x := bW bs ++ bF bs) h3r (by rw [bM]; exact h3l) hxb (bW bs ++ bF bs).length 0 (L.length + 1) (bitsL 1 1 ++ bitsL 2 2 ++ bitsL ((bW bs).length - 257) 5 ++ bitsL ((bF bs).length - 1) 5 ++ bitsL ((bY bs).length - 4) 4 ++ (bY bs).flatMap (fun n => bitsL n 3)) TC (17 + 3 * (bY bs).length) jo jo ?_ (fun t ht => hz _ _ (hthi _ (xR hLok t ht))) (by rw [← hLd, ← hle]; simp only [zj]) (by simp only [za, qN, hfl3])
 ·
  have hs0 : toZ ((bW bs ++ bF bs).take 0) = [] := rfl
  rw [hs0] at hmo
  have hH : 3 + (bitsL ((bW bs).length - 257) 5 ++ bitsL ((bF bs).length - 1) 5 ++ bitsL ((bY bs).length - 4) 4 ++ (bY bs).flatMap (fun n => bitsL n 3) ++ (qL bs).flatMap (dF (toZ (bJ bs)))).length = 17 + 3 * (bY bs).length + ((dK (bW bs ++ bF bs) 0).flatMap (dF (toZ (bJ bs)))).length := by
   have e : qL bs = dK (bW bs ++ bF bs) 0 := rfl
   rw [e]
   simp only [za, qN, hfl3]
   omega
  rw [hH]
  unfold rO
  rw [ht1, qB]
  dsimp only
  rw [ht2, qB]
  dsimp only
  rw [ht3, qB]
  dsimp only
  rw [if_neg (fun hn => hn jo), show 4 + ((bY bs).length - 4) = (bY bs).length by omega, show 257 + ((bW bs).length - 257) = (bW bs).length by omega, show 1 + ((bF bs).length - 1) = (bF bs).length by omega, hth, qB]
  unfold qXe
  dsimp only
  rw [if_neg (fun hn => hn h3r.2), ← hxl, hmo, qB]
  have hml2 : (toZ (bW bs)).length = (bW bs).length := bM _
  have htk : (toZ (bW bs ++ bF bs)).take (bW bs).length = toZ (bW bs) := by rw [oE, ← hml2, zhf]
  have hdr : (toZ (bW bs ++ bF bs)).drop (bW bs).length = toZ (bF bs) := by rw [oE, ← hml2, zfm]
  have hpos : 0 < (toZ (bW bs ++ bF bs)).getD 256 0 := by
   rw [oE, ze, zaj (by rw [hml2]; omega), ← ze]
   rw [nS] at h256m ⊢
   omega
  unfold qXd
  dsimp only
  rw [if_neg (fun hn => hn hpos), htk, hdr, if_neg (fun hn => hn hmr.2), if_neg (fun hn => hn hfr.2)]
 have h5 := qYv h3r (qL bs) (fun t ht => hz _ _ (hthi _ (xR hLok t ht)))
 rw [← hle, ← hLd]
 simp only [za]
 omega
theorem qZ9 : ∀ n (bs : List Nat), bs.length ≤ n → ∃ r last, cS bs = gX r last ∧ r.flatten ++ last = bs ∧ (∀ x ∈ r, x.length < 65536) ∧ last.length < 65536
 | n, bs, h => by
  rw [lD]
  by_cases h1 : 65535 < bs.length
  ·
   rw [if_pos h1]
   obtain ⟨r, last, h2, h3, h4, h5⟩ := qZ9 (n - 1) (bs.drop 65535) (by rw [zr]; omega)
   refine ⟨bs.take 65535 :: r, last, by rw [h2]; rfl, by rw [zgy, zj, h3, zcm], fun x hx => ?_, h5⟩
   rcases zbv.1 hx with rfl | hx
   · rw [zi]; omega
   exact h4 x hx
  rw [if_neg h1]
  exact ⟨[], bs, rfl, rfl, jp, jo⟩
 termination_by n => n
 decreasing_by omega
theorem qPf (bs : List Nat) : jP (cS bs) bs.length = .ok (bs, (cS bs).length) := by
 obtain ⟨r, last, h1, h2, h3, h4⟩ := qZ9 _ bs (zk _)
 have h := qSj h3 h4
 rw [h2, ← h1] at h
 exact h
theorem qJa (bs : List Nat) (hl : bs.length ≤ 32768) (hB : ∀ b ∈ bs, b < 256) : jP (cO bs 2) bs.length = .ok (bs, (cO bs 2).length) ∧ (cO bs 2).length ≤ (cS bs).length ∧ (cO bs 2).length ≤ (qC (eQ bs)).length ∧ (cO bs 2).length ≤ (qC (eG bs)).length := by
 rw [wO]
 by_cases h2 : (qC (eQ bs)).length < (cS bs).length
 ·
  rw [if_pos h2]
  by_cases h1 : (qC (eG bs)).length < (qC (eQ bs)).length
  ·
   rw [if_pos h1]
   exact ⟨qVr bs hl hB, jo, jo, jo⟩
  rw [if_neg h1]
  exact ⟨qSu bs hl hB, jo, jo, jo⟩
 rw [if_neg h2]
 by_cases h1 : (qC (eG bs)).length < (cS bs).length
 ·
  rw [if_pos h1]
  exact ⟨qVr bs hl hB, jo, jo, jo⟩
 rw [if_neg h1]
 exact ⟨qPf bs, jo, jo, jo⟩
end
section
open Go.RowKit
def oV : Nat → List Nat → List (List Nat)
 | 0, _ => []
 | m + 1, d => if d = [] then [] else d.take 256 :: oV m (d.drop 256)
def chunkL (d : List Nat) : List (List Nat) := oV d.length d
theorem xU : ∀ m n (d : List Nat), d.length ≤ m → d.length ≤ n → oV m d = oV n d
 | 0, n, d, h, _ => by
  obtain rfl : d = [] := zab jo
  cases n <;> simp [oV]
 | m + 1, 0, d, _, h => by
  obtain rfl : d = [] := zab jo
  simp [oV]
 | m + 1, n + 1, d, h1, h2 => by
  unfold oV
  split
  · rfl
  rename_i h
  have : 0 < d.length := List.length_pos_iff.2 h
  rw [xU m n (d.drop 256) (by rw [zr]; omega) (by rw [zr]; omega)]
theorem qHo : chunkL [] = [] := rfl
theorem nF {d : List Nat} (h : d ≠ []) : chunkL d = d.take 256 :: chunkL (d.drop 256) := by
 have h1 : 0 < d.length := List.length_pos_iff.2 h
 unfold chunkL
 rw [show d.length = (d.length - 1) + 1 by omega, oV, if_neg h, xU (d.length - 1) (d.drop 256).length _ (by rw [zr]; omega) (zk _)]
theorem xB : ∀ k (d : List Nat), (chunkL d).drop k = chunkL (d.drop (256 * k))
 | 0, d => jp
 | k + 1, d => by
  by_cases h : d = []
  · subst h; simp [qHo]
  rw [nF h, zdo, xB k, List.drop_drop]
  congr 2
  omega
theorem gZ (d : List Nat) : (chunkL d).length = (d.length + 255) / 256 := by
 have key : ∀ n (d : List Nat), d.length ≤ n → (chunkL d).length = (d.length + 255) / 256 := by
  intro n
  induction n with
  | zero => intro d h; obtain rfl : d = [] := zab jo; rfl
  | succ n ih =>
   intro d h
   by_cases h0 : d = []
   · subst h0; rfl
   have h1 : 0 < d.length := List.length_pos_iff.2 h0
   rw [nF h0, zp, ih (d.drop 256) (by rw [zr]; omega), zr]
   omega
 exact key _ d (zk _)
theorem nJ {d : List Nat} {k : Nat} (h : 256 * k < d.length) : (chunkL d).getD k [] = (d.drop (256 * k)).take 256 := by
 have h1 := xB k d
 have h2 : d.drop (256 * k) ≠ [] := fun h0 => by have := congrArg List.length h0; rw [zr] at this; simp at this; omega
 rw [nF h2] at h1
 have h3 : ((chunkL d).drop k)[0]? = some ((d.drop (256 * k)).take 256) := by rw [h1]; rfl
 rw [zes, zdu] at h3
 rw [ze, h3]
 rfl
theorem nU {d c : List Nat} (h : c ∈ chunkL d) : c.length ≤ 256 ∧ ∀ b ∈ c, b ∈ d := by
 have key : ∀ n (d : List Nat), d.length ≤ n → ∀ c ∈ chunkL d, c.length ≤ 256 ∧ ∀ b ∈ c, b ∈ d := by
  intro n
  induction n with
  | zero => intro d h c hc; obtain rfl : d = [] := zab jo; cases hc
  | succ n ih =>
   intro d h c hc
   by_cases h0 : d = []
   · subst h0; cases hc
   have h1 : 0 < d.length := List.length_pos_iff.2 h0
   rw [nF h0] at hc
   rcases zbv.1 hc with rfl | hc
   · exact ⟨by rw [zi]; omega, fun b hb => zaf hb⟩
   obtain ⟨h2, h3⟩ := ih (d.drop 256) (by rw [zr]; omega) c hc
   exact ⟨h2, fun b hb => zch (h3 b hb)⟩
 exact key _ d (zk _) c h
theorem qUt {bs : List Nat} (hB : ∀ b ∈ bs, b < 256) : ∀ b ∈ cO bs 2, b < 256 := by
 rw [wO]
 by_cases h1 : (qC (eG bs)).length < (if (qC (eQ bs)).length < (cS bs).length then qC (eQ bs) else cS bs).length
 ·
  rw [if_pos h1]
  exact sH _
 rw [if_neg h1]
 by_cases h2 : (qC (eQ bs)).length < (cS bs).length
 ·
  rw [if_pos h2]
  exact sH _
 rw [if_neg h2]
 exact zX _ bs (zk _) hB
noncomputable section
def qI (c : List Nat) : List Nat := cO c 2
end
theorem qPg {c : List Nat} (h : ∀ b ∈ c, b < 256) : ∀ b ∈ qI c, b < 256 := qUt h
theorem uK {c : List Nat} (h : c.length ≤ 256) (hB : ∀ b ∈ c, b < 256) : (qI c).length ≤ 517 := by
 have h1 := (qJa c jo hB).2.1
 have h2 := rB _ c (zk _)
 unfold qI
 omega
theorem qWx {c : List Nat} (h : c.length ≤ 256) (hB : ∀ b ∈ c, b < 256) : jP (qI c) c.length = .ok (c, (qI c).length) := (qJa c jo hB).1
noncomputable section
def eV : Nat → List (List Nat) → List Nat
 | _, [] => []
 | o, c :: cs => o :: eV (o + (qI c).length) cs
def uV : Nat → List (List Nat) → Nat
 | o, [] => o
 | o, c :: cs => uV (o + (qI c).length) cs
end
structure En where
 id : Nat
 size : Nat
 sum : Nat
 begins : List Nat
abbrev Bb := Nat × List Nat
noncomputable section
def cE : Nat → List Bb → List En
 | _, [] => []
 | o, x :: l => ⟨x.1, x.2.length, crcM x.2, eV o (chunkL x.2)⟩ :: cE (uV o (chunkL x.2)) l
def nK : Nat → List Bb → Nat
 | o, [] => o
 | o, x :: l => nK (uV o (chunkL x.2)) l
def outM (l : List Bb) : List Nat := l.flatMap fun x => (chunkL x.2).flatMap qI
end
def gK (e : En) : List Nat := qF e.id 8 ++ qF e.size 2 ++ qF e.sum 4 ++ e.begins.flatMap (fun b => qF b 4)
noncomputable section
def cV (l : List Bb) : List Nat := qF l.length 2 ++ (cE 0 l).flatMap gK ++ qF (nK 0 l) 4
def bD (l : List Bb) : List Nat := cV l ++ qF (nK 0 l) 4
def segM (l : List Bb) : List Nat := outM l ++ bD l ++ qF (crcM (bD l)) 4 ++ [115, 101, 97, 108]
end
def wW (l : List Bb) : Prop := (∀ x ∈ l, x.2.length ≤ 4032 ∧ x.1 < 18446744073709551616 ∧ ∀ b ∈ x.2, b < 256) ∧ l.Pairwise (fun a b => a.1 < b.1) ∧ 1 ≤ l.length ∧ l.length ≤ 64
theorem rC : ∀ (cs : List (List Nat)) o, uV o cs = o + (cs.flatMap qI).length
 | [], o => rfl
 | c :: cs, o => by rw [uV, rC cs, zq, za]; omega
theorem qVs : ∀ (l : List Bb) o, nK o l = o + (outM l).length
 | [], o => rfl
 | x :: l, o => by
  rw [nK, qVs l, rC]
  have e : outM (x :: l) = (chunkL x.2).flatMap qI ++ outM l := rfl
  rw [e, za]
  omega
theorem lE : ∀ (l : List Bb) o, (cE o l).length = l.length
 | [], _ => rfl
 | x :: l, o => by rw [cE, zp, lE l, zp]
theorem nV {x : List Nat} (h : x.length ≤ 4032) : (chunkL x).length ≤ 16 := by rw [gZ]; omega
theorem qUu {cs : List (List Nat)} (h : ∀ c ∈ cs, (qI c).length ≤ 517) : (cs.flatMap qI).length ≤ 517 * cs.length := by
 induction cs with
 | nil => simp
 | cons c cs ih =>
  have h1 := ih (fun c hc => h c (zbu _ hc))
  have h2 := h c zcc
  rw [zq, za, zp]
  omega
theorem sU {x : Bb} (h : x.2.length ≤ 4032) (hB : ∀ b ∈ x.2, b < 256) : ((chunkL x.2).flatMap qI).length ≤ 8272 := by
 have h1 := qUu (cs := chunkL x.2) (fun c hc => uK (nU hc).1 (fun b hb => hB b ((nU hc).2 b hb)))
 have h2 := nV h
 omega
theorem mN : ∀ l : List Bb, (∀ x ∈ l, x.2.length ≤ 4032 ∧ x.1 < 18446744073709551616 ∧ ∀ b ∈ x.2, b < 256) → (outM l).length ≤ 8272 * l.length
 | [], _ => zk _
 | x :: l, h => by
  have h1 := mN l (fun y hy => h y (zbu _ hy))
  obtain ⟨h2, _, h3⟩ := h x zcc
  have h4 := sU h2 h3
  have e : outM (x :: l) = (chunkL x.2).flatMap qI ++ outM l := rfl
  rw [e, za, zp]
  omega
theorem qUv (l : List Bb) (h : ∀ x ∈ l, ∀ b ∈ x.2, b < 256) : ∀ b ∈ outM l, b < 256 := by
 intro b hb
 obtain ⟨x, hx, hb⟩ := List.mem_flatMap.1 hb
 obtain ⟨c, hc, hb⟩ := List.mem_flatMap.1 hb
 exact qPg (fun z hz => h x hx z ((nU hc).2 z hz)) b hb
end
section
open Go.RowKit
structure Bl where
 id : Nat
 A : Option Addr
 c : Nat
 d : List Nat
def Bl.b (x : Bl) : Bb := (x.id, x.d)
def blC (x : Bl) : List Value := [.int .u64 ((x.id : Nat) : Int), .slice x.A x.d.length x.c]
def BC (l : List Bl) : List Value := l.flatMap blC
theorem qYw (x : Bl) : (blC x).length = 2 := rfl
theorem BC_one (l : List Bl) : ∀ u ∈ BC l, u.oneCell' = true := by
 intro u hu
 obtain ⟨x, _, hx⟩ := List.mem_flatMap.1 hu
 simp only [blC, zbv, zbm, or_false] at hx
 rcases hx with rfl | rfl <;> rfl
theorem qPh (a b : List Bl) : BC (a ++ b) = BC a ++ BC b := by simp [BC]
def bl0 : Bl := ⟨0, none, 0, []⟩
theorem qVt : ∀ (L : List Bl) (s : Nat) (_ : s < L.length), ((BC L).drop (s * 2)).take 2 = blC (L.getD s bl0)
 | a :: L, 0, _ => rfl
 | a :: L, s + 1, h => by
  have := qVt L s (by simpa using h)
  rw [show BC (a :: L) = blC a ++ BC L from rfl, show (s + 1) * 2 = (blC a).length + s * 2 by rw [qYw]; omega, zco, zey]
  exact this
structure RdB (w : World) (A : Option Addr) (n : Nat) (l : List Bl) : Prop where
 len : l.length = n
 rd : Rd w 2 A n (BC l)
 el : ∀ x ∈ l, x.d.length ≤ x.c ∧ x.d.length ≤ 1000000 ∧ x.id < 18446744073709551616 ∧ (∀ b ∈ x.d, b < 256) ∧ Rd w 1 x.A x.d.length (NB x.d)
theorem RdB.frm {w w' : World} {A : Option Addr} {n : Nat} {l : List Bl} (h : RdB w A n l) (k : Frm [] w w') : RdB w' A n l := ⟨h.len, h.rd.frm k jp, fun x hx => by
 obtain ⟨h1, h2, h3, h4, h5⟩ := h.el x hx
 exact ⟨h1, h2, h3, h4, h5.frm k jp⟩⟩
theorem jJ {l : List Bl} {i : Nat} (h : i < l.length) : l.getD i bl0 ∈ l := by
 rw [ze, zb h]
 exact zt h
theorem RdB.cell {w : World} {A : Option Addr} {n : Nat} {l : List Bl} (h : RdB w A n l) {i : Nat} (hi : i < n) : ∃ ad, A = some ad ∧ ∀ j v, (blC (l.getD i bl0))[j]? = some v → w.cell? ((ad.add (i * 2)).add j) = some v := by
 obtain ⟨ad, h1, hel⟩ := h.rd.elem hi
 rw [qVt l i (by rw [h.len]; exact hi)] at hel
 exact ⟨ad, h1, hel⟩
def qXv (l : List Bl) (k : Nat) : Prop := ∀ i, i < k → (l.getD i bl0).d.length ≤ 4032 ∧ (0 < i → (l.getD (i - 1) bl0).id < (l.getD i bl0).id)
def fT (l : List Bl) : Prop := qXv l l.length ∧ 1 ≤ l.length ∧ l.length ≤ 64
def okB (l : List Bl) (i : Nat) : Prop := (l.getD i bl0).d.length ≤ 4032 ∧ (0 < i → (l.getD (i - 1) bl0).id < (l.getD i bl0).id)
theorem bO {l : List Bl} {i : Nat} : okB l i ↔ (l.getD i bl0).d.length ≤ 4032 ∧ (0 < i → (l.getD (i - 1) bl0).id < (l.getD i bl0).id) := Iff.rfl
noncomputable section
instance (l : List Bl) : Decidable (fT l) := Classical.propDecidable _
instance (l : List Bl) (i : Nat) : Decidable (okB l i) := Classical.propDecidable _
end
theorem qJb (l : List Bl) (k : Nat) : qXv l (k + 1) ↔ qXv l k ∧ (l.getD k bl0).d.length ≤ 4032 ∧ (0 < k → (l.getD (k - 1) bl0).id < (l.getD k bl0).id) := by
 unfold qXv
 constructor
 · intro h; exact ⟨fun i hi => h i jo, h k jo⟩
 rintro ⟨h1, h2⟩ i hi
 by_cases e : i = k
 · subst e; exact h2
 exact h1 i jo
theorem qPi (A : Option Addr) (n c : Nat) (l : List Bl) (w : World) (hn : n ≤ 1000000) (hr : RdB w A n l) :
  Calls Tryz.prog 8 #[.slice A n c] w fun e w' => e = .returned (.bool (decide (fT l))) ∧ qQ w w' := by
 refine VC.calls (nt := 43) (res := #[.tmp 2]) Tryz.func8 rfl Tryz.ntmps8 Tryz.results8 rfl ?_
 refine jS (jR (ja rfl (jO (jN (jv1 0 ?_)))))
 refine jS (jS (jR (jz 0 (jO (jN (jB ?_))))))
 refine VC.loop (σ := Nat) (fun s => [(0, .slice A n c), (3, .int .i64 ((s : Nat) : Int))]) (fun s wr => s ≤ n ∧ qXv l s ∧ qQ w wr) (fun s => n - s) 0 (js2 rfl rfl) ⟨jo, fun i h => jo, qQ.refl w⟩ ?_
 rintro i wr ⟨hi, hm, hd⟩
 have hnl := hr.len
 refine jS (jS (jR (jm rfl (jm rfl (je (Run.lenS rfl zam) (jb rfl rfl (Bin.lssN _ _) (jO (jN (jv3 0 3 7 ?_)))))))))
 refine jD rfl (fun hc1 => ?_) fun hc1 => ?_
 ·
  have hrw := hr.frm (hd.trans (qQ.drew wr)).frm
  obtain ⟨ad, rfl, hel⟩ := hrw.cell hc1
  have hid := (hrw.el _ (jJ (jo : i < l.length))).2.2.1
  have hsucc := qJb l i
  have hel2 : 0 < i → ∀ j v, (blC (l.getD (i - 1) bl0))[j]? = some v → wr.drew.cell? ((ad.add ((i - 1) * 2)).add j) = some v := fun h0 => by
   obtain ⟨ad2, h1, h2⟩ := hrw.cell (jo : i - 1 < n)
   cases h1
   exact h2
  refine jQ (jN (jv2 0 3 ?_))
  refine jS (jB (jS ?_))
  refine VC.splitR [(0, .slice (some ad) n c), (3, .int .i64 ((i : Nat) : Int))] (qQ wr) 34 (.bool (decide (¬ okB l i))) ?_ ?_
  ·
   refine VC.still jK jK ?_
   refine qM ?_
   refine qM ?_
   refine qE (Run.indexS _ rfl rfl zam zbz jo) ?_
   refine qE (Run.fieldAddr rfl zax rfl zo jd) ?_
   refine qE (Run.load rfl zx (hel 1 _ rfl)) ?_
   refine qE (Run.lenS rfl zf) ?_
   refine qE (Run.bin rfl rfl (Bin.gtrN _ 4032)) ?_
   by_cases hs16 : 4032 < (l.getD i bl0).d.length
   ·
    refine qM ?_
    refine qU ?_
    refine qU ?_
    refine qU ?_
    refine qH.skU rfl rfl ?_
    refine qH.skU rfl rfl ?_
    refine qH.skU rfl rfl ?_
    refine qH.skU rfl rfl ?_
    refine qH.skU rfl rfl ?_
    refine qH.skU rfl rfl ?_
    refine qH.skU rfl rfl ?_
    refine qH.skU rfl rfl ?_
    refine qH.skU rfl rfl ?_
    refine qH.skU rfl rfl ?_
    refine qH.skU rfl rfl ?_
    refine qH.skU rfl rfl ?_
    refine qU ?_
    refine qE (Run.pickT rfl rfl au) ?_
    refine qH.nil ?_
    refine jN ⟨(js3 (jC (by first | exact (decide_eq_true (show ¬ okB l i from fun h => by have := (bO.1 h).1; omega)).symm | exact (decide_eq_false (show ¬ ¬ okB l i from fun h => h (bO.2 ⟨jo, fun h0 => jo⟩))).symm | exact decide_eq_decide.2 ⟨fun h => show ¬ okB l i from fun hh => by have := (bO.1 hh).2 jo; omega, fun h => by by_cases h3 : (l.getD (i - 1) bl0).id < (l.getD i bl0).id; exact absurd (bO.2 ⟨jo, fun _ => h3⟩) h; omega⟩)) rfl rfl), (qQ.drew _)⟩
   refine qM ?_
   refine qG (Run.mv rfl) ?_
   refine qG (Run.bin rfl rfl (Bin.gtrN _ 0)) ?_
   by_cases hs19 : 0 < i
   ·
    refine qG (Run.mv rfl) ?_
    refine qG (Run.mv rfl) ?_
    refine qG (Run.mv rfl) ?_
    refine qG (Run.bin rfl rfl (Bin.sub_i64 _ 1 jo jo)) ?_
    refine qG (Run.indexS _ rfl rfl zam zbz jo) ?_
    refine qG (Run.fieldAddr rfl zax rfl zbl jd) ?_
    refine qG (Run.load rfl zcj (hel2 jo 0 _ rfl)) ?_
    refine qG (Run.mv rfl) ?_
    refine qG (Run.mv rfl) ?_
    refine qG (Run.indexS _ rfl rfl zam zbz jo) ?_
    refine qG (Run.fieldAddr rfl zax rfl zbl jd) ?_
    refine qG (Run.load rfl zcj (hel 0 _ rfl)) ?_
    refine qG (Run.bin rfl rfl (Bin.geqN _ _)) ?_
    by_cases hs32 : (l.getD i bl0).id ≤ (l.getD (i - 1) bl0).id
    ·
     refine qG (Run.pickT rfl rfl au) ?_
     refine qE (Run.pickF rfl rfl au) ?_
     refine qH.nil ?_
     refine jN ⟨(js3 (jC (by first | exact (decide_eq_true (show ¬ okB l i from fun h => by have := (bO.1 h).1; omega)).symm | exact (decide_eq_false (show ¬ ¬ okB l i from fun h => h (bO.2 ⟨jo, fun h0 => jo⟩))).symm | exact decide_eq_decide.2 ⟨fun h => show ¬ okB l i from fun hh => by have := (bO.1 hh).2 jo; omega, fun h => by by_cases h3 : (l.getD (i - 1) bl0).id < (l.getD i bl0).id; exact absurd (bO.2 ⟨jo, fun _ => h3⟩) h; omega⟩)) rfl rfl), (qQ.drew _)⟩
    refine qG (Run.pickT rfl rfl au) ?_
    refine qE (Run.pickF rfl rfl au) ?_
    refine qH.nil ?_
    refine jN ⟨(js3 (jC (by first | exact (decide_eq_true (show ¬ okB l i from fun h => by have := (bO.1 h).1; omega)).symm | exact (decide_eq_false (show ¬ ¬ okB l i from fun h => h (bO.2 ⟨jo, fun h0 => jo⟩))).symm | exact decide_eq_decide.2 ⟨fun h => show ¬ okB l i from fun hh => by have := (bO.1 hh).2 jo; omega, fun h => by by_cases h3 : (l.getD (i - 1) bl0).id < (l.getD i bl0).id; exact absurd (bO.2 ⟨jo, fun _ => h3⟩) h; omega⟩)) rfl rfl), (qQ.drew _)⟩
   refine qG (Run.mv rfl) ?_
   refine qU ?_
   refine qU ?_
   refine qU ?_
   refine qU ?_
   refine qU ?_
   refine qU ?_
   refine qU ?_
   refine qU ?_
   refine qU ?_
   refine qU ?_
   refine qU ?_
   refine qU ?_
   refine qG (Run.pickF rfl rfl au) ?_
   refine qE (Run.pickF rfl rfl au) ?_
   refine qH.nil ?_
   refine jN ⟨(js3 (jC (by first | exact (decide_eq_true (show ¬ okB l i from fun h => by have := (bO.1 h).1; omega)).symm | exact (decide_eq_false (show ¬ ¬ okB l i from fun h => h (bO.2 ⟨jo, fun h0 => jo⟩))).symm | exact decide_eq_decide.2 ⟨fun h => show ¬ okB l i from fun hh => by have := (bO.1 hh).2 jo; omega, fun h => by by_cases h3 : (l.getD (i - 1) bl0).id < (l.getD i bl0).id; exact absurd (bO.2 ⟨jo, fun _ => h3⟩) h; omega⟩)) rfl rfl), (qQ.drew _)⟩
  intro Γ w9 hΓ hd9
  refine jN (VC.sub _ hΓ ?_)
  refine jD rfl (fun hc2 => ?_) fun hc2 => ?_
  ·
   refine jS (jR (ja rfl (jO (jN (jv1 2 ?_)))))
   refine jT ?_
   refine qO (qP (qP (qO (qP (qT rfl ?_)))))
   have hno : ¬ fT l := fun h => hc2 (by
    have := h.1 i jo
    exact this)
   rw [decide_eq_false hno]
   exact ⟨rfl, hd.trans hd9⟩
  refine jQ ?_
  refine qJ (jN ?_)
  refine jv2 0 3 ?_
  refine jR (jm rfl (jb rfl rfl (Bin.add_i64 _ 1 jo) (ja rfl (jO ?_))))
  refine jN ⟨i + 1, (js2 rfl rfl), ?_, ?_⟩
  · exact ⟨jo, hsucc.2 ⟨hm, Classical.not_not.1 hc2⟩, hd.trans hd9⟩
  first | omega | (dsimp only; omega)
 refine jX ?_
 refine qZ (qZ (qW ?_))
 refine jN (jv1 0 ?_)
 refine jS ?_
 refine VC.split1 [] .nil 2 (.bool (decide (1 ≤ n ∧ n ≤ 64))) ?_ ?_
 ·
  refine jR ?_
  refine jm rfl (je (Run.lenS rfl zam) (jb rfl rfl (Bin.leqN 1 _) ?_))
  by_cases hs37 : 1 ≤ n
  ·
   refine jM ?_
   refine jG ?_
   refine jk (Run.lenS rfl zam) ?_
   refine jk (Run.bin rfl rfl (Bin.leqN _ 64)) ?_
   by_cases hs41 : n ≤ 64
   ·
    refine je (Run.pickT rfl rfl au) (ja rfl (jO ?_))
    refine jN ⟨(js1 (jC (by first | (simp [*]; done) | (simp; omega)))), rfl⟩
   refine je (Run.pickT rfl rfl au) (ja rfl (jO ?_))
   refine jN ⟨(js1 (jC (by first | (simp [*]; done) | (simp; omega)))), rfl⟩
  refine jM ?_
  refine jU ?_
  refine jU ?_
  refine jU ?_
  refine je (Run.pickF rfl rfl au) (ja rfl (jO ?_))
  refine jN ⟨(js1 (jC (by first | (simp [*]; done) | (simp; omega)))), rfl⟩
 intro Γ hΓ
 refine jN (VC.sub _ hΓ ?_)
 refine jT ?_
 refine qT rfl ?_
 have ei : i = n := jo
 subst ei
 have e : decide (1 ≤ i ∧ i ≤ 64) = decide (fT l) := decide_eq_decide.2 ⟨fun h => ⟨by rw [hnl]; exact hm, jo, jo⟩, fun h => by have := h.2; omega⟩
 rw [e]
 exact ⟨rfl, hd⟩
theorem qQ0 (A : Option Addr) (n c : Nat) (l : List Bl) (w : World) (hn : n ≤ 1000000) (hr : RdB w A n l) :
  Calls Tryz.prog 14 #[.slice A n c] w fun e w' => e = .returned (.bool (decide (fT l))) ∧ Frm [] w w' := by
 refine VC.calls (nt := 40) (res := #[.tmp 2]) Tryz.func14 rfl Tryz.ntmps14 Tryz.results14 rfl ?_
 refine jS (jR (ja rfl (jO (jN (jv1 0 ?_)))))
 refine jS (jS (jR (jm rfl (je (Run.lenS rfl zam) ?_))))
 refine jx .i64 0 ?_
 refine jO (jN (jB ?_))
 refine VC.loop (σ := Nat) (fun s => [(0, .slice A n c), (5, .slice A n c), (6, .int .i64 ((n : Nat) : Int)), (7, .int .i64 ((s : Nat) : Int))]) (fun s wr => s ≤ n ∧ qXv l s ∧ Frm [] w wr) (fun s => n - s) 0 (js4 rfl rfl rfl rfl) ⟨jo, fun i h => jo, Frm.refl _ _⟩ ?_
 rintro i wr ⟨hi, hm, hd⟩
 have hnl := hr.len
 refine jS (jR (jb rfl rfl (Bin.lssN _ _) (jO (jN (jS ?_)))))
 refine jD rfl (fun hc1 => ?_) fun hc1 => ?_
 ·
  have hrw := hr.frm hd
  obtain ⟨ad, rfl, hel⟩ := hrw.cell hc1
  have hid := (hrw.el _ (jJ (jo : i < l.length))).2.2.1
  have hid2 := fun h0 : 0 < i => (hrw.el _ (jJ (jo : i - 1 < l.length))).2.2.1
  have hsucc := qJb l i
  refine jQ (jN (jv4 0 5 6 7 ?_))
  refine jS (jB (jS (jR (jm rfl (je (Run.indexS _ rfl rfl zam zbz jo) (je (Run.loadA rfl Tryz.isAgg41 zbz hel (by first | rfl | (simp; done))) ?_))))))
  refine Ops.m (qV.alloc jI) rfl ?_
  rintro _ w1 ⟨rfl, hF1⟩
  refine jA ?_
  refine Ops.st (qR.storeA rfl rfl zbz hF1.blk rfl (by intro v hv; exact BC_one [l.getD i bl0] v (by simpa [BC] using hv))) ?_
  rintro w2 ⟨hb2, hf2, hs2⟩
  have hd := (hd.trans hF1.frm jp).own hf2 (by simp; exact hd.size)
  have hel2 : 0 < i → ∀ j v, (blC (l.getD (i - 1) bl0))[j]? = some v → w2.drew.cell? ((ad.add ((i - 1) * 2)).add j) = some v := fun h0 => by
   obtain ⟨ad2, h1, h2⟩ := (hr.frm (hd.drawn (qQ.drew w2))).cell (jo : i - 1 < n)
   cases h1
   exact h2
  have hb3 := hb2.drawn (qQ.drew w2)
  refine jO (jN (jv6 0 3 4 5 6 7 ?_))
  refine jS ?_
  refine VC.splitR [(0, .slice (some ad) n c), (5, .slice (some ad) n c), (6, .int .i64 ((n : Nat) : Int)), (7, .int .i64 ((i : Nat) : Int))] (qQ w2) 30 (.bool (decide (¬ okB l i))) ?_ ?_
  ·
   refine VC.still jK jK ?_
   refine qE (Run.fieldAddr rfl zax rfl zo jd) ?_
   refine qE (Run.load rfl zx (hb3.cell 1)) ?_
   refine qE (Run.lenS rfl zf) ?_
   refine qE (Run.bin rfl rfl (Bin.gtrN _ 4032)) ?_
   by_cases hs15 : 4032 < (l.getD i bl0).d.length
   ·
    refine qM ?_
    refine qU ?_
    refine qU ?_
    refine qU ?_
    refine qH.skU rfl rfl ?_
    refine qH.skU rfl rfl ?_
    refine qH.skU rfl rfl ?_
    refine qH.skU rfl rfl ?_
    refine qH.skU rfl rfl ?_
    refine qH.skU rfl rfl ?_
    refine qH.skU rfl rfl ?_
    refine qH.skU rfl rfl ?_
    refine qH.skU rfl rfl ?_
    refine qU ?_
    refine qE (Run.pickT rfl rfl au) ?_
    refine qH.nil ?_
    refine jN ⟨(js5 (jC (by first | exact (decide_eq_true (show ¬ okB l i from fun h => by have := (bO.1 h).1; omega)).symm | exact (decide_eq_false (show ¬ ¬ okB l i from fun h => h (bO.2 ⟨jo, fun h0 => jo⟩))).symm | exact decide_eq_decide.2 ⟨fun h => show ¬ okB l i from fun hh => by have := (bO.1 hh).2 jo; omega, fun h => by by_cases h3 : (l.getD (i - 1) bl0).id < (l.getD i bl0).id; exact absurd (bO.2 ⟨jo, fun _ => h3⟩) h; omega⟩)) rfl rfl rfl rfl), (qQ.drew _)⟩
   refine qM ?_
   refine qG (Run.mv rfl) ?_
   refine qG (Run.bin rfl rfl (Bin.gtrN _ 0)) ?_
   by_cases hs18 : 0 < i
   ·
    refine qG (Run.mv rfl) ?_
    refine qG (Run.fieldAddr rfl zax rfl zbl jd) ?_
    refine qG (Run.load rfl zcj (hb3.cell 0)) ?_
    refine qG (Run.mv rfl) ?_
    refine qG (Run.mv rfl) ?_
    refine qG (Run.bin rfl rfl (Bin.sub_i64 _ 1 jo jo)) ?_
    refine qG (Run.indexS _ rfl rfl zam zbz jo) ?_
    refine qG (Run.fieldAddr rfl zax rfl zbl jd) ?_
    refine qG (Run.load rfl zcj (hel2 jo 0 _ rfl)) ?_
    refine qG (Run.bin rfl rfl (Bin.leqN _ _)) ?_
    by_cases hs28 : (l.getD i bl0).id ≤ (l.getD (i - 1) bl0).id
    ·
     refine qG (Run.pickT rfl rfl au) ?_
     refine qE (Run.pickF rfl rfl au) ?_
     refine qH.nil ?_
     refine jN ⟨(js5 (jC (by first | exact (decide_eq_true (show ¬ okB l i from fun h => by have := (bO.1 h).1; omega)).symm | exact (decide_eq_false (show ¬ ¬ okB l i from fun h => h (bO.2 ⟨jo, fun h0 => jo⟩))).symm | exact decide_eq_decide.2 ⟨fun h => show ¬ okB l i from fun hh => by have := (bO.1 hh).2 jo; omega, fun h => by by_cases h3 : (l.getD (i - 1) bl0).id < (l.getD i bl0).id; exact absurd (bO.2 ⟨jo, fun _ => h3⟩) h; omega⟩)) rfl rfl rfl rfl), (qQ.drew _)⟩
    refine qG (Run.pickT rfl rfl au) ?_
    refine qE (Run.pickF rfl rfl au) ?_
    refine qH.nil ?_
    refine jN ⟨(js5 (jC (by first | exact (decide_eq_true (show ¬ okB l i from fun h => by have := (bO.1 h).1; omega)).symm | exact (decide_eq_false (show ¬ ¬ okB l i from fun h => h (bO.2 ⟨jo, fun h0 => jo⟩))).symm | exact decide_eq_decide.2 ⟨fun h => show ¬ okB l i from fun hh => by have := (bO.1 hh).2 jo; omega, fun h => by by_cases h3 : (l.getD (i - 1) bl0).id < (l.getD i bl0).id; exact absurd (bO.2 ⟨jo, fun _ => h3⟩) h; omega⟩)) rfl rfl rfl rfl), (qQ.drew _)⟩
   refine qG (Run.mv rfl) ?_
   refine qU ?_
   refine qU ?_
   refine qU ?_
   refine qU ?_
   refine qU ?_
   refine qU ?_
   refine qU ?_
   refine qU ?_
   refine qU ?_
   refine qG (Run.pickF rfl rfl au) ?_
   refine qE (Run.pickF rfl rfl au) ?_
   refine qH.nil ?_
   refine jN ⟨(js5 (jC (by first | exact (decide_eq_true (show ¬ okB l i from fun h => by have := (bO.1 h).1; omega)).symm | exact (decide_eq_false (show ¬ ¬ okB l i from fun h => h (bO.2 ⟨jo, fun h0 => jo⟩))).symm | exact decide_eq_decide.2 ⟨fun h => show ¬ okB l i from fun hh => by have := (bO.1 hh).2 jo; omega, fun h => by by_cases h3 : (l.getD (i - 1) bl0).id < (l.getD i bl0).id; exact absurd (bO.2 ⟨jo, fun _ => h3⟩) h; omega⟩)) rfl rfl rfl rfl), (qQ.drew _)⟩
  intro Γ w9 hΓ hd9
  refine jN (VC.sub _ hΓ ?_)
  refine jD rfl (fun hc2 => ?_) fun hc2 => ?_
  ·
   refine jS (jR (ja rfl (jO (jN (jv1 2 ?_)))))
   refine jT ?_
   refine qO (qP (qP (qO (qP (qT rfl ?_)))))
   have hno : ¬ fT l := fun h => hc2 (by
    have := h.1 i jo
    exact this)
   rw [decide_eq_false hno]
   exact ⟨rfl, hd.drawn hd9⟩
  refine jQ ?_
  refine qJ (jN ?_)
  refine jv4 0 5 6 7 ?_
  refine jR (jb rfl rfl (Bin.add_i64 _ 1 jo) (jm rfl (jO ?_)))
  refine jN ⟨i + 1, (js4 rfl rfl rfl rfl), ?_, ?_⟩
  · exact ⟨jo, hsucc.2 ⟨hm, Classical.not_not.1 hc2⟩, hd.drawn hd9⟩
  first | omega | (dsimp only; omega)
 refine jX ?_
 refine qZ (qZ (qW ?_))
 refine jN (jv1 0 ?_)
 refine jS ?_
 refine VC.split1 [] .nil 2 (.bool (decide (1 ≤ n ∧ n ≤ 64))) ?_ ?_
 ·
  refine jR ?_
  refine jm rfl (je (Run.lenS rfl zam) (jb rfl rfl (Bin.geqN _ 1) ?_))
  by_cases hs34 : 1 ≤ n
  ·
   refine jM ?_
   refine jG ?_
   refine jk (Run.lenS rfl zam) ?_
   refine jk (Run.bin rfl rfl (Bin.leqN _ 64)) ?_
   by_cases hs38 : n ≤ 64
   ·
    refine je (Run.pickT rfl rfl au) (ja rfl (jO ?_))
    refine jN ⟨(js1 (jC (by first | (simp [*]; done) | (simp; omega)))), rfl⟩
   refine je (Run.pickT rfl rfl au) (ja rfl (jO ?_))
   refine jN ⟨(js1 (jC (by first | (simp [*]; done) | (simp; omega)))), rfl⟩
  refine jM ?_
  refine jU ?_
  refine jU ?_
  refine jU ?_
  refine je (Run.pickF rfl rfl au) (ja rfl (jO ?_))
  refine jN ⟨(js1 (jC (by first | (simp [*]; done) | (simp; omega)))), rfl⟩
 intro Γ hΓ
 refine jN (VC.sub _ hΓ ?_)
 refine jT ?_
 refine qT rfl ?_
 have ei : i = n := jo
 subst ei
 have e : decide (1 ≤ i ∧ i ≤ 64) = decide (fT l) := decide_eq_decide.2 ⟨fun h => ⟨by rw [hnl]; exact hm, jo, jo⟩, fun h => by have := h.2; omega⟩
 rw [e]
 exact ⟨rfl, hd⟩
theorem gS (A : Option Addr) (m c v n : Nat) (bs : List Nat) (w : World) (hm : bs.length = m) (hl : m ≤ 1000000000) (hn1 : 1 ≤ n) (hn8 : n ≤ 8) (hv : v < 256 ^ n) (ho : Own w 5 1 A m c (NB bs)) :
  Calls Tryz.prog 15 #[.slice A m c, .int .u64 ((v : Nat) : Int), .int .i64 ((n : Nat) : Int)] w fun e w' => ∃ B d, e = .returned (.slice B (m + n) d) ∧ Own w' 5 1 B (m + n) d (NB (bs ++ qF v n)) ∧ Frm (ob A) w w' ∧ ∀ x ∈ ob B, x ∈ ob A ∨ w.heap.size ≤ x := by
 refine VC.calls (nt := 18) (res := #[.tmp 6]) Tryz.func15 rfl Tryz.ntmps15 Tryz.results15 rfl ?_
 refine jS (jR (ja rfl (jO (jN (jv3 0 1 2 ?_)))))
 refine jS (jR (jm rfl (jM ?_)))
 refine Ops.cl (jE2 Tryz.call29) (qGz v n _ hn1 hn8 hv) rfl ?_
 rintro e w1 ⟨B, d, rfl, hoB, hf1, _⟩
 refine ⟨_, rfl, ?_⟩
 have ho := ho.frm hf1 jp
 refine jm rfl (je (Run.extract rfl rfl) (je (Run.extract rfl rfl) (ja rfl (ja rfl (jO (jN (jv2 0 7 ?_)))))))
 refine jS (jR (jm rfl (jM ?_)))
 refine Ops.m (qV.app rfl rfl zf (eA) rfl jd ho hoB.rd (eP _) jo jo) rfl ?_
 rintro _ w2 ⟨B2, d2, rfl, ho2, hf2, hob2⟩
 rw [← fD] at ho2
 refine ja rfl (jO (jN (jv1 6 ?_)))
 refine jT ?_
 refine qT rfl ?_
 refine ⟨B2, d2, rfl, ho2, (hf1.mono jp).trans hf2 (fun x hx => .inl hx), fun x hx => ?_⟩
 rcases hob2 with h | h
 · rw [h] at hx; exact .inl hx
 rw [h, zh] at hx; exact .inr (by have := hf1.size; omega)
def chA (A : Option Addr) (d : List Nat) (k : Nat) : Option Addr × Nat × List Nat := (cC A (256 * k + ((d.drop (256 * k)).take 256).length) (256 * k) 1, ((d.drop (256 * k)).take 256).length, (d.drop (256 * k)).take 256)
def gI (A : Option Addr) (d : List Nat) : List (Option Addr × Nat × List Nat) := (List.range (chunkL d).length).map (chA A d)
theorem qVu (A : Option Addr) (d : List Nat) : (gI A d).length = (chunkL d).length := by simp [gI]
theorem qJc (A : Option Addr) (d : List Nat) {k : Nat} (h : k < (chunkL d).length) : (gI A d).take (k + 1) = (gI A d).take k ++ [chA A d k] := by
 unfold gI
 rw [zah]
 congr 1
 rw [zbd, zgf h]
 rfl
theorem wY (A : Option Addr) (d : List Nat) : (gI A d).map (·.2.2) = chunkL d := by
 apply zao
 intro k
 unfold gI
 rw [zeh, zbd]
 by_cases h : k < (chunkL d).length
 ·
  have h2 : 256 * k < d.length := by rw [gZ] at h; omega
  have h3 := nJ h2
  rw [ze, zb h, zba] at h3
  rw [zgf h, zb h, h3]
  rfl
 rw [zu (by rw [zfi]; omega), zu jo]
 rfl
theorem qYx {w : World} {A : Option Addr} {c : Nat} {d : List Nat} (hr : Rd w 1 A d.length (NB d)) (hc : d.length ≤ c) : ∀ x ∈ gI A d, x.2.1 = x.2.2.length ∧ Rd w 1 x.1 x.2.2.length (NB x.2.2) := by
 intro x hx
 unfold gI at hx
 obtain ⟨k, hk, rfl⟩ := List.mem_map.1 hx
 have hk := List.mem_range.1 hk
 have h2 : 256 * k < d.length := by rw [gZ] at hk; omega
 have hl : ((d.drop (256 * k)).take 256).length ≤ d.length - 256 * k := by rw [zi, zr]; omega
 have hpos : 0 < ((d.drop (256 * k)).take 256).length := by rw [zi, zr]; omega
 refine ⟨rfl, ?_⟩
 have h3 := oX d (256 * k) ((d.drop (256 * k)).take 256).length jo hr hc
 have h4 : (d.drop (256 * k)).take ((d.drop (256 * k)).take 256).length = (d.drop (256 * k)).take 256 := by
  rw [zi, zr]
  by_cases h5 : 256 ≤ d.length - 256 * k
  · rw [zal h5]
  rw [Nat.min_eq_right jo, zm (by rw [zr]; omega), zm (by rw [zr]; omega)]
 rw [h4] at h3
 have e : cC A c (256 * k) 1 = cC A (256 * k + ((d.drop (256 * k)).take 256).length) (256 * k) 1 := by
  unfold cC
  rw [if_neg jo, if_neg jo]
 rw [e] at h3
 exact h3
theorem qHp (A : Option Addr) (c : Nat) (d : List Nat) (g1 g2 : Nat) (hs : d.length ≤ 1000000) (hc : d.length ≤ c) :
  qRm Tryz.prog 31 #[.pointer (some ⟨g1, 0, none⟩), .pointer (some ⟨g2, 0, none⟩)] (fun x => #[.slice x.1 x.2.2.length x.2.1]) [] [g1, g2] (fun w => Blk w g1 24 #[.slice A d.length c] ∧ Blk w g2 3 #[.int .i64 ((256 : Nat) : Int)]) (gI A d) := by
 rintro l J Jx w hJ hJx ⟨hb1, hb2⟩ hY h0
 have hcl := gZ d
 refine VC.calls (nt := 31) (res := #[]) Tryz.func31 rfl Tryz.ntmps31 Tryz.results31 rfl ?_
 refine jS (jR (jz 0 (jO (jN (jB ?_)))))
 refine VC.loop (σ := Nat) (fun s1 => [(0, .func (.yield l) #[] #[]), (1, .pointer (some ⟨g1, 0, none⟩)), (2, .pointer (some ⟨g2, 0, none⟩)), (4, .int .i64 ((256 * s1 : Nat) : Int))]) (fun s1 wr => s1 ≤ (chunkL d).length ∧ Blk wr g1 24 #[.slice A d.length c] ∧ Blk wr g2 3 #[.int .i64 ((256 : Nat) : Int)] ∧ J ((gI A d).take s1) wr) (fun s1 => (chunkL d).length - s1) 0 (js4 rfl rfl rfl rfl) ⟨jo, hb1, hb2, h0⟩ ?_
 rintro k wr ⟨hk, hb1, hb2, hj⟩
 refine jS (jS (jR (jm rfl (jl rfl zx (hb1.cell 0) (je (Run.lenS rfl zf) (jb rfl rfl (Bin.lssN _ _) (jO (jN (jv5 0 1 2 4 9 ?_)))))))))
 refine jD rfl (fun hc1 => ?_) fun hc1 => ?_
 ·
  have hkl : k < (chunkL d).length := jo
  have hpre : ((gI A d).take k ++ [chA A d k]) <+: gI A d := by rw [← qJc A d hkl]; exact List.take_prefix _ _
  have hcl2 : ((d.drop (256 * k)).take 256).length = min 256 (d.length - 256 * k) := by rw [zi, zr]
  have hd := qQ.drew wr
  refine jQ (jN (jv4 0 1 2 4 ?_))
  refine jS (jB (jS ?_))
  refine VC.held (fun v => Blk v g1 24 #[.slice A d.length c] ∧ Blk v g2 3 #[.int .i64 ((256 : Nat) : Int)]) jK ?_
  have hS : (fun v => Blk v g1 24 #[.slice A d.length c] ∧ Blk v g2 3 #[.int .i64 ((256 : Nat) : Int)]) wr.drew := ⟨hb1.drawn hd, hb2.drawn hd⟩
  have hj := hJ _ _ _ hj hd.frm
  have hb1 := hb1.drawn hd
  have hb2 := hb2.drawn hd
  generalize wr.drew = wr at *
  refine jH 0 rfl hS (fun w0 hw0 => Run.load rfl zg (hw0.2.cell 0)) ?_
  refine jH 1 rfl hS (fun w0 hw0 => Run.load rfl zx (hw0.1.cell 0)) ?_
  refine jH 2 rfl hS (fun w0 hw0 => Run.mv rfl) ?_
  refine jH 3 rfl hS (fun w0 hw0 => Run.sliceS _ _ rfl zf zad (evB.some_ rfl) evB.none_ jo jo) ?_
  refine jH 4 rfl hS (fun w0 hw0 => Run.lenS rfl zf) ?_
  refine jH 5 rfl hS (fun w0 hw0 => Run.minI rfl rfl) ?_
  have em : (if ((d.length - 256 * k : Nat) : Int) < ((256 : Nat) : Int) then ((d.length - 256 * k : Nat) : Int) else ((256 : Nat) : Int)) = ((((d.drop (256 * k)).take 256).length : Nat) : Int) := by rw [hcl2]; split <;> omega
  rw [em]
  refine jH 6 rfl hS (fun w0 hw0 => Run.asg rfl) ?_
  refine qK.done jK ?_
  refine jN (jv5 0 1 2 4 5 ?_)
  refine jS (jR (jm rfl (jl rfl zx (hb1.cell 0) (jm rfl (jm rfl (jm rfl (jb rfl rfl (Bin.addZ _ _ jo jo) (jm rfl (jm rfl (jb rfl rfl (Bin.addZ _ _ jo jo) (je (Run.slice3 _ _ _ rfl zf zad rfl rfl rfl jo jo jo) ?_)))))))))))
  rw [show 256 * k + ((d.drop (256 * k)).take 256).length - 256 * k = ((d.drop (256 * k)).take 256).length by omega]
  refine Ops.yield rfl rfl (evs.cons rfl evs.nil) ((by simpa using hY ((gI A d).take k) (chA A d k) wr hj hpre : lN Tryz.prog l #[.slice (chA A d k).1 (chA A d k).2.2.length (chA A d k).2.1] wr _)) rfl rfl ?_
  rintro e w1 ⟨hoff, hR0⟩
  obtain ⟨yb, rfl, hR⟩ : ∃ yb : Bool, e = .returned (.bool yb) ∧ ((yb = true ∧ J ((gI A d).take k ++ [chA A d k]) w1) ∨ (yb = false ∧ Jx ((gI A d).take k ++ [chA A d k]) w1)) := by
   rcases hR0 with ⟨rfl, h⟩ | ⟨rfl, h⟩
   · exact ⟨true, rfl, .inl ⟨rfl, h⟩⟩
   exact ⟨false, rfl, .inr ⟨rfl, h⟩⟩
  refine ⟨_, rfl, ?_⟩
  have hb1 := hoff.blk hb1 jp
  have hb2 := hoff.blk hb2 jp
  refine je (Run.not rfl) (jO (jN (jv5 0 1 2 4 30 ?_)))
  refine VC.condB rfl (fun hc2 => ?_) (fun hc2 => ?_)
  ·
   refine jT ?_
   refine qO (qP (qP (qO (end0 ?_))))
   exact ⟨⟨_, rfl⟩, .inr ⟨_, (hR.resolve_left (fun h => by rw [h.1] at hc2; simp at hc2)).2⟩⟩
  refine jQ ?_
  refine qJ (jN ?_)
  refine jv4 0 1 2 4 ?_
  refine jR (jm rfl (jl rfl zg (hb2.cell 0) (jb rfl rfl (Bin.add_i64 _ _ jo) (ja rfl (jO ?_)))))
  refine jN ⟨k + 1, (js4 rfl rfl rfl (by rw [show 256 * (k + 1) = 256 * k + 256 by omega]; rfl)), ?_, ?_⟩
  · exact ⟨jo, hb1, hb2, by rw [qJc A d hkl]; exact (hR.resolve_right (fun h => by rw [h.1] at hc2; simp at hc2)).2⟩
  first | omega | (dsimp only; omega)
 refine jX ?_
 refine qZ (qZ (qW ?_))
 refine eM ?_
 have hke : (gI A d).take k = gI A d := zm (by rw [qVu]; omega)
 rw [hke] at hj
 exact ⟨⟨_, rfl⟩, .inl hj⟩
theorem qHq (A : Option Addr) (n c : Nat) (w : World) : Calls Tryz.prog 17 #[.slice A n c, .int .i64 ((256 : Nat) : Int)] w fun e w' => Frm [] w w' ∧ ∃ g1 g2, e = .returned (.func (.func 31) #[] #[.pointer (some ⟨g1, 0, none⟩), .pointer (some ⟨g2, 0, none⟩)]) ∧ Blk w' g1 24 #[.slice A n c] ∧ Blk w' g2 3 #[.int .i64 ((256 : Nat) : Int)] ∧ w.heap.size ≤ g1 ∧ w.heap.size ≤ g2 := by
 refine VC.calls (nt := 9) (res := #[.tmp 4]) Tryz.func17 rfl Tryz.ntmps17 Tryz.results17 rfl ?_
 refine jS (jR ?_)
 refine Ops.m (qV.box rfl) rfl ?_
 rintro _ w1 ⟨rfl, hF1⟩
 have hb1 := hF1.blk
 refine Ops.m (qV.box rfl) rfl ?_
 rintro _ w2 ⟨rfl, hF2⟩
 have hb1 := hb1.frm hF2.frm jp
 have hb2 := hF2.blk
 refine ja rfl (jO (jN (jv2 2 3 ?_)))
 refine jS (jS (jR (jl rfl zg (hb2.cell 0) (jb rfl rfl (Bin.lssN _ 1) (jO (jN (jv3 2 3 6 ?_)))))))
 refine VC.condF rfl jd ?_
 refine jQ (jN (jv2 2 3 ?_))
 refine jS (jR (je (Run.mkFunc evs.nil (evs.cons rfl (evs.cons rfl evs.nil))) (ja rfl (jO (jN (jv1 4 ?_))))))
 refine jT ?_
 refine qT rfl ?_
 exact ⟨hF1.frm.trans hF2.frm jp, _, _, rfl, hb1, hb2, zk _, hF1.frm.size⟩
end
section
open Go.RowKit
section
variable {P : Program} {Γ : Env} {w : World} {dst : Option Tmp} {pos : String} {after : Array Edge} {g : Option (Nat × Bool)} {T : TypeId}
theorem Own.based {w : World} {e size n c B : Nat} {A : Option Addr} {xs : List Value} (h : Own w e size A n c xs) (hA : ∀ x ∈ ob A, B ≤ x) : w.ownsRow B e size (.slice A n c) n xs := by
 refine ⟨h.1, ?_⟩
 rcases h.cases with ⟨rfl, h1, h2, _⟩ | ⟨g, cur, rfl, h1, h2, h3, h4, h5⟩
 · exact .inl ⟨by rw [h1, h2], h1⟩
 exact .inr ⟨g, c, cur, rfl, hA g (by simp [ob]), h1, h2, h3, h4, h5⟩
theorem qV.appStr {t u e : TypeId} {x y : Operand} {n cap : Nat} (B : Nat) {A : Option Addr} {xs : List Value} {q : List UInt8} (hx : ev? Γ x = some (.slice A n cap)) (hy : ev? Γ y = some (encStr q))
  (ht : P.underlying t = some (.slice e)) (hu : P.underlying u = some .string) (hi : (P.info? e).map (fun i => (i.zero, i.size, i.bytes)) = some (some (.int .u8 0), 1, 1))
  (ho : Own w e 1 A n cap xs) (hA : ∀ x ∈ ob A, B ≤ x) (hB : B ≤ w.heap.size) (hb : n + q.length ≤ 140737488355328) :
  qV P ⟨dst, .call ⟨.builtin .append, #[x, y], #[t, u]⟩, T, pos, after, g⟩ Γ w
   (fun r w' => ∃ A' c', r = .slice A' (n + q.length) c' ∧ Own w' e 1 A' (n + q.length) c' (xs ++ U8 q) ∧ Frm (ob A) w w' ∧ ∀ x ∈ ob A', B ≤ x) := fun ρ hρ => by
 obtain ⟨i0, hi0, hz0, hz1, hz2⟩ := info_parts hi
 have ex : (execOp ρ ⟨dst, .call ⟨.builtin .append, #[x, y], #[t, u]⟩, T, pos, after, g⟩).run P w = ((Builtin.append_ #[t, u] T #[.slice A n cap, .string ⟨q.toArray⟩]).run P w).andThen fun a w => .ok (.value a) w := by
  simp [execOp, resolve, invoke, builtin, hρ _ _ hx, hρ _ _ hy, encStr]
 have hsz : (⟨q.toArray⟩ : ByteArray).size = q.length := by show q.toArray.size = _; simp
 obtain ⟨v', w', hrun, hown, hgr, hnil⟩ := Lib.run_append_own_string (P := P) (w := w) B t u T e i0 ht hu hi0 hz0 hz1 hz2 (.slice A n cap) n xs (ho.based hA) ⟨q.toArray⟩ (by rw [hsz]; unfold maxLen; omega) (by rw [hsz]; exact hb) hB
 rw [hsz] at hown
 have hc : Lib.strCells ⟨q.toArray⟩ = U8 q := by simp [Lib.strCells, U8]
 rw [hc] at hown
 have hblk : ∀ (X : Option Addr) (p q : Nat), (Value.slice X p q).ownBlock.toList = ob X := by intro X p q; cases X <;> rfl
 have hfr : Frm (ob A) w w' := by
  have := Frm.grown hgr
  rwa [hblk] at this
 rcases hown.2 with ⟨rfl, h0⟩ | ⟨g', cap', cur', rfl, h1, h2, h3, h4, h5, h6⟩
 · refine ⟨_, w', by rw [ex, hrun]; rfl, none, 0, by rw [h0], ⟨hown.1, .inl ⟨by rw [h0], h0⟩⟩, hfr, by simp [ob]⟩
 exact ⟨_, w', by rw [ex, hrun]; rfl, some ⟨g', 0, none⟩, cap', rfl, ⟨hown.1, .inr ⟨g', cap', cur', rfl, zak _, h2, h3, h4, h5, h6⟩⟩, hfr, by simp [ob]; exact h1⟩
end
end
section
open Go.RowKit
theorem qJd : ∀ (cs : List (List Nat)) (o : Nat) (c : List Nat), eV o (cs ++ [c]) = eV o cs ++ [uV o cs]
 | [], o, c => rfl
 | x :: cs, o, c => by rw [zcr, eV, qJd cs, eV, uV, zcr]
theorem qJe : ∀ (l : List Bb) (o : Nat) (x : Bb), cE o (l ++ [x]) = cE o l ++ [⟨x.1, x.2.length, crcM x.2, eV (nK o l) (chunkL x.2)⟩]
 | [], o, x => rfl
 | y :: l, o, x => by rw [zcr, cE, qJe l, cE, nK, zcr]
theorem qJf (l : List Bb) (x : Bb) : outM (l ++ [x]) = outM l ++ (chunkL x.2).flatMap qI := by simp [outM]
theorem kY (l : List Bb) : nK 0 l = (outM l).length := by rw [qVs]; omega
noncomputable section
def fQ (n : Nat) (l : List Bb) : List Nat := qF n 2 ++ (cE 0 l).flatMap gK
def chO (o : List Nat) (cs : List (List Nat)) : List Nat := o ++ cs.flatMap qI
def chD (o d : List Nat) (cs : List (List Nat)) : List Nat := d ++ (eV o.length cs).flatMap (fun b => qF b 4)
end
theorem qVv (o : List Nat) (cs : List (List Nat)) (c : List Nat) : chO o (cs ++ [c]) = chO o cs ++ qI c := by simp [chO]
theorem qVw (o d : List Nat) (cs : List (List Nat)) (c : List Nat) : chD o d (cs ++ [c]) = chD o d cs ++ qF (chO o cs).length 4 := by
 unfold chD chO
 rw [qJd, rC, zw, zcp, zj, za]
theorem qJg (n : Nat) (l : List Bb) (x : Bb) : fQ n (l ++ [x]) = chD (outM l) (fQ n l ++ qF x.1 8 ++ qF x.2.length 2 ++ qF (crcM x.2) 4) (chunkL x.2) := by
 unfold fQ chD
 rw [qJe, zw, zcp, kY]
 unfold gK
 simp only [zj]
theorem qYy (l : List Bb) (x : Bb) : chO (outM l) (chunkL x.2) = outM (l ++ [x]) := by rw [qJf]; rfl
def Two (b : Nat) (W : World) (gO gD : Nat) (o d : List Nat) : Prop := ∃ A1 c1 A2 c2, Blk W gO 24 #[.slice A1 o.length c1] ∧ Blk W gD 24 #[.slice A2 d.length c2] ∧ Own W 5 1 A1 o.length c1 (NB o) ∧ Own W 5 1 A2 d.length c2 (NB d) ∧ (∀ x ∈ ob A1, x ∉ ob A2 ∧ b ≤ x) ∧ (∀ x ∈ ob A2, b ≤ x)
theorem Two.frm {b : Nat} {W W' : World} {gO gD : Nat} {o d : List Nat} {S : List Nat} (h : Two b W gO gD o d) (k : Frm S W W') (hS : ∀ x ∈ S, ∀ o, W.heap[x]? = some o → o.isCells = false) : Two b W' gO gD o d := by
 obtain ⟨A1, c1, A2, c2, h1, h2, h3, h4, h5, h6⟩ := h
 have hb : ∀ {g : Nat} {t : TypeId} {cs : Array Value}, Blk W g t cs → g ∉ S := fun hb hx => by
  have := hS _ hx _ hb
  cases this
 have ho : ∀ {e size n c : Nat} {A : Option Addr} {xs : List Value}, Own W e size A n c xs → ∀ x ∈ ob A, x ∉ S := fun ho x hx hx2 => by
  rcases ho.cases with ⟨rfl, _⟩ | ⟨g, cur, rfl, hb', _⟩
  · cases hx
  simp only [ob, zh] at hx
  subst hx
  exact hb hb' hx2
 exact ⟨A1, c1, A2, c2, h1.frm k (hb h1), h2.frm k (hb h2), h3.frm k (ho h3), h4.frm k (ho h4), h5, h6⟩
def MKs (b : Nat) (W : World) (ds : List Nat) : Prop := ds.Nodup ∧ ∀ d ∈ ds, eU W d ∧ b ≤ d
theorem MKs.frm {b : Nat} {W W' : World} {ds S : List Nat} (h : MKs b W ds) (k : Frm S W W') (hS : ∀ d ∈ ds, d ∉ S) : MKs b W' ds := ⟨h.1, fun d hd => ⟨(h.2 d hd).1.frm k (hS d hd), (h.2 d hd).2⟩⟩
theorem qUw (e : En) : ∀ b ∈ gK e, b < 256 := by
 intro b hb
 unfold gK at hb
 rcases List.mem_append.1 hb with hb | hb
 ·
  rcases List.mem_append.1 hb with hb | hb
  ·
   rcases List.mem_append.1 hb with hb | hb
   · exact kS _ _ b hb
   exact kS _ _ b hb
  exact kS _ _ b hb
 obtain ⟨x, _, hb⟩ := List.mem_flatMap.1 hb
 exact kS _ _ b hb
theorem xQ (l : List Bb) : ∀ b ∈ bD l, b < 256 := by
 intro b hb
 unfold bD cV at hb
 rcases List.mem_append.1 hb with hb | hb
 ·
  rcases List.mem_append.1 hb with hb | hb
  ·
   rcases List.mem_append.1 hb with hb | hb
   · exact kS _ _ b hb
   obtain ⟨x, _, hb⟩ := List.mem_flatMap.1 hb
   exact qUw x b hb
  exact kS _ _ b hb
 exact kS _ _ b hb
theorem dP : ∀ (cs : List (List Nat)) (o : Nat), (eV o cs).length = cs.length
 | [], _ => rfl
 | c :: cs, o => by rw [eV, zp, dP cs, zp]
theorem rD : ∀ L : List Nat, (L.flatMap fun b => qF b 4).length = 4 * L.length
 | [] => rfl
 | a :: L => by rw [zq, za, rD L, bV, zp]; omega
theorem qVx (e : En) : (gK e).length = 14 + 4 * e.begins.length := by
 unfold gK
 simp only [za, bV, rD]
theorem oA : ∀ (l : List Bb) (o : Nat), (∀ x ∈ l, x.2.length ≤ 4032) → ((cE o l).flatMap gK).length ≤ 78 * l.length
 | [], _, _ => zk _
 | x :: l, o, h => by
  have h1 := oA l (uV o (chunkL x.2)) (fun y hy => h y (zbu _ hy))
  have h2 := nV (h x zcc)
  rw [cE, zq, za, qVx, dP, zp]
  omega
theorem qQ1 (n : Nat) (l : List Bb) (h : ∀ x ∈ l, x.2.length ≤ 4032) : (fQ n l).length ≤ 2 + 78 * l.length := by
 have := oA l 0 h
 unfold fQ
 rw [za, bV]
 omega
theorem lF {l : List Bl} (h : fT l) {i : Nat} (hi : i < l.length) : (l.getD i bl0).d.length ≤ 4032 := (h.1 i hi).1
theorem uW (A : Option Addr) (n c : Nat) (l : List Bl) (w : World) (hn : n ≤ 1000000) (hr : RdB w A n l) (hmay : fT l) :
  Calls Tryz.prog 7 #[.slice A n c] w fun e w' => ∃ B d, e = .returned (.tuple #[.slice B (segM (l.map Bl.b)).length d, .int .i64 ((0 : Nat) : Int)]) ∧ Own w' 5 1 B (segM (l.map Bl.b)).length d (NB (segM (l.map Bl.b))) ∧ Frm [] w w' ∧ ∀ x ∈ ob B, w.heap.size ≤ x := by
 have hnl := hr.len
 have h64 : n ≤ 64 := by have := hmay.2.2; omega
 have h1n : 1 ≤ n := by have := hmay.2.1; omega
 refine DV.calls (nt := 73) (res := #[.tmp 2, .tmp 3]) Tryz.func7 rfl Tryz.ntmps7 Tryz.results7 rfl ?_
 refine DV.seq ?_
 refine DV.vc ?_
 refine jR (ja rfl (jz 0 (jO ?_)))
 refine cH ?_
 refine DV.seq ?_
 refine DV.seq ?_
 refine DV.vc ?_
 refine jR (jM ?_)
 refine Ops.cl (jE1 Tryz.call14) (qQ0 A n c l w hn hr) rfl ?_
 rintro e w1 ⟨rfl, K⟩
 refine ⟨_, rfl, ?_⟩
 rw [decide_eq_true hmay]
 refine je (Run.not rfl) (jO ?_)
 refine cH ?_
 refine DV.sub [(0, _), (2, _), (3, _), (13, _)] (js4 rfl rfl rfl rfl) ?_
 refine DV.vc ?_
 refine VC.condF rfl (rfl) ?_
 refine jQ ?_
 refine cH ?_
 refine DV.sub [(0, _), (2, _), (3, _)] (js3 rfl rfl rfl) ?_
 refine DV.seq ?_
 refine DV.vc ?_
 refine jR ?_
 refine Ops.m (qV.alloc qJy) rfl ?_
 rintro _ w2 ⟨rfl, hF2⟩
 have hbO : Blk w2 w1.heap.size 24 #[.slice none 0 0] := hF2.blk
 have hs2 := hF2.size
 have hk1 := K.size
 have K := K.trans hF2.frm jp
 obtain ⟨gO, hgO⟩ : ∃ g, g = w1.heap.size := ⟨_, rfl⟩
 rw [← hgO] at hbO hs2
 rw [← hgO]
 have hO1 : w.heap.size ≤ gO := jo
 refine jO ?_
 refine cH ?_
 refine DV.seq ?_
 refine DV.vc ?_
 refine jR (jm rfl (je (Run.lenS rfl zam) (je (Run.convN _ rfl zaa zv (by simp only [bmax]; omega)) ?_)))
 refine Ops.cl (jE3 zgt) (gS none 0 0 n 2 [] w2 rfl jo jo jo jo (Own.nil _ _ _)) rfl ?_
 rintro e w3 ⟨B, d, rfl, hoB, hf3, huB⟩
 have hf3 : Frm [] w2 w3 := hf3
 rw [zbf] at hoB
 refine ⟨_, rfl, ?_⟩
 have hbO := hbO.frm hf3 jp
 have hk2 := K.size
 have hBs : ∀ x ∈ ob B, w2.heap.size ≤ x := fun x hx => by rcases huB x hx with h | h; cases h; exact h
 have K := K.trans hf3 jp
 have hlO := hbO.lt
 have hlB := hoB.lt
 refine Ops.m (qV.alloc qJy) rfl ?_
 rintro _ w4 ⟨rfl, hF4⟩
 have hbO := hbO.frm hF4.frm jp
 have hoB := hoB.frm hF4.frm jp
 have hb4 := hF4.blk
 have hk3 := hf3.size
 have hs4 := hF4.size
 have K := K.trans hF4.frm jp
 obtain ⟨gD, hgD⟩ : ∃ g, g = w3.heap.size := ⟨_, rfl⟩
 rw [← hgD] at hb4 hs4
 rw [← hgD]
 have hOD : gO < gD := jo
 refine Ops.st (qR.store rfl rfl zo hb4 rfl rfl) ?_
 rintro w5 ⟨hbD, hf5, hs5⟩
 have hbO := hbO.frm hf5 (by simp; omega)
 have hoB := hoB.frm hf5 (fun x hx => by have := hlB x hx; simp; omega)
 have hbD : Blk w5 gD 24 #[.slice B (0 + 2) d] := hbD
 have K := K.own hf5 (by simp; omega)
 have hd0 : fQ n (((l.map Bl.b)).take 0) = qF n 2 := by simp [fQ, cE]
 have hT : Two w.heap.size w5 gO gD (outM ((l.map Bl.b).take 0)) (fQ n ((l.map Bl.b).take 0)) := by
  rw [hd0]
  refine ⟨none, 0, B, d, hbO, ?_, Own.nil _ _ _, ?_, by simp [ob], fun x hx => by have := hBs x hx; omega⟩
  · rw [bV]; exact hbD
  rw [bV]; exact hoB
 have hlD := hbD.lt
 refine jO ?_
 refine cH ?_
 refine DV.sub [(0, _), (2, _), (3, _), (4, _), (5, _)] (js5 rfl rfl rfl rfl rfl) ?_
 refine DV.seq ?_
 refine DV.seq ?_
 refine DV.vc ?_
 refine jR (jm rfl (je (Run.lenS rfl zam) ?_))
 refine jx .i64 0 ?_
 refine jO ?_
 refine cH ?_
 refine DV.sub [(2, _), (3, _), (4, _), (5, _), (18, _), (19, _), (20, _)] (js7 rfl rfl rfl rfl rfl rfl rfl) ?_
 refine DV.block ?_
 refine DV.loop (σ := Nat × List Nat) (fun s => s.2) (fun s => [(2, _), (3, _), (4, .pointer (some ⟨gO, 0, none⟩)), (5, .pointer (some ⟨gD, 0, none⟩)), (18, .slice A n c), (19, .int .i64 ((n : Nat) : Int)), (20, .int .i64 ((s.1 : Nat) : Int))]) (fun s wr => s.1 ≤ n ∧ Two w.heap.size wr gO gD (outM ((l.map Bl.b).take s.1)) (fQ n ((l.map Bl.b).take s.1)) ∧ Frm [] w wr ∧ MKs w.heap.size wr s.2 ∧ gD < wr.heap.size) (fun s => n - s.1) (0, []) rfl (js7 rfl rfl rfl rfl rfl rfl rfl) ⟨jo, hT, K, ⟨List.nodup_nil, jp⟩, hlD⟩ ?_
 rintro ⟨i, ds⟩ wr ⟨hi, hT, K, hM, hgD2⟩
 dsimp only at hi hT hM ⊢
 have hoL : (outM ((l.map Bl.b).take i)).length ≤ 8272 * i := by
  have h1 := mN ((l.map Bl.b).take i) (fun x hx => by
   obtain ⟨y, hy, rfl⟩ := List.mem_map.1 (zaf hx)
   obtain ⟨q1, q2, q3, q4, _⟩ := hr.el y hy
   obtain ⟨k, hk, rfl⟩ := zbe hy
   have := lF hmay hk
   rw [ze, zb hk] at this
   exact ⟨this, q3, q4⟩)
  have h2 : ((l.map Bl.b).take i).length ≤ i := by rw [zi]; omega
  have h3 : 8272 * ((l.map Bl.b).take i).length ≤ 8272 * i := zge _ h2
  omega
 have hdL : (fQ n ((l.map Bl.b).take i)).length ≤ 2 + 78 * i := by
  have h1 := qQ1 n ((l.map Bl.b).take i) (fun x hx => by
   obtain ⟨y, hy, rfl⟩ := List.mem_map.1 (zaf hx)
   obtain ⟨k, hk, rfl⟩ := zbe hy
   have := lF hmay hk
   rw [ze, zb hk] at this
   exact this)
  have h2 : ((l.map Bl.b).take i).length ≤ i := by rw [zi]; omega
  have h3 : 78 * ((l.map Bl.b).take i).length ≤ 78 * i := zge _ h2
  omega
 refine DV.seq ?_
 refine DV.vc ?_
 refine jR (jb rfl rfl (Bin.lssN _ _) (jO ?_))
 refine cH ?_
 refine DV.seq ?_
 refine DV.vc ?_
 refine jD rfl (fun hc2 => ?_) fun hc2 => ?_
 ·
  have hrw := hr.frm K
  obtain ⟨ad, rfl, hel⟩ := hrw.cell hc2
  have hym := jJ (jo : i < l.length)
  obtain ⟨hyc, _, hyid, hyb, hyr⟩ := hr.el _ hym
  have hy40 := lF hmay (jo : i < l.length)
  have hts : (l.map Bl.b).take (i + 1) = (l.map Bl.b).take i ++ [(l.getD i bl0).b] := by
   rw [zah, zbd, zb (jo : i < l.length), ze, zb (jo : i < l.length)]
   rfl
  generalize l.getD i bl0 = y at hel hym hyc hyid hyb hyr hy40 hts
  have hbl := sU (x := y.b) hy40 hyb
  have hcrc := mZ y.d
  refine jQ ?_
  refine cH ?_
  refine DV.sub [(2, _), (3, _), (4, _), (5, _), (18, _), (19, _), (20, _)] (js7 rfl rfl rfl rfl rfl rfl rfl) ?_
  refine DV.seq ?_
  refine DV.block ?_
  refine DV.seq ?_
  refine DV.vc ?_
  refine jR (je (Run.indexS _ rfl rfl zam zbz jo) (je (Run.loadA rfl Tryz.isAgg41 zbz hel (by first | rfl | (simp; done))) ?_))
  refine Ops.m (qV.alloc jI) rfl ?_
  rintro _ w6 ⟨rfl, hF6⟩
  have hk6 := K.size
  refine Ops.st (qR.storeA rfl rfl zbz hF6.blk rfl (by intro v hv; exact BC_one [y] v (by simpa [BC] using hv))) ?_
  rintro w7 ⟨hb7, hf7, hs7⟩
  have hf67 : Frm [] wr w7 := hF6.frm.own hf7 jp
  have hT := hT.frm hf67 jp
  have hM := hM.frm hf67 jp
  have K := K.trans hf67 jp
  have hgD2 : gD < w7.heap.size := zbb hgD2 hf67.size
  obtain ⟨g7, hg7⟩ : ∃ g, g = wr.heap.size := ⟨_, rfl⟩
  rw [← hg7] at hb7
  rw [← hg7]
  obtain ⟨A1, c1, A2, c2, hb1, hb2, hO1, hO2, hd1, hd2⟩ := hT
  generalize hov : outM ((l.map Bl.b).take i) = o0 at *
  generalize hdv : fQ n ((l.map Bl.b).take i) = d0 at *
  refine jO ?_
  refine cH ?_
  refine DV.sub [(2, _), (3, _), (4, _), (5, _), (7, _), (18, _), (19, _), (20, _)] (js8 rfl rfl rfl rfl rfl rfl rfl rfl) ?_
  refine DV.seq ?_
  refine DV.vc ?_
  refine VC.heldL 14 (fun v => Blk v gD 24 #[.slice A2 d0.length c2] ∧ Blk v g7 41 (blC y).toArray) jK ?_
  have hS : (fun v => Blk v gD 24 #[.slice A2 d0.length c2] ∧ Blk v g7 41 (blC y).toArray) w7.drew := ⟨hb2.drawn (qQ.drew _), hb7.drawn (qQ.drew _)⟩
  have hb1 := hb1.drawn (qQ.drew w7)
  have hO1 := hO1.drawn (qQ.drew w7)
  have hO2 := hO2.drawn (qQ.drew w7)
  have hM := hM.frm (qQ.drew w7).frm jp
  have K := K.drawn (qQ.drew w7)
  have hgD2 : gD < w7.drew.heap.size := hgD2
  refine jH 0 rfl hS (fun w0 hw0 => Run.load rfl zx (hw0.1.cell 0)) ?_
  refine jH 1 rfl hS (fun w0 hw0 => Run.fieldAddr rfl zax rfl zbl jd) ?_
  refine jH 2 rfl hS (fun w0 hw0 => Run.load rfl zcj (hw0.2.cell 0)) ?_
  refine jH 4 rfl hS (fun w0 hw0 => Run.fieldAddr rfl zax rfl zo jd) ?_
  refine jH 5 rfl hS (fun w0 hw0 => Run.load rfl zx (hw0.2.cell 1)) ?_
  refine jH 6 rfl hS (fun w0 hw0 => Run.lenS rfl zf) ?_
  refine jH 7 rfl hS (fun w0 hw0 => Run.convN _ rfl zaa zv (by simp only [bmax]; omega)) ?_
  refine jH 9 rfl hS (fun w0 hw0 => Run.fieldAddr rfl zax rfl zo jd) ?_
  refine jH 10 rfl hS (fun w0 hw0 => Run.load rfl zx (hw0.2.cell 1)) ?_
  refine qK.cl 3 rfl jK (jE3 zgt) (gS A2 d0.length c2 y.id 8 d0 _ (by simp only [za, bV]) jo jo jo (zbb hyid jd) hO2) trivial rfl rfl ?_
  rintro e w8 ⟨B1, e1, rfl, hoB, hfB, huB⟩
  have hb1 := hb1.frm hfB (hO2.ne_blk hb1 jd)
  have hS := And.intro (hS.1.frm hfB (hO2.ne_blk hS.1 jd)) (hS.2.frm hfB (hO2.ne_blk hS.2 jd))
  have hO1l := hO1.lt
  have hO1 := hO1.frm hfB (fun x hx hx2 => (hd1 x hx).1 hx2)
  have hM := hM.frm hfB (fun d hd => (hM.2 d hd).1.ne_own hO2)
  have hks0 := K.size
  have hgD2 : gD < w8.heap.size := zbb hgD2 hfB.size
  have K := K.own hfB hd2
  have hd1 : ∀ x ∈ ob A1, x ∉ ob B1 ∧ w.heap.size ≤ x := fun x hx => ⟨fun hx2 => by
   rcases huB x hx2 with h | h
   · exact (hd1 x hx).1 h
   have := hO1l x hx; omega, (hd1 x hx).2⟩
  have hd2 : ∀ x ∈ ob B1, w.heap.size ≤ x := fun x hx => by
   rcases huB x hx with h | h
   · exact hd2 x h
   omega
  have hO2 := hoB
  refine ⟨_, rfl, hS, ?_⟩
  refine qK.cl 8 rfl jK (jE3 zgt) (gS B1 (d0.length + 8) e1 y.d.length 2 (d0 ++ qF y.id 8) _ (by simp only [za, bV]) jo jo jo jo hO2) trivial rfl rfl ?_
  rintro e w9 ⟨B2, e2, rfl, hoB, hfB, huB⟩
  have hb1 := hb1.frm hfB (hO2.ne_blk hb1 jd)
  have hS := And.intro (hS.1.frm hfB (hO2.ne_blk hS.1 jd)) (hS.2.frm hfB (hO2.ne_blk hS.2 jd))
  have hO1l := hO1.lt
  have hO1 := hO1.frm hfB (fun x hx hx2 => (hd1 x hx).1 hx2)
  have hM := hM.frm hfB (fun d hd => (hM.2 d hd).1.ne_own hO2)
  have hks0 := K.size
  have hgD2 : gD < w9.heap.size := zbb hgD2 hfB.size
  have K := K.own hfB hd2
  have hd1 : ∀ x ∈ ob A1, x ∉ ob B2 ∧ w.heap.size ≤ x := fun x hx => ⟨fun hx2 => by
   rcases huB x hx2 with h | h
   · exact (hd1 x hx).1 h
   have := hO1l x hx; omega, (hd1 x hx).2⟩
  have hd2 : ∀ x ∈ ob B2, w.heap.size ≤ x := fun x hx => by
   rcases huB x hx with h | h
   · exact hd2 x h
   omega
  have hO2 := hoB
  refine ⟨_, rfl, hS, ?_⟩
  refine qK.cl 11 rfl jK (jE1 Tryz.call16) (vK y.A y.c y.d.length y.d _ rfl jo hyb (hyr.frm K jp)) trivial rfl rfl ?_
  rintro e w10 ⟨rfl, hf10⟩
  have hS := And.intro (hS.1.frm hf10 jp) (hS.2.frm hf10 jp)
  have hb1 := hb1.frm hf10 jp
  have hO1 := hO1.frm hf10 jp
  have hO2 := hO2.frm hf10 jp
  have hM := hM.frm hf10 jp
  have K := K.trans hf10 jp
  have hgD2 : gD < w10.heap.size := zbb hgD2 hf10.size
  refine ⟨_, rfl, hS, ?_⟩
  refine qK.r1 12 rfl jK hS (Run.convN _ rfl zen zv (by simp only [bmax]; omega)) trivial rfl rfl ?_
  refine qK.cl 13 rfl jK (jE3 zgt) (gS B2 (d0.length + 8 + 2) e2 (crcM y.d) 4 (d0 ++ qF y.id 8 ++ qF y.d.length 2) _ (by simp only [za, bV]) jo jo jo jo hO2) trivial rfl rfl ?_
  rintro e w11 ⟨B3, e3, rfl, hoB, hfB, huB⟩
  have hb1 := hb1.frm hfB (hO2.ne_blk hb1 jd)
  have hS := And.intro (hS.1.frm hfB (hO2.ne_blk hS.1 jd)) (hS.2.frm hfB (hO2.ne_blk hS.2 jd))
  have hO1l := hO1.lt
  have hO1 := hO1.frm hfB (fun x hx hx2 => (hd1 x hx).1 hx2)
  have hM := hM.frm hfB (fun d hd => (hM.2 d hd).1.ne_own hO2)
  have hks0 := K.size
  have hgD2 : gD < w11.heap.size := zbb hgD2 hfB.size
  have K := K.own hfB hd2
  have hd1 : ∀ x ∈ ob A1, x ∉ ob B3 ∧ w.heap.size ≤ x := fun x hx => ⟨fun hx2 => by
   rcases huB x hx2 with h | h
   · exact (hd1 x hx).1 h
   have := hO1l x hx; omega, (hd1 x hx).2⟩
  have hd2 : ∀ x ∈ ob B3, w.heap.size ≤ x := fun x hx => by
   rcases huB x hx with h | h
   · exact hd2 x h
   omega
  have hO2 := hoB
  refine ⟨_, rfl, hS, ?_⟩
  refine qK.stL rfl jK (qR.store rfl rfl zo hS.1 rfl rfl) trivial rfl ?_
  rintro w12 ⟨hbD, hf12, hs12⟩
  have hT : Two w.heap.size w12 gO gD o0 (d0 ++ qF y.id 8 ++ qF y.d.length 2 ++ qF (crcM y.d) 4) := by
   have hlen : (d0 ++ qF y.id 8 ++ qF y.d.length 2 ++ qF (crcM y.d) 4).length = d0.length + 8 + 2 + 4 := by simp only [za, bV]
   refine ⟨A1, c1, B3, e3, hb1.frm hf12 (by simp; omega), ?_, hO1.frm hf12 (fun x hx hx2 => by rw [zh] at hx2; subst hx2; exact hO1.ne_blk hS.1 jd hx), ?_, hd1, hd2⟩
   · rw [hlen]; exact hbD
   rw [hlen]; exact hO2.frm hf12 (fun x hx hx2 => by rw [zh] at hx2; subst hx2; exact hO2.ne_blk hS.1 jd hx)
  have hb7 := hS.2.frm hf12 (by simp; omega)
  have hM := hM.frm hf12 (fun d hd => by simp; exact (hM.2 d hd).1.ne_blk hS.1)
  have K := K.own hf12 (by simp; omega)
  have hgD2 : gD < w12.heap.size := jo
  clear hO1 hO2 hb1
  refine qK.done jK ?_
  refine cH ?_
  refine DV.sub [(2, _), (3, _), (4, _), (5, _), (7, _), (18, _), (19, _), (20, _)] (js8 rfl rfl rfl rfl rfl rfl rfl rfl) ?_
  refine DV.seq ?_
  refine DV.vc ?_
  refine jR (jf rfl zax rfl zo (jl rfl zx (hb7.cell 1) ?_))
  refine Ops.cl (jE2 Tryz.call17) (qHq y.A y.d.length y.c w12) rfl ?_
  rintro e w13 ⟨hf13, g1, g2, rfl, hg1, hg2, hg1n, hg2n⟩
  refine ⟨_, rfl, ?_⟩
  have hT := hT.frm hf13 jp
  have hM := hM.frm hf13 jp
  have K := K.trans hf13 jp
  have hks := hf13.size
  have hl1 := hg1.lt
  have hl2 := hg2.lt
  generalize hdv2 : d0 ++ qF y.id 8 ++ qF y.d.length 2 ++ qF (crcM y.d) 4 = d1 at *
  refine jO ?_
  refine cH ?_
  refine DV.sub [(2, _), (3, _), (4, _), (5, _), (18, _), (19, _), (20, _), (40, _)] (js8 rfl rfl rfl rfl rfl rfl rfl rfl) ?_
  refine DV.block ?_
  have hMlt : ∀ d ∈ ds, d < w13.heap.size := fun d hd => (Array.getElem?_eq_some_iff.1 (hM.2 d hd).1).1
  have hKs := K.size
  refine DV.range (ps := [41]) (fun (x : Option Addr × Nat × List Nat) => [.slice x.1 x.2.2.length x.2.1]) (qHp y.A y.c y.d g1 g2 jo hyc) rfl Tryz.call31 (fun _ => rfl) rfl (fun pre W => Two w.heap.size W gO gD (chO o0 (pre.map (·.2.2))) (chD o0 d1 (pre.map (·.2.2))) ∧ Frm [] w W ∧ MKs w.heap.size W ds ∧ Blk W g1 24 #[.slice y.A y.d.length y.c] ∧ Blk W g2 3 #[.int .i64 ((256 : Nat) : Int)] ∧ w13.heap.size ≤ W.heap.size) (fun _ _ _ => False) (fun x => [(4, .pointer (some ⟨gO, 0, none⟩)), (5, .pointer (some ⟨gD, 0, none⟩)), (8, .slice x.1 x.2.2.length x.2.1)]) ?_ ?_ ?_ ?_ ?_ ?_ ?_ ?_ ?_ ?_ ?_
  ·
   rintro pre W W' S ⟨h1, h2, h3, h4, h5, h6⟩ hf hS
   exact ⟨h1.frm hf (fun x hx => ((hS x hx).resolve_left jp).2), h2.nc hf hS jp hKs, h3.frm hf (fun d hd hd2 => by have := ((hS d hd2).resolve_left jp).1; have := hMlt d hd; omega), h4.frm hf (h4.nc hS jp), h5.frm hf (h5.nc hS jp), zn h6 hf.size⟩
  · exact fun _ _ _ _ _ h => h.elim
  · exact fun W hf => ⟨hg1.frm hf jp, hg2.frm hf jp⟩
  · simp
  · simp; omega
  · exact ⟨by simpa [chO, chD, eV] using hT, K, hM, hg1, hg2, zk _⟩
  ·
   intro l x W
   refine jv3 4 5 41 ?_
   refine jR (ja rfl (jO ?_))
   refine jN ⟨rfl, (js3 rfl rfl rfl)⟩
  ·
   rintro l' pre x W ⟨hT, K, hM, hg1, hg2, hsz0⟩ hpre hsz hmk
   have hxm : x ∈ gI y.A y.d := hpre.subset jp
   obtain ⟨hxc, hxr⟩ := qYx (hyr.frm K jp) hyc x hxm
   have hxd : x.2.2 ∈ chunkL y.d := by rw [← wY y.A y.d]; exact zeo hxm
   obtain ⟨hx256, hxin⟩ := nU hxd
   have hxb : ∀ b ∈ x.2.2, b < 256 := fun b hb => hyb b (hxin b hb)
   have hco : (chO o0 (pre.map (·.2.2))).length ≤ 600000 := by
    obtain ⟨t, ht⟩ := hpre
    have h1 := congrArg (List.map (·.2.2)) ht
    rw [wY, zbt, zbt] at h1
    have h2 : (((pre.map (·.2.2)).flatMap qI)).length ≤ ((chunkL y.d).flatMap qI).length := by
     rw [← h1]
     simp only [zw, za]
     omega
    have h3 : ((chunkL y.d).flatMap qI).length ≤ 8272 := hbl
    unfold chO
    rw [za]
    omega
   have hcd : (chD o0 d1 (pre.map (·.2.2))).length ≤ 100000 := by
    obtain ⟨t, ht⟩ := hpre
    have h1 := congrArg List.length ht
    rw [qVu, za, za] at h1
    have h2 : (chunkL y.d).length ≤ 16 := nV hy40
    unfold chD
    rw [za, rD, dP, zl, ← hdv2]
    simp only [za, bV]
    omega
   have hsn1 := qVv o0 (pre.map (·.2.2)) x.2.2
   have hsn2 := qVw o0 d1 (pre.map (·.2.2)) x.2.2
   have hmp : (pre ++ [x]).map (·.2.2) = pre.map (·.2.2) ++ [x.2.2] := jp
   obtain ⟨A1, c1, A2, c2, hb1, hb2, hO1, hO2, hd1, hd2⟩ := hT
   generalize chO o0 (pre.map (·.2.2)) = co at *
   generalize chD o0 d1 (pre.map (·.2.2)) = cd at *
   have hbO0 := hb1
   have hbD0 := hb2
   have hO10 := hO1
   have hO20 := hO2
   have hg10 := hg1
   have hg20 := hg2
   have KB := Frm.refl (ob A1 ++ ob A2 ++ [gO, gD]) W
   have hKW := K.size
   refine jB (jS (jR (jl rfl zx (hb2.cell 0) (jl rfl zx (hb1.cell 0) (je (Run.lenS rfl zf) (je (Run.convN _ rfl zaa zv (by simp only [bmax]; omega)) ?_))))))
   refine Ops.cl (jE3 zgt) (gS A2 _ c2 co.length 4 cd _ rfl jo jo jo jo hO2) rfl ?_
   rintro e W1 ⟨B, e4, rfl, hoB, hfB, huB⟩
   refine ⟨_, rfl, ?_⟩
   have hb1 := hb1.frm hfB (hO20.ne_blk hbO0 jd)
   have hb2 := hb2.frm hfB (hO20.ne_blk hbD0 jd)
   have hO1 := hO1.frm hfB (fun x hx hx2 => (hd1 x hx).1 hx2)
   have hg1 := hg1.frm hfB (hO20.ne_blk hg1 jd)
   have hg2 := hg2.frm hfB (hO20.ne_blk hg2 jd)
   have hM := hM.frm hfB (fun d hd => (hM.2 d hd).1.ne_own hO20)
   have K := K.own hfB hd2
   have KB := KB.trans hfB (fun x hx => .inl (by simp [hx]))
   have hd1 : ∀ x ∈ ob A1, x ∉ ob B ∧ w.heap.size ≤ x := fun x hx => ⟨fun hx2 => by
    rcases huB x hx2 with h | h
    · exact (hd1 x hx).1 h
    have := hO10.lt x hx; omega, (hd1 x hx).2⟩
   have hdB : ∀ x ∈ ob B, w.heap.size ≤ x ∧ (x ∈ ob A2 ∨ W.heap.size ≤ x) := fun x hx => by
    rcases huB x hx with h | h
    · exact ⟨hd2 x h, .inl h⟩
    exact ⟨jo, .inr h⟩
   refine Ops.st (qR.store rfl rfl zo hb2 rfl rfl) ?_
   rintro W2 ⟨hbD, hf2, hs2⟩
   have hb1 := hb1.frm hf2 (by simp; omega)
   have hO1 := hO1.frm hf2 (fun x hx hx2 => by rw [zh] at hx2; subst hx2; exact hO1.ne_blk hb2 jd hx)
   have hoB := hoB.frm hf2 (fun x hx hx2 => by rw [zh] at hx2; subst hx2; exact hoB.ne_blk hb2 jd hx)
   have hg1 := hg1.frm hf2 (by simp; omega)
   have hg2 := hg2.frm hf2 (by simp; omega)
   have hM := hM.frm hf2 (fun d hd => by simp; exact (hM.2 d hd).1.ne_blk hb2)
   have K := K.own hf2 (by simp; omega)
   have KB := KB.trans hf2 (fun x hx => .inl (by simp at hx; simp [hx]))
   refine jO (jN (jv2 4 8 ?_))
   refine jS (jR (jM ?_))
   refine Ops.cl (jE1 Tryz.call18) (qPa x.1 x.2.1 x.2.2 W2 jo jo hxb (qYx (hyr.frm K jp) hyc x hxm).2) rfl ?_
   rintro e W3 ⟨Bs, cs, rfl, hos, hf3, _⟩
   refine ⟨_, rfl, ?_⟩
   have hb1 := hb1.frm hf3 jp
   have hbD := hbD.frm hf3 jp
   have hO1 := hO1.frm hf3 jp
   have hoB := hoB.frm hf3 jp
   have hg1 := hg1.frm hf3 jp
   have hg2 := hg2.frm hf3 jp
   have hM := hM.frm hf3 jp
   have K := K.trans hf3 jp
   have KB := KB.trans hf3 jp
   have hsl := uK hx256 hxb
   have hos : Own W3 5 1 Bs (qI x.2.2).length cs (NB (qI x.2.2)) := hos
   have es : (cO x.2.2 2).length = (qI x.2.2).length := rfl
   rw [es]
   refine jm rfl (je (Run.extract rfl rfl) (je (Run.extract rfl rfl) (ja rfl (ja rfl (jO (jN (jv2 4 9 ?_)))))))
   refine jR (jl rfl zx (hb1.cell 0) (jM ?_))
   refine Ops.m (qV.app rfl rfl zf (eA) rfl jd hO1 hos.rd (eP _) jo jo) rfl ?_
   rintro _ W4 ⟨B4, e5, rfl, ho4, hf4, hob4⟩
   rw [← fD] at ho4
   have hb1' := hb1.frm hf4 (hO1.ne_blk hb1 jd)
   have hbD := hbD.frm hf4 (hO1.ne_blk hbD jd)
   have hoB0 := hoB.lt
   have hoB := hoB.frm hf4 (fun x hx hx2 => (hd1 x hx2).1 hx)
   have hg1 := hg1.frm hf4 (hO1.ne_blk hg1 jd)
   have hg2 := hg2.frm hf4 (hO1.ne_blk hg2 jd)
   have hM := hM.frm hf4 (fun d hd => (hM.2 d hd).1.ne_own hO1)
   have hK3 := K.size
   have K := K.own hf4 (fun x hx => (hd1 x hx).2)
   have KB4 := KB.trans hf4 (fun x hx => .inl (by simp [hx]))
   have hd4 : ∀ x ∈ ob B4, x ∉ ob B ∧ w.heap.size ≤ x := fun x hx => by
    rcases hob4 with h | h
    · rw [h] at hx; exact hd1 x hx
    rw [h, zh] at hx
    subst hx
    refine ⟨fun hx2 => ?_, hK3⟩
    have := (hoB0 : ∀ x ∈ ob B, x < W3.heap.size) _ hx2
    omega
   refine Ops.st (qR.store rfl rfl zo hb1' rfl rfl) ?_
   rintro W5 ⟨hbO5, hf5b, hs5b⟩
   refine jO ?_
   refine qJ (?_)
   have hK5 := K.own hf5b (by simp; omega)
   have hlenO : (co ++ qI x.2.2).length = co.length + (qI x.2.2).length := za
   have hlenD : (cd ++ qF co.length 4).length = cd.length + 4 := by rw [za, bV]
   refine ⟨⟨ob A1 ++ ob A2 ++ [gO, gD], KB4.trans hf5b (fun x hx => .inl (by simp at hx; simp [hx])), fun b hb => ?_⟩, ?_⟩
   ·
    rcases List.mem_append.1 hb with hb | hb
    ·
     rcases List.mem_append.1 hb with hb | hb
     · exact ⟨by simp; exact ⟨fun h => hO10.ne_blk hg10 jd (h ▸ hb), fun h => hO10.ne_blk hg20 jd (h ▸ hb)⟩, hO10.isC b hb⟩
     exact ⟨by simp; exact ⟨fun h => hO20.ne_blk hg10 jd (h ▸ hb), fun h => hO20.ne_blk hg20 jd (h ▸ hb)⟩, hO20.isC b hb⟩
    simp only [zbv, zbm, or_false] at hb
    rcases hb with rfl | rfl
    · exact ⟨by simp; omega, hbO0.isC⟩
    exact ⟨by simp; omega, hbD0.isC⟩
   dsimp only
   rw [hmp, hsn1, hsn2]
   refine ⟨⟨B4, e5, B, e4, ?_, ?_, ?_, ?_, hd4, fun x hx => (hdB x hx).1⟩, hK5, hM.frm hf5b (fun d hd => by simp; exact (hM.2 d hd).1.ne_blk hb1'), hg1.frm hf5b (by simp; omega), hg2.frm hf5b (by simp; omega), by have := KB4.size; omega⟩
   · rw [hlenO]; exact hbO5
   · rw [hlenD]; exact hbD.frm hf5b (by simp; omega)
   · rw [hlenO]; exact ho4.frm hf5b (fun x hx hx2 => by rw [zh] at hx2; subst hx2; exact ho4.ne_blk hb1' jd hx)
   rw [hlenD]; exact hoB.frm hf5b (fun x hx hx2 => by rw [zh] at hx2; subst hx2; exact hoB.ne_blk hb1' jd hx)
  ·
   rintro W ⟨hT, K, hM, hg1, hg2, hsz0⟩ hsz hmk
   rw [wY] at hT
   refine yM (yM (cH ?_))
   refine DV.sub [(2, _), (3, _), (4, _), (5, _), (18, _), (19, _), (20, _)] (js7 rfl rfl rfl rfl rfl rfl rfl) ?_
   refine DV.vc ?_
   refine jR (jb rfl rfl (Bin.add_i64 _ 1 jo) (jm rfl (jO ?_)))
   refine cH ⟨(i + 1, w13.heap.size :: ds), rfl, (js7 rfl rfl rfl rfl rfl rfl rfl), ?_, ?_⟩
   ·
    have e1 : outM ((l.map Bl.b).take (i + 1)) = chO o0 (chunkL y.d) := by rw [hts, ← qYy, hov]; rfl
    have e2 : fQ n ((l.map Bl.b).take (i + 1)) = chD o0 d1 (chunkL y.d) := by rw [hts, qJg, hov, hdv, ← hdv2]; rfl
    rw [← e1, ← e2] at hT
    exact ⟨by dsimp only; omega, hT, K, ⟨zgm.2 ⟨fun h => by have := hMlt _ h; omega, hM.1⟩, fun d hd => by
     rcases zbv.1 hd with rfl | hd
     · exact ⟨hmk, hKs⟩
     exact hM.2 d hd⟩, jo⟩
   first | omega | (dsimp only; omega)
  · exact fun _ _ h => h.elim
  exact fun _ _ _ h => h.elim
 have ei : i = n := jo
 subst ei
 rw [zm (by rw [zl]; omega)] at hT hoL hdL
 have hoE := kY (l.map Bl.b)
 obtain ⟨A1, c1, A2, c2, hb1, hb2, hO1, hO2, hd1, hd2⟩ := hT
 generalize hov : outM (l.map Bl.b) = out at *
 generalize hdv : fQ i (l.map Bl.b) = dir at *
 refine jX ?_
 refine qYe (qYe (qKf ?_))
 refine cH ?_
 refine DV.sub [(4, _), (5, _)] (js2 rfl rfl) ?_
 refine DV.seq ?_
 refine DV.vc ?_
 refine VC.heldL 9 (fun v => Blk v gD 24 #[.slice A2 dir.length c2] ∧ Blk v gO 24 #[.slice A1 out.length c1]) jK ?_
 have hS : (fun v => Blk v gD 24 #[.slice A2 dir.length c2] ∧ Blk v gO 24 #[.slice A1 out.length c1]) wr.drew := ⟨hb2.drawn (qQ.drew _), hb1.drawn (qQ.drew _)⟩
 have hO1 := hO1.drawn (qQ.drew wr)
 have hO2 := hO2.drawn (qQ.drew wr)
 have hM := hM.frm (qQ.drew wr).frm jp
 have K := K.drawn (qQ.drew wr)
 refine jH 0 rfl hS (fun w0 hw0 => Run.load rfl zx (hw0.1.cell 0)) ?_
 refine jH 1 rfl hS (fun w0 hw0 => Run.load rfl zx (hw0.2.cell 0)) ?_
 refine jH 2 rfl hS (fun w0 hw0 => Run.lenS rfl zf) ?_
 refine jH 3 rfl hS (fun w0 hw0 => Run.convN _ rfl zaa zv (by simp only [bmax]; omega)) ?_
 refine jH 5 rfl hS (fun w0 hw0 => Run.load rfl zx (hw0.2.cell 0)) ?_
 refine jH 6 rfl hS (fun w0 hw0 => Run.lenS rfl zf) ?_
 refine jH 7 rfl hS (fun w0 hw0 => Run.convN _ rfl zaa zv (by simp only [bmax]; omega)) ?_
 refine qK.cl 4 rfl jK (jE3 zgt) (gS A2 dir.length c2 out.length 4 dir _ (by simp only [za, bV]) jo jo jo jo hO2) trivial rfl rfl ?_
 rintro e w8 ⟨B1, e1, rfl, hoB, hfB, huB⟩
 have hS := And.intro (hS.1.frm hfB (hO2.ne_blk hS.1 jd)) (hS.2.frm hfB (hO2.ne_blk hS.2 jd))
 have hO1l := hO1.lt
 have hO1 := hO1.frm hfB (fun x hx hx2 => (hd1 x hx).1 hx2)
 have hM := hM.frm hfB (fun d hd => (hM.2 d hd).1.ne_own hO2)
 have hks0 := K.size
 have K := K.own hfB hd2
 have hd1 : ∀ x ∈ ob A1, x ∉ ob B1 ∧ w.heap.size ≤ x := fun x hx => ⟨fun hx2 => by
  rcases huB x hx2 with h | h
  · exact (hd1 x hx).1 h
  have := hO1l x hx; omega, (hd1 x hx).2⟩
 have hd2 : ∀ x ∈ ob B1, w.heap.size ≤ x := fun x hx => by
  rcases huB x hx with h | h
  · exact hd2 x h
  omega
 have hO2 := hoB
 refine ⟨_, rfl, hS, ?_⟩
 refine qK.cl 8 rfl jK (jE3 zgt) (gS B1 (dir.length + 4) e1 out.length 4 (dir ++ qF out.length 4) _ (by simp only [za, bV]) jo jo jo jo hO2) trivial rfl rfl ?_
 rintro e w9 ⟨B2, e2, rfl, hoB, hfB, huB⟩
 have hS := And.intro (hS.1.frm hfB (hO2.ne_blk hS.1 jd)) (hS.2.frm hfB (hO2.ne_blk hS.2 jd))
 have hO1l := hO1.lt
 have hO1 := hO1.frm hfB (fun x hx hx2 => (hd1 x hx).1 hx2)
 have hM := hM.frm hfB (fun d hd => (hM.2 d hd).1.ne_own hO2)
 have hks0 := K.size
 have K := K.own hfB hd2
 have hd1 : ∀ x ∈ ob A1, x ∉ ob B2 ∧ w.heap.size ≤ x := fun x hx => ⟨fun hx2 => by
  rcases huB x hx2 with h | h
  · exact (hd1 x hx).1 h
  have := hO1l x hx; omega, (hd1 x hx).2⟩
 have hd2 : ∀ x ∈ ob B2, w.heap.size ≤ x := fun x hx => by
  rcases huB x hx with h | h
  · exact hd2 x h
  omega
 have hO2 := hoB
 refine ⟨_, rfl, hS, ?_⟩
 refine qK.stL rfl jK (qR.store rfl rfl zo hS.1 rfl rfl) trivial rfl ?_
 rintro w10 ⟨hbD, hf10, hs10⟩
 have hbO := hS.2.frm hf10 (by simp; omega)
 have hO1 := hO1.frm hf10 (fun x hx hx2 => by rw [zh] at hx2; subst hx2; exact hO1.ne_blk hS.1 jd hx)
 have hO2 := hO2.frm hf10 (fun x hx hx2 => by rw [zh] at hx2; subst hx2; exact hO2.ne_blk hS.1 jd hx)
 have hM := hM.frm hf10 (fun d hd => by simp; exact (hM.2 d hd).1.ne_blk hS.1)
 have K := K.own hf10 (by simp; omega)
 have hdA : dir ++ qF out.length 4 ++ qF out.length 4 = bD (l.map Bl.b) := by
  unfold bD cV
  rw [kY, hov, ← hdv]
  unfold fQ
  rw [zl, hnl]
 have hdl : (bD (l.map Bl.b)).length = dir.length + 4 + 4 := by rw [← hdA]; simp only [za, bV]
 rw [hdA] at hO2
 have hdb := xQ (l.map Bl.b)
 refine qK.done jK ?_
 refine cH ?_
 refine DV.sub [(4, _), (5, _)] (js2 rfl rfl) ?_
 refine DV.seq ?_
 refine DV.vc ?_
 refine VC.held (fun v => Blk v gD 24 #[.slice B2 (dir.length + 4 + 4) e2] ∧ Blk v gO 24 #[.slice A1 out.length c1]) jK ?_
 have hS : (fun v => Blk v gD 24 #[.slice B2 (dir.length + 4 + 4) e2] ∧ Blk v gO 24 #[.slice A1 out.length c1]) w10.drew := ⟨hbD.drawn (qQ.drew _), hbO.drawn (qQ.drew _)⟩
 have hO1 := hO1.drawn (qQ.drew w10)
 have hO2 := hO2.drawn (qQ.drew w10)
 have hM := hM.frm (qQ.drew w10).frm jp
 have K := K.drawn (qQ.drew w10)
 refine jH 0 rfl hS (fun w0 hw0 => Run.load rfl zx (hw0.2.cell 0)) ?_
 refine jH 1 rfl hS (fun w0 hw0 => Run.load rfl zx (hw0.1.cell 0)) ?_
 refine jH 3 rfl hS (fun w0 hw0 => Run.load rfl zx (hw0.1.cell 0)) ?_
 refine qK.m 2 rfl jK (qV.app rfl rfl zf (eA) rfl jd hO1 hO2.rd (eP _) jo jo) trivial rfl rfl ?_
 rintro _ w11 ⟨B3, e3, rfl, ho3, hf11, hob3⟩
 rw [← fD] at ho3
 have hS := And.intro (hS.1.frm hf11 (hO1.ne_blk hS.1 jd)) (hS.2.frm hf11 (hO1.ne_blk hS.2 jd))
 have hO2 := hO2.frm hf11 (fun x hx hx2 => (hd1 x hx2).1 hx)
 have hM := hM.frm hf11 (fun d hd => (hM.2 d hd).1.ne_own hO1)
 have hk10 := K.size
 have hu3 : ∀ x ∈ ob B3, w.heap.size ≤ x := fun x hx => by
  rcases hob3 with h | h
  · rw [h] at hx; exact (hd1 x hx).2
  rw [h, zh] at hx; omega
 have K := K.own hf11 (fun x hx => (hd1 x hx).2)
 refine ⟨hS, ?_⟩
 refine qK.cl 4 rfl jK (jE1 Tryz.call16) (vK B2 e2 (dir.length + 4 + 4) (bD (l.map Bl.b)) _ hdl jo hdb hO2.rd) trivial rfl rfl ?_
 rintro e w12 ⟨rfl, hf12⟩
 have hS := And.intro (hS.1.frm hf12 jp) (hS.2.frm hf12 jp)
 have ho3 := ho3.frm hf12 jp
 have hM := hM.frm hf12 jp
 have K := K.trans hf12 jp
 have hcl := mZ (bD (l.map Bl.b))
 refine ⟨_, rfl, hS, ?_⟩
 refine jH 5 rfl hS (fun w0 hw0 => Run.convN _ rfl zen zv (by simp only [bmax]; omega)) ?_
 refine qK.cl 6 rfl jK (jE3 zgt) (gS B3 _ e3 (crcM (bD (l.map Bl.b))) 4 (out ++ bD (l.map Bl.b)) _ (by rw [za, hdl]) jo jo jo jo ho3) trivial rfl rfl ?_
 rintro e w13 ⟨B4, e4, rfl, ho4, hf13, hu4⟩
 have hS := And.intro (hS.1.frm hf13 (ho3.ne_blk hS.1 jd)) (hS.2.frm hf13 (ho3.ne_blk hS.2 jd))
 have hM := hM.frm hf13 (fun d hd => (hM.2 d hd).1.ne_own ho3)
 have hk12 := K.size
 have hu4 : ∀ x ∈ ob B4, w.heap.size ≤ x := fun x hx => by
  rcases hu4 x hx with h | h
  · exact hu3 x h
  omega
 have K := K.own hf13 hu3
 refine ⟨_, rfl, hS, ?_⟩
 refine qK.m 7 rfl jK (qV.appStr (q := [115, 101, 97, 108]) w.heap.size rfl rfl zf zci (eA) ho4 hu4 K.size (by simp; omega)) trivial rfl rfl ?_
 rintro _ w14 ⟨B5, e5, rfl, ho5, hf14, hu5⟩
 have hS := And.intro (hS.1.frm hf14 (ho4.ne_blk hS.1 jd)) (hS.2.frm hf14 (ho4.ne_blk hS.2 jd))
 have hM := hM.frm hf14 (fun d hd => (hM.2 d hd).1.ne_own ho4)
 have K := K.own hf14 hu4
 have hseg : out ++ bD (l.map Bl.b) ++ qF (crcM (bD (l.map Bl.b))) 4 ++ [115, 101, 97, 108] = segM (l.map Bl.b) := by unfold segM; rw [hov]
 have hsl : (segM (l.map Bl.b)).length = out.length + (dir.length + 4 + 4) + 4 + 4 := by rw [← hseg]; simp only [za, bV, hdl]; rfl
 have hU8 : U8 [115, 101, 97, 108] = NB [115, 101, 97, 108] := rfl
 rw [hU8, ← fD, hseg] at ho5
 refine ⟨hS, ?_⟩
 refine jH 8 rfl hS (fun w0 hw0 => Run.asg rfl) ?_
 refine qK.take (v := .int .i64 ((0 : Nat) : Int)) 9 rfl jK jK jK hS (fun w0 hw0 => Run.asg rfl) trivial rfl rfl ?_
 refine qK.done jK ?_
 refine cH ?_
 refine DV.sub [(2, _), (3, _)] (js2 rfl rfl) ?_
 refine DV.vc (jT ?_)
 refine vX hM.1 (fun d hd => (hM.2 d hd).1) (fun wz hsh => ?_)
 have ho5 := ho5.frm hsh (fun x hx hx2 => (hM.2 x hx2).1.ne_own ho5 hx)
 have K := K.own hsh (fun x hx => (hM.2 x hx).2)
 refine cY rfl rfl ?_
 rw [hsl]
 exact ⟨B5, e5, rfl, ho5, K, hu5⟩
end
section
open Go.RowKit
section
variable {P : Program} {Γ : Env} {w : World} {dst : Option Tmp} {pos : String} {after : Array Edge} {g : Option (Nat × Bool)} {T : TypeId}
theorem qV.bytesOfC {src dstT e : TypeId} {x : Operand} {s : List UInt8} (hx : ev? Γ x = some (encStr s)) (hs : P.underlying src = some .string) (hd : P.underlying dstT = some (.slice e)) (he : P.underlying e = some (.int .u8)) :
  qV P ⟨dst, .convert src dstT x, T, pos, after, g⟩ Γ w (fun r w' => ∃ c cs, r = .slice (some ⟨w.heap.size, 0, none⟩) s.length c ∧ s.length ≤ c ∧ Fro w' w.heap.size e cs ∧ cs.toList.take s.length = U8 s ∧ Frm [] w w') := fun ρ hρ => by
 have h := run_bytes_of_string (P := P) w src dstT e ⟨s.toArray⟩ hs hd he
 have hsz : (⟨s.toArray⟩ : ByteArray).size = s.length := by show s.toArray.size = _; simp
 rw [hsz] at h
 refine ⟨.slice (some ⟨w.heap.size, 0, none⟩) s.length (grownCap w s.length 0 e), w.drew.alloc (.cells (bytesRow ⟨s.toArray⟩ (grownCap w s.length 0 e)) e ((bytesRow ⟨s.toArray⟩ (grownCap w s.length 0 e)).size, (bytesRow ⟨s.toArray⟩ (grownCap w s.length 0 e)).size + 1)), ?_,
  grownCap w s.length 0 e, bytesRow ⟨s.toArray⟩ (grownCap w s.length 0 e), rfl, grownCap_ge _ _ _ _, ?_, ?_, ?_⟩
 ·
  have hx' := hρ _ _ hx
  simp only [execOp, hx', encStr, Sem.run_bind, h, Result.andThen_ok]
  rfl
 ·
  unfold Fro
  show (w.heap.push _)[w.heap.size]? = _
  simp
 ·
  unfold bytesRow U8
  simp
 exact ((Frm.refl [] w).drew).alloc _
theorem qV.mark {t e : TypeId} {x : Operand} {gb n c : Nat} {cs : Array Value} (hx : ev? Γ x = some (.slice (some ⟨gb, 0, none⟩) n c)) (ht : P.underlying t = some (.slice e)) (he : P.underlying e = some (.int .u8)) (hb : Blk w gb e cs) :
  qV P ⟨dst, .convert t t x, T, pos, after, g⟩ Γ w (fun r w' => r = .slice (some ⟨gb, 0, none⟩) n c ∧ Fro w' gb e cs ∧ Frm [gb] w w') := fun ρ hρ => by
 have hsh : w.shape? gb = some (e, cs.size) := by
  unfold Blk at hb
  unfold World.shape?
  rw [hb]
 refine ⟨.slice (some ⟨gb, 0, none⟩) n c, w.freeze ⟨gb, cs.size, none⟩ 1, ?_, rfl, ?_, ?_⟩
 · simp [execOp, hρ _ _ hx, convert, run_underlying ht, run_underlying he, markStringish, hsh]
 ·
  unfold Blk at hb
  unfold Fro World.freeze
  rw [if_neg jd]
  show (w.heap.modify gb _)[gb]? = _
  rw [zhg, if_pos rfl, hb]
  rfl
 refine ⟨?_, ?_, ?_, ?_, ?_⟩
 · unfold World.freeze; rw [if_neg jd]
 · unfold World.freeze; rw [if_neg jd]
 · unfold World.freeze; rw [if_neg jd]
 · unfold World.freeze; rw [if_neg jd]; simp
 intro i hi hni
 unfold World.freeze
 rw [if_neg jd]
 show (w.heap.modify gb _)[i]? = _
 rw [zhg, if_neg (fun h => hni (by simp [h]))]
def nB (w : World) (e : TypeId) (A : Option Addr) (n c : Nat) (xs : List Value) : Prop := Own w e 1 A n c xs ∨ ∃ (gb : Nat) (cs : Array Value), A = some ⟨gb, 0, none⟩ ∧ c = n ∧ cs.toList = xs ∧ xs.length = n ∧ Fro w gb e cs
theorem nB.frm {w w' : World} {S : List Nat} {e n c : Nat} {A : Option Addr} {xs : List Value} (h : nB w e A n c xs) (k : Frm S w w') (hS : ∀ x ∈ ob A, x ∉ S) : nB w' e A n c xs := by
 rcases h with h | ⟨gb, cs, rfl, h1, h2, h3, h4⟩
 · exact .inl (h.frm k hS)
 exact .inr ⟨gb, cs, rfl, h1, h2, h3, h4.frm k (hS gb (by simp [ob]))⟩
theorem nB.lt {w : World} {e n c : Nat} {A : Option Addr} {xs : List Value} (h : nB w e A n c xs) : ∀ x ∈ ob A, x < w.heap.size := by
 rcases h with h | ⟨gb, cs, rfl, h1, h2, h3, h4⟩
 · exact h.lt
 simpa [ob] using h4.lt
theorem nB.cells {w : World} {e n c gb : Nat} {cs : Array Value} {xs : List Value} (h2 : cs.toList = xs) (h4 : Fro w gb e cs) : ∀ j u, xs[j]? = some u → w.cell? ((⟨gb, 0, none⟩ : Addr).add j) = some u := by
 intro j u hu
 have e1 : (⟨gb, 0, none⟩ : Addr).add j = ⟨gb, j, none⟩ := by unfold Addr.add; split <;> simp_all
 rw [e1, h4.cell, ← hu, ← h2, zhh]
theorem nB.rd {w : World} {e n c : Nat} {A : Option Addr} {xs : List Value} (h : nB w e A n c xs) : Rd w 1 A n xs := by
 rcases h with h | ⟨gb, cs, rfl, h1, h2, h3, h4⟩
 · exact h.rd
 exact ⟨jo, fun hn => ⟨_, rfl, h4.lt, nB.cells (n := n) (c := c) h2 h4⟩⟩
theorem nB.le {w : World} {e n c : Nat} {A : Option Addr} {xs : List Value} (h : nB w e A n c xs) : n ≤ c := by
 rcases h with h | ⟨gb, cs, rfl, h1, h2, h3, h4⟩
 · exact h.le
 omega
theorem nB.ne_blk {w : World} {e t n c gb : Nat} {A : Option Addr} {xs : List Value} {cs : Array Value} (h : nB w e A n c xs) (hb : Blk w gb t cs) (hne : e ≠ t) : gb ∉ ob A := by
 rcases h with h | ⟨g2, cs2, rfl, h1, h2, h3, h4⟩
 · exact h.ne_blk hb hne
 intro hm
 simp only [ob, zh] at hm
 subst hm
 unfold Fro at h4
 unfold Blk at hb
 rw [h4] at hb
 injection hb with hb
 injection hb with _ hb _
 exact hne hb
end
end
section
open Go.RowKit
structure Er where
 e : En
 A : Option Addr
 c : Nat
def er0 : Er := ⟨⟨0, 0, 0, []⟩, none, 0⟩
def ZB (l : List Nat) : List Value := l.map fun n => .int .i64 ((n : Nat) : Int)
theorem qPj (a : List Nat) (i : Nat) (h : i < a.length) : (ZB a)[i]? = some (.int .i64 ((a.getD i 0 : Nat) : Int)) := by
 simp [ZB, ze, zb h]
theorem qBw (l : List Nat) : ∀ u ∈ ZB l, u.oneCell' = true := by
 intro u hu
 obtain ⟨x, _, rfl⟩ := List.mem_map.1 hu
 rfl
theorem qUx (l : List Nat) (b : Nat) : ZB (l ++ [b]) = ZB l ++ [.int .i64 ((b : Nat) : Int)] := by simp [ZB]
def UB (l : List Nat) : List Value := l.map fun n => .int .u64 ((n : Nat) : Int)
theorem qBx (l : List Nat) : ∀ u ∈ UB l, u.oneCell' = true := by
 intro u hu
 obtain ⟨x, _, rfl⟩ := List.mem_map.1 hu
 rfl
theorem qUy (l : List Nat) (b : Nat) : UB (l ++ [b]) = UB l ++ [.int .u64 ((b : Nat) : Int)] := by simp [UB]
def erC (x : Er) : List Value := [.int .u64 ((x.e.id : Nat) : Int), .int .i64 ((x.e.size : Nat) : Int), .int .u32 ((x.e.sum : Nat) : Int), .slice x.A x.e.begins.length x.c]
def EC (l : List Er) : List Value := l.flatMap erC
theorem qXw (x : Er) : (erC x).length = 4 := rfl
theorem EC_one (l : List Er) : ∀ u ∈ EC l, u.oneCell' = true := by
 intro u hu
 obtain ⟨x, _, hx⟩ := List.mem_flatMap.1 hu
 simp only [erC, zbv, zbm, or_false] at hx
 rcases hx with rfl | rfl | rfl | rfl <;> rfl
theorem qPk (a b : List Er) : EC (a ++ b) = EC a ++ EC b := by simp [EC]
theorem qPl : ∀ l : List Er, (EC l).length = l.length * 4
 | [] => rfl
 | x :: l => by rw [show EC (x :: l) = erC x ++ EC l from rfl, za, qXw, qPl l, zp]; omega
theorem qPm : ∀ (L : List Er) (s : Nat) (_ : s < L.length), ((EC L).drop (s * 4)).take 4 = erC (L.getD s er0)
 | a :: L, 0, _ => rfl
 | a :: L, s + 1, h => by
  have := qPm L s (by simpa using h)
  rw [show EC (a :: L) = erC a ++ EC L from rfl, show (s + 1) * 4 = (erC a).length + s * 4 by rw [qXw]; omega, zco, zey]
  exact this
theorem qYz : ∀ (l : List Er) (k : Nat), (EC l).drop (k * 4) = EC (l.drop k)
 | l, 0 => rfl
 | [], k + 1 => by simp [EC]
 | x :: l, k + 1 => by
  rw [show EC (x :: l) = erC x ++ EC l from rfl, show (k + 1) * 4 = (erC x).length + k * 4 by rw [qXw]; omega, zco, qYz l k]
  rfl
structure RdE (w : World) (A : Option Addr) (n : Nat) (l : List Er) : Prop where
 len : l.length = n
 rd : Rd w 4 A n (EC l)
 beg : ∀ x ∈ l, Rd w 1 x.A x.e.begins.length (ZB x.e.begins)
theorem RdE.frm {w w' : World} {A : Option Addr} {n : Nat} {l : List Er} (h : RdE w A n l) (k : Frm [] w w') : RdE w' A n l := ⟨h.len, h.rd.frm k jp, fun x hx => (h.beg x hx).frm k jp⟩
theorem RdE.cell {w : World} {A : Option Addr} {n : Nat} {l : List Er} (h : RdE w A n l) {i : Nat} (hi : i < n) : ∃ ad, A = some ad ∧ ∀ j v, (erC (l.getD i er0))[j]? = some v → w.cell? ((ad.add (i * 4)).add j) = some v := by
 obtain ⟨ad, h1, hel⟩ := h.rd.elem hi
 rw [qPm l i (by rw [h.len]; exact hi)] at hel
 exact ⟨ad, h1, hel⟩
theorem RdE.cut {w : World} {A : Option Addr} {n c k : Nat} {l : List Er} (h : RdE w A n l) (hk : k ≤ n) (hc : n ≤ c) : RdE w (cC A c k 4) (n - k) (l.drop k) :=
 ⟨by rw [zr, h.len], by
  have h1 := h.rd.cut hk (zk n) hc
  rw [qYz, zm (by rw [qPl, zr, h.len]; omega)] at h1
  exact h1, fun x hx => h.beg x (zch hx)⟩
theorem fV {l : List Er} {i : Nat} (h : i < l.length) : l.getD i er0 ∈ l := by
 rw [ze, zb h]
 exact zt h
structure IsSg (w : World) (g : Nat) (bA : Option Addr) (bc : Nat) (dA : Option Addr) (dc : Nat) (bs : List Nat) (l : List Er) (e : Nat) : Prop where
 blk : Blk w g 62 #[.slice bA bs.length bc, .slice dA l.length dc, .int .i64 ((e : Nat) : Int)]
 row : Rd w 1 bA bs.length (NB bs)
 bcap : bs.length ≤ bc
 dir : RdE w dA l.length l
 dcap : l.length ≤ dc
theorem IsSg.frm {w w' : World} {g bc dc e : Nat} {bA dA : Option Addr} {bs : List Nat} {l : List Er} (h : IsSg w g bA bc dA dc bs l e) (k : Frm [] w w') : IsSg w' g bA bc dA dc bs l e :=
 ⟨h.blk.frm k jp, h.row.frm k jp, h.bcap, h.dir.frm k, h.dcap⟩
def qXx (l : List Er) : Prop := l.length ≤ 64 ∧ ∀ x ∈ l, x.e.id < 18446744073709551616 ∧ x.e.size ≤ 4032 ∧ x.e.sum < 4294967296 ∧ x.e.begins.length ≤ 16 ∧ ∀ b ∈ x.e.begins, b ≤ 1000000
theorem qWy (n : Nat) (w : World) (hn : n ≤ 1000000) :
  Calls Tryz.prog 42 #[.int .i64 ((n : Nat) : Int)] w fun e w' => e = .returned (.int .i64 (((n + 255) / 256 : Nat) : Int)) ∧ w = w' := by
 refine VC.calls (nt := 7) (res := #[.tmp 2]) Tryz.func42 rfl Tryz.ntmps42 Tryz.results42 rfl ?_
 refine jS (jR (jz 0 (jO (jN (jv1 0 ?_)))))
 refine jS (jR (jm rfl (jb rfl rfl (Bin.add_i64 _ 256 jo) (jb rfl rfl (Bin.sub_i64 _ 1 jo jo) (jb rfl rfl (Bin.quo_i64 _ 256 jo jo) (ja rfl (jO (jN (jv1 2 ?_)))))))))
 refine jT ?_
 refine qT rfl ?_
 rw [show n + 256 - 1 = n + 255 by omega]
 exact ⟨rfl, rfl⟩
theorem qHr (g n bc dc e : Nat) (bA dA : Option Addr) (l : List Er) (w : World) (hb : Blk w g 62 #[.slice bA n bc, .slice dA l.length dc, .int .i64 ((e : Nat) : Int)]) (hd : RdE w dA l.length l) (hl : l.length ≤ 64)
  (h1 : ∀ i, i < l.length → (∀ j, j < i → (l.getD j er0).e.begins = []) → (l.getD i er0).e.begins ≠ [] → (l.getD i er0).e.begins.getD 0 0 = 0) (h2 : (∀ j, j < l.length → (l.getD j er0).e.begins = []) → e = 0) :
  Calls Tryz.prog 44 #[.pointer (some ⟨g, 0, none⟩)] w fun e w' => e = .returned (.bool true) ∧ Frm [] w w' := by
 have K := Frm.refl [] w
 have hdl := hd.len
 refine VC.calls (nt := 29) (res := #[.tmp 2]) Tryz.func44 rfl Tryz.ntmps44 Tryz.results44 rfl ?_
 refine jS (jR (ja rfl (jO (jN (jv1 0 ?_)))))
 refine jS (jS (jR (jm rfl (je (Run.nilck rfl) (jf rfl zay rfl zct (jl rfl zdv (hb.cell 1) (je (Run.lenS rfl zbk) ?_)))))))
 refine jx .i64 0 ?_
 refine jO (jN (jv4 0 8 9 10 ?_))
 refine jB ?_
 refine VC.loop (σ := Nat) (fun s => [(0, .pointer (some ⟨g, 0, none⟩)), (8, .slice dA l.length dc), (9, .int .i64 ((l.length : Nat) : Int)), (10, .int .i64 ((s : Nat) : Int))]) (fun s wr => s ≤ l.length ∧ (∀ j, j < s → (l.getD j er0).e.begins = []) ∧ Frm [] w wr) (fun s => l.length - s) 0 (js4 rfl rfl rfl rfl) ⟨jo, fun j h => jo, K⟩ ?_
 rintro i wr ⟨hi, hem, K⟩
 have hdr := hd.frm K
 have hbr := hb.frm K jp
 refine jS (jR (jb rfl rfl (Bin.lssN _ _) (jO (jN (jS ?_)))))
 refine jD rfl (fun hc1 => ?_) fun hc1 => ?_
 ·
  have hbg := hdr.beg _ (fV hc1)
  have h1i := h1 i hc1 hem
  obtain ⟨ad, hdA, hel⟩ := hdr.cell hc1
  subst hdA
  have hsnoc : (l.getD i er0).e.begins = [] → ∀ j, j < i + 1 → (l.getD j er0).e.begins = [] := fun h j hj => by
   by_cases hji : j = i
   · subst hji; exact h
   exact hem j jo
  generalize l.getD i er0 = xx at hel hbg h1i hsnoc
  obtain ⟨x, xA, xc⟩ := xx
  dsimp only at hbg h1i hsnoc
  refine jQ (jN (jv4 0 8 9 10 ?_))
  refine jS (jB (jS (jR (je (Run.indexS _ rfl rfl zbk zbw jo) (je (Run.loadA rfl Tryz.isAgg66 zbw hel (by first | rfl | (simp; done))) ?_)))))
  refine Ops.m (qV.alloc pZ) rfl ?_
  rintro _ w1 ⟨rfl, hF1⟩
  refine Ops.st (qR.storeA rfl rfl zbw hF1.blk rfl (by intro v hv; exact EC_one [⟨x, _, xc⟩] v (by simpa [EC] using hv))) ?_
  rintro w2 ⟨hb2, hf2, hs2⟩
  have K := (K.trans hF1.frm jp).own hf2 (by simp; exact K.size)
  refine jO (jN (jv5 0 4 8 9 10 ?_))
  refine jS (jR (jf rfl zbj rfl zar (jl rfl zbq (hb2.cell 3) (je (Run.lenS rfl zd) (jb rfl rfl (Bin.gtrN _ 0) (jO (jN (jv6 0 4 8 9 10 17 ?_))))))))
  refine jD rfl (fun hc2 => ?_) fun hc2 => ?_
  ·
   obtain ⟨ad2, u2, hA2, hu2, hcel⟩ := (hbg.frm (hF1.frm.trans hf2 jp) jp).at1 (jo : 0 < x.begins.length)
   subst hA2
   rw [qPj _ 0 jo] at hu2
   cases hu2
   refine jS (jR (jf rfl zbj rfl zar (jl rfl zbq (hb2.cell 3) (je (Run.index1 0 rfl rfl zd zc jo) (jl rfl zg hcel (jb rfl rfl (Bin.eqlN _ 0) (ja rfl (jO (jN (jv1 2 ?_))))))))))
   refine jT ?_
   refine qO (qP (qP (qO (qP (qT rfl ?_)))))
   rw [h1i (fun h => by rw [h] at hc2; simp at hc2)]
   exact ⟨rfl, K⟩
  refine jQ ?_
  refine qJ (jN ?_)
  refine jv4 0 8 9 10 ?_
  refine jR (jb rfl rfl (Bin.add_i64 _ 1 jo) (jm rfl (jO ?_)))
  refine jN ⟨i + 1, (js4 rfl rfl rfl rfl), ?_, ?_⟩
  · exact ⟨jo, hsnoc (zab (Nat.le_zero.1 (Nat.not_lt.1 hc2))), K⟩
  first | omega | (dsimp only; omega)
 refine jX ?_
 refine qZ (qZ (qW ?_))
 refine jN (jv1 0 ?_)
 refine jS (jR (jm rfl (je (Run.nilck rfl) (jf rfl zay rfl zc (jl rfl zg (hbr.cell 2) (jb rfl rfl (Bin.eqlN _ 0) (ja rfl (jO (jN (jv1 2 ?_))))))))))
 refine jT ?_
 refine qT rfl ?_
 rw [h2 (fun j hj => hem j jo)]
 exact ⟨rfl, K⟩
theorem qSv (g bc dc e : Nat) (bA dA : Option Addr) (bs : List Nat) (l : List Er) (w : World) (hS : IsSg w g bA bc dA dc bs l e) (hl : qXx l) :
  Calls Tryz.prog 19 #[.pointer (some ⟨g, 0, none⟩)] w fun e w' => ∃ B d, e = .returned (.slice B l.length d) ∧ Own w' 39 1 B l.length d (UB (l.map fun x => x.e.id)) ∧ Frm [] w w' ∧ ∀ x ∈ ob B, w.heap.size ≤ x := by
 have K := Frm.refl [] w
 have hdl := hl.1
 refine VC.calls (nt := 22) (res := #[.tmp 2]) Tryz.func19 rfl Tryz.ntmps19 Tryz.results19 rfl ?_
 refine jS (jR (ja rfl (jO (jN (jv1 0 ?_)))))
 refine jS (jR (ja rfl (jO (jN (jS (jS (jR (jm rfl (je (Run.nilck rfl) (jf rfl zay rfl zct (jl rfl zdv (hS.blk.cell 1) (je (Run.lenS rfl zbk) ?_))))))))))))
 refine jx .i64 0 ?_
 refine jO (jN (jv4 3 9 10 11 ?_))
 refine jB ?_
 refine VC.loop (σ := Nat × Option Addr × Nat) (fun s => [(3, .slice s.2.1 s.1 s.2.2), (9, .slice dA l.length dc), (10, .int .i64 ((l.length : Nat) : Int)), (11, .int .i64 ((s.1 : Nat) : Int))]) (fun s wr => s.1 ≤ l.length ∧ Own wr 39 1 s.2.1 s.1 s.2.2 (UB ((l.take s.1).map fun x => x.e.id)) ∧ Frm [] w wr ∧ ∀ x ∈ ob s.2.1, w.heap.size ≤ x) (fun s => l.length - s.1) (0, none, 0) (js4 rfl rfl rfl rfl) ⟨zak _, Own.nil _ _ _, K, by simp [ob]⟩ ?_
 rintro ⟨i, B, d⟩ wr ⟨hi, ho, K, hob⟩
 dsimp only at *
 have hSr := hS.frm K
 refine jS (jR (jb rfl rfl (Bin.lssN _ _) (jO (jN (jS ?_)))))
 refine jD rfl (fun hc1 => ?_) fun hc1 => ?_
 ·
  have hts : (l.take (i + 1)).map (fun x => x.e.id) = (l.take i).map (fun x => x.e.id) ++ [(l.getD i er0).e.id] := by
   rw [zah, zb hc1, ze, zb hc1, zbt]
   rfl
  obtain ⟨ad, hdA, hel⟩ := hSr.dir.cell hc1
  subst hdA
  generalize l.getD i er0 = xx at hel hts
  obtain ⟨x, xA, xc⟩ := xx
  dsimp only at hts
  refine jQ (jN (jv4 3 9 10 11 ?_))
  refine jS (jB (jS (jR (je (Run.indexS _ rfl rfl zbk zbw jo) (je (Run.loadA rfl Tryz.isAgg66 zbw hel (by first | rfl | (simp; done))) ?_)))))
  refine Ops.m (qV.alloc pZ) rfl ?_
  rintro _ w1 ⟨rfl, hF1⟩
  refine Ops.st (qR.storeA rfl rfl zbw hF1.blk rfl (by intro v hv; exact EC_one [⟨x, _, xc⟩] v (by simpa [EC] using hv))) ?_
  rintro w2 ⟨hb2, hf2, hs2⟩
  have K := (K.trans hF1.frm jp).own hf2 (by simp; exact K.size)
  refine jO (jN (jv5 3 5 9 10 11 ?_))
  refine jR (jm rfl (jf rfl zbj rfl zbl (jl rfl zcj (hb2.cell 0) ?_)))
  refine Ops.m (qV.buildS1 rfl zia zbl qU8 jd jd rfl rfl) rfl ?_
  rintro _ w3 ⟨rfl, hF3⟩
  have hrd3 : Rd w3 1 (some ⟨w2.heap.size, 0, none⟩) 1 (UB [x.id]) := Rd.of_blk (n := 1) (size := 1) hF3.blk rfl
  have hlo := ho.lt
  have ho := ((ho.frm hF1.frm jp).frm hf2 (fun y hy hy2 => by
   have := hlo y hy
   simp at hy2
   omega)).frm hF3.frm jp
  have K := K.trans hF3.frm jp
  refine Ops.m (qV.app rfl rfl zia (qU9) rfl jd ho hrd3 (qBx _) jo jo) rfl ?_
  rintro _ w4 ⟨B2, d2, rfl, ho4, hf4, hob4⟩
  rw [show UB ((l.take i).map fun x => x.e.id) ++ UB [x.id] = UB ((l.take (i + 1)).map fun x => x.e.id) by rw [hts, qUy]; rfl] at ho4
  have hks := K.size
  have K := K.own hf4 hob
  have hob2 : ∀ y ∈ ob B2, w.heap.size ≤ y := fun y hy => by
   rcases hob4 with h | h
   · rw [h] at hy; exact hob y hy
   rw [h, zh] at hy; omega
  refine ja rfl (jO ?_)
  refine qJ (jN ?_)
  refine jv4 3 9 10 11 ?_
  refine jR (jb rfl rfl (Bin.add_i64 _ 1 jo) (jm rfl (jO ?_)))
  refine jN ⟨(i + 1, B2, d2), (js4 rfl rfl rfl rfl), ?_, ?_⟩
  · exact ⟨hc1, ho4, K, hob2⟩
  first | omega | (dsimp only; omega)
 refine jX ?_
 refine qZ (qZ (qW ?_))
 refine jN (jv1 3 ?_)
 refine jS (jR (jm rfl (ja rfl (jO (jN (jv1 2 ?_))))))
 refine jT ?_
 refine qT rfl ?_
 obtain rfl : i = l.length := jo
 rw [zas] at ho
 exact ⟨B, d, rfl, ho, K, hob⟩
theorem qVy (f : FuncId) (us : List Value) (n r : Nat) (w : World) (hn : n ≤ 1000000) (hr : r ≤ n) (hf : ∀ args w, (callFunc f args).run Tryz.prog w = .ok (.enter f args) w)
  (hcl : ∀ W i, Frm [] w W → i < n → Calls Tryz.prog f (.int .i64 ((i : Nat) : Int) :: us).toArray W fun e w' => e = .returned (.bool (decide (r ≤ i))) ∧ qQ W w') :
  Calls Tryz.prog 45 #[.int .i64 ((n : Nat) : Int), .func (.func f) ([] : List Value).toArray us.toArray] w fun e w' => e = .returned (.int .i64 ((r : Nat) : Int)) ∧ qQ w w' := by
 refine VC.calls (nt := 26) (res := #[.tmp 4]) Tryz.func45 rfl Tryz.ntmps45 Tryz.results45 rfl ?_
 refine jS (jR (jz 0 (jO (jN (jv2 0 1 ?_)))))
 refine jS (jR (jm rfl (jz 0 (ja rfl (jO (jN (jv3 1 5 6 ?_)))))))
 refine jS (jB ?_)
 refine VC.loop (σ := Nat × Nat) (fun s => [(1, .func (.func f) ([] : List Value).toArray us.toArray), (5, .int .i64 ((s.1 : Nat) : Int)), (6, .int .i64 ((s.2 : Nat) : Int))]) (fun s wr => s.1 ≤ r ∧ r ≤ s.2 ∧ s.2 ≤ n ∧ qQ w wr) (fun s => s.2 - s.1) (0, n) (js3 rfl rfl rfl) ⟨zak _, hr, zk _, qQ.refl _⟩ ?_
 rintro ⟨lo, hi⟩ wr ⟨hlo, hhi, hhn, hd⟩
 dsimp only at *
 refine jS (jS (jR (jm rfl (jm rfl (jb rfl rfl (Bin.lssN _ _) (jO (jN (jv4 1 5 6 11 ?_))))))))
 refine jD rfl (fun hc1 => ?_) fun hc1 => ?_
 ·
  refine jQ (jN (jv3 1 5 6 ?_))
  refine jB (jS (jR (jm rfl (jm rfl (jb rfl rfl (Bin.add_i64 _ _ jo) (je (Run.convN _ rfl zaa Tryz.underlying36 (by simp only [bmax]; omega)) (jb rfl rfl (Bin.shr_u64 _ 1 jo) (je (Run.convN _ rfl Tryz.underlying36 zaa (by simp only [bmax]; omega)) (ja rfl (jO (jN (jv4 1 5 6 7 ?_))))))))))))
  refine jS (jR (jm rfl (jM ?_)))
  refine Ops.cl (bP.dyn rfl (evs.cons rfl evs.nil) hf) (hcl _ _ hd.frm jo) rfl ?_
  rintro e w3 ⟨rfl, hd3⟩
  refine ⟨_, rfl, ?_⟩
  refine je (Run.not rfl) (jO (jN (jv5 1 5 6 7 21 ?_)))
  refine VC.condB rfl (fun hc2 => ?_) (fun hc2 => ?_)
  ·
   refine jR (jm rfl (jb rfl rfl (Bin.add_i64 _ 1 jo) (ja rfl (jO ?_))))
   refine qJ (jN ⟨((lo + hi) / 2 + 1, hi), (js3 rfl rfl rfl), ?_, ?_⟩)
   · exact ⟨by simp at hc2; omega, hhi, hhn, hd.trans hd3⟩
   first | omega | (dsimp only; omega)
  refine jR (jm rfl (ja rfl (jO ?_)))
  refine qJ (jN ⟨(lo, (lo + hi) / 2), (js3 rfl rfl rfl), ?_, ?_⟩)
  · exact ⟨hlo, by simp at hc2; omega, jo, hd.trans hd3⟩
  first | omega | (dsimp only; omega)
 refine jX ?_
 refine qZ (qZ (qW ?_))
 refine jN (jv1 5 ?_)
 refine jS (jR (jm rfl (ja rfl (jO (jN (jv1 4 ?_))))))
 refine jT ?_
 refine qT rfl ?_
 obtain rfl : lo = r := jo
 exact ⟨rfl, hd⟩
theorem qSw (i gs gi g bc dc e id r : Nat) (bA dA : Option Addr) (bs : List Nat) (l : List Er) (w : World) (hS : IsSg w g bA bc dA dc bs l e) (hl : qXx l) (hi : i < l.length) (hid : id < 18446744073709551616) (hr : r ≤ i ↔ id ≤ (l.getD i er0).e.id)
  (h1 : Blk w gs 32 #[.pointer (some ⟨g, 0, none⟩)]) (h2 : Blk w gi 39 #[.int .u64 ((id : Nat) : Int)]) :
  Calls Tryz.prog 46 #[.int .i64 ((i : Nat) : Int), .pointer (some ⟨gs, 0, none⟩), .pointer (some ⟨gi, 0, none⟩)] w fun e w' => e = .returned (.bool (decide (r ≤ i))) ∧ qQ w w' := by
 have hw := (hl.2 _ (fV hi)).1
 have hdl := hl.1
 have er : decide (r ≤ i) = decide (id ≤ (l.getD i er0).e.id) := decide_eq_decide.2 hr
 have hSd := hS.frm (qQ.drew w).frm
 obtain ⟨ad, hdA, hel⟩ := hSd.dir.cell hi
 subst hdA
 refine VC.calls (nt := 15) (res := #[.tmp 4]) Tryz.func46 rfl Tryz.ntmps46 Tryz.results46 rfl ?_
 refine jS (jR (ja rfl (jO (jN (jv3 0 1 2 ?_)))))
 refine jS ?_
 refine VC.still jK jK ?_
 refine qE (Run.load rfl Tryz.isAgg32 ((h1.drawn (qQ.drew w)).cell 0)) ?_
 refine qE (Run.nilck rfl) ?_
 refine qE (Run.fieldAddr rfl zay rfl zct jd) ?_
 refine qE (Run.load rfl zdv (hSd.blk.cell 1)) ?_
 refine qM ?_
 refine qE (Run.indexS _ rfl rfl zbk zbw jo) ?_
 refine qE (Run.fieldAddr rfl zbj rfl zbl jd) ?_
 refine qE (Run.load rfl zcj (hel 0 _ rfl)) ?_
 refine qE (Run.load rfl zcj ((h2.drawn (qQ.drew w)).cell 0)) ?_
 refine qE (Run.bin rfl rfl (Bin.geqN _ _)) ?_
 refine qA ?_
 refine qH.nil ?_
 refine jN (jv1 4 ?_)
 refine jT ?_
 refine qT rfl ?_
 rw [er]
 exact ⟨rfl, qQ.drew w⟩
theorem qPn (i g bc dc e : Nat) (bA dA : Option Addr) (bs : List Nat) (l : List Er) (w : World) (hS : IsSg w g bA bc dA dc bs l e) (hl : qXx l) (hi : i < l.length) (hso : ∀ a b, a < b → b < l.length → (l.getD a er0).e.id < (l.getD b er0).e.id) :
  Calls Tryz.prog 26 #[.pointer (some ⟨g, 0, none⟩), .int .u64 (((l.getD i er0).e.id : Nat) : Int)] w fun e w' => e = .returned (.int .i64 ((i : Nat) : Int)) ∧ Frm [] w w' := by
 have hw := (hl.2 _ (fV hi)).1
 have hdl := hl.1
 have hri : ∀ j, j < l.length → (i ≤ j ↔ (l.getD i er0).e.id ≤ (l.getD j er0).e.id) := fun j hj => ⟨fun h => by
  rcases Nat.lt_or_eq_of_le h with h | h
  · exact Nat.le_of_lt (hso i j h hj)
  · subst h; exact zk _, fun h => by
  rcases zha j i with h2 | h2
  · have := hso j i h2 hi; omega
  exact h2⟩
 refine VC.calls (nt := 33) (res := #[.tmp 4]) Tryz.func26 rfl Tryz.ntmps26 Tryz.results26 rfl ?_
 refine jS (jR ?_)
 refine Ops.m (qV.box rfl) rfl ?_
 rintro _ w1 ⟨rfl, hF1⟩
 refine Ops.m (qV.box rfl) rfl ?_
 rintro _ w2 ⟨rfl, hF2⟩
 have h1 := hF1.blk.frm hF2.frm jp
 have h2 := hF2.blk
 have K := hF1.frm.trans hF2.frm jp
 have hS2 := hS.frm K
 refine jz 0 (jO (jN (jv2 2 3 ?_)))
 refine jS (jR (jl rfl Tryz.isAgg32 (h1.cell 0) (je (Run.nilck rfl) (jf rfl zay rfl zct (jl rfl zdv (hS2.blk.cell 1) (je (Run.lenS rfl zbk) (je (Run.mkFunc evs.nil (evs.cons rfl (evs.cons rfl evs.nil))) ?_)))))))
 refine Ops.cl (jE2 Tryz.call45) (qVy _ [.pointer (some ⟨w.heap.size, 0, none⟩), .pointer (some ⟨w1.heap.size, 0, none⟩)] l.length i _ jo jo Tryz.call46 (fun W j hF hj => qSw j _ _ g bc dc e _ i bA dA bs l W (hS2.frm hF) hl hj hw (hri j hj) (h1.frm hF jp) (h2.frm hF jp))) rfl ?_
 rintro e w3 ⟨rfl, hd3⟩
 refine ⟨_, rfl, ?_⟩
 have K := K.drawn hd3
 have hS3 := hS2.frm (hd3.trans (qQ.drew w3)).frm
 have h1 := h1.drawn (hd3.trans (qQ.drew w3))
 have h2 := h2.drawn (hd3.trans (qQ.drew w3))
 obtain ⟨ad, hdA, hel⟩ := hS3.dir.cell hi
 subst hdA
 refine ja rfl (jO (jN (jv3 2 3 5 ?_)))
 refine jS (jS ?_)
 refine VC.splitR [(5, .int .i64 ((i : Nat) : Int))] (qQ w3) 31 (.bool (decide (True))) ?_ ?_
 ·
  refine VC.still jK jK ?_
  refine qM ?_
  refine qE (Run.load rfl Tryz.isAgg32 (h1.cell 0)) ?_
  refine qE (Run.nilck rfl) ?_
  refine qE (Run.fieldAddr rfl zay rfl zct jd) ?_
  refine qE (Run.load rfl zdv (hS3.blk.cell 1)) ?_
  refine qE (Run.lenS rfl zbk) ?_
  refine qE (Run.bin rfl rfl (Bin.lssN _ _)) ?_
  by_cases hs19 : i < l.length
  ·
   refine qM ?_
   refine qG (Run.load rfl Tryz.isAgg32 (h1.cell 0)) ?_
   refine qG (Run.nilck rfl) ?_
   refine qG (Run.fieldAddr rfl zay rfl zct jd) ?_
   refine qG (Run.load rfl zdv (hS3.blk.cell 1)) ?_
   refine qG (Run.mv rfl) ?_
   refine qG (Run.indexS _ rfl rfl zbk zbw jo) ?_
   refine qG (Run.fieldAddr rfl zbj rfl zbl jd) ?_
   refine qG (Run.load rfl zcj (hel 0 _ rfl)) ?_
   refine qG (Run.load rfl zcj (h2.cell 0)) ?_
   refine qG (Run.bin rfl rfl (Bin.eqlN _ _)) ?_
   refine qE (Run.pickT rfl rfl au) ?_
   refine qH.nil ?_
   refine jN ⟨(js2 (jC (by first | (simp [*]; done) | omega)) rfl), (qQ.drew _)⟩
  refine qM ?_
  refine qU ?_
  refine qU ?_
  refine qU ?_
  refine qU ?_
  refine qU ?_
  refine qU ?_
  refine qU ?_
  refine qU ?_
  refine qU ?_
  refine qU ?_
  refine qE (Run.pickF rfl rfl au) ?_
  refine qH.nil ?_
  refine jN ⟨(js2 (jC (by first | (simp [*]; done) | omega)) rfl), (qQ.drew _)⟩
 intro Γ w9 hΓ hd9
 refine jN (VC.sub _ hΓ ?_)
 refine VC.condT rfl (decide_eq_true trivial) ?_
 refine jS (jR (jm rfl (ja rfl (jO (jN (jv1 4 ?_))))))
 refine jT ?_
 refine qP (qT rfl ?_)
 exact ⟨rfl, K.drawn hd9⟩
end
section
open Go.RowKit
theorem Run.minN {P : Program} {Γ : Env} {w : World} {dst : Option Tmp} {pos : String} {after : Array Edge} {g : Option (Nat × Bool)} {t : TypeId} {x y : Operand} {k : IntKind} {ts : Array TypeId} (a b m : Nat) (hx : ev? Γ x = some (.int k ((a : Nat) : Int))) (hy : ev? Γ y = some (.int k ((b : Nat) : Int))) (hm : m = min a b) :
  Run P ⟨dst, .call ⟨.builtin .min, #[x, y], ts⟩, t, pos, after, g⟩ Γ w (.int k ((m : Nat) : Int)) := by
 have h := Run.minI (P := P) (w := w) (dst := dst) (t := t) (pos := pos) (after := after) (g := g) (ts := ts) hx hy
 have e : (if ((b : Nat) : Int) < ((a : Nat) : Int) then ((b : Nat) : Int) else ((a : Nat) : Int)) = ((m : Nat) : Int) := by split <;> omega
 rw [e] at h
 exact h
theorem Rd.few {w : World} {A : Option Addr} {n k : Nat} {xs : List Value} (h : Rd w 1 A n xs) (hk : k ≤ n) : Rd w 1 A k (xs.take k) := by
 refine ⟨by rw [zi]; have := h.1; omega, fun hk0 => ?_⟩
 obtain ⟨ad, h1, h2, h3⟩ := h.2 jo
 refine ⟨ad, h1, h2, fun j u hu => h3 j u ?_⟩
 rw [List.getElem?_take] at hu
 split at hu
 · exact hu
 cases hu
theorem qUz (l : List Nat) (p e : Nat) (h : p ≤ e) (he : e ≤ l.length) {w : World} {A : Option Addr} (hr : Rd w 1 A l.length (NB l)) : Rd w 1 (cC A e p 1) ((l.drop p).take (e - p)).length (NB ((l.drop p).take (e - p))) := by
 have h1 := hr.few he
 have h2 : (NB l).take e = NB (l.take e) := by simp [NB, zdf]
 have h3 : (l.take e).length = e := by rw [zi]; omega
 rw [h2] at h1
 have h4 := oX (l.take e) p (e - p) jo (A := A) (c := e) (w := w) (by rw [h3]; exact h1) jo
 have h5 : ((l.take e).drop p).take (e - p) = (l.drop p).take (e - p) := by rw [List.drop_take, zhc, Nat.min_self]
 rw [h5] at h4
 exact h4
def qJu (l : List Er) (e i k E : Nat) : Prop := (k + 1 < (l.getD i er0).e.begins.length → (l.getD i er0).e.begins.getD (k + 1) 0 = E) ∧ ((l.getD i er0).e.begins.length ≤ k + 1 → (∀ j, i < j → j < l.length → (∀ m, i < m → m < j → (l.getD m er0).e.begins = []) → (l.getD j er0).e.begins ≠ [] → (l.getD j er0).e.begins.getD 0 0 = E) ∧ ((∀ m, i < m → m < l.length → (l.getD m er0).e.begins = []) → e = E))
theorem qPo (l : List Er) (a s : Nat) : (l.drop a).getD s er0 = l.getD (a + s) er0 := by
 rw [ze, ze, zes]
theorem qVz {w : World} {A : Option Addr} {xs : List Nat} {k : Nat} (h : Rd w 1 A xs.length (ZB xs)) (hk : k < xs.length) : ∃ ad, A = some ad ∧ w.cell? (ad.add k) = some (.int .i64 ((xs.getD k 0 : Nat) : Int)) := by
 obtain ⟨ad, u, h1, h2, h3⟩ := h.at1 hk
 rw [qPj _ _ hk] at h2
 cases h2
 exact ⟨ad, h1, h3⟩
theorem qPp (i k E g bc dc e : Nat) (bA dA : Option Addr) (bs : List Nat) (l : List Er) (w : World) (hS : IsSg w g bA bc dA dc bs l e) (hl : qXx l) (hi : i < l.length) (hk : k ≤ 100) (hE : qJu l e i k E) :
  Calls Tryz.prog 47 #[.pointer (some ⟨g, 0, none⟩), .int .i64 ((i : Nat) : Int), .int .i64 ((k : Nat) : Int)] w fun e w' => e = .returned (.int .i64 ((E : Nat) : Int)) ∧ Frm [] w w' := by
 have K := Frm.refl [] w
 have hdl := hl.1
 have hcap := hS.dcap
 have hS0 := hS
 have hbl := (hl.2 _ (fV hi)).2.2.2.1
 have hcut := hS.dir.cut (k := i + 1) jo hS.dcap
 have hbg := hS.dir.beg _ (fV hi)
 obtain ⟨ad, hdA, hel⟩ := hS.dir.cell hi
 subst hdA
 obtain ⟨hE1, hE2⟩ := hE
 generalize hgx : l.getD i er0 = xx at hel hbl hbg hE1 hE2
 obtain ⟨x, xA, xc⟩ := xx
 dsimp only at hbl hbg hE1 hE2
 refine VC.calls (nt := 58) (res := #[.tmp 6]) Tryz.func47 rfl Tryz.ntmps47 Tryz.results47 rfl ?_
 refine jS (jR (jz 0 (jO (jN (jv3 0 1 2 ?_)))))
 refine jS (jS (jR (jm rfl (jb rfl rfl (Bin.add_i64 _ 1 jo) (jm rfl (je (Run.nilck rfl) (jf rfl zay rfl zct (jl rfl zdv (hS.blk.cell 1) (jm rfl (je (Run.indexS _ rfl rfl zbk zbw jo) (jf rfl zbj rfl zar (jl rfl zbq (hel 3 _ rfl) (je (Run.lenS rfl zd) (jb rfl rfl (Bin.lssN _ _) (jO (jN (jv4 0 1 2 20 ?_)))))))))))))))))
 refine jD rfl (fun hc1 => ?_) fun hc1 => ?_
 ·
  obtain ⟨ad2, hA2, hcel⟩ := qVz hbg hc1
  subst hA2
  have hE1 := hE1 hc1
  refine jS (jR (jm rfl (je (Run.nilck rfl) (jf rfl zay rfl zct (jl rfl zdv (hS.blk.cell 1) (jm rfl (je (Run.indexS _ rfl rfl zbk zbw jo) (jf rfl zbj rfl zar (jl rfl zbq (hel 3 _ rfl) ?_)))))))))
  refine jm rfl (jb rfl rfl (Bin.add_i64 _ 1 jo) (je (Run.index1 _ rfl rfl zd zc jo) (jl rfl zg hcel (ja rfl (jO (jN (jv1 6 ?_)))))))
  refine jT ?_
  refine qP (qT rfl ?_)
  rw [hE1]
  exact ⟨rfl, K⟩
 obtain ⟨hE3, hE4⟩ := hE2 (Nat.not_lt.1 hc1)
 refine jQ (jN (jv2 0 1 ?_))
 refine jS (jS (jR (jm rfl (je (Run.nilck rfl) (jf rfl zay rfl zct (jl rfl zdv (hS.blk.cell 1) (jm rfl (jb rfl rfl (Bin.add_i64 _ 1 jo) (je (Run.sliceS _ _ rfl zbk zbw (evB.some_ rfl) evB.none_ jo jo) (je (Run.lenS rfl zbk) ?_))))))))))
 refine jx .i64 0 ?_
 refine jO (jN (jv4 0 39 40 41 ?_))
 refine jB ?_
 refine VC.loop (σ := Nat) (fun s => [(0, .pointer (some ⟨g, 0, none⟩)), (39, .slice (cC (some ad) dc (i + 1) 4) (l.length - (i + 1)) (dc - (i + 1))), (40, .int .i64 ((l.length - (i + 1) : Nat) : Int)), (41, .int .i64 ((s : Nat) : Int))]) (fun s wr => s ≤ l.length - (i + 1) ∧ (∀ m, i < m → m < i + 1 + s → (l.getD m er0).e.begins = []) ∧ Frm [] w wr) (fun s => l.length - (i + 1) - s) 0 (js4 rfl rfl rfl rfl) ⟨jo, fun j h h2 => jo, K⟩ ?_
 rintro j wr ⟨hj, hem, K⟩
 have hSr := hS.frm K
 have hcr := hcut.frm K
 refine jS (jR (jb rfl rfl (Bin.lssN _ _) (jO (jN (jS ?_)))))
 refine jD rfl (fun hc2 => ?_) fun hc2 => ?_
 ·
  have hbj := hcr.beg _ (fV (by rw [hcr.len]; exact hc2))
  obtain ⟨adj, hdj, helj⟩ := hcr.cell hc2
  rw [hdj]
  rw [qPo] at hbj helj
  have h3i := hE3 (i + 1 + j) jo jo (fun m h1 h2 => hem m h1 h2)
  have hsnoc : (l.getD (i + 1 + j) er0).e.begins = [] → ∀ m, i < m → m < i + 1 + (j + 1) → (l.getD m er0).e.begins = [] := fun h m h1 h2 => by
   by_cases hji : m = i + 1 + j
   · subst hji; exact h
   exact hem m h1 jo
  generalize l.getD (i + 1 + j) er0 = xx at helj hbj h3i hsnoc
  obtain ⟨x, xA, xc⟩ := xx
  dsimp only at hbj h3i hsnoc
  refine jQ (jN (jv4 0 39 40 41 ?_))
  refine jS (jB (jS (jR (je (Run.indexS _ rfl rfl zbk zbw jo) (je (Run.loadA rfl Tryz.isAgg66 zbw helj (by first | rfl | (simp; done))) ?_)))))
  refine Ops.m (qV.alloc pZ) rfl ?_
  rintro _ w1 ⟨rfl, hF1⟩
  refine Ops.st (qR.storeA rfl rfl zbw hF1.blk rfl (by intro v hv; exact EC_one [⟨x, _, xc⟩] v (by simpa [EC] using hv))) ?_
  rintro w2 ⟨hb2, hf2, hs2⟩
  have K := (K.trans hF1.frm jp).own hf2 (by simp <;> exact K.size)
  refine jO (jN (jv5 0 8 39 40 41 ?_))
  refine jS (jR (jf rfl zbj rfl zar (jl rfl zbq (hb2.cell 3) (je (Run.lenS rfl zd) (jb rfl rfl (Bin.gtrN _ 0) (jO (jN (jv6 0 8 39 40 41 48 ?_))))))))
  refine jD rfl (fun hc3 => ?_) fun hc3 => ?_
  ·
   obtain ⟨ad2, hA2, hcel⟩ := qVz (hbj.frm (hF1.frm.trans hf2 jp) jp) hc3
   subst hA2
   refine jS (jR (jf rfl zbj rfl zar (jl rfl zbq (hb2.cell 3) (je (Run.index1 0 rfl rfl zd zc jo) (jl rfl zg hcel (ja rfl (jO (jN (jv1 6 ?_)))))))))
   refine jT ?_
   refine qO (qP (qP (qO (qP (qT rfl ?_)))))
   rw [h3i (fun h => by rw [h] at hc3; simp at hc3)]
   exact ⟨rfl, K⟩
  refine jQ ?_
  refine qJ (jN ?_)
  refine jv4 0 39 40 41 ?_
  refine jR (jb rfl rfl (Bin.add_i64 _ 1 jo) (jm rfl (jO ?_)))
  refine jN ⟨j + 1, (js4 rfl rfl rfl rfl), ?_, ?_⟩
  · exact ⟨jo, hsnoc (zab (Nat.le_zero.1 (Nat.not_lt.1 hc3))), K⟩
  first | omega | (dsimp only; omega)
 refine jX ?_
 refine qZ (qZ (qW ?_))
 refine jN (jv1 0 ?_)
 refine jS (jR (jm rfl (je (Run.nilck rfl) (jf rfl zay rfl zc (jl rfl zg (hSr.blk.cell 2) (ja rfl (jO (jN (jv1 6 ?_)))))))))
 refine jT ?_
 refine qT rfl ?_
 rw [hE4 (fun m h1 h2 => hem m h1 jo)]
 exact ⟨rfl, K⟩
theorem qV0 (i k E g bc dc e : Nat) (bA dA : Option Addr) (bs C : List Nat) (l : List Er) (w : World) (hS : IsSg w g bA bc dA dc bs l e) (hl : qXx l) (hi : i < l.length) (hE : qJu l e i k E) (hk : k < (l.getD i er0).e.begins.length)
  (hb : bs.length ≤ 1000000) (hB : ∀ b ∈ bs, b < 256) (h1 : (l.getD i er0).e.begins.getD k 0 ≤ E) (h2 : E ≤ bs.length) (h3 : 256 * k ≤ (l.getD i er0).e.size) (hC : C.length = min 256 ((l.getD i er0).e.size - 256 * k))
  (hI : jP ((bs.drop ((l.getD i er0).e.begins.getD k 0)).take (E - (l.getD i er0).e.begins.getD k 0)) C.length = .ok (C, E - (l.getD i er0).e.begins.getD k 0)) :
  Calls Tryz.prog 27 #[.pointer (some ⟨g, 0, none⟩), .int .i64 ((i : Nat) : Int), .int .i64 ((k : Nat) : Int)] w fun e w' => ∃ B d, e = .returned (.tuple #[.slice B C.length d, .bool true]) ∧ Own w' 5 1 B C.length d (NB C) ∧ Frm [] w w' ∧ ∀ x ∈ ob B, w.heap.size ≤ x := by
 have K := Frm.refl [] w
 have hdl := hl.1
 have hcap := hS.bcap
 obtain ⟨_, hs4, _, hbl, _⟩ := hl.2 _ (fV hi)
 have hends := fun W hW => qPp i k E g bc dc e bA dA bs l W hW hl hi jo hE
 have hbg := hS.dir.beg _ (fV hi)
 obtain ⟨ad, hdA, hel⟩ := hS.dir.cell hi
 subst hdA
 generalize hgx : l.getD i er0 = xx at hel hbl hbg h1 h3 hC hI hs4 hk
 obtain ⟨x, xA, xc⟩ := xx
 dsimp only at hbl hbg h1 h3 hC hI hs4 hk
 obtain ⟨ad2, hA2, hcel⟩ := qVz hbg hk
 subst hA2
 generalize hF : x.begins.getD k 0 = F at *
 have hrow := hS.row.cut h1 h2 hcap
 have hNB : (NB bs).drop (F * 1) = NB (bs.drop F) := by rw [zdq]; simp [NB]
 refine VC.calls (nt := 67) (res := #[.tmp 6, .tmp 7]) Tryz.func27 rfl Tryz.ntmps27 Tryz.results27 rfl ?_
 refine jS (jR (ja rfl (ja rfl (jO (jN (jv3 0 1 2 ?_))))))
 refine jS (jR (jm rfl (je (Run.nilck rfl) (jf rfl zay rfl zct (jl rfl zdv (hS.blk.cell 1) (jm rfl (je (Run.indexS _ rfl rfl zbk zbw jo) (je (Run.loadA rfl Tryz.isAgg66 zbw hel (by first | rfl | (simp; done))) ?_))))))))
 refine Ops.m (qV.alloc pZ) rfl ?_
 rintro _ w1 ⟨rfl, hF1⟩
 refine Ops.st (qR.storeA rfl rfl zbw hF1.blk rfl (by intro v hv; exact EC_one [⟨x, _, xc⟩] v (by simpa [EC] using hv))) ?_
 rintro w2 ⟨hb2, hf2, hs2⟩
 have hb2 : Blk w2 w.heap.size 66 #[.int .u64 ((x.id : Nat) : Int), .int .i64 ((x.size : Nat) : Int), .int .u32 ((x.sum : Nat) : Int), .slice (some ad2) x.begins.length xc] := hb2
 have K := (K.trans hF1.frm jp).own hf2 jp
 have hS2 := hS.frm K
 have hcel := K.cell hcel jp
 refine jO (jN (jv4 0 1 2 8 ?_))
 refine jS (jR (jf rfl zbj rfl zc (jl rfl zg (hb2.cell 1) (jm rfl (jb rfl rfl (Bin.mul_i64 256 _ jo) (jb rfl rfl (Bin.sub_i64 _ _ jo jo) (je (Run.minN 256 (x.size - 256 * k) C.length rfl rfl hC) (ja rfl (jO (jN (jv5 0 1 2 8 9 ?_)))))))))))
 refine jS ?_
 refine VC.held (fun v => Frm [] w2 v) jK ?_
 have hW : (fun v => Frm [] w2 v) w2.drew := (qQ.drew w2).frm
 have hS := hW
 refine jH 0 rfl hS (fun w0 hw0 => Run.fieldAddr rfl zbj rfl zar jd) ?_
 refine jH 1 rfl hS (fun w0 hw0 => Run.load rfl zbq ((hb2.frm hw0 jp).cell 3)) ?_
 refine jH 2 rfl hS (fun w0 hw0 => Run.mv rfl) ?_
 refine jH 3 rfl hS (fun w0 hw0 => Run.index1 _ rfl rfl zd zc jo) ?_
 refine jH 4 rfl hS (fun w0 hw0 => Run.load rfl zg (hw0.cell hcel jp)) ?_
 refine jH 5 rfl hS (fun w0 hw0 => Run.mv rfl) ?_
 refine jH 6 rfl hS (fun w0 hw0 => Run.mv rfl) ?_
 refine jH 7 rfl hS (fun w0 hw0 => Run.mv rfl) ?_
 refine qK.cl 8 rfl jK (jE3 Tryz.call47) (hends _ (hS2.frm hW)) trivial rfl rfl ?_
 rintro e w3 ⟨rfl, hf3⟩
 have hW := hW.trans hf3 jp
 have hS := hW
 refine ⟨_, rfl, hS, ?_⟩
 refine jH 9 rfl hS (fun w0 hw0 => Run.asg rfl) ?_
 refine jH 10 rfl hS (fun w0 hw0 => Run.asg rfl) ?_
 refine qK.done jK ?_
 refine jN (jv4 0 9 10 11 ?_)
 refine jS (jR (jm rfl (je (Run.nilck rfl) (jf rfl zay rfl zo (jl rfl zx ((hS2.frm hW).blk.cell 0) (jm rfl (jm rfl (jm rfl (je (Run.slice3 _ _ _ rfl zf zad rfl rfl rfl jo jo jo) ?_)))))))))
 have hlen : ((bs.drop F).take (E - F)).length = E - F := by rw [zi, zr]; omega
 have hinf := qNh (cC bA E F 1) (E - F) ((bs.drop F).take (E - F)) ((C.length : Nat) : Int) w3 jo (by rw [hlen]; omega) (fun b hb => hB b (zch (zaf hb))) (qUz bs F E h1 h2 ((hS2.frm hW).row))
 rw [hlen] at hinf
 refine jM ?_
 refine Ops.cl (jE2 Tryz.call48) (hinf) rfl ?_
 rintro e w4 ⟨hf4, hin⟩
 rw [hI] at hin
 obtain ⟨B, d, rfl, ho4, hu4, _, _, _⟩ := hin
 refine ⟨_, rfl, ?_⟩
 dsimp only at *
 refine jm rfl (je (Run.extract rfl rfl) (je (Run.extract rfl rfl) (je (Run.extract rfl rfl) (ja rfl (ja rfl (ja rfl (jO (jN (jv6 9 10 11 12 13 14 ?_)))))))))
 refine jS (jR (jm rfl (jm rfl (jb rfl rfl (Bin.eqlN _ 0) (jM ?_)))))
 refine jG ?_
 refine jG ?_
 refine jG ?_
 refine jk (Run.bin rfl rfl (Bin.sub_i64 _ _ jo jo)) ?_
 refine jk (Run.bin rfl rfl (Bin.eqlN _ _)) ?_
 refine je (Run.pickT rfl rfl au) (jM ?_)
 refine jG ?_
 refine jk (Run.lenS rfl zf) ?_
 refine jG ?_
 refine jk (Run.bin rfl rfl (Bin.eql _ _)) ?_
 refine je (Run.pickT rfl rfl au) (ja rfl (ja rfl (jO (jN (jv2 6 7 ?_)))))
 refine jT ?_
 refine cY rfl rfl ?_
 rw [decide_eq_true (rfl : ((C.length : Nat) : Int) = ((C.length : Nat) : Int))]
 exact ⟨B, d, rfl, ho4, (K.trans hW jp).trans hf4 jp, fun y hy => by have := (K.trans hW jp).size; have := hu4 y hy; omega⟩
end
section
open Go.RowKit
def en0 : En := ⟨0, 0, 0, []⟩
def b0 : Bb := (0, [])
theorem sB {L : List Bb} {i : Nat} (h : i < L.length) : L.getD i b0 ∈ L := by
 rw [ze, zb h]
 exact zt h
theorem qBy {cs : List (List Nat)} {k : Nat} (h : k < cs.length) : cs.getD k [] ∈ cs := by
 rw [ze, zb h]
 exact zt h
theorem nC : ∀ (L : List Bb) (o i : Nat), i < L.length → (cE o L).getD i en0 = ⟨(L.getD i b0).1, (L.getD i b0).2.length, crcM (L.getD i b0).2, eV (o + (outM (L.take i)).length) (chunkL (L.getD i b0).2)⟩
 | x :: L, o, 0, _ => rfl
 | x :: L, o, i + 1, h => by
  have h1 := nC L (uV o (chunkL x.2)) i (by simpa using h)
  have e : outM (x :: L.take i) = (chunkL x.2).flatMap qI ++ outM (L.take i) := rfl
  rw [cE, zey, zey, zag, h1, rC, e, za]
  congr 2
  omega
theorem kG : ∀ (cs : List (List Nat)) (o k : Nat), k < cs.length → (eV o cs).getD k 0 = o + ((cs.take k).flatMap qI).length
 | c :: cs, o, 0, _ => by simp [eV]
 | c :: cs, o, k + 1, h => by
  have h1 := kG cs (o + (qI c).length) k (by simpa using h)
  rw [eV, zey, h1, zag, zq, za]
  omega
def kE (l : List Er) (L : List Bb) : Prop := l.map Er.e = cE 0 L
theorem kE.len {l : List Er} {L : List Bb} (h : kE l L) : l.length = L.length := by
 have := congrArg List.length h
 rw [zl, lE] at this
 exact this
theorem kE.get {l : List Er} {L : List Bb} (h : kE l L) {i : Nat} (hi : i < L.length) : (l.getD i er0).e = ⟨(L.getD i b0).1, (L.getD i b0).2.length, crcM (L.getD i b0).2, eV (outM (L.take i)).length (chunkL (L.getD i b0).2)⟩ := by
 have h1 := nC L 0 i hi
 rw [← h, zap] at h1
 rw [← h1]
 have hl := h.len
 rw [ze, ze, zbd, zb jo]
 rfl
theorem rE {L : List Bb} {i : Nat} (h : i < L.length) : outM (L.take (i + 1)) = outM (L.take i) ++ (chunkL (L.getD i b0).2).flatMap qI := by
 rw [zah, zb h, ze, zb h]
 exact qJf _ _
theorem qSx {cs : List (List Nat)} {o : Nat} (h : eV o cs = []) : cs = [] := by
 have := dP cs o
 rw [h] at this
 exact zab this.symm
theorem oW {l : List Er} {L : List Bb} (h : kE l L) {i : Nat} : ∀ t, i + t ≤ L.length → (∀ m, i ≤ m → m < i + t → (l.getD m er0).e.begins = []) → outM (L.take (i + t)) = outM (L.take i)
 | 0, _, _ => rfl
 | t + 1, ht, hm => by
  have h1 := oW h t jo (fun m h1 h2 => hm m h1 jo)
  have h2 := hm (i + t) jo jo
  rw [h.get jo] at h2
  have h3 := qSx h2
  rw [show i + (t + 1) = (i + t) + 1 by omega, rE jo, h1, h3]
  simp
theorem wG {cs : List (List Nat)} {k : Nat} (h : k < cs.length) : (cs.take (k + 1)).flatMap qI = (cs.take k).flatMap qI ++ qI (cs.getD k []) := by
 rw [zah, zb h, zw, ze, zb h]
 simp
noncomputable def chE (L : List Bb) (i k : Nat) : Nat := (outM (L.take i)).length + (((chunkL (L.getD i b0).2).take (k + 1)).flatMap qI).length
theorem qU0 {l : List Er} {L : List Bb} (h : kE l L) {i k : Nat} (hi : i < L.length) (hk : k < (chunkL (L.getD i b0).2).length) : qJu l (outM L).length i k (chE L i k) := by
 have hg := h.get hi
 have hl := h.len
 unfold qJu
 rw [hg]
 dsimp only
 rw [dP]
 refine ⟨fun h1 => ?_, fun h1 => ⟨fun j hij hj hm hne => ?_, fun hm => ?_⟩⟩
 ·
  rw [kG _ _ _ h1]
  rfl
 ·
  have hkE : chE L i k = (outM (L.take (i + 1))).length := by
   unfold chE
   rw [zm h1, rE hi, za]
  have h2 := oW (i := i + 1) h (j - (i + 1)) jo (fun m h3 h4 => hm m jo jo)
  rw [show i + 1 + (j - (i + 1)) = j by omega] at h2
  have hgj := h.get (i := j) jo
  rw [hgj] at hne ⊢
  dsimp only at hne ⊢
  have h3 : 0 < (chunkL (L.getD j b0).2).length := by
   rw [← dP _ (outM (L.take j)).length]
   exact List.length_pos_iff.2 hne
  rw [kG _ _ _ h3, h2, hkE]
  simp
 have hkE : chE L i k = (outM (L.take (i + 1))).length := by
  unfold chE
  rw [zm h1, rE hi, za]
 have h2 := oW (i := i + 1) h (L.length - (i + 1)) jo (fun m h3 h4 => hm m jo jo)
 rw [show i + 1 + (L.length - (i + 1)) = L.length by omega, zas] at h2
 rw [hkE, h2]
theorem qSy (L : List Bb) {i k : Nat} (hi : i < L.length) (hk : k < (chunkL (L.getD i b0).2).length) :
  ∃ a b, segM L = a ++ (qI ((chunkL (L.getD i b0).2).getD k []) ++ b) ∧ a.length = (outM (L.take i)).length + (((chunkL (L.getD i b0).2).take k).flatMap qI).length ∧ chE L i k = a.length + (qI ((chunkL (L.getD i b0).2).getD k [])).length := by
 have h1 : L = L.take i ++ L.getD i b0 :: L.drop (i + 1) := by
  have h2 := (zcm i L).symm
  rw [zcn hi] at h2
  rw [ze, zb hi]
  exact h2
 have h3 : outM L = outM (L.take i) ++ ((chunkL (L.getD i b0).2).flatMap qI ++ outM (L.drop (i + 1))) := by
  have h4 : outM (L.take i ++ L.getD i b0 :: L.drop (i + 1)) = outM (L.take i) ++ ((chunkL (L.getD i b0).2).flatMap qI ++ outM (L.drop (i + 1))) := by
   unfold outM
   rw [zw, zq]
  rw [← h1] at h4
  exact h4
 have h5 : (chunkL (L.getD i b0).2).flatMap qI = ((chunkL (L.getD i b0).2).take k).flatMap qI ++ (qI ((chunkL (L.getD i b0).2).getD k []) ++ ((chunkL (L.getD i b0).2).drop (k + 1)).flatMap qI) := by
  have h6 := congrArg (fun c => c.flatMap qI) (zcm (k + 1) (chunkL (L.getD i b0).2)).symm
  rw [zw, wG hk, zj] at h6
  exact h6
 refine ⟨outM (L.take i) ++ ((chunkL (L.getD i b0).2).take k).flatMap qI, ((chunkL (L.getD i b0).2).drop (k + 1)).flatMap qI ++ outM (L.drop (i + 1)) ++ bD L ++ qF (crcM (bD L)) 4 ++ [115, 101, 97, 108], ?_, za, ?_⟩
 ·
  unfold segM
  rw [h3, h5]
  simp only [zj]
 unfold chE
 rw [wG hk, za, za]
 omega
theorem qSz {l : List Er} {L : List Bb} (h : kE l L) (hL : ∀ x ∈ L, x.2.length ≤ 4032 ∧ x.1 < 18446744073709551616 ∧ ∀ b ∈ x.2, b < 256) {i k : Nat} (hi : i < L.length) (hk : k < (chunkL (L.getD i b0).2).length) :
  (l.getD i er0).e.begins.getD k 0 ≤ chE L i k ∧ chE L i k ≤ (segM L).length ∧ jP (((segM L).drop ((l.getD i er0).e.begins.getD k 0)).take (chE L i k - (l.getD i er0).e.begins.getD k 0)) ((chunkL (L.getD i b0).2).getD k []).length = .ok ((chunkL (L.getD i b0).2).getD k [], chE L i k - (l.getD i er0).e.begins.getD k 0) := by
 obtain ⟨a, b, h1, h2, h3⟩ := qSy L hi hk
 rw [h.get hi]
 dsimp only
 rw [kG _ _ _ hk, ← h2, h1, zfm, h3]
 have hm : (chunkL (L.getD i b0).2).getD k [] ∈ chunkL (L.getD i b0).2 := qBy hk
 obtain ⟨h4, h5⟩ := nU hm
 have h6 := qWx h4 (fun b hb => (hL _ (sB hi)).2.2 b (h5 b hb))
 refine ⟨jo, by rw [za, za]; omega, ?_⟩
 rw [show a.length + (qI ((chunkL (L.getD i b0).2).getD k [])).length - a.length = (qI ((chunkL (L.getD i b0).2).getD k [])).length by omega, zhf]
 exact h6
theorem qTi {l : List Er} {L : List Bb} (h : kE l L) (hL : ∀ x ∈ L, x.2.length ≤ 4032 ∧ x.1 < 18446744073709551616 ∧ ∀ b ∈ x.2, b < 256) (hn : L.length ≤ 64) : qXx l := by
 have hl := h.len
 refine ⟨jo, fun x hx => ?_⟩
 obtain ⟨i, hi, rfl⟩ := zbe hx
 have hg := h.get (i := i) jo
 rw [ze, zb hi, zba] at hg
 obtain ⟨h1, h2, h3⟩ := hL _ (sB (i := i) jo)
 rw [hg]
 dsimp only
 refine ⟨h2, h1, mZ _, by rw [dP]; exact nV h1, fun b hb => ?_⟩
 obtain ⟨k, hk, rfl⟩ := zbe hb
 rw [dP] at hk
 have h4 := kG (chunkL (L.getD i b0).2) (outM (L.take i)).length k hk
 rw [ze, zb (by rw [dP]; exact hk), zba] at h4
 rw [h4]
 have h5 := mN (L.take i) (fun x hx => hL x (zaf hx))
 have h6 : (L.take i).length ≤ 64 := by rw [zi]; omega
 have h7 := sU h1 h3
 have h8 : (((chunkL (L.getD i b0).2).take k).flatMap qI).length ≤ ((chunkL (L.getD i b0).2).flatMap qI).length := by
  have h9 : (chunkL (L.getD i b0).2).flatMap qI = ((chunkL (L.getD i b0).2).take k).flatMap qI ++ ((chunkL (L.getD i b0).2).drop k).flatMap qI := by rw [← zw, zcm]
  rw [h9, za]
  omega
 omega
theorem qXy {L : List Bb} (hL : ∀ x ∈ L, x.2.length ≤ 4032 ∧ x.1 < 18446744073709551616 ∧ ∀ b ∈ x.2, b < 256) : ∀ b ∈ segM L, b < 256 := by
 intro b hb
 unfold segM at hb
 rcases List.mem_append.1 hb with hb | hb
 ·
  rcases List.mem_append.1 hb with hb | hb
  ·
   rcases List.mem_append.1 hb with hb | hb
   · exact qUv L (fun x hx => (hL x hx).2.2) b hb
   exact xQ L b hb
  exact kS _ _ b hb
 simp at hb
 omega
theorem qV1 {L : List Bb} (hL : ∀ x ∈ L, x.2.length ≤ 4032 ∧ x.1 < 18446744073709551616 ∧ ∀ b ∈ x.2, b < 256) (hn : L.length ≤ 64) : (segM L).length ≤ 600000 := by
 have h1 := mN L hL
 have h2 := oA L 0 (fun x hx => (hL x hx).1)
 unfold segM bD cV
 simp only [za, bV, zp, zbx]
 omega
end
section
open Go.RowKit
def zV (w : World) (g : Nat) (L : List Bb) : Prop := ∃ bA bc dA dc l, IsSg w g bA bc dA dc (segM L) l (outM L).length ∧ kE l L
theorem zV.frm {w w' : World} {g : Nat} {L : List Bb} (h : zV w g L) (k : Frm [] w w') : zV w' g L := by
 obtain ⟨bA, bc, dA, dc, l, h1, h2⟩ := h
 exact ⟨bA, bc, dA, dc, l, h1.frm k, h2⟩
def wH (d : List Nat) (f n : Nat) : Nat := if d.length ≤ f ∨ n = 0 then 0 else (f + min n (d.length - f) - 1) / 256 - f / 256 + 1
theorem qPq {L : List Bb} (h : L.Pairwise (fun a b => a.1 < b.1)) : ∀ a b, a < b → b < L.length → (L.getD a b0).1 < (L.getD b b0).1 := by
 intro a b hab hb
 rw [ze, ze, zb hb, zb jo]
 exact List.pairwise_iff_getElem.1 h a b jo hb hab
def lA (d : List Nat) (f k : Nat) : List Nat := (d.take (256 * k)).drop (256 * (f / 256))
theorem qJh (d : List Nat) (f : Nat) (h : f < d.length) : lA d f (f / 256) = [] := by
 unfold lA
 apply zea
 rw [zi]
 omega
theorem qPr (d : List Nat) (f k : Nat) (h : f / 256 ≤ k) (hk : 256 * k < d.length) : lA d f (k + 1) = lA d f k ++ (chunkL d).getD k [] := by
 rw [nJ hk]
 unfold lA
 rw [show 256 * (k + 1) = 256 * k + 256 by omega, List.take_add, zcv (by rw [zi]; omega)]
theorem qS0 (d : List Nat) (f k : Nat) : (lA d f k).length = min (256 * k) d.length - 256 * (f / 256) := by
 unfold lA
 rw [zr, zi]
theorem qS1 (d : List Nat) (f t k : Nat) (h1 : f ≤ t) (h2 : t ≤ 256 * k) (h3 : t ≤ d.length) : ((lA d f k).drop (f - 256 * (f / 256))).take (t - 256 * (f / 256) - (f - 256 * (f / 256))) = (d.drop f).take (t - f) := by
 unfold lA
 rw [List.drop_drop, show 256 * (f / 256) + (f - 256 * (f / 256)) = f by omega, show t - 256 * (f / 256) - (f - 256 * (f / 256)) = t - f by omega, List.drop_take, zhc, zal jo]
theorem uY (g i f n : Nat) (L : List Bb) (w : World) (hS : zV w g L) (hM : wW L) (hi : i < L.length) (hf : f ≤ 9223372036854775807) (hn : n ≤ 9223372036854775807) :
  Calls Tryz.prog 13 #[.pointer (some ⟨g, 0, none⟩), .int .u64 (((L.getD i b0).1 : Nat) : Int), .int .i64 ((f : Nat) : Int), .int .i64 ((n : Nat) : Int)] w fun e w' => ∃ B m, e = .returned (.tuple #[.slice B (((L.getD i b0).2.drop f).take n).length m, .int .i64 ((wH (L.getD i b0).2 f n : Nat) : Int), .int .i64 ((0 : Nat) : Int)]) ∧ Rd w' 1 B (((L.getD i b0).2.drop f).take n).length (NB (((L.getD i b0).2.drop f).take n)) ∧ Frm [] w w' := by
 obtain ⟨bA, bc, dA, dc, l, hS, ht⟩ := hS
 obtain ⟨hL, hpw, h1n, h64⟩ := hM
 have hok := qTi ht hL h64
 have hg := ht.get hi
 have hll := ht.len
 have hbl := qV1 hL h64
 have hbb := qXy hL
 obtain ⟨hd40, hid, hdb⟩ := hL _ (sB hi)
 have hfs := qPn i g bc dc _ bA dA _ l w hS hok jo (fun a b hab hb => by rw [ht.get jo, ht.get jo]; exact qPq hpw a b hab jo)
 rw [hg] at hfs
 dsimp only at hfs
 have hchk := fun (k : Nat) (W : World) (hW : IsSg W g bA bc dA dc (segM L) l (outM L).length) (hk : k < (chunkL (L.getD i b0).2).length) => by
  obtain ⟨q1, q2, q3⟩ := qSz ht hL hi hk
  have q4 := qV0 i k (chE L i k) g bc dc _ bA dA _ ((chunkL (L.getD i b0).2).getD k []) l W hW hok jo (qU0 ht hi hk) (by rw [hg]; dsimp only; rw [dP]; exact hk) jo hbb q1 q2
  rw [hg] at q4 q3
  have hkl := gZ (L.getD i b0).2
  have hcg := nJ (d := (L.getD i b0).2) (k := k) jo
  exact q4 (by dsimp only; omega) (by dsimp only; rw [hcg, zi, zr]) q3
 have hkl := gZ (L.getD i b0).2
 generalize hdd : (L.getD i b0).2 = d at *
 generalize (L.getD i b0).1 = id at *
 refine VC.calls (nt := 94) (res := #[.tmp 8, .tmp 9, .tmp 10]) Tryz.func13 rfl Tryz.ntmps13 Tryz.results13 rfl ?_
 refine jS (jR (ja rfl (jz 0 (jz 0 (jO (jN (jv4 0 1 2 3 ?_)))))))
 refine jS (jR (jm rfl (jM ?_)))
 refine Ops.cl (jE2 Tryz.call26) (hfs) rfl ?_
 rintro e w1 ⟨rfl, K⟩
 refine ⟨_, rfl, ?_⟩
 have hS1 := hS.frm K
 obtain ⟨ad, hdA, hel⟩ := hS1.dir.cell (jo : i < l.length)
 subst hdA
 have hsz := hel 1 (.int .i64 (((l.getD i er0).e.size : Nat) : Int)) rfl
 rw [hg] at hsz
 dsimp only at hsz
 refine ja rfl (jO (jN (jv4 0 2 3 11 ?_)))
 refine jS (jB (jS (jR (jm rfl (jb rfl rfl (Bin.lssN _ 0) (ja rfl (jO (jN (jv5 0 2 3 11 24 ?_)))))))))
 refine VC.condF rfl (decide_eq_false jo) ?_
 refine jS ?_
 refine VC.split1 [(0, _), (2, _), (3, _), (11, _)] (js4 rfl rfl rfl rfl) 27 (.bool (decide (f < 0 ∨ n < 0))) ?_ ?_
 ·
  refine jR ?_
  refine jm rfl (jb rfl rfl (Bin.lssN _ 0) ?_)
  by_cases hs29 : f < 0
  ·
   refine jM ?_
   refine jU ?_
   refine jU ?_
   refine je (Run.pickT rfl rfl au) (ja rfl (jO ?_))
   refine jN ⟨(js5 (jC (by first | (simp [*]; done) | (simp; omega))) rfl rfl rfl rfl), rfl⟩
  refine jM ?_
  refine jG ?_
  refine jk (Run.bin rfl rfl (Bin.lssN _ 0)) ?_
  by_cases hs32 : n < 0
  ·
   refine je (Run.pickF rfl rfl au) (ja rfl (jO ?_))
   refine jN ⟨(js5 (jC (by first | (simp [*]; done) | (simp; omega))) rfl rfl rfl rfl), rfl⟩
  refine je (Run.pickF rfl rfl au) (ja rfl (jO ?_))
  refine jN ⟨(js5 (jC (by first | (simp [*]; done) | (simp; omega))) rfl rfl rfl rfl), rfl⟩
 intro Γ hΓ
 refine jN (VC.sub _ hΓ ?_)
 refine VC.condF rfl (decide_eq_false jo) ?_
 refine jQ ?_
 refine qJ (jN ?_)
 refine jv4 0 2 3 11 ?_
 refine jS (jR (jm rfl (je (Run.nilck rfl) (jf rfl zay rfl zct (jl rfl zdv (hS1.blk.cell 1) (jm rfl (je (Run.indexS _ rfl rfl zbk zbw jo) (jf rfl zbj rfl zc (jl rfl zg hsz ?_)))))))))
 refine ja rfl (jO (jN (jv5 0 2 3 11 12 ?_)))
 refine jS (jS ?_)
 refine VC.split1 [(0, _), (2, _), (3, _), (11, _), (12, _)] (js5 rfl rfl rfl rfl rfl) 48 (.bool (decide (d.length ≤ f ∨ n = 0))) ?_ ?_
 ·
  refine jR ?_
  refine jm rfl (jm rfl (jb rfl rfl (Bin.geqN _ _) ?_))
  by_cases hs44 : d.length ≤ f
  ·
   refine jM ?_
   refine jU ?_
   refine jU ?_
   refine je (Run.pickT rfl rfl au) (jO ?_)
   refine jN ⟨(js6 (jC (by first | (simp [*]; done) | (simp; omega))) rfl rfl rfl rfl rfl), rfl⟩
  refine jM ?_
  refine jG ?_
  refine jk (Run.bin rfl rfl (Bin.eqlN _ 0)) ?_
  by_cases hs47 : n = 0
  ·
   refine je (Run.pickF rfl rfl au) (jO ?_)
   refine jN ⟨(js6 (jC (by first | (simp [*]; done) | (simp; omega))) rfl rfl rfl rfl rfl), rfl⟩
  refine je (Run.pickF rfl rfl au) (jO ?_)
  refine jN ⟨(js6 (jC (by first | (simp [*]; done) | (simp; omega))) rfl rfl rfl rfl rfl), rfl⟩
 intro Γ hΓ
 refine jN (VC.sub _ hΓ ?_)
 refine jD rfl (fun hc3 => ?_) fun hc3 => ?_
 ·
  have hnil : (d.drop f).take n = [] := by
   rcases hc3 with h | h
   · rw [zea h, List.take_nil]
   rw [h, zdt]
  have hcn : wH d f n = 0 := if_pos hc3
  refine jS (jR (ja rfl (jz 0 (jz 0 (jO (jN (jv3 8 9 10 ?_)))))))
  refine jT ?_
  refine qP (qY7 rfl rfl rfl ?_)
  rw [hnil, hcn]
  exact ⟨none, 0, rfl, Rd.nil _ _ _, K⟩
 have hfd : f < d.length := zhk (fun h => hc3 (.inl h))
 have hn0 : n ≠ 0 := fun h => hc3 (.inr h)
 obtain ⟨m0, hm0⟩ : ∃ m0, m0 = min n (d.length - f) := ⟨_, rfl⟩
 have hlen : ((d.drop f).take n).length = m0 := by rw [zi, zr]; omega
 have htk : (d.drop f).take n = (d.drop f).take (f + m0 - f) := by
  rw [show f + m0 - f = m0 by omega]
  by_cases h : n ≤ d.length - f
  · rw [hm0, zal h]
  rw [zm (by rw [zr]; omega), zm (by rw [zr]; omega)]
 have hcn : wH d f n = (f + m0 - 1) / 256 - f / 256 + 1 := by rw [hm0]; exact if_neg hc3
 refine jQ (jN (jv5 0 2 3 11 12 ?_))
 refine jS (jR (jm rfl (jm rfl (jm rfl (jm rfl (jb rfl rfl (Bin.sub_i64 _ _ jo jo) (je (Run.minN n (d.length - f) m0 rfl rfl hm0) (jb rfl rfl (Bin.add_i64 _ _ jo) (ja rfl (jO (jN (jv4 0 2 11 13 ?_))))))))))))
 refine jS (jR (ja rfl (jO (jN (jS (jR (jm rfl (jb rfl rfl (Bin.quo_i64 _ 256 jo jo) (jm rfl (jb rfl rfl (Bin.sub_i64 _ 1 jo jo) (jb rfl rfl (Bin.quo_i64 _ 256 jo jo) (ja rfl (ja rfl (jO (jN (jv7 0 2 11 13 14 15 16 ?_))))))))))))))))
 refine jS (jS (jR (jm rfl (ja rfl (jO (jN (jv8 0 2 11 13 14 15 16 17 ?_)))))))
 refine jB ?_
 refine VC.loop (σ := Nat × Option Addr × Nat) (fun s => [(0, .pointer (some ⟨g, 0, none⟩)), (2, .int .i64 ((f : Nat) : Int)), (11, .int .i64 ((i : Nat) : Int)), (13, .int .i64 ((f + m0 : Nat) : Int)), (14, .slice s.2.1 (lA d f s.1).length s.2.2), (15, .int .i64 ((f / 256 : Nat) : Int)), (16, .int .i64 (((f + m0 - 1) / 256 : Nat) : Int)), (17, .int .i64 ((s.1 : Nat) : Int))]) (fun s wr => f / 256 ≤ s.1 ∧ s.1 ≤ (f + m0 - 1) / 256 + 1 ∧ Own wr 5 1 s.2.1 (lA d f s.1).length s.2.2 (NB (lA d f s.1)) ∧ Frm [] w wr ∧ ∀ x ∈ ob s.2.1, w.heap.size ≤ x) (fun s => (f + m0 - 1) / 256 + 1 - s.1) (f / 256, none, 0) (js8 rfl rfl rfl rfl (by rw [qJh d f hfd]; rfl) rfl rfl rfl) ⟨zk _, jo, by rw [qJh d f hfd]; exact Own.nil _ _ _, K, by simp [ob]⟩ ?_
 rintro ⟨k, B, m⟩ wr ⟨hk1, hk2, ho, K, hob⟩
 dsimp only at *
 have hol := qS0 d f k
 refine jS (jS (jR (jm rfl (jm rfl (jb rfl rfl (Bin.leqN _ _) (jO (jN (jv9 0 2 11 13 14 15 16 17 64 ?_))))))))
 refine jD rfl (fun hc4 => ?_) fun hc4 => ?_
 ·
  have hkd : 256 * k < d.length := jo
  have hosn := qPr d f k hk1 hkd
  have hCl : ((chunkL d).getD k []).length ≤ 256 := by rw [nJ hkd, zi]; omega
  refine jQ (jN (jv8 0 2 11 13 14 15 16 17 ?_))
  refine jS (jB (jS (jR (jm rfl (jm rfl (jM ?_))))))
  refine Ops.cl (jE3 Tryz.call27) (hchk k _ (hS.frm K) jo) rfl ?_
  rintro e w2 ⟨B2, m2, rfl, ho2, hf2, hu2⟩
  refine ⟨_, rfl, ?_⟩
  have ho := ho.frm hf2 jp
  have K := K.trans hf2 jp
  refine jm rfl (je (Run.extract rfl rfl) (je (Run.extract rfl rfl) (ja rfl (ja rfl (jO (jN (jv10 0 2 11 13 14 15 16 17 18 19 ?_)))))))
  refine jS (jS (jR (jm rfl (je (Run.not rfl) (jO (jN (jv10 0 2 11 13 14 15 16 17 18 75 ?_)))))))
  refine VC.condF rfl (rfl) ?_
  refine jQ (jN (jv9 0 2 11 13 14 15 16 17 18 ?_))
  refine jR (jm rfl (jM ?_))
  refine Ops.m (qV.app rfl rfl zf (eA) rfl jd ho ho2.rd (eP _) jo jo) rfl ?_
  rintro _ w3 ⟨B3, m3, rfl, ho3, hf3, hob3⟩
  rw [← fD, ← hosn] at ho3
  have hks := K.size
  have K := K.own hf3 hob
  have hob2 : ∀ y ∈ ob B3, w.heap.size ≤ y := fun y hy => by
   rcases hob3 with h | h
   · rw [h] at hy; exact hob y hy
   rw [h, zh] at hy; omega
  have hsl : (lA d f (k + 1)).length = (lA d f k).length + ((chunkL d).getD k []).length := by rw [hosn, za]
  rw [← hsl]
  refine ja rfl (jO ?_)
  refine qJ (jN ?_)
  refine jv8 0 2 11 13 14 15 16 17 ?_
  refine jR (jm rfl (jb rfl rfl (Bin.add_i64 _ 1 jo) (ja rfl (jO ?_))))
  refine jN ⟨(k + 1, B3, m3), (js8 rfl rfl rfl rfl rfl rfl rfl rfl), ?_, ?_⟩
  · exact ⟨jo, jo, by first | exact ho3 | (rw [hsl]; exact ho3), K, hob2⟩
  first | omega | (dsimp only; omega)
 obtain rfl : k = (f + m0 - 1) / 256 + 1 := jo
 have hle := ho.le
 have hcut := ho.rd.cut (l := f - f / 256 * 256) (r := f + m0 - f / 256 * 256) (cap := m) jo (by rw [hol]; omega) hle
 rw [zdq, zdq] at hcut
 have hoc := by
  have h := qS1 d f (f + m0) ((f + m0 - 1) / 256 + 1) jo jo jo
  rw [zcw 256 (f / 256)] at h
  exact h
 have hNB : ((NB (lA d f ((f + m0 - 1) / 256 + 1))).drop (f - f / 256 * 256)).take (f + m0 - f / 256 * 256 - (f - f / 256 * 256)) = NB ((d.drop f).take n) := by rw [htk, ← hoc]; simp [NB, zdf, zgk]
 rw [hNB] at hcut
 have hcl2 : f + m0 - f / 256 * 256 - (f - f / 256 * 256) = ((d.drop f).take n).length := by rw [hlen]; omega
 refine jX ?_
 refine qZ (qZ (qW ?_))
 refine jN (jv5 2 13 14 15 16 ?_)
 refine jS (jR (jm rfl (jb rfl rfl (Bin.mul_i64 _ 256 jo) (ja rfl (jO (jN (jv6 2 13 14 15 16 20 ?_)))))))
 refine jS (jR (jm rfl (jm rfl (jm rfl (jb rfl rfl (Bin.sub_i64 _ _ jo jo) (jm rfl (jm rfl (jb rfl rfl (Bin.sub_i64 _ _ jo jo) (je (Run.sliceS _ _ rfl zf zad (evB.some_ rfl) (evB.some_ rfl) jo jo) ?_)))))))))
 refine Ops.cl (jE1 Tryz.call28) (qWj _ _ _ ((d.drop f).take n) _ hcl2.symm jo hcut) rfl ?_
 rintro e w4 ⟨B4, m4, rfl, ho4, hf4, hob4⟩
 refine ⟨_, rfl, ?_⟩
 refine jm rfl (jm rfl (jb rfl rfl (Bin.sub_i64 _ _ jo jo) (jb rfl rfl (Bin.add_i64 _ 1 jo) (ja rfl (ja rfl (jz 0 (jO (jN (jv3 8 9 10 ?_)))))))))
 refine jT ?_
 refine qY7 rfl rfl rfl ?_
 rw [hcn, ← hcl2]
 exact ⟨B4, m4, rfl, by rw [hcl2] at ho4 ⊢; exact ho4.rd, K.trans hf4 jp⟩
end
section
open Go.RowKit
theorem xX {bs s : List Nat} {a wh v n : Nat} (h : bs.drop a = qF v n ++ s) (hv : v < 256 ^ n) (hn : 1 ≤ n) : rdN bs a 0 wh n = (v, a + n, 0, wh) ∧ bs.drop (a + n) = s ∧ a + n ≤ bs.length := by
 have h1 := congrArg List.length h
 rw [zr, za, bV] at h1
 have h2 : numAt bs a n = v := by
  unfold numAt
  rw [h, zcg (by rw [bV]; omega), zm (by rw [bV]; omega)]
  exact yS n v hv
 refine ⟨?_, ?_, jo⟩
 ·
  unfold rdN
  rw [if_neg jo, if_neg jo, h2]
 rw [← List.drop_drop, h]
 exact List.drop_left' (bV v n)
noncomputable def fU (L : List Bb) (i : Nat) : Nat := 2 + (((cE 0 L).take i).flatMap gK).length
noncomputable def fB (L : List Bb) (i k : Nat) : Nat := (outM (L.take i)).length + (((chunkL (L.getD i b0).2).take k).flatMap qI).length
theorem qJi (L : List Bb) (i : Nat) : (cV L).drop (fU L i) = ((cE 0 L).drop i).flatMap gK ++ qF (nK 0 L) 4 := by
 have h1 : cV L = (qF L.length 2 ++ ((cE 0 L).take i).flatMap gK) ++ (((cE 0 L).drop i).flatMap gK ++ qF (nK 0 L) 4) := by
  unfold cV
  rw [show (cE 0 L).flatMap gK = ((cE 0 L).take i).flatMap gK ++ ((cE 0 L).drop i).flatMap gK by rw [← zw, zcm]]
  simp only [zj]
 have h2 : (qF L.length 2 ++ ((cE 0 L).take i).flatMap gK).length = fU L i := by rw [za, bV]; rfl
 rw [h1, ← h2, zfm]
theorem qS2 {L : List Bb} {i : Nat} (h : i < L.length) : (cE 0 L).drop i = ⟨(L.getD i b0).1, (L.getD i b0).2.length, crcM (L.getD i b0).2, eV (outM (L.take i)).length (chunkL (L.getD i b0).2)⟩ :: (cE 0 L).drop (i + 1) := by
 have hl := lE L 0
 have h1 := nC L 0 i h
 rw [zap] at h1
 rw [← h1, zcn jo, ze, zb jo]
 rfl
theorem qPs {L : List Bb} {i : Nat} (h : i < L.length) : fU L (i + 1) = fU L i + 14 + 4 * (chunkL (L.getD i b0).2).length := by
 have hl := lE L 0
 have h1 : (cE 0 L).take (i + 1) = (cE 0 L).take i ++ [⟨(L.getD i b0).1, (L.getD i b0).2.length, crcM (L.getD i b0).2, eV (outM (L.take i)).length (chunkL (L.getD i b0).2)⟩] := by
  have h2 := nC L 0 i h
  rw [zap] at h2
  rw [← h2, zah, ze, zb jo]
  rfl
 unfold fU
 rw [h1, zw, za, zcp, qVx]
 dsimp only
 rw [dP]
 omega
theorem rF : ∀ (L : List Bb) (o i : Nat), cE o (L.take i) = (cE o L).take i
 | [], o, i => by simp [cE]
 | x :: L, o, 0 => rfl
 | x :: L, o, i + 1 => by rw [zag, cE, cE, zag, rF L]
theorem qPt {L : List Bb} {i : Nat} (h : i < L.length) : cE 0 (L.take (i + 1)) = cE 0 (L.take i) ++ [⟨(L.getD i b0).1, (L.getD i b0).2.length, crcM (L.getD i b0).2, eV (outM (L.take i)).length (chunkL (L.getD i b0).2)⟩] := by
 have hl := lE L 0
 have h2 := nC L 0 i h
 rw [zap] at h2
 rw [rF, rF, ← h2, zah, ze, zb jo]
 rfl
theorem qBz {L : List Bb} {i : Nat} (h : i < L.length) : (cV L).drop (fU L i) = qF (L.getD i b0).1 8 ++ (qF (L.getD i b0).2.length 2 ++ (qF (crcM (L.getD i b0).2) 4 ++ ((eV (outM (L.take i)).length (chunkL (L.getD i b0).2)).flatMap (fun b => qF b 4) ++ (((cE 0 L).drop (i + 1)).flatMap gK ++ qF (nK 0 L) 4)))) := by
 rw [qJi, qS2 h, zq]
 unfold gK
 simp only [zj]
theorem qS3 {L : List Bb} {i k : Nat} (hk : k < (chunkL (L.getD i b0).2).length) (R : List Nat) : ((eV (outM (L.take i)).length (chunkL (L.getD i b0).2)).drop k).flatMap (fun b => qF b 4) ++ R = qF (fB L i k) 4 ++ (((eV (outM (L.take i)).length (chunkL (L.getD i b0).2)).drop (k + 1)).flatMap (fun b => qF b 4) ++ R) := by
 have hl := dP (chunkL (L.getD i b0).2) (outM (L.take i)).length
 have h1 := kG (chunkL (L.getD i b0).2) (outM (L.take i)).length k hk
 rw [ze, zb jo, zba] at h1
 rw [zcn jo, h1, zq, zj]
 rfl
theorem qS4 {L : List Bb} {i k : Nat} (hk : k < (chunkL (L.getD i b0).2).length) : (eV (outM (L.take i)).length (chunkL (L.getD i b0).2)).take (k + 1) = (eV (outM (L.take i)).length (chunkL (L.getD i b0).2)).take k ++ [fB L i k] := by
 have hl := dP (chunkL (L.getD i b0).2) (outM (L.take i)).length
 have h1 := kG (chunkL (L.getD i b0).2) (outM (L.take i)).length k hk
 rw [ze, zb jo, zba] at h1
 rw [zah, zb jo, h1]
 rfl
theorem qPu {L : List Bb} {i k : Nat} (hk : k < (chunkL (L.getD i b0).2).length) : fB L i k ≤ fB L i (k + 1) := by
 unfold fB
 rw [wG hk, za]
 omega
theorem qS5 {L : List Bb} {i : Nat} (hi : i < L.length) : fB L i (chunkL (L.getD i b0).2).length = (outM (L.take (i + 1))).length := by
 unfold fB
 rw [zas, rE hi, za]
theorem qU1 {L : List Bb} (hL : ∀ x ∈ L, x.2.length ≤ 4032 ∧ x.1 < 18446744073709551616 ∧ ∀ b ∈ x.2, b < 256) (hn : L.length ≤ 64) {i : Nat} (hi : i < L.length) (k : Nat) : fB L i k ≤ 600000 := by
 obtain ⟨h1, _, h3⟩ := hL _ (sB hi)
 have h5 := mN (L.take i) (fun x hx => hL x (zaf hx))
 have h6 : (L.take i).length ≤ 63 := by rw [zi]; omega
 have h7 := sU h1 h3
 have h8 : (((chunkL (L.getD i b0).2).take k).flatMap qI).length ≤ ((chunkL (L.getD i b0).2).flatMap qI).length := by
  have h9 : (chunkL (L.getD i b0).2).flatMap qI = ((chunkL (L.getD i b0).2).take k).flatMap qI ++ ((chunkL (L.getD i b0).2).drop k).flatMap qI := by rw [← zw, zcm]
  rw [h9, za]
  omega
 unfold fB
 omega
theorem qV2 {L : List Bb} (hL : ∀ x ∈ L, x.2.length ≤ 4032 ∧ x.1 < 18446744073709551616 ∧ ∀ b ∈ x.2, b < 256) (hn : L.length ≤ 64) : (outM L).length ≤ 600000 := by
 have h5 := mN L hL
 omega
theorem qU2 (L : List Bb) : ∀ b ∈ cV L, b < 256 := fun b hb => xQ L b (by unfold bD; exact zhn _ hb)
theorem qS6 {L : List Bb} (hL : ∀ x ∈ L, x.2.length ≤ 4032 ∧ x.1 < 18446744073709551616 ∧ ∀ b ∈ x.2, b < 256) (hn : L.length ≤ 64) : (cV L).length ≤ 600000 := by
 have h2 := oA L 0 (fun x hx => (hL x hx).1)
 unfold cV
 simp only [za, bV]
 omega
theorem qS7 {L : List Bb} : (cV L).drop (fU L L.length) = qF (outM L).length 4 ++ [] ∧ (cV L).length = fU L L.length + 4 := by
 have hl := lE L 0
 have h1 := qJi L L.length
 rw [zea (by omega : (cE 0 L).length ≤ L.length), kY] at h1
 refine ⟨by rw [h1]; simp, ?_⟩
 unfold cV fU
 rw [zm jo]
 simp only [za, bV]
end
end Go.Proofs.YtndjgmbfkkgpdaaGreat
