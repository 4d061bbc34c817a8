/-
  Lemmas on the way, joined: StoQD.
-/
import Derived.Test.YtgmbmfpfhcekiaaGreatPk3
set_option maxRecDepth 100000
set_option linter.unusedVariables false
set_option linter.unusedSimpArgs false
namespace Go.Proofs.YtgmbmfpfhcekiaaGreat
section
open Go.RowKit Go.Sort
set_option maxHeartbeats 1000000 in
theorem pR (m : MlC) (q : Tx) (w : World) (hm : RawL w m) (hbb : m.b ≤ 9223372036854775807) (hv : cQ w) :
  Calls Tryz.prog 4 #[m.val, encStr q] w fun e w' => e = .returned (.bool true) ∧ Frm [] w w' := by
 have hq70 : (q.take 70).length ≤ 70 := zcr _ _
 refine VC.calls (nt := 44) (res := #[.tmp 4]) Tryz.func4 rfl Tryz.ntmps4 Tryz.results4 rfl ?_
 refine jS (jR ?_)
 refine Ops.m (qK.box rfl) rfl ?_
 rintro _ w1 ⟨rfl, hF1⟩
 have hb2 : Blk w1 w.heap.size 25 m.cells.toArray := hF1.blk
 have K := hF1.frm
 have hsK := K.size
 generalize hg2 : w.heap.size = g2 at hb2 ⊢
 refine ja rfl (jO (jN (jv2 1 2 ?_)))
 refine jS (jR (je (Run.loadA rfl zh zc (fun j v hj => hb2.cells j v hj) (by first | rfl | (simp; done))) ?_))
 refine Ops.cl (jE1 Tryz.call11) (nK m _ (hm.frm K)) rfl ?_
 rintro e w2 ⟨m1, rfl, hpm1, hO1, hvm1, hf_w2⟩
 refine ⟨_, rfl, ?_⟩
 have hb2 := hb2.frm hf_w2 jp
 have K := Frm.trans K hf_w2 jp
 refine jM ?_
 refine Ops.cl (jE1 Tryz.call12) (gM q _) rfl ?_
 rintro e _ ⟨rfl, rfl⟩
 refine ⟨_, rfl, ?_⟩
 refine Ops.st (qP.storeA rfl rfl zc hb2 rfl (MlC.cells_one m1)) ?_
 rintro w3 ⟨hbn_w3, hf_w3, hsz_w3⟩
 have hO1 := hO1.blk hf_w3 hb2 jd jd jd
 have hb2 : Blk w3 g2 25 (m1.cells.toArray) := hbn_w3
 have K := Frm.own K hf_w3 (fun y hy => by simp at hy; omega)
 refine ja rfl (jO (jN (jv2 1 2 ?_)))
 refine jS (jR (je (Run.loadA rfl zh zc (fun j v hj => hb2.cells j v hj) (by first | rfl | (simp; done))) ?_))
 refine Ops.cl (jE1 Tryz.call11) (nK m1 _ hO1.raw) rfl ?_
 rintro e w4 ⟨m2, rfl, hpm2, hO2, hvm2, hf_w4⟩
 refine ⟨_, rfl, ?_⟩
 have hb2 := hb2.frm hf_w4 jp
 have hO1 := hO1.frm hf_w4
 have K := Frm.trans K hf_w4 jp
 refine Ops.m (qK.alloc bZ) rfl ?_
 rintro _ w5 ⟨rfl, hF_w5⟩
 have hb5 := hF_w5.blk
 have hs5_K := K.size
 have lt_hb2_5 := hb2.lt
 have hb2 := hb2.frm hF_w5.frm jp
 have hO1 := hO1.frm hF_w5.frm
 have hO2 := hO2.frm hF_w5.frm
 have K := Frm.trans K hF_w5.frm jp
 generalize hg5 : w4.heap.size = g5 at hb5 hs5_K lt_hb2_5 ⊢
 refine Ops.st (qP.storeA rfl rfl zc hb5 rfl (MlC.cells_one m2)) ?_
 rintro w6 ⟨hbn_w6, hf_w6, hsz_w6⟩
 have hb2 := hb2.frm hf_w6 (by simp; omega)
 have hO1 := hO1.blk hf_w6 hb5 jd jd jd
 have hO2 := hO2.blk hf_w6 hb5 jd jd jd
 have hb5 : Blk w6 g5 25 (m2.cells.toArray) := hbn_w6
 have K := Frm.own K hf_w6 (fun y hy => by simp at hy; omega)
 refine jO (jN (jv3 1 2 5 ?_))
 refine jS (jR (je (Run.loadA rfl zh zc (fun j v hj => hb2.cells j v hj) (by first | rfl | (simp; done))) (jM ?_)))
 refine Ops.cl (jE2 Tryz.call17) (fI m1 (q.take 70) _ hO1.rdl jo (hv.frm K)) rfl ?_
 rintro e w7 ⟨a, k, rfl, hI, hf_w7⟩
 refine ⟨_, rfl, ?_⟩
 have hb2 := hb2.frm hf_w7 jp
 have hO1 := hO1.frm hf_w7
 have hO2 := hO2.frm hf_w7
 have hb5 := hb5.frm hf_w7 jp
 have K := Frm.trans K hf_w7 jp
 have hR7 := hO1.rdl
 have K7 := Frm.refl [] w7
 refine jm rfl (je (Run.extract rfl rfl) (je (Run.extract rfl rfl) ?_))
 refine Ops.m (qK.alloc bZ) rfl ?_
 rintro _ w8 ⟨rfl, hF_w8⟩
 have hb6 := hF_w8.blk
 have hs6_K := K.size
 have hs6_K7 := K7.size
 have lt_hb2_6 := hb2.lt
 have lt_hb5_6 := hb5.lt
 have hb2 := hb2.frm hF_w8.frm jp
 have hO1 := hO1.frm hF_w8.frm
 have hO2 := hO2.frm hF_w8.frm
 have hb5 := hb5.frm hF_w8.frm jp
 have K := Frm.trans K hF_w8.frm jp
 have K7 := Frm.trans K7 hF_w8.frm jp
 generalize hg6 : w7.heap.size = g6 at hb6 hs6_K hs6_K7 lt_hb2_6 lt_hb5_6 ⊢
 refine Ops.st (qP.storeA rfl rfl zc hb6 rfl (MlC.cells_one a)) ?_
 rintro w9 ⟨hbn_w9, hf_w9, hsz_w9⟩
 have hb2 := hb2.frm hf_w9 (by simp; omega)
 have hO1 := hO1.blk hf_w9 hb6 jd jd jd
 have hO2 := hO2.blk hf_w9 hb6 jd jd jd
 have hb5 := hb5.frm hf_w9 (by simp; omega)
 have hb6 : Blk w9 g6 25 (a.cells.toArray) := hbn_w9
 have K := Frm.own K hf_w9 (fun y hy => by simp at hy; omega)
 have K7 := Frm.own K7 hf_w9 (fun y hy => by simp at hy; omega)
 refine ja rfl (jO (jN (jv5 1 2 5 6 7 ?_)))
 refine jS (jR (je (Run.loadA rfl zh zc (fun j v hj => hb2.cells j v hj) (by first | rfl | (simp; done))) (jM ?_)))
 refine Ops.cl (jE2 Tryz.call18) (oV m1 (q.take 70) _ hO1.rdl jo (by rw [hvm1]; exact hbb)) rfl ?_
 rintro e w10 ⟨b, k2, rfl, hJ, hf_w10⟩
 refine ⟨_, rfl, ?_⟩
 have hb2 := hb2.frm hf_w10 jp
 have hO1 := hO1.frm hf_w10
 have hO2 := hO2.frm hf_w10
 have hb5 := hb5.frm hf_w10 jp
 have hb6 := hb6.frm hf_w10 jp
 have K := Frm.trans K hf_w10 jp
 have K7 := Frm.trans K7 hf_w10 jp
 have K10 := Frm.refl [] w10
 obtain ⟨rfl, hE⟩ := hI.same hJ
 refine jm rfl (je (Run.extract rfl rfl) (je (Run.extract rfl rfl) ?_))
 refine Ops.m (qK.alloc bZ) rfl ?_
 rintro _ w11 ⟨rfl, hF_w11⟩
 have hb8 := hF_w11.blk
 have hs8_K := K.size
 have hs8_K7 := K7.size
 have hs8_K10 := K10.size
 have lt_hb2_8 := hb2.lt
 have lt_hb5_8 := hb5.lt
 have lt_hb6_8 := hb6.lt
 have hb2 := hb2.frm hF_w11.frm jp
 have hO1 := hO1.frm hF_w11.frm
 have hO2 := hO2.frm hF_w11.frm
 have hb5 := hb5.frm hF_w11.frm jp
 have hb6 := hb6.frm hF_w11.frm jp
 have K := Frm.trans K hF_w11.frm jp
 have K7 := Frm.trans K7 hF_w11.frm jp
 have K10 := Frm.trans K10 hF_w11.frm jp
 generalize hg8 : w10.heap.size = g8 at hb8 hs8_K hs8_K7 hs8_K10 lt_hb2_8 lt_hb5_8 lt_hb6_8 ⊢
 refine Ops.st (qP.storeA rfl rfl zc hb8 rfl (MlC.cells_one b)) ?_
 rintro w12 ⟨hbn_w12, hf_w12, hsz_w12⟩
 have hb2 := hb2.frm hf_w12 (by simp; omega)
 have hO1 := hO1.blk hf_w12 hb8 jd jd jd
 have hO2 := hO2.blk hf_w12 hb8 jd jd jd
 have hb5 := hb5.frm hf_w12 (by simp; omega)
 have hb6 := hb6.frm hf_w12 (by simp; omega)
 have hb8 : Blk w12 g8 25 (b.cells.toArray) := hbn_w12
 have K := Frm.own K hf_w12 (fun y hy => by simp at hy; omega)
 have K7 := Frm.own K7 hf_w12 (fun y hy => by simp at hy; omega)
 have K10 := Frm.own K10 hf_w12 (fun y hy => by simp at hy; omega)
 have hRa := hI.rdl K7 hR7
 have hRb := hJ.1.frm K10
 refine ja rfl (jO (jN (jv6 2 5 6 7 8 9 ?_)))
 refine jS (jR (je (Run.loadA rfl zh zc (fun j v hj => hb6.cells j v hj) (by first | rfl | (simp; done))) (je (Run.loadA rfl zh zc (fun j v hj => hb8.cells j v hj) (by first | rfl | (simp; done))) ?_)))
 refine Ops.cl (jE2 Tryz.call15) (lH a b _ hRa hRb) rfl ?_
 rintro e w13 ⟨rfl, hf_w13⟩
 rw [decide_eq_true (hE)]
 refine ⟨_, rfl, ?_⟩
 have hb2 := hb2.frm hf_w13 jp
 have hO1 := hO1.frm hf_w13
 have hO2 := hO2.frm hf_w13
 have hb5 := hb5.frm hf_w13 jp
 have hb6 := hb6.frm hf_w13 jp
 have hb8 := hb8.frm hf_w13 jp
 have K := Frm.trans K hf_w13 jp
 have K7 := Frm.trans K7 hf_w13 jp
 have K10 := Frm.trans K10 hf_w13 jp
 refine jM ?_
 refine jG ?_
 refine jG ?_
 refine jk (Run.bin rfl rfl (Bin.eqlN _ _)) ?_
 refine je (Run.pickT rfl rfl au) (jM ?_)
 refine jk (Run.loadA rfl zh zc (fun j v hj => hb2.cells j v hj) (by first | rfl | (simp; done))) ?_
 refine jk (Run.loadA rfl zh zc (fun j v hj => hb5.cells j v hj) (by first | rfl | (simp; done))) ?_
 refine Ops.clg rfl au (jE2 Tryz.call15) (lH m1 m2 _ hO1.rdl hO2.rdl) rfl ?_
 rintro e w14 ⟨rfl, hf_w14⟩
 rw [decide_eq_true (by rw [hpm2, hpm1, vA])]
 refine ⟨_, rfl, ?_⟩
 have hb2 := hb2.frm hf_w14 jp
 have hO1 := hO1.frm hf_w14
 have hO2 := hO2.frm hf_w14
 have hb5 := hb5.frm hf_w14 jp
 have hb6 := hb6.frm hf_w14 jp
 have hb8 := hb8.frm hf_w14 jp
 have K := Frm.trans K hf_w14 jp
 have K7 := Frm.trans K7 hf_w14 jp
 have K10 := Frm.trans K10 hf_w14 jp
 refine je (Run.pickT rfl rfl au) (jM ?_)
 refine Ops.clg rfl au (jE0 Tryz.call16) (pM _ (hv.frm K)) rfl ?_
 rintro e w15 ⟨rfl, hf_w15⟩
 refine ⟨_, rfl, ?_⟩
 have hb2 := hb2.frm hf_w15 jp
 have hO1 := hO1.frm hf_w15
 have hO2 := hO2.frm hf_w15
 have hb5 := hb5.frm hf_w15 jp
 have hb6 := hb6.frm hf_w15 jp
 have hb8 := hb8.frm hf_w15 jp
 have K := Frm.trans K hf_w15 jp
 have K7 := Frm.trans K7 hf_w15 jp
 have K10 := Frm.trans K10 hf_w15 jp
 refine je (Run.pickT rfl rfl au) (ja rfl (jO (jN (jv1 4 ?_))))
 refine jT ?_
 refine qN rfl ?_
 exact ⟨rfl, K⟩
end
end Go.Proofs.YtgmbmfpfhcekiaaGreat
