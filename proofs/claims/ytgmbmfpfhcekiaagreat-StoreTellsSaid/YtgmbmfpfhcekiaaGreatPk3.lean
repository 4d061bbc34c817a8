/-
  Lemmas on the way, joined: StoS, StoT, StoV, StoW, SeqU, StoX, BoxI, BoxR, BoxK, StoY, StoZ, FlagA, BoxF, BoxX, BoxZ.
-/
import Derived.Test.YtgmbmfpfhcekiaaGreatPk2
set_option maxRecDepth 100000
set_option linter.unusedVariables false
set_option linter.unusedSimpArgs false
namespace Go.Proofs.YtgmbmfpfhcekiaaGreat
section
open Go.RowKit Go.Sort
theorem qZv {w w' : World} {m : MlC} {A : Option Addr} {c : Nat} {l : List Nc} (ho : Own w' 45 4 A l.length c (NDC l)) (hf : ∀ b ∈ ob A, w.heap.size ≤ b) (hl : l.length ≤ 1000000) (hx : ∀ w'', RdL w'' m → ∀ y ∈ l, y.At w'') : cZ w w' (ob A) m (m.wl A c l) := by
 refine ⟨hf, fun w'' T kT hT hm => ?_⟩
 have ho := ho.frm kT (fun y hy h => hT y h hy)
 exact ⟨⟨ho.rd, hx w'' hm⟩, hm.s, ho.le, hm.sc, hl, hm.sn, hm.sq⟩
theorem qZw {q : Tx} {l : List Nc} {x : Nc} (h : goP q x.nm) : goC q (l ++ [x]) = goC q l ++ [x] ∧ stC q (l ++ [x]) = stC q l := by
 unfold goC stC
 simp [zca, h]
theorem qZx {q : Tx} {l : List Nc} {x : Nc} (h : ¬ goP q x.nm) : goC q (l ++ [x]) = goC q l ∧ stC q (l ++ [x]) = stC q l ++ [x] := by
 unfold goC stC
 simp [zca, h]
theorem qVe {w : World} {x : Nc} (q t : Tx) (h : x.At w) : (eM q t x).At w := ⟨h.rd, h.n, by
 show (okD (cA x.nm q t)).length ≤ _
 cases e : cA x.nm q t with
 | error k => simp [okD]
 | ok s => have := tS e; show s.length ≤ _; omega⟩
set_option maxHeartbeats 2000000 in
theorem vZ (m : MlC) (q t : Tx) (w : World) (hm : RdL w m) (hq : q.length ≤ 400000) (ht : t.length ≤ 400000) (hr : bN m.p.l) (h24 : m.l.length ≤ 24) (h0 : 1 ≤ m.v) (h1 : m.v ≤ 2147483647) (hL : (∀ x ∈ goF q m.p.l, lM (stF q m.p.l) q t x) → dR m.p (bR (stF q m.p.l) (upN t)).length (bR (stF q m.p.l) (upN t)).length = 0 → sH m.p q t) (hv : cQ w) :
  Calls Tryz.prog 63 #[m.val, encStr q, encStr t] w fun e w' => ∃ (m' : MlC) (k : Nat), e = .returned (.tuple #[m'.val, .int .i64 ((k : Nat) : Int)]) ∧ cD w w' m (gF m.p q t) m' k ∧ Frm [] w w' := by
 have hln := hm.ln
 have hpl := dK m
 have hdl : (goC q m.l).length + (stC q m.l).length ≤ m.l.length := oW _ _ (fun x h => by simp only [decide_eq_true_eq] at h; simp [h]) m.l
 have hgm : ∀ y ∈ goC q m.l, y ∈ m.l := fun y hy => (zfa.1 hy).1
 have hsm : ∀ y ∈ stC q m.l, y ∈ m.l := fun y hy => (zfa.1 hy).1
 have hgF : Ns (goC q m.l) = goF q m.p.l := qV4 q m.l
 have hsF : Ns (stC q m.l) = stF q m.p.l := qV5 q m.l
 have hsr : bN (stF q m.p.l) := hr.sublist (List.filter_sublist.map _)
 have hul : (upN t).length ≤ t.length := by
  by_cases h : t = []
  · subst h; decide
  have := gW h; omega
 refine VC.calls (nt := 119) (res := #[.cell 6 25, .tmp 7]) Tryz.func63 rfl Tryz.ntmps63 Tryz.results63 rfl ?_
 refine jS (jR ?_)
 refine Ops.m (qV.box rfl) rfl ?_
 rintro _ w1 ⟨rfl, hF_w1⟩
 have hb1 : Blk w1 w.heap.size 25 #[.slice m.A m.l.length m.c, .slice m.S m.ss.length m.d, .int .i64 m.v, .int .i64 m.b] := hF_w1.blk
 have K := hF_w1.frm
 generalize hg1 : w.heap.size = g1 at hb1 ⊢
 refine Ops.m (qV.alloc bW) rfl ?_
 rintro _ w2 ⟨rfl, hF2⟩
 have hb4 := hF2.blk
 have hg4 : w.heap.size ≤ w1.heap.size := K.size
 have hb1 := hb1.frm hF2.frm jp
 have hl1 := hb1.lt
 have hl4 := hb4.lt
 have K := K.trans hF2.frm jp
 have hne14 : g1 ≠ w1.heap.size := by have := hF_w1.size; omega
 have hg1s : w.heap.size ≤ g1 := jo
 generalize hg4' : w1.heap.size = g4 at hb4 hg4 hne14 hl4 ⊢
 refine jz 0 (jO (jN (jv4 1 2 3 6 ?_)))
 refine jS (jR (ja rfl (ja rfl (jO (jN (jS (jS (jR (jf rfl zf rfl zaf (jl rfl zap (hb1.cell 0) (je (Run.lenS rfl zg) ?_)))))))))))
 refine jx .i64 0 ?_
 refine jO (jN (jv9 1 2 3 6 8 9 24 25 26 ?_))
 refine jB ?_
 refine VC.loop (σ := (Nat × Option Addr × Nat) × (Option Addr × Nat)) (fun s => [(1, encStr q), (2, encStr t), (3, .pointer (some ⟨g1, 0, none⟩)), (6, .pointer (some ⟨g4, 0, none⟩)), (8, .slice s.1.2.1 (goC q (m.l.take s.1.1)).length s.1.2.2), (9, .slice s.2.1 (stC q (m.l.take s.1.1)).length s.2.2), (24, .slice m.A m.l.length m.c), (25, .int .i64 ((m.l.length : Nat) : Int)), (26, .int .i64 ((s.1.1 : Nat) : Int))]) (fun s wr => s.1.1 ≤ m.l.length ∧ Blk wr g1 25 #[.slice m.A m.l.length m.c, .slice m.S m.ss.length m.d, .int .i64 m.v, .int .i64 m.b] ∧ Blk wr g4 25 qF.cells.toArray ∧ Own wr 45 4 s.1.2.1 (goC q (m.l.take s.1.1)).length s.1.2.2 (NDC (goC q (m.l.take s.1.1))) ∧ Own wr 45 4 s.2.1 (stC q (m.l.take s.1.1)).length s.2.2 (NDC (stC q (m.l.take s.1.1))) ∧ (∀ b ∈ ob s.1.2.1, w.heap.size ≤ b) ∧ (∀ b ∈ ob s.2.1, w.heap.size ≤ b) ∧ (∀ b ∈ ob s.1.2.1, b ∉ ob s.2.1) ∧ Frm [] w wr) (fun s => m.l.length - s.1.1) ((0, none, 0), (none, 0)) (js9 rfl rfl rfl rfl rfl rfl rfl rfl rfl) ⟨zae _, hb1, hb4, Own.nil _ _ _, Own.nil _ _ _, by simp [ob], by simp [ob], by simp [ob], K⟩ ?_
 rintro ⟨⟨i, Ag, cg⟩, ⟨As, cs⟩⟩ wr ⟨hi, hb1, hb4, hog, hos, hgg, hgs, hdis, K⟩
 dsimp only at *
 refine jS (jR (jb rfl rfl (Bin.lssN _ _) (jO (jN (jS ?_)))))
 refine jD rfl (fun hc1 => ?_) fun hc1 => ?_
 ·
  obtain ⟨ad, hA, hel⟩ := (hm.frm K).l.elem hc1
  have hxa := (hm.frm K).l.el _ (zaa hc1)
  have hts : m.l.take (i + 1) = m.l.take i ++ [m.l[i]] := by rw [zan, zb hc1]; rfl
  have hbg : (goC q (m.l.take i)).length ≤ (m.l.take i).length := zce _ _
  have hbs : (stC q (m.l.take i)).length ≤ (m.l.take i).length := zce _ _
  have htk : (m.l.take i).length ≤ i := zdl _ _
  generalize hx : m.l[i] = x at *
  refine jQ (jN (jv9 1 2 3 6 8 9 24 25 26 ?_))
  refine jS (jB (jS (jR (je (Run.indexS i (show _ = some (Value.slice (some ad) m.l.length m.c) by rw [← hA]; rfl) rfl zg zq hc1) (je (Run.loadA rfl zde zq hel (by first | rfl | (simp; done))) ?_)))))
  refine Ops.m (qV.alloc cJ) rfl ?_
  rintro _ w3 ⟨rfl, hF3⟩
  refine Ops.st (qP.storeA rfl rfl zq hF3.blk rfl x.cells_one) ?_
  rintro w4 ⟨hb11, hf4, hs4⟩
  have hb11 : Blk w4 wr.heap.size 45 x.cells.toArray := hb11
  have K3 : Frm [] wr w4 := hF3.frm.trans hf4 jp
  have hb1 := hb1.frm K3 jp
  have hb4 := hb4.frm K3 jp
  have hog := hog.frm K3 jp
  have hos := hos.frm K3 jp
  have hKs_K3 := K.size
  have K := K.trans K3 jp
  have hxa := hxa.frm K3
  generalize hg11 : wr.heap.size = g11 at hb11 hKs_K3 ⊢
  refine jO (jN (jv10 1 2 3 6 8 9 11 24 25 26 ?_))
  refine jS ?_
  refine VC.meet (σ := Unit) (fun s => [(1, encStr q), (2, encStr t), (3, .pointer (some ⟨g1, 0, none⟩)), (6, .pointer (some ⟨g4, 0, none⟩)), (8, .slice Ag (goC q (m.l.take i)).length cg), (9, .slice As (stC q (m.l.take i)).length cs), (11, .pointer (some ⟨g11, 0, none⟩)), (24, .slice m.A m.l.length m.c), (25, .int .i64 ((m.l.length : Nat) : Int)), (26, .int .i64 ((i : Nat) : Int)), (40, .bool (decide (goP q x.nm)))]) (fun s wz => Frm [] w4 wz) ?_ ?_
  ·
   refine VC.held (fun W => Frm [] w4 W) jK ?_
   have hS : Frm [] w4 w4.drew := (Frm.refl _ _).drew
   refine jH 0 rfl hS (fun w0 hw0 => Run.mv rfl) ?_
   refine jH 2 rfl hS (fun w0 hw0 => Run.fieldAddr rfl zy rfl zm jd) ?_
   refine jH 3 rfl hS (fun w0 hw0 => Run.load rfl zx ((hb11.frm hw0 jp).cell 0)) ?_
   refine qQ.cl 1 rfl jK (jE1 zcp) (bS q _ jo (hv.frm (K.trans hS jp))) trivial rfl rfl ?_
   rintro e wA ⟨rfl, hfA⟩
   have hSA := hS.trans hfA jp
   refine ⟨_, rfl, hSA, ?_⟩
   have hS := hSA
   refine jH 4 rfl hS (fun w0 hw0 => Run.eqlT rfl rfl) ?_
   refine jH 5 rfl hS (fun w0 hw0 => Run.mv rfl) ?_
   by_cases hs35 : qS q = x.nm
   ·
    refine qQ.skip 6 rfl jK jK jK hS rfl rfl (decide_eq_true hs35) rfl rfl ?_
    refine qQ.skip 7 rfl jK jK jK hS rfl rfl (decide_eq_true hs35) rfl rfl ?_
    refine qQ.skip 8 rfl jK jK jK hS rfl rfl (decide_eq_true hs35) rfl rfl ?_
    refine qQ.skip 9 rfl jK jK jK hS rfl rfl (decide_eq_true hs35) rfl rfl ?_
    refine jH 10 rfl hS (fun w0 hw0 => Run.pickT rfl rfl (decide_eq_true hs35)) ?_
    refine qQ.done jK ?_
    refine jN ⟨(), (js11 rfl rfl rfl rfl rfl rfl rfl rfl rfl rfl (by rw [show decide (goP q x.nm) = true from decide_eq_true (.inl hs35)]; rfl)), ?_⟩
    exact hS
   refine qQ.take 6 rfl jK jK jK hS (fun w0 hw0 => Run.fieldAddr rfl zy rfl zm jd) (Up.g rfl ((decide_eq_false hs35))) rfl rfl ?_
   refine qQ.take 7 rfl jK jK jK hS (fun w0 hw0 => Run.load rfl zx ((hb11.frm hw0 jp).cell 0)) (Up.g rfl ((decide_eq_false hs35))) rfl rfl ?_
   refine qQ.take 8 rfl jK jK jK hS (fun w0 hw0 => Run.mv rfl) (Up.g rfl ((decide_eq_false hs35))) rfl rfl ?_
   refine qQ.cl 9 rfl jK (jE2 Tryz.call57) (fD x.nm q _ hxa.q jo (hv.frm (K.trans hS jp))) (Up.g rfl ((decide_eq_false hs35))) rfl rfl ?_
   rintro e wB ⟨rfl, hfB⟩
   have hSB := hS.trans hfB jp
   refine ⟨_, rfl, hSB, ?_⟩
   have hS := hSB
   refine jH 10 rfl hS (fun w0 hw0 => Run.pickF rfl rfl (decide_eq_false hs35)) ?_
   refine qQ.done jK ?_
   refine jN ⟨(), (js11 rfl rfl rfl rfl rfl rfl rfl rfl rfl rfl (by rw [show decide (goP q x.nm) = decide (cK x.nm q) from decide_eq_decide.2 ⟨fun h => h.resolve_left hs35, .inr⟩]; rfl)), ?_⟩
   exact hS
  rintro _ wz hfz Γ hΓ
  have hb1 := hb1.frm hfz jp
  have hb4 := hb4.frm hfz jp
  have hb11 := hb11.frm hfz jp
  have hog := hog.frm hfz jp
  have hos := hos.frm hfz jp
  have hKs_hfz := K.size
  have K := K.trans hfz jp
  refine jN (VC.sub _ hΓ ?_)
  refine VC.condB rfl (fun hc2 => ?_) (fun hc2 => ?_)
  ·
   have hc2 : goP q x.nm := of_decide_eq_true hc2
   refine jR (jm rfl (je (Run.loadA rfl zde zq hb11.cells (by first | rfl | (simp; done))) ?_))
   refine Ops.m (qV.buildS1 rfl zg zq cJ jd jd rfl rfl) rfl ?_
   rintro _ w5 ⟨rfl, hF5⟩
   have hr5 : Rd w5 4 (some ⟨wz.heap.size, 0, none⟩) 1 (NDC [x]) := sG hF5
   have hF5f := hF5.frm
   have hb1 := hb1.frm hF5f jp
   have hb4 := hb4.frm hF5f jp
   have hog := hog.frm hF5f jp
   have hos := hos.frm hF5f jp
   have hKs_hF5f := K.size
   have K := K.trans hF5f jp
   refine Ops.m (qV.app rfl rfl zg (kM) rfl jd hog hr5 (fH _) jo jo) rfl ?_
   rintro _ w6 ⟨B6, c6, rfl, ho6, hf6, hob6⟩
   rw [← dJ] at ho6
   obtain ⟨hg1', hg2'⟩ := qZw (l := m.l.take i) hc2
   rw [← hts] at hg1' hg2'
   have hgl : (goC q (m.l.take (i + 1))).length = (goC q (m.l.take i)).length + 1 := by rw [hg1', zi]; rfl
   have hb1 := hb1.frm hf6 (hog.ne_blk hb1 jd)
   have hb4 := hb4.frm hf6 (hog.ne_blk hb4 jd)
   have hol := hos.lt
   have hos := hos.frm hf6 (fun y hy h => hdis y h hy)
   have hKs5 := K.size
   have K := K.own hf6 hgg
   have hgg6 : ∀ b ∈ ob B6, w.heap.size ≤ b := fun b hb => by
    rcases hob6 with h | h
    · rw [h] at hb; exact hgg b hb
    rw [h, za] at hb; omega
   have hdis6 : ∀ b ∈ ob B6, b ∉ ob As := fun b hb h2 => by
    rcases hob6 with h | h
    · rw [h] at hb; exact hdis b hb h2
    rw [h, za] at hb; have := hol b h2; omega
   refine ja rfl (jO ?_)
   refine qW (jN ?_)
   refine jv9 1 2 3 6 8 9 24 25 26 ?_
   refine jR (jb rfl rfl (Bin.add_i64 _ 1 jo) (jm rfl (jO ?_)))
   refine jN ⟨((i + 1, B6, c6), (As, cs)), (js9 rfl rfl rfl rfl (by rw [hgl]; rfl) (by rw [hg2']; rfl) rfl rfl rfl), ?_, ?_⟩
   · exact ⟨hc1, hb1, hb4, by rw [hgl, hg1']; exact ho6, by rw [hg2']; exact hos, hgg6, hgs, hdis6, K⟩
   first | omega | (dsimp only; omega)
  have hc2 : ¬ goP q x.nm := of_decide_eq_false hc2
  refine jR (jm rfl (je (Run.loadA rfl zde zq hb11.cells (by first | rfl | (simp; done))) ?_))
  refine Ops.m (qV.buildS1 rfl zg zq cJ jd jd rfl rfl) rfl ?_
  rintro _ w5 ⟨rfl, hF5⟩
  have hr5 : Rd w5 4 (some ⟨wz.heap.size, 0, none⟩) 1 (NDC [x]) := sG hF5
  have hF5f := hF5.frm
  have hb1 := hb1.frm hF5f jp
  have hb4 := hb4.frm hF5f jp
  have hog := hog.frm hF5f jp
  have hos := hos.frm hF5f jp
  have hKs_hF5f := K.size
  have K := K.trans hF5f jp
  refine Ops.m (qV.app rfl rfl zg (kM) rfl jd hos hr5 (fH _) jo jo) rfl ?_
  rintro _ w6 ⟨B6, c6, rfl, ho6, hf6, hob6⟩
  rw [← dJ] at ho6
  obtain ⟨hg1', hg2'⟩ := qZx (l := m.l.take i) hc2
  rw [← hts] at hg1' hg2'
  have hgl : (stC q (m.l.take (i + 1))).length = (stC q (m.l.take i)).length + 1 := by rw [hg2', zi]; rfl
  have hb1 := hb1.frm hf6 (hos.ne_blk hb1 jd)
  have hb4 := hb4.frm hf6 (hos.ne_blk hb4 jd)
  have hol := hog.lt
  have hog := hog.frm hf6 (fun y hy h => hdis y hy h)
  have hKs5 := K.size
  have K := K.own hf6 hgs
  have hgs6 : ∀ b ∈ ob B6, w.heap.size ≤ b := fun b hb => by
   rcases hob6 with h | h
   · rw [h] at hb; exact hgs b hb
   rw [h, za] at hb; omega
  have hdis6 : ∀ b ∈ ob Ag, b ∉ ob B6 := fun b hb h2 => by
   rcases hob6 with h | h
   · rw [h] at h2; exact hdis b hb h2
   rw [h, za] at h2; have := hol b hb; omega
  refine ja rfl (jO ?_)
  refine qW (jN ?_)
  refine jv9 1 2 3 6 8 9 24 25 26 ?_
  refine jR (jb rfl rfl (Bin.add_i64 _ 1 jo) (jm rfl (jO ?_)))
  refine jN ⟨((i + 1, Ag, cg), (B6, c6)), (js9 rfl rfl rfl rfl (by rw [hg1']; rfl) (by rw [hgl]; rfl) rfl rfl rfl), ?_, ?_⟩
  · exact ⟨hc1, hb1, hb4, by rw [hg1']; exact hog, by rw [hgl, hg2']; exact ho6, hgg, hgs6, hdis6, K⟩
  first | omega | (dsimp only; omega)
 obtain rfl : i = m.l.length := jo
 rw [zaq] at hog hos ⊢
 generalize hgd : goC q m.l = gs at *
 generalize hsd : stC q m.l = ss at *
 refine jX ?_
 refine qJ (qJ (qN ?_))
 refine jN (jv6 1 2 3 6 8 9 ?_)
 refine jS (jR (je (Run.loadA rfl zo zh hb1.cells (by first | rfl | (simp; done))) ?_))
 refine Ops.m (qV.alloc bW) rfl ?_
 rintro _ w7 ⟨rfl, hF7⟩
 refine Ops.st (qP.storeA rfl rfl zh hF7.blk rfl (MlC.cells_one m)) ?_
 rintro w8 ⟨hb12, hf8, hs8⟩
 have hb12 : Blk w8 wr.heap.size 25 #[.slice m.A m.l.length m.c, .slice m.S m.ss.length m.d, .int .i64 m.v, .int .i64 m.b] := hb12
 have K8 : Frm [] wr w8 := hF7.frm.trans hf8 jp
 have hl1w := hb1.lt
 have hl4w := hb4.lt
 have hb1 := hb1.frm K8 jp
 have hb4 := hb4.frm K8 jp
 have hog := hog.frm K8 jp
 have hos := hos.frm K8 jp
 have hKs_K8 := K.size
 have K := K.trans K8 jp
 generalize hg12 : wr.heap.size = g12 at hb12 hKs_K8 hl1w hl4w ⊢
 refine jO (jN (jv7 1 2 3 6 8 9 12 ?_))
 refine jS (jR (jm rfl (jf rfl zf rfl zaf ?_)))
 refine Ops.st (qP.store rfl rfl zaf hb12 rfl rfl) ?_
 have hb12x := hb12
 rintro w9 ⟨hb12, (hf9 : Frm [g12] _ _), hs9⟩
 have hb12 : Blk w9 g12 25 (m.wl As cs ss).cells.toArray := hb12
 have hb1 := hb1.frm hf9 (by simp; omega)
 have hb4 := hb4.frm hf9 (by simp; omega)
 have hog := hog.frm hf9 (fun y hy h => by rw [za] at h; rw [h] at hy; exact hog.ne_blk hb12x jd hy)
 have hos := hos.frm hf9 (fun y hy h => by rw [za] at h; rw [h] at hy; exact hos.ne_blk hb12x jd hy)
 have K := K.own hf9 (fun y hy => by rw [za] at hy; omega)
 refine jO (jN (jv7 1 2 3 6 8 9 12 ?_))
 refine jS (jS (jR (jm rfl (je (Run.lenS rfl zg) ?_))))
 refine jx .i64 0 ?_
 refine jO (jN (jB ?_))
 refine VC.loop (σ := Nat) (fun s => [(1, encStr q), (2, encStr t), (3, .pointer (some ⟨g1, 0, none⟩)), (6, .pointer (some ⟨g4, 0, none⟩)), (8, .slice Ag gs.length cg), (9, .slice As ss.length cs), (12, .pointer (some ⟨g12, 0, none⟩)), (53, .slice Ag gs.length cg), (54, .int .i64 ((gs.length : Nat) : Int)), (55, .int .i64 ((s : Nat) : Int))]) (fun s wr => s ≤ gs.length ∧ Blk wr g1 25 #[.slice m.A m.l.length m.c, .slice m.S m.ss.length m.d, .int .i64 m.v, .int .i64 m.b] ∧ Blk wr g4 25 qF.cells.toArray ∧ Blk wr g12 25 (m.wl As cs ss).cells.toArray ∧ Own wr 45 4 Ag gs.length cg (NDC (eR q t gs s)) ∧ Own wr 45 4 As ss.length cs (NDC ss) ∧ (∀ j (h : j < gs.length), j < s → lM (Ns ss) q t (gs[j]).p) ∧ Frm [] w wr) (fun s => gs.length - s) 0 (js10 rfl rfl rfl rfl rfl rfl rfl rfl rfl rfl) ⟨zae _, hb1, hb4, hb12, hog, hos, fun _ _ h => jo, K⟩ ?_
 rintro k wr ⟨hk, hb1, hb4, hb12, hog, hos, hok, K⟩
 refine jS (jR (jb rfl rfl (Bin.lssN _ _) (jO (jN (jS ?_)))))
 refine jD rfl (fun hc3 => ?_) fun hc3 => ?_
 ·
  obtain ⟨gg, rfl⟩ : ∃ g, Ag = some ⟨g, 0, none⟩ := by
   rcases hog.cases with ⟨_, h0, _⟩ | ⟨g, _, h0, _⟩
   · omega
   exact ⟨g, h0⟩
  have hcl := qZt q t gs k hk
  have hkc : k < (eR q t gs k).length := jo
  have hcat := qKs q t gs k hc3 hkc
  have hsetn := fun s => qZs (eR q t gs k) k hkc s
  rw [hcat] at hsetn
  have hnext := qQx q t gs k hc3
  have hmem := hgm gs[k] (zaa hc3)
  have hxa := (hm.frm K).l.el _ hmem
  have hcell : ∀ j v, (gs[k]).cells[j]? = some v → wr.cell? (((⟨gg, 0, none⟩ : Addr).add (k * 4)).add j) = some v := fun j v hj => oY hog hc3 (by rw [qQm hkc, hcat]; exact hj)
  obtain ⟨x, hx⟩ : ∃ x, x = gs[k] := ⟨_, rfl⟩
  rw [← hx] at hsetn hnext hmem hxa hcell
  refine jQ (jN (jv10 1 2 3 6 8 9 12 53 54 55 ?_))
  refine jS (jB (jS (jR (jm rfl (je (Run.indexS k rfl rfl zg zq hc3) (je (Run.loadA rfl zde zq hcell (by first | rfl | (simp; done))) ?_))))))
  refine Ops.m (qV.alloc cJ) rfl ?_
  rintro _ wa ⟨rfl, hFa⟩
  refine jA ?_
  refine Ops.st (qP.storeA rfl rfl zq hFa.blk rfl x.cells_one) ?_
  rintro wb ⟨hb14, hfb, hsb⟩
  have hb14 : Blk wb wr.heap.size 45 x.cells.toArray := hb14
  have Kb : Frm [] wr wb := hFa.frm.trans hfb jp
  have hb1 := hb1.frm Kb jp
  have hb4 := hb4.frm Kb jp
  have hb12 := hb12.frm Kb jp
  have hog := hog.frm Kb jp
  have hos := hos.frm Kb jp
  have hKs_Kb := K.size
  have K := K.trans Kb jp
  generalize hg14 : wr.heap.size = g14 at hb14 hKs_Kb ⊢
  refine jO (jN (jv12 1 2 3 6 8 9 12 13 14 53 54 55 ?_))
  refine jS (jR (jf rfl zy rfl zm (jl rfl zx (hb14.cell 0) (jm rfl (jM ?_)))))
  refine Ops.cl (jE3 Tryz.call112) (yX x.nm q t _ hxa.q jo jo (hv.frm K)) rfl ?_
  rintro e wc ⟨r, ke, rfl, hfc, hmv⟩
  refine ⟨_, rfl, ?_⟩
  have hb1 := hb1.frm hfc jp
  have hb4 := hb4.frm hfc jp
  have hb12 := hb12.frm hfc jp
  have hog := hog.frm hfc jp
  have hos := hos.frm hfc jp
  have hKs_hfc := K.size
  have K := K.trans hfc jp
  refine jm rfl (je (Run.extract rfl rfl) (je (Run.extract rfl rfl) (ja rfl (ja rfl (jO (jN (jv13 1 2 3 6 8 9 12 13 15 16 53 54 55 ?_)))))))
  refine jS (jS (jR (jm rfl (jb rfl rfl (Bin.neqN _ 0) (jO (jN (jv14 1 2 3 6 8 9 12 13 15 16 53 54 55 69 ?_)))))))
  refine jD rfl (fun hc4 => ?_) fun hc4 => ?_
  ·
   have hbad := qZr (k := k) (stay := Ns ss) (l := Ns gs) (f := q) (t := t) (e := ke) (by rw [bP]; exact hc3) (fun j hj hjk => by rw [show (Ns gs)[j] = (gs[j]'(by rw [bP] at hj; exact hj)).p from zbe _]; exact hok j _ hjk) (by rw [show (Ns gs)[k]'(by rw [bP]; exact hc3) = (gs[k]).p from zbe _, ← hx]; exact (hmv.resolve_left (fun h => hc4 h.1)).2.1)
   refine jS (jR (je (Run.build evs.nil bW (qI).choose_spec.1 (qI).choose_spec.2 rfl) (jM ?_)))
   refine Ops.st (qP.storeA rfl rfl zh hb4 rfl (MlC.cells_one qF)) ?_
   rintro wd ⟨hb4, (hfwd : Frm [g4] _ _), hswd⟩
   have hb4 : Blk wd g4 25 qF.cells.toArray := hb4
   have K := K.own hfwd (fun y hy => by rw [za] at hy; omega)
   refine ja rfl (jO (jN (jv2 6 7 ?_)))
   refine jT ?_
   refine qZ (qH (qZ (qZ (qH (qZ (bT ?_))))))
   refine qL rfl zo zh (hb4.cells) (by first | rfl | (simp; done)) ?_
   refine qO rfl ?_
   refine bX ?_
   refine ⟨qF, ke, rfl, cD.err hc4 ?_, K⟩
   unfold gF
   rw [← hgF, ← hsF, hbad]
  have hmv : cA x.nm q t = .ok r := (hmv.resolve_right (fun h => h.1 jo)).2
  have hrl := tS hmv
  refine jQ (jN (jv12 1 2 3 6 8 9 12 13 15 53 54 55 ?_))
  refine jS (jS (jR (jm rfl (je (Run.build (evs.cons rfl evs.nil) bW (qI).choose_spec.1 (qI).choose_spec.2 rfl) (jM ?_)))))
  refine Ops.cl (jE2 zee) (dV ⟨As, cs, ss, none, 0, [], 0, 0⟩ r _ ⟨hos.rd, fun y hy => (hm.frm K).l.el y (hsm y hy)⟩ (by show ss.length ≤ _; omega) jo (by show bN (Ns ss); rw [hsF]; exact hsr) (hv.frm K)) rfl ?_
  rintro e wd ⟨kk, rfl, hpos, hfd⟩
  refine ⟨_, rfl, ?_⟩
  have hb1 := hb1.frm hfd jp
  have hb4 := hb4.frm hfd jp
  have hb12 := hb12.frm hfd jp
  have hog := hog.frm hfd jp
  have hos := hos.frm hfd jp
  have hKs_hfd := K.size
  have K := K.trans hfd jp
  refine jm rfl (je (Run.extract rfl rfl) (je (Run.extract rfl rfl) (ja rfl (ja rfl (jO (jN (jv13 1 2 3 6 8 9 12 13 15 18 53 54 55 ?_)))))))
  refine jS (jR (jm rfl (jO (jN (jv13 1 2 3 6 8 9 12 13 15 53 54 55 79 ?_)))))
  refine VC.condB rfl (fun hc5 => ?_) (fun hc5 => ?_)
  ·
   have hc5 : qS r ∈ (Ns ss).map Prod.fst := of_decide_eq_true hc5
   have hbad := yH (k := k) (stay := Ns ss) (l := Ns gs) (f := q) (t := t) (s := r) (by rw [bP]; exact hc3) (fun j hj hjk => by rw [show (Ns gs)[j] = (gs[j]'(by rw [bP] at hj; exact hj)).p from zbe _]; exact hok j _ hjk) (by rw [show (Ns gs)[k]'(by rw [bP]; exact hc3) = (gs[k]).p from zbe _, ← hx]; exact hmv) hc5
   refine jS (jR (je (Run.build evs.nil bW (qI).choose_spec.1 (qI).choose_spec.2 rfl) ?_))
   refine Ops.st (qP.storeA rfl rfl zh hb4 rfl (MlC.cells_one qF)) ?_
   rintro we ⟨hb4, (hfwe : Frm [g4] _ _), hswe⟩
   have hb4 : Blk we g4 25 qF.cells.toArray := hb4
   have K := K.own hfwe (fun y hy => by rw [za] at hy; omega)
   refine jz 15 (jO (jN (jv2 6 7 ?_)))
   refine jT ?_
   refine qZ (qH (qZ (qZ (qH (qZ (bT ?_))))))
   refine qL rfl zo zh (hb4.cells) (by first | rfl | (simp; done)) ?_
   refine qO rfl ?_
   refine bX ?_
   refine ⟨qF, 15, rfl, cD.err jd ?_, K⟩
   unfold gF
   rw [← hgF, ← hsF, hbad]
  have hc5 : qS r ∉ (Ns ss).map Prod.fst := of_decide_eq_false hc5
  refine jQ (jN (jv12 1 2 3 6 8 9 12 13 15 53 54 55 ?_))
  refine jR (jm rfl (jm rfl (jm rfl (je (Run.indexS k rfl rfl zg zq hc3) (jf rfl zy rfl zm ?_)))))
  refine Ops.st (qP.storeOwn (k * 4 + 0) (by rw [← Go.Proofs.YtgmbmfpfhcekiaaGreat.add_add]; rfl) rfl zm hog rfl jo rfl) ?_
  rintro we ⟨hoe, (hfe : Frm [gg] _ _), hse⟩
  have hoe : Own we 45 4 (some ⟨gg, 0, none⟩) gs.length cg (NDC (eR q t gs (k + 1))) := by
   rw [← hnext r hmv, ← hsetn r]
   exact hoe
  have hb1 := hb1.frm hfe (hog.ne_blk hb1 jd)
  have hb4 := hb4.frm hfe (hog.ne_blk hb4 jd)
  have hb12 := hb12.frm hfe (hog.ne_blk hb12 jd)
  have hos := hos.frm hfe (fun y hy h => hdis y (by simpa [ob] using h) hy)
  have K := K.own hfe (fun y hy => hgg y (by simpa [ob] using hy))
  refine jO ?_
  refine qW (jN ?_)
  refine jv10 1 2 3 6 8 9 12 53 54 55 ?_
  refine jR (jb rfl rfl (Bin.add_i64 _ 1 jo) (jm rfl (jO ?_)))
  refine jN ⟨(k + 1), (js10 rfl rfl rfl rfl rfl rfl rfl rfl rfl rfl), ?_, ?_⟩
  ·
   refine ⟨hc3, hb1, hb4, hb12, hoe, hos, fun j hj hjk => ?_, K⟩
   by_cases e : j = k
   ·
    subst e
    exact ⟨r, by rw [← hx]; exact hmv, hc5⟩
   exact hok j hj jo
  first | omega | (dsimp only; omega)
 obtain rfl : k = gs.length := jo
 rw [qZu] at hog
 refine jX ?_
 refine qJ (qJ (qN ?_))
 refine jN (jv5 2 3 6 8 12 ?_)
 refine jS ?_
 refine VC.held (fun W => Frm [] wr W) jK ?_
 have hS : Frm [] wr wr.drew := (Frm.refl _ _).drew
 refine jH 0 rfl hS (fun w0 hw0 => Run.loadA rfl zo zh (fun j v hj => (hb12.frm hw0 jp).cells j v hj) (by first | rfl | (simp; done))) ?_
 refine jH 1 rfl hS (fun w0 hw0 => Run.mv rfl) ?_
 refine qQ.cl 2 rfl jK (jE1 Tryz.call104) (lW t _ jo (hv.frm (K.trans hS jp))) trivial rfl rfl ?_
 rintro e wf ⟨rfl, hff⟩
 have hSf := hS.trans hff jp
 refine ⟨_, rfl, hSf, ?_⟩
 have hS := hSf
 have hkm : cZ w wr (ob As) m (m.wl As cs ss) := qZv hos hgs jo (fun w'' h y hy => h.l.el y (hsm y hy))
 have hmoS := (hkm.frm hS jp).now (hm.frm (K.trans hS jp))
 have hrS : bN (m.wl As cs ss).p.l := by show bN (Ns ss); rw [hsF]; exact hsr
 refine qQ.cl 3 rfl jK (jE2 Tryz.call47) (gX (m.wl As cs ss) (upN t) _ hmoS jo hrS (hv.frm (K.trans hS jp))) trivial rfl rfl ?_
 rintro e wg ⟨B, d, rfl, hob, hobb, hfg⟩
 have hSg := hS.trans hfg jp
 refine ⟨_, rfl, hSg, ?_⟩
 have hS := hSg
 have hb1 := hb1.frm hS jp
 have hb4 := hb4.frm hS jp
 have hb12 := hb12.frm hS jp
 have hog := hog.frm hS jp
 have hos := hos.frm hS jp
 have hkm := hkm.frm hS jp
 have hKs := K.size
 have K := K.trans hS jp
 have hnm := tN (m.wl As cs ss).p.l (upN t)
 have hmF : (m.wl As cs ss).p = { m.p with l := stF q m.p.l } := by show MailP.mk (Ns ss) _ _ _ = _; rw [hsF]; rfl
 generalize hnn : bR (m.wl As cs ss).p.l (upN t) = ms at *
 refine jH 4 rfl hS (fun w0 hw0 => Run.asg rfl) ?_
 refine qQ.done jK ?_
 refine jN (jv6 2 3 6 8 12 19 ?_)
 refine jS (jS (jR (je (Run.loadA rfl zo zh hb1.cells (by first | rfl | (simp; done))) (jm rfl (je (Run.lenS rfl zc) (jm rfl (je (Run.lenS rfl zc) ?_)))))))
 refine Ops.cl (jE3 Tryz.call48) (pY m ms.length ms.length _ hln jo jo jo jo) rfl ?_
 rintro e wh ⟨rfl, hfh⟩
 refine ⟨_, rfl, ?_⟩
 have hb1 := hb1.frm hfh jp
 have hb4 := hb4.frm hfh jp
 have hb12 := hb12.frm hfh jp
 have hog := hog.frm hfh jp
 have hos := hos.frm hfh jp
 have hKs_hfh := K.size
 have K := K.trans hfh jp
 have hkm := hkm.frm hfh jp
 have hro : bR (stF q m.p.l) (upN t) = ms := by rw [← hnn, hmF]
 refine ja rfl (jO (jN (jv5 2 6 8 12 20 ?_)))
 refine jS (jR (jm rfl (jb rfl rfl (Bin.neqN _ 0) (jO (jN (jv6 2 6 8 12 20 98 ?_))))))
 refine jD rfl (fun hc6 => ?_) fun hc6 => ?_
 ·
  refine jS (jR (je (Run.build evs.nil bW (qI).choose_spec.1 (qI).choose_spec.2 rfl) (jM ?_)))
  refine Ops.st (qP.storeA rfl rfl zh hb4 rfl (MlC.cells_one qF)) ?_
  rintro wi ⟨hb4, (hfwi : Frm [g4] _ _), hswi⟩
  have hb4 : Blk wi g4 25 qF.cells.toArray := hb4
  have K := K.own hfwi (fun y hy => by rw [za] at hy; omega)
  refine ja rfl (jO (jN (jv2 6 7 ?_)))
  refine jT ?_
  refine qZ (bT ?_)
  refine qL rfl zo zh (hb4.cells) (by first | rfl | (simp; done)) ?_
  refine qO rfl ?_
  refine bX ?_
  refine ⟨qF, _, rfl, cD.err hc6 ?_, K⟩
  unfold gF
  rw [← hgF, ← hsF, tR (fun j hj => by rw [show (Ns gs)[j] = (gs[j]'(by rw [bP] at hj; exact hj)).p from zbe _]; exact hok j _ (by rw [bP] at hj; exact hj))]
  dsimp only
  rw [hsF, hro, if_pos hc6]
 have hc6 : dR m.p ms.length ms.length = 0 := by omega
 obtain ⟨hro1, hro2⟩ := wK hc6
 have hsl : (m.wl As cs ss).p.l.length = ss.length := bP ss
 have hfo := pW (m.wl As cs ss).p (by show bN (Ns ss); rw [hsF]; exact hsr) ms ms.length (zw _)
 rw [zaq] at hfo
 obtain ⟨wj, hwj⟩ : ∃ wj, wj = wh := ⟨_, rfl⟩
 subst hwj
 refine jQ (jN (jv4 2 6 8 12 ?_))
 refine jS ?_
 refine VC.heldL 4 (fun W => Frm [] wj W) jK ?_
 have hS : Frm [] wj wj.drew := (Frm.refl _ _).drew
 refine jH 0 rfl hS (fun w0 hw0 => Run.loadA rfl zo zh (fun j v hj => (hb12.frm hw0 jp).cells j v hj) (by first | rfl | (simp; done))) ?_
 refine qQ.r1 1 rfl jK hS (Run.mv rfl) trivial rfl rfl ?_
 refine qQ.cl 2 rfl jK (jE1 Tryz.call104) (lW t _ jo (hv.frm (K.trans hS jp))) trivial rfl rfl ?_
 rintro e wk ⟨rfl, hfk⟩
 have hSk := hS.trans hfk jp
 refine ⟨_, rfl, hSk, ?_⟩
 have hS := hSk
 have hmoS := (hkm.frm hS jp).now (hm.frm (K.trans hS jp))
 have hrS : bN (m.wl As cs ss).p.l := by show bN (Ns ss); rw [hsF]; exact hsr
 refine qQ.cl 3 rfl jK (jE2 Tryz.call49) (nT (m.wl As cs ss) (upN t) _ hmoS jo hrS (by rw [hnn]; show ss.length + _ ≤ _; omega) (by show 0 ≤ m.v; omega) (by rw [hnn]; exact hro2) (hv.frm (K.trans hS jp))) trivial rfl rfl ?_
 rintro e wl ⟨mq, rfl, hmq, ⟨S2, hk2⟩, hfl⟩
 have hlt12 := (hb12.frm hS jp).lt
 have hlt4 := (hb4.frm hS jp).lt
 have hkk := (hkm.frm hS jp).trans hk2 hfl (zax K.size hS.size)
 have h12S : g12 ∉ ob As ++ S2 ∧ g4 ∉ ob As ++ S2 := ⟨fun h => by rcases zds.1 h with h | h; exact hos.ne_blk hb12 jd h; have := hk2.1 _ h; omega, fun h => by rcases zds.1 h with h | h; exact hos.ne_blk hb4 jd h; have := hk2.1 _ h; omega⟩
 have hSl := hS.trans hfl jp
 refine ⟨_, rfl, hSl, ?_⟩
 have hS := hSl
 refine qQ.stL rfl jK (qP.storeA rfl rfl zh (hb12.frm hS jp) rfl (MlC.cells_one mq)) trivial rfl ?_
 rintro wm ⟨hb12m, (hfm : Frm [g12] _ _), hsm'⟩
 have hb12m : Blk wm g12 25 mq.cells.toArray := hb12m
 have hne412 : g4 ≠ g12 := by omega
 have hb4 := (hb4.frm hS jp).frm hfm (by simpa using hne412)
 have hogS := hog.frm hS jp
 have hog := hogS.frm hfm (fun y hy h => by rw [za] at h; rw [h] at hy; exact hogS.ne_blk (hb12.frm hS jp) jd hy)
 have hkk := hkk.frm hfm (fun y hy h => by rw [za] at hy; rw [hy] at h; exact h12S.1 h)
 have K := (K.trans hS jp).own hfm (fun y hy => by rw [za] at hy; omega)
 have hmql : mq.l.length ≤ ss.length + ms.length := by
  have := hfo.2.2.1
  have e2 : mq.p = ms.foldl dU (m.wl As cs ss).p := by rw [hmq]; unfold eL; rw [hnn]
  rw [← e2, dK mq, hsl] at this
  exact this
 have hlay : ∀ j, j ≤ gs.length → bN ((((Ns gs).map (fN q t)).take j).foldl oG (eL (m.wl As cs ss).p (upN t))).l := fun j hj => by
  have hLL := hL (fun x hx => by
   rw [← hgF] at hx
   obtain ⟨y, hy, rfl⟩ := List.mem_map.1 hx
   obtain ⟨i, hi, rfl⟩ := zag hy
   rw [← hsF]
   exact hok i hi hi) (by rw [hro]; exact hc6)
  have := hLL j (by rw [zah, ← hgF, bP]; exact hj)
  rw [← hgF, ← hmF] at this
  exact this
 refine qQ.done jK ?_
 refine jN (jv3 6 8 12 ?_)
 refine jS (jS (jR (jm rfl (je (Run.lenS rfl zg) ?_))))
 refine jx .i64 0 ?_
 refine jO (jN (jv5 6 12 105 106 107 ?_))
 refine jB ?_
 refine VC.loop (σ := Nat × MlC) (fun s => [(6, .pointer (some ⟨g4, 0, none⟩)), (12, .pointer (some ⟨g12, 0, none⟩)), (105, .slice Ag gs.length cg), (106, .int .i64 ((gs.length : Nat) : Int)), (107, .int .i64 ((s.1 : Nat) : Int))]) (fun s wr => s.1 ≤ gs.length ∧ Blk wr g4 25 qF.cells.toArray ∧ Blk wr g12 25 s.2.cells.toArray ∧ Own wr 45 4 Ag gs.length cg (NDC (gs.map (eM q t))) ∧ (∃ S, cZ w wr S m s.2 ∧ g12 ∉ S ∧ g4 ∉ S) ∧ s.2.p = (((Ns gs).map (fN q t)).take s.1).foldl oG (eL (m.wl As cs ss).p (upN t)) ∧ s.2.l.length ≤ ss.length + ms.length + s.1 ∧ Frm [] w wr) (fun s => gs.length - s.1) (0, mq) (js5 rfl rfl rfl rfl rfl) ⟨zae _, hb4, hb12m, hog, ⟨_, hkk, h12S.1, h12S.2⟩, hmq, by dsimp only; omega, K⟩ ?_
 rintro ⟨j, mo⟩ wr ⟨hj, hb4, hb12, hog, ⟨S, hkS, hg12S, hg4S⟩, hmo, hmol, K⟩
 dsimp only at *
 refine jS (jR (jb rfl rfl (Bin.lssN _ _) (jO (jN (jS ?_)))))
 refine jD rfl (fun hc7 => ?_) fun hc7 => ?_
 ·
  obtain ⟨gg, rfl⟩ : ∃ g, Ag = some ⟨g, 0, none⟩ := by
   rcases hog.cases with ⟨_, h0, _⟩ | ⟨g, _, h0, _⟩
   · omega
   exact ⟨g, h0⟩
  have hgl : (gs.map (eM q t)).length = gs.length := zah _
  have hjc : j < (gs.map (eM q t)).length := by omega
  have hmem := hgm gs[j] (zaa hc7)
  have hge : (gs.map (eM q t))[j] = eM q t gs[j] := zbe _
  have hya : ∀ w'', RdL w'' m → (eM q t gs[j]).At w'' := fun w'' h => qVe q t (h.l.el _ hmem)
  have hcell : ∀ i v, (eM q t gs[j]).cells[i]? = some v → wr.cell? (((⟨gg, 0, none⟩ : Addr).add (j * 4)).add i) = some v := fun i v hi => oY hog hc7 (by rw [qQm hjc, hge]; exact hi)
  have hfs : (((Ns gs).map (fN q t)).take (j + 1)).foldl oG (eL (m.wl As cs ss).p (upN t)) = oG mo.p (eM q t gs[j]).p := by
   rw [zan, zeg, ← hmo]
   have e : ((Ns gs).map (fN q t))[j]? = some (eM q t gs[j]).p := by
    rw [zcm, show (Ns gs)[j]? = some (gs[j]).p by simp [Ns, hc7]]
    rfl
   rw [e]
   rfl
  have hrj := hlay j hj
  rw [← hmo] at hrj
  have hmoR := hkS.now (hm.frm K)
  generalize hy : eM q t gs[j] = y at *
  refine jQ (jN (jv5 6 12 105 106 107 ?_))
  refine jS (jB (jS (jR (je (Run.indexS j rfl rfl zg zq hc7) (je (Run.loadA rfl zde zq hcell (by first | rfl | (simp; done))) ?_)))))
  refine Ops.m (qV.alloc cJ) rfl ?_
  rintro _ wa ⟨rfl, hFa⟩
  refine Ops.st (qP.storeA rfl rfl zq hFa.blk rfl y.cells_one) ?_
  rintro wb ⟨hb22, hfb, hsb⟩
  have hb22 : Blk wb wr.heap.size 45 #[encStr y.nm, .int .i64 y.v, .int .i64 y.n, .slice y.A y.l.length y.c] := hb22
  have Kb : Frm [] wr wb := hFa.frm.trans hfb jp
  have hb4 := hb4.frm Kb jp
  have hb12 := hb12.frm Kb jp
  have hog := hog.frm Kb jp
  have hKs_Kb := K.size
  have K := K.trans Kb jp
  have hkS := hkS.frm Kb jp
  have hyb := hya _ (hm.frm K)
  have hmoR := hkS.now (hm.frm K)
  generalize hg22 : wr.heap.size = g22 at hb22 hKs_Kb ⊢
  refine jO (jN (jv6 6 12 22 105 106 107 ?_))
  refine jR (je (Run.loadA rfl zo zh hb12.cells (by first | rfl | (simp; done))) (jf rfl zy rfl zm (jl rfl zx (hb22.cell 0) (jf rfl zy rfl zu (je (Run.loadA rfl zaz zu (hb22.sub 1 (BVc y.v y.n y.A y.l.length y.c) rfl) (by first | rfl | (simp; done))) ?_)))))
  refine Ops.cl (jE3 Tryz.call113) (rT mo y.nm y.v y.n y.A y.c y.l _ hmoR jo hyb.q hrj hyb.rd hyb.n (hv.frm K)) rfl ?_
  rintro e wc ⟨A', c', kk, rfl, hkk, hpos, hoA, hobA, hfc⟩
  have hl12 := hb12.lt
  have hl4 := hb4.lt
  have hkS2 := qQz hkS hfc K.size hkk jo hoA hobA (fun w'' h => ⟨(hya w'' h).rd, (hya w'' h).n, by show (qS y.nm).length ≤ _; rw [cH]; exact (hya w'' h).q⟩)
  have hstep := qQy (x := y) (A := A') (c := c') hpos
  have hll := nK mo.l ⟨qS y.nm, y.v, y.n, y.A, y.c, y.l⟩ kk hkk
  have hS2n : g12 ∉ S ++ ob A' ∧ g4 ∉ S ++ ob A' := ⟨fun h => by rcases zds.1 h with h | h; exact hg12S h; have := hobA _ h; omega, fun h => by rcases zds.1 h with h | h; exact hg4S h; have := hobA _ h; omega⟩
  refine ⟨_, rfl, ?_⟩
  have hb4 := hb4.frm hfc jp
  have hb12 := hb12.frm hfc jp
  have hog := hog.frm hfc jp
  have hKs_hfc := K.size
  have K := K.trans hfc jp
  obtain ⟨mn, hmn⟩ : ∃ mn, mn = mo.wl A' c' (mo.l.take kk ++ ⟨qS y.nm, y.v, y.n, y.A, y.c, y.l⟩ :: mo.l.drop kk) := ⟨_, rfl⟩
  have hmnl : mn.l.length = mo.l.length + 1 := by rw [hmn]; exact hll
  rw [← hmn] at hkS2 hstep ⊢
  refine Ops.st (qP.storeA rfl rfl zh hb12 rfl (MlC.cells_one mn)) ?_
  have hb12x := hb12
  rintro wd ⟨hb12, (hfd : Frm [g12] _ _), hsd⟩
  have hb12 : Blk wd g12 25 mn.cells.toArray := hb12
  have hb4 := hb4.frm hfd (by simpa using hne412)
  have hog := hog.frm hfd (fun y hy h => by rw [za] at h; rw [h] at hy; exact hog.ne_blk hb12x jd hy)
  have hkS2 := hkS2.frm hfd (fun y hy h => by rw [za] at hy; rw [hy] at h; exact hS2n.1 h)
  have K := K.own hfd (fun y hy => by rw [za] at hy; omega)
  refine jO ?_
  refine qW (jN ?_)
  refine jv5 6 12 105 106 107 ?_
  refine jR (jb rfl rfl (Bin.add_i64 _ 1 jo) (jm rfl (jO ?_)))
  refine jN ⟨(j + 1, mn), (js5 rfl rfl rfl rfl rfl), ?_, ?_⟩
  · exact ⟨hc7, hb4, hb12, hog, ⟨_, hkS2, hS2n.1, hS2n.2⟩, by rw [hfs]; exact hstep, by dsimp only; omega, K⟩
  first | omega | (dsimp only; omega)
 refine jX ?_
 refine qJ (qJ (qN ?_))
 refine jN (jv2 6 12 ?_)
 refine jS (jR (je (Run.loadA rfl zo zh hb12.cells (by first | rfl | (simp; done))) ?_))
 refine Ops.st (qP.storeA rfl rfl zh hb4 rfl (MlC.cells_one mo)) ?_
 rintro we ⟨hb4, (hfe : Frm [g4] _ _), hse⟩
 have hb4 : Blk we g4 25 mo.cells.toArray := hb4
 refine jz 0 (jO (jN (jv2 6 7 ?_)))
 refine jT ?_
 refine bT ?_
 refine qL rfl zo zh (hb4.cells) (by first | rfl | (simp; done)) ?_
 refine qO rfl ?_
 refine bX ?_
 obtain rfl : j = gs.length := by omega
 have hfull : ((Ns gs).map (fN q t)).take gs.length = (Ns gs).map (fN q t) := zv (by rw [zah, bP]; exact zw _)
 rw [hfull] at hmo
 refine ⟨mo, 0, rfl, ⟨⟨S, hkS.frm hfe (fun y hy h => by rw [za] at hy; rw [hy] at h; exact hg4S h)⟩, .inl ⟨rfl, ?_⟩⟩, K.own hfe (fun y hy => by rw [za] at hy; omega)⟩
 unfold gF
 rw [← hgF, ← hsF, tR (fun j hj => by rw [show (Ns gs)[j] = (gs[j]'(by rw [bP] at hj; exact hj)).p from zbe _]; exact hok j _ (by rw [bP] at hj; exact hj))]
 dsimp only
 rw [hsF, hro, if_neg jo, hmo, hmF]
end
section
open Go.RowKit Go.Sort
set_option maxHeartbeats 1000000 in
theorem tT (m : MlC) (q t : Tx) (w : World) (hm : RdL w m) (hq : q.length ≤ 400000) (ht : t.length ≤ 400000) (hL : bV m.p → isN q → isN t → (∀ x ∈ goF q m.p.l, lM (stF q m.p.l) q t x) → dR m.p (bR (stF q m.p.l) (upN t)).length (bR (stF q m.p.l) (upN t)).length = 0 → sH m.p q t) (hin : qS q ≠ qC) (E : Except Nat MailP) (hv : cQ w) :
  Calls Tryz.prog 19 #[m.val, encStr q, encStr t] w fun e w' => ∃ (m' : MlC) (k : Nat), e = .returned (.tuple #[m'.val, .int .i64 ((k : Nat) : Int)]) ∧ cD w w' m (eY m.p q t E) m' k ∧ Frm [] w w' := by
 have hln := hm.ln
 have hpl := dK m
 refine VC.calls (nt := 65) (res := #[.cell 6 25, .tmp 7]) Tryz.func19 rfl Tryz.ntmps19 Tryz.results19 rfl ?_
 refine jS (jR ?_)
 refine Ops.m (qV.box rfl) rfl ?_
 rintro _ w1 ⟨rfl, hF_w1⟩
 have hb1 : Blk w1 w.heap.size 25 #[.slice m.A m.l.length m.c, .slice m.S m.ss.length m.d, .int .i64 m.v, .int .i64 m.b] := hF_w1.blk
 have K := hF_w1.frm
 generalize hg1 : w.heap.size = g1 at hb1 ⊢
 refine Ops.m (qV.alloc bW) rfl ?_
 rintro _ w2 ⟨rfl, hF2⟩
 have hb4 := hF2.blk
 have hg4 : w.heap.size ≤ w1.heap.size := K.size
 have hb1 := hb1.frm hF2.frm jp
 have hl1 := hb1.lt
 have hl4 := hb4.lt
 have K := K.trans hF2.frm jp
 have hne14 : g1 ≠ w1.heap.size := by have := hF_w1.size; omega
 have hg1s : w.heap.size ≤ g1 := jo
 generalize hg4' : w1.heap.size = g4 at hb4 hg4 hne14 hl4 ⊢
 refine jz 0 (jO (jN (jv4 1 2 3 6 ?_)))
 refine jS (jS (jR (je (Run.loadA rfl zo zh hb1.cells (by first | rfl | (simp; done))) ?_)))
 refine Ops.cl (jE1 zdo) (cO m _ (hm.frm K) (hv.frm K)) rfl ?_
 rintro e w3 ⟨rfl, hf3⟩
 refine ⟨_, rfl, ?_⟩
 have hb1 := hb1.frm hf3 jp
 have hb4 := hb4.frm hf3 jp
 have hKs_hf3 := K.size
 have K := K.trans hf3 jp
 refine je (Run.not rfl) (jO (jN (jv5 1 2 3 6 14 ?_)))
 refine VC.condB rfl (fun hc1 => ?_) (fun hc1 => ?_)
 ·
  have hc1 : ¬ bV m.p := by simpa using hc1
  refine jS (jR (je (Run.build evs.nil bW (qI).choose_spec.1 (qI).choose_spec.2 rfl) ?_))
  refine Ops.st (qP.storeA rfl rfl zh hb4 rfl (MlC.cells_one qF)) ?_
  rintro w4 ⟨hb4, (hfw4 : Frm [g4] _ _), hsw4⟩
  have hb4 : Blk w4 g4 25 qF.cells.toArray := hb4
  have K := K.own hfw4 (fun y hy => by rw [za] at hy; omega)
  refine jz 1 (jO (jN (jv2 6 7 ?_)))
  refine jT ?_
  refine qZ (bT ?_)
  refine qL rfl zo zh (hb4.cells) (by first | rfl | (simp; done)) ?_
  refine qO rfl ?_
  refine bX ?_
  exact ⟨qF, 1, rfl, cD.err jd (by unfold eY; rw [if_pos hc1]), K⟩
 have hc1 : bV m.p := by simpa using hc1
 obtain ⟨hm24, hv1, hv2, hb0, hb2, hr, hinb⟩ := eB hc1
 refine jQ (jN (jv4 1 2 3 6 ?_))
 refine jS (jS ?_)
 refine VC.split1 [(1, _), (2, _), (3, _), (6, _)] (js4 rfl rfl rfl rfl) 23 (.bool (decide (¬ isN q ∨ ¬ isN t))) ?_ ?_
 ·
  refine jR (jM ?_)
  refine Ops.cl (jE1 zct) (cV q _ jo (hv.frm K)) rfl ?_
  rintro e _ ⟨rfl, rfl⟩
  refine ⟨_, rfl, ?_⟩
  by_cases hs17 : isN q
  ·
   refine je (Run.not rfl) (jM ?_)
   refine jG ?_
   refine Ops.clg rfl au (jE1 zct) (cV t _ jo (hv.frm K)) rfl ?_
   rintro e _ ⟨rfl, rfl⟩
   refine ⟨_, rfl, ?_⟩
   refine jk (Run.not rfl) ?_
   refine je (Run.pickF rfl rfl au) (jO ?_)
   refine jN ⟨(js5 (jC (by simp [*])) rfl rfl rfl rfl), rfl⟩
  refine je (Run.not rfl) (jM ?_)
  refine jU ?_
  refine jU ?_
  refine jU ?_
  refine je (Run.pickT rfl rfl au) (jO ?_)
  refine jN ⟨(js5 (jC (by simp [*])) rfl rfl rfl rfl), rfl⟩
 intro Γ hΓ
 refine jN (VC.sub _ hΓ ?_)
 refine jD rfl (fun hc2 => ?_) fun hc2 => ?_
 ·
  refine jS (jR (je (Run.build evs.nil bW (qI).choose_spec.1 (qI).choose_spec.2 rfl) ?_))
  refine Ops.st (qP.storeA rfl rfl zh hb4 rfl (MlC.cells_one qF)) ?_
  rintro w4 ⟨hb4, (hfw4 : Frm [g4] _ _), hsw4⟩
  have hb4 : Blk w4 g4 25 qF.cells.toArray := hb4
  have K := K.own hfw4 (fun y hy => by rw [za] at hy; omega)
  refine jz 18 (jO (jN (jv2 6 7 ?_)))
  refine jT ?_
  refine qZ (bT ?_)
  refine qL rfl zo zh (hb4.cells) (by first | rfl | (simp; done)) ?_
  refine qO rfl ?_
  refine bX ?_
  exact ⟨qF, 18, rfl, cD.err jd (by unfold eY; rw [if_neg (not_not_intro hc1), if_pos hc2]), K⟩
 obtain ⟨hc2a, hc2b⟩ : isN q ∧ isN t := ⟨Classical.not_not.1 (fun h => hc2 (.inl h)), Classical.not_not.1 (fun h => hc2 (.inr h))⟩
 refine jQ (jN (jv4 1 2 3 6 ?_))
 refine jS (jR (je (Run.loadA rfl zo zh hb1.cells (by first | rfl | (simp; done))) (jM ?_)))
 refine Ops.cl (jE2 zee) (dV m q _ (hm.frm K).l hln jo hr (hv.frm K)) rfl ?_
 rintro e w4 ⟨kf, rfl, hpos, hf4⟩
 refine ⟨_, rfl, ?_⟩
 have hb1 := hb1.frm hf4 jp
 have hb4 := hb4.frm hf4 jp
 have hKs_hf4 := K.size
 have K := K.trans hf4 jp
 refine jm rfl (je (Run.extract rfl rfl) (je (Run.extract rfl rfl) (ja rfl (ja rfl (jO (jN (jv6 1 2 3 6 8 9 ?_)))))))
 refine jS (jR (je (Run.loadA rfl zo zh hb1.cells (by first | rfl | (simp; done))) (jM ?_)))
 refine Ops.cl (jE2 zee) (dV m t _ (hm.frm K).l hln jo hr (hv.frm K)) rfl ?_
 rintro e w5 ⟨kt, rfl, hpos2, hf5⟩
 refine ⟨_, rfl, ?_⟩
 have hb1 := hb1.frm hf5 jp
 have hb4 := hb4.frm hf5 jp
 have hKs_hf5 := K.size
 have K := K.trans hf5 jp
 refine jm rfl (je (Run.extract rfl rfl) (je (Run.extract rfl rfl) (ja rfl (ja rfl (jO (jN (jv7 1 2 3 6 8 9 11 ?_)))))))
 refine jS (jB (jS (jR (jm rfl (je (Run.not rfl) (ja rfl (jO (jN (jv7 1 2 3 6 8 11 37 ?_)))))))))
 refine VC.condB rfl (fun hc3 => ?_) (fun hc3 => ?_)
 ·
  have hc3 : qS q ∉ qB m.p := by simpa using hc3
  refine jS (jR (je (Run.build evs.nil bW (qI).choose_spec.1 (qI).choose_spec.2 rfl) ?_))
  refine Ops.st (qP.storeA rfl rfl zh hb4 rfl (MlC.cells_one qF)) ?_
  rintro w6 ⟨hb4, (hfw6 : Frm [g4] _ _), hsw6⟩
  have hb4 : Blk w6 g4 25 qF.cells.toArray := hb4
  have K := K.own hfw6 (fun y hy => by rw [za] at hy; omega)
  refine jz 6 (jO (jN (jv2 6 7 ?_)))
  refine jT ?_
  refine qH (qZ (bT ?_))
  refine qL rfl zo zh (hb4.cells) (by first | rfl | (simp; done)) ?_
  refine qO rfl ?_
  refine bX ?_
  exact ⟨qF, 6, rfl, cD.err jd (by unfold eY; rw [if_neg (not_not_intro hc1), if_neg hc2, if_pos hc3]), K⟩
 have hc3 : qS q ∈ qB m.p := by simpa using hc3
 refine jS (jR (jm rfl (ja rfl (jO (jN (jv6 1 2 3 6 8 41 ?_))))))
 refine VC.condB rfl (fun hc4 => ?_) (fun hc4 => ?_)
 ·
  have hc4 : qS t ∈ qB m.p := by simpa using hc4
  refine jS (jR (je (Run.build evs.nil bW (qI).choose_spec.1 (qI).choose_spec.2 rfl) ?_))
  refine Ops.st (qP.storeA rfl rfl zh hb4 rfl (MlC.cells_one qF)) ?_
  rintro w6 ⟨hb4, (hfw6 : Frm [g4] _ _), hsw6⟩
  have hb4 : Blk w6 g4 25 qF.cells.toArray := hb4
  have K := K.own hfw6 (fun y hy => by rw [za] at hy; omega)
  refine jz 15 (jO (jN (jv2 6 7 ?_)))
  refine jT ?_
  refine qH (qZ (bT ?_))
  refine qL rfl zo zh (hb4.cells) (by first | rfl | (simp; done)) ?_
  refine qO rfl ?_
  refine bX ?_
  exact ⟨qF, 15, rfl, cD.err jd (by unfold eY; rw [if_neg (not_not_intro hc1), if_neg hc2, if_neg (not_not_intro hc3), if_pos hc4]), K⟩
 have hc4 : qS t ∉ qB m.p := by simpa using hc4
 refine jS (jR (jM ?_))
 refine Ops.cl (jE1 zcp) (bS q _ jo (hv.frm K)) rfl ?_
 rintro e w6 ⟨rfl, hf6⟩
 refine ⟨_, rfl, ?_⟩
 have hb1 := hb1.frm hf6 jp
 have hb4 := hb4.frm hf6 jp
 have hKs_hf6 := K.size
 have K := K.trans hf6 jp
 refine je (Run.eqlT rfl rfl) (ja rfl (jO (jN (jv6 1 2 3 6 8 44 ?_))))
 refine VC.condF rfl (decide_eq_false hin) ?_
 refine jS (jR (jm rfl (jM ?_)))
 refine Ops.cl (jE2 Tryz.call57) (fD t q _ jo jo (hv.frm K)) rfl ?_
 rintro e w7 ⟨rfl, hf7⟩
 refine ⟨_, rfl, ?_⟩
 have hb1 := hb1.frm hf7 jp
 have hb4 := hb4.frm hf7 jp
 have hKs_hf7 := K.size
 have K := K.trans hf7 jp
 refine ja rfl (jO (jN (jv5 1 2 3 6 54 ?_)))
 refine VC.condB rfl (fun hc6 => ?_) (fun hc6 => ?_)
 ·
  have hc6 : cK t q := by simpa using hc6
  refine jS (jR (je (Run.build evs.nil bW (qI).choose_spec.1 (qI).choose_spec.2 rfl) ?_))
  refine Ops.st (qP.storeA rfl rfl zh hb4 rfl (MlC.cells_one qF)) ?_
  rintro w8 ⟨hb4, (hfw8 : Frm [g4] _ _), hsw8⟩
  have hb4 : Blk w8 g4 25 qF.cells.toArray := hb4
  have K := K.own hfw8 (fun y hy => by rw [za] at hy; omega)
  refine jz 16 (jO (jN (jv2 6 7 ?_)))
  refine jT ?_
  refine qH (qZ (bT ?_))
  refine qL rfl zo zh (hb4.cells) (by first | rfl | (simp; done)) ?_
  refine qO rfl ?_
  refine bX ?_
  exact ⟨qF, 16, rfl, cD.err jd (by unfold eY; rw [if_neg (not_not_intro hc1), if_neg hc2, if_neg (not_not_intro hc3), if_neg hc4, if_neg hin, if_pos hc6]), K⟩
 have hc6 : ¬ cK t q := by simpa using hc6
 refine jQ ?_
 refine qW (jN ?_)
 refine jv4 1 2 3 6 ?_
 refine jS (jR (je (Run.loadA rfl zo zh hb1.cells (by first | rfl | (simp; done))) (jm rfl (jM ?_))))
 refine Ops.cl (jE3 Tryz.call63) (vZ m q t _ (hm.frm K) hq ht hr hm24 hv1 hv2 (hL hc1 hc2a hc2b) (hv.frm K)) rfl ?_
 rintro e w8 ⟨m', k, rfl, ⟨⟨S, hkS⟩, hres⟩, hf8⟩
 have hl47 := hb4.lt
 refine ⟨_, rfl, ?_⟩
 have hb1 := hb1.frm hf8 jp
 have hb4 := hb4.frm hf8 jp
 have hKs_hf8 := K.size
 have K := K.trans hf8 jp
 refine je (Run.extract rfl rfl) (je (Run.extract rfl rfl) ?_)
 refine Ops.st (qP.storeA rfl rfl zh hb4 rfl (MlC.cells_one m')) ?_
 rintro w9 ⟨hb4, (hf9 : Frm [g4] _ _), hs9⟩
 have hb4 : Blk w9 g4 25 m'.cells.toArray := hb4
 have hkS9 := (hkS.old hKs_hf8).frm hf9 (fun y hy h => by rw [za] at hy; rw [hy] at h; have := hkS.1 _ h; omega)
 have K := K.own hf9 (fun y hy => by rw [za] at hy; omega)
 refine ja rfl (jO (jN (jv2 6 7 ?_)))
 refine jT ?_
 refine bT ?_
 refine qL rfl zo zh (hb4.cells) (by first | rfl | (simp; done)) ?_
 refine qO rfl ?_
 refine bX ?_
 refine ⟨m', k, rfl, ⟨⟨S, hkS9⟩, ?_⟩, K⟩
 have e : eY m.p q t E = gF m.p q t := by
  unfold eY
  rw [if_neg (not_not_intro hc1), if_neg hc2, if_neg (not_not_intro hc3), if_neg hc4, if_neg hin, if_neg hc6]
 rw [e]
 exact hres
end
section
open Go.RowKit
def aT : Tx := [97]
def abT : Tx := [97, 47, 98]
def cT : Tx := [99]
def cbT : Tx := [99, 47, 98]
def csT : Tx := [99, 42]
def qJ2 : Tx := [105, 110, 98, 111, 120]
def mA : MailP := ⟨[(qC, ⟨1, 1, []⟩), (aT, ⟨2, 1, []⟩), (abT, ⟨3, 1, []⟩)], [], 3, 0⟩
def mB : MailP := ⟨[(qC, ⟨1, 1, []⟩), (cT, ⟨2, 1, []⟩), (cbT, ⟨3, 1, []⟩)], [], 3, 0⟩
theorem qV6 : fG qZn abT = .ok mA := by kernel_rfl
theorem qV7 : eO mA aT = some ⟨2, 1, []⟩ := by kernel_rfl
theorem qVf : eO mA abT = some ⟨3, 1, []⟩ := by kernel_rfl
theorem qVg : eY mA aT cT (.error 0) = .ok mB := by kernel_rfl
theorem qVh : (goF aT mA.l).map (fN aT cT) = [(cT, ⟨2, 1, []⟩), (cbT, ⟨3, 1, []⟩)] := by kernel_rfl
theorem qVi : sH mA aT cT := by
 unfold sH
 rw [qVh]
 intro j hj
 have hj2 : j ≤ 2 := hj
 have h : j = 0 ∨ j = 1 ∨ j = 2 := jo
 unfold bN
 rcases h with rfl | rfl | rfl
 · exact of_decide_eq_true jK
 · exact of_decide_eq_true jK
 exact of_decide_eq_true jK
theorem qV8 : qS aT ≠ qC := of_decide_eq_true jK
theorem qV9 : eK mB cT = .error 16 := by kernel_rfl
theorem qWa : eK mB qJ2 = .error 17 := by kernel_rfl
theorem qWb : jJ mB csT false = [cT, cbT] := by kernel_rfl
end
section
open Go.RowKit Go.Sort
set_option maxHeartbeats 1000000 in
theorem mP (w : World) (hv : cQ w) : Calls Tryz.prog 16 #[] w fun e w' => e = .returned (.bool true) ∧ Frm [] w w' := by
 have K := Frm.refl [] w
 refine VC.calls (nt := 95) (res := #[.tmp 0]) Tryz.func16 rfl Tryz.ntmps16 Tryz.results16 rfl ?_
 refine jS (jR (ja rfl (jO (jN ?_))))
 refine VC.sub [] .nil ?_
 refine jS (jR ?_)
 refine Ops.cl (jE0 Tryz.call28) (rB _) rfl ?_
 rintro e w1 ⟨m0, rfl, hm0, ⟨S0, hk0⟩, hfw1⟩
 refine ⟨_, rfl, ?_⟩
 have hv := hv.frm hfw1
 have K := K.trans hfw1 jp
 have hm0R := hk0.now (RdL.zero _)
 refine Ops.cl (jE2 Tryz.call13) (tP m0 abT _ hm0R jd hv) rfl ?_
 rintro e w2 ⟨ma, ke, rfl, ⟨⟨Sa, hka⟩, hra⟩, hfw2⟩
 refine ⟨_, rfl, ?_⟩
 have hm0R := hm0R.frm hfw2
 have hv := hv.frm hfw2
 have K := K.trans hfw2 jp
 have hmaR := hka.now hm0R
 rw [hm0, qV6] at hra
 obtain ⟨rfl, hma⟩ : ke = 0 ∧ mA = ma.p := by
  rcases hra with ⟨h1, h2⟩ | ⟨h1, h2, _⟩
  · exact ⟨h1, Except.ok.inj h2⟩
  cases h2
 refine jm rfl (je (Run.extract rfl rfl) (je (Run.extract rfl rfl) ?_))
 refine Ops.m (qV.alloc bW) rfl ?_
 rintro _ w3 ⟨rfl, hFw3⟩
 refine Ops.st (qP.storeA rfl rfl zh hFw3.blk rfl (MlC.cells_one ma)) ?_
 rintro w4 ⟨hba, hfw4, hsw4⟩
 have hba : Blk w4 w2.heap.size 25 (ma.cells.toArray) := hba
 have Kw4 : Frm [] w2 w4 := hFw3.frm.trans hfw4 jp
 have hm0R := hm0R.frm Kw4
 have hmaR := hmaR.frm Kw4
 have hv := hv.frm Kw4
 have K := K.trans Kw4 jp
 generalize w2.heap.size = ga at hba ⊢
 refine ja rfl (jO (jN (jv2 1 2 ?_)))
 refine jS (jR (je (Run.loadA rfl zo zh hba.cells (by first | rfl | (simp; done))) ?_))
 refine Ops.cl (jE2 Tryz.call23) (lG ma aT _ hmaR jd hv) rfl ?_
 rintro e w5 ⟨vx, nx, Bx, dx, lx, bx, rfl, hOMx, hcx, hfw5⟩
 refine ⟨_, rfl, ?_⟩
 have hm0R := hm0R.frm hfw5
 have hmaR := hmaR.frm hfw5
 have hba := hba.frm hfw5 jp
 have hv := hv.frm hfw5
 have K := K.trans hfw5 jp
 rw [← hma, qV7] at hcx
 obtain ⟨rfl, rfl⟩ : bx = true ∧ vx = 2 := by
  rcases hcx with ⟨h1, h2⟩ | ⟨_, h2, _⟩
  · exact ⟨h1, (BoxV.mk.inj (Option.some.inj h2)).1.symm⟩
  cases h2
 refine jm rfl (je (Run.extract rfl rfl) (je (Run.extract rfl rfl) ?_))
 refine Ops.m (qV.alloc cN) rfl ?_
 rintro _ w6 ⟨rfl, hFw6⟩
 refine Ops.st (qP.storeA rfl rfl zu hFw6.blk rfl (cR _ _ _ _ _)) ?_
 rintro w7 ⟨hbx, hfw7, hsw7⟩
 have hbx : Blk w7 w5.heap.size 43 ((BVc 2 nx Bx lx.length dx).toArray) := hbx
 have Kw7 : Frm [] w5 w7 := hFw6.frm.trans hfw7 jp
 have hm0R := hm0R.frm Kw7
 have hmaR := hmaR.frm Kw7
 have hba := hba.frm Kw7 jp
 have hv := hv.frm Kw7
 have K := K.trans Kw7 jp
 generalize w5.heap.size = gx at hbx ⊢
 refine ja rfl (jO (jN (jv4 1 2 3 4 ?_)))
 refine jS (jR (je (Run.loadA rfl zo zh hba.cells (by first | rfl | (simp; done))) ?_))
 refine Ops.cl (jE2 Tryz.call23) (lG ma abT _ hmaR jd hv) rfl ?_
 rintro e w8 ⟨vz, nz, Bz, dz, lz, bz, rfl, hOMz, hcz, hfw8⟩
 refine ⟨_, rfl, ?_⟩
 have hm0R := hm0R.frm hfw8
 have hmaR := hmaR.frm hfw8
 have hba := hba.frm hfw8 jp
 have hbx := hbx.frm hfw8 jp
 have hv := hv.frm hfw8
 have K := K.trans hfw8 jp
 rw [← hma, qVf] at hcz
 obtain ⟨rfl, rfl⟩ : bz = true ∧ vz = 3 := by
  rcases hcz with ⟨h1, h2⟩ | ⟨_, h2, _⟩
  · exact ⟨h1, (BoxV.mk.inj (Option.some.inj h2)).1.symm⟩
  cases h2
 refine jm rfl (je (Run.extract rfl rfl) (je (Run.extract rfl rfl) ?_))
 refine Ops.m (qV.alloc cN) rfl ?_
 rintro _ w9 ⟨rfl, hFw9⟩
 refine Ops.st (qP.storeA rfl rfl zu hFw9.blk rfl (cR _ _ _ _ _)) ?_
 rintro w10 ⟨hby, hfw10, hsw10⟩
 have hby : Blk w10 w8.heap.size 43 ((BVc 3 nz Bz lz.length dz).toArray) := hby
 have Kw10 : Frm [] w8 w10 := hFw9.frm.trans hfw10 jp
 have hm0R := hm0R.frm Kw10
 have hmaR := hmaR.frm Kw10
 have hba := hba.frm Kw10 jp
 have hbx := hbx.frm Kw10 jp
 have hv := hv.frm Kw10
 have K := K.trans Kw10 jp
 generalize w8.heap.size = gy at hby ⊢
 refine ja rfl (jO (jN (jv6 1 2 3 4 5 6 ?_)))
 refine jS (jR (je (Run.loadA rfl zo zh hba.cells (by first | rfl | (simp; done))) ?_))
 refine Ops.cl (jE3 Tryz.call19) (tT ma aT cT _ hmaR jd jd (fun _ _ _ _ _ => by rw [← hma]; exact qVi) qV8 (.error 0) hv) rfl ?_
 rintro e w11 ⟨mb, kf, rfl, ⟨⟨Sb, hkb⟩, hrb⟩, hfw11⟩
 refine ⟨_, rfl, ?_⟩
 have hm0R := hm0R.frm hfw11
 have hmaR := hmaR.frm hfw11
 have hba := hba.frm hfw11 jp
 have hbx := hbx.frm hfw11 jp
 have hby := hby.frm hfw11 jp
 have hv := hv.frm hfw11
 have K := K.trans hfw11 jp
 have hmbR := hkb.now hmaR
 rw [← hma, qVg] at hrb
 obtain ⟨rfl, hmb⟩ : kf = 0 ∧ mB = mb.p := by
  rcases hrb with ⟨h1, h2⟩ | ⟨h1, h2, _⟩
  · exact ⟨h1, Except.ok.inj h2⟩
  cases h2
 refine jm rfl (je (Run.extract rfl rfl) (je (Run.extract rfl rfl) ?_))
 refine Ops.m (qV.alloc bW) rfl ?_
 rintro _ w12 ⟨rfl, hFw12⟩
 refine Ops.st (qP.storeA rfl rfl zh hFw12.blk rfl (MlC.cells_one mb)) ?_
 rintro w13 ⟨hbb, hfw13, hsw13⟩
 have hbb : Blk w13 w11.heap.size 25 (mb.cells.toArray) := hbb
 have Kw13 : Frm [] w11 w13 := hFw12.frm.trans hfw13 jp
 have hm0R := hm0R.frm Kw13
 have hmaR := hmaR.frm Kw13
 have hba := hba.frm Kw13 jp
 have hbx := hbx.frm Kw13 jp
 have hby := hby.frm Kw13 jp
 have hmbR := hmbR.frm Kw13
 have hv := hv.frm Kw13
 have K := K.trans Kw13 jp
 generalize w11.heap.size = gb at hbb ⊢
 refine ja rfl (jO (jN (jv7 2 3 4 5 6 7 8 ?_)))
 refine jS (jR (je (Run.loadA rfl zo zh hbb.cells (by first | rfl | (simp; done))) ?_))
 refine Ops.cl (jE2 Tryz.call17) (mN mb cT _ hmbR jd hv) rfl ?_
 rintro e w14 ⟨mg, kg, rfl, ⟨⟨Sg, hkg⟩, hrg⟩, hfw14⟩
 refine ⟨_, rfl, ?_⟩
 have hm0R := hm0R.frm hfw14
 have hmaR := hmaR.frm hfw14
 have hba := hba.frm hfw14 jp
 have hbx := hbx.frm hfw14 jp
 have hby := hby.frm hfw14 jp
 have hmbR := hmbR.frm hfw14
 have hbb := hbb.frm hfw14 jp
 have hv := hv.frm hfw14
 have K := K.trans hfw14 jp
 rw [← hmb, qV9] at hrg
 obtain rfl : kg = 16 := by
  rcases hrg with ⟨_, h2⟩ | ⟨_, h2, _⟩
  · cases h2
  injection h2 with h2; exact h2.symm
 refine jm rfl (je (Run.extract rfl rfl) (je (Run.extract rfl rfl) ?_))
 refine Ops.m (qV.alloc bW) rfl ?_
 rintro _ w15 ⟨rfl, hFw15⟩
 refine Ops.st (qP.storeA rfl rfl zh hFw15.blk rfl (MlC.cells_one mg)) ?_
 rintro w16 ⟨hbg9, hfw16, hsw16⟩
 have hbg9 : Blk w16 w14.heap.size 25 (mg.cells.toArray) := hbg9
 have Kw16 : Frm [] w14 w16 := hFw15.frm.trans hfw16 jp
 have hm0R := hm0R.frm Kw16
 have hmaR := hmaR.frm Kw16
 have hba := hba.frm Kw16 jp
 have hbx := hbx.frm Kw16 jp
 have hby := hby.frm Kw16 jp
 have hmbR := hmbR.frm Kw16
 have hbb := hbb.frm Kw16 jp
 have hv := hv.frm Kw16
 have K := K.trans Kw16 jp
 generalize w14.heap.size = gg9 at hbg9 ⊢
 refine ja rfl (jO (jN (jv8 2 3 4 5 6 7 8 10 ?_)))
 refine jS (jR (je (Run.loadA rfl zo zh hbb.cells (by first | rfl | (simp; done))) ?_))
 refine Ops.cl (jE2 Tryz.call17) (mN mb qJ2 _ hmbR jd hv) rfl ?_
 rintro e w17 ⟨mh, kh, rfl, ⟨⟨Sh, hkh⟩, hrh⟩, hfw17⟩
 refine ⟨_, rfl, ?_⟩
 have hm0R := hm0R.frm hfw17
 have hmaR := hmaR.frm hfw17
 have hba := hba.frm hfw17 jp
 have hbx := hbx.frm hfw17 jp
 have hby := hby.frm hfw17 jp
 have hmbR := hmbR.frm hfw17
 have hbb := hbb.frm hfw17 jp
 have hbg9 := hbg9.frm hfw17 jp
 have hv := hv.frm hfw17
 have K := K.trans hfw17 jp
 rw [← hmb, qWa] at hrh
 obtain rfl : kh = 17 := by
  rcases hrh with ⟨_, h2⟩ | ⟨_, h2, _⟩
  · cases h2
  injection h2 with h2; exact h2.symm
 refine jm rfl (je (Run.extract rfl rfl) (je (Run.extract rfl rfl) ?_))
 refine Ops.m (qV.alloc bW) rfl ?_
 rintro _ w18 ⟨rfl, hFw18⟩
 refine Ops.st (qP.storeA rfl rfl zh hFw18.blk rfl (MlC.cells_one mh)) ?_
 rintro w19 ⟨hbg11, hfw19, hsw19⟩
 have hbg11 : Blk w19 w17.heap.size 25 (mh.cells.toArray) := hbg11
 have Kw19 : Frm [] w17 w19 := hFw18.frm.trans hfw19 jp
 have hm0R := hm0R.frm Kw19
 have hmaR := hmaR.frm Kw19
 have hba := hba.frm Kw19 jp
 have hbx := hbx.frm Kw19 jp
 have hby := hby.frm Kw19 jp
 have hmbR := hmbR.frm Kw19
 have hbb := hbb.frm Kw19 jp
 have hbg9 := hbg9.frm Kw19 jp
 have hv := hv.frm Kw19
 have K := K.trans Kw19 jp
 generalize w17.heap.size = gg11 at hbg11 ⊢
 refine ja rfl (jO (jN (jv9 2 3 4 5 6 7 8 10 12 ?_)))
 refine jS (jR (je (Run.loadA rfl zo zh hbb.cells (by first | rfl | (simp; done))) ?_))
 refine Ops.cl (jE3 Tryz.call27) (pH mb csT false _ hmbR jd hv) rfl ?_
 rintro e w20 ⟨Bl, dl, ss, rfl, hol, hss, _, hfw20⟩
 refine ⟨_, rfl, ?_⟩
 have hm0R := hm0R.frm hfw20
 have hmaR := hmaR.frm hfw20
 have hba := hba.frm hfw20 jp
 have hbx := hbx.frm hfw20 jp
 have hby := hby.frm hfw20 jp
 have hmbR := hmbR.frm hfw20
 have hbb := hbb.frm hfw20 jp
 have hbg9 := hbg9.frm hfw20 jp
 have hbg11 := hbg11.frm hfw20 jp
 have hv := hv.frm hfw20
 have K := K.trans hfw20 jp
 rw [← hmb, qWb] at hss
 subst hss
 obtain ⟨adl, rfl, hel0⟩ := hol.rd.elem (k := 0) jd
 obtain ⟨_, h1, hel1⟩ := hol.rd.elem (k := 1) jd
 cases h1
 refine ja rfl (jO (jN (jv9 2 3 4 5 6 8 10 12 13 ?_)))
 refine jS ?_
 refine VC.split1 [] .nil 0 (.bool (decide (True))) ?_ ?_
 ·
  refine jR ?_
  refine jm rfl (jb rfl rfl (Bin.eqlN _ 0) (jM ?_))
  refine jG ?_
  refine je (Run.pickT rfl rfl au) (jM ?_)
  refine jk (Run.fieldAddr rfl zl rfl zn jd) ?_
  refine jk (Run.load rfl zp (hbx.cell 0)) ?_
  refine jk (Run.bin rfl rfl (Bin.eql _ 2)) ?_
  refine je (Run.pickT rfl rfl au) (jM ?_)
  refine jG ?_
  refine je (Run.pickT rfl rfl au) (jM ?_)
  refine jk (Run.fieldAddr rfl zl rfl zn jd) ?_
  refine jk (Run.load rfl zp (hby.cell 0)) ?_
  refine jk (Run.bin rfl rfl (Bin.eql _ 3)) ?_
  refine je (Run.pickT rfl rfl au) (jM ?_)
  refine jG ?_
  refine jk (Run.bin rfl rfl (Bin.eqlN _ 0)) ?_
  refine je (Run.pickT rfl rfl au) (jM ?_)
  refine jG ?_
  refine jk (Run.lenS rfl zc) ?_
  refine jk (Run.bin rfl rfl (Bin.eqlN _ 2)) ?_
  refine je (Run.pickT rfl rfl au) (jM ?_)
  refine jG ?_
  refine jk (Run.indexS 0 rfl rfl zc zm jd) ?_
  refine jk (Run.load rfl zx (hel0 0 (encStr cT) rfl)) ?_
  refine jk (Run.eqlT rfl rfl) ?_
  refine je (Run.pickT rfl rfl au) (jM ?_)
  refine jG ?_
  refine jk (Run.indexS 1 rfl rfl zc zm jd) ?_
  refine jk (Run.load rfl zx (hel1 0 (encStr cbT) rfl)) ?_
  refine jk (Run.eqlT rfl rfl) ?_
  refine je (Run.pickT rfl rfl au) (jM ?_)
  refine jG ?_
  refine jk (Run.bin rfl rfl (Bin.eqlN _ 16)) ?_
  refine je (Run.pickT rfl rfl au) (jM ?_)
  refine jG ?_
  refine jk (Run.bin rfl rfl (Bin.eqlN _ 17)) ?_
  refine je (Run.pickT rfl rfl au) (jm rfl (je (Run.pickT rfl rfl au) (ja rfl (jO ?_))))
  refine jN ⟨(js1 (jC jp)), rfl⟩
 intro Γ hΓ
 refine jN (VC.sub _ hΓ ?_)
 refine jT ?_
 refine qR rfl ?_
 exact ⟨jp, K⟩
end
section
open Go.RowKit Go.Sort
def gA (b : Tx) : List Tx → List Tx
 | [] => [b]
 | p :: ps => (b ++ p) :: ps
theorem oH (c : UInt8) : ∀ s : Tx, bG c s ≠ []
 | [] => by simp [bG]
 | x :: r => by
  unfold bG
  split
  · simp
  split <;> simp
theorem tU {l : List Tx} (h : l ≠ []) : gA [] l = l := by
 cases l with
 | nil => exact absurd rfl h
 | cons p ps => rfl
theorem yM (c : UInt8) (b r : Tx) : gA b (bG c (c :: r)) = b :: bG c r := by simp [bG, gA]
theorem vJ {c x : UInt8} (h : x ≠ c) (b r : Tx) : gA b (bG c (x :: r)) = gA (b ++ [x]) (bG c r) := by
 have e : bG c (x :: r) = match bG c r with
  | [] => [[x]]
  | p :: ps => (x :: p) :: ps := by
  rw [bG, if_neg h]
  cases bG c r <;> rfl
 rw [e]
 cases hs : bG c r with
 | nil => exact absurd hs (oH c r)
 | cons p ps => simp [gA]
theorem qQ0 {α : Type} {s : List α} {i : Nat} (h : i < s.length) : s.drop i = s[i] :: s.drop (i + 1) := by rw [zav h]
theorem qZy {α : Type} (a : List α) (b v : α) : (a ++ [b]).set a.length v = a ++ [v] := jp
theorem hrdT {w w' : World} {t : TypeId} {q : Tx} (h : Fresh w w' t #[encStr q]) : Rd w' 1 (some ⟨w.heap.size, 0, none⟩) 1 (SB [q]) := Rd.of_blk (n := 1) (size := 1) h.blk rfl
theorem qQ1 {w : World} {ad : Addr} {a : List Tx} {b : Tx} {d : Nat} (h : Own w 9 1 (some ad) (a ++ [b]).length d (SB (a ++ [b]))) : w.cell? (ad.add ((a ++ [b]).length - 1)) = some (encStr b) := by
 obtain ⟨ad', h1, h2⟩ := eZ h.rd (show (a ++ [b]).length - 1 < (a ++ [b]).length by simp)
 cases h1
 rw [h2]
 simp
theorem qQ2 (q : Tx) (c : UInt8) (w : World) (hs : q.length ≤ 1000000) : Calls Tryz.prog 138 #[encStr q, .int .u8 ((c.toNat : Nat) : Int)] w fun e w' => Frm [] w w' ∧ ∃ A d, e = .returned (.slice A (bG c q).length d) ∧ Own w' 9 1 A (bG c q).length d (SB (bG c q)) ∧ ∀ x ∈ ob A, w.heap.size ≤ x := by
 refine VC.calls (nt := 36) (res := #[.tmp 4]) Tryz.func138 rfl Tryz.ntmps138 Tryz.results138 rfl ?_
 refine jS (jR (ja rfl (jO (jN (jv2 0 1 ?_)))))
 refine jS (jR ?_)
 refine Ops.m (qV.buildS1 rfl zc zm dI jd jd rfl rfl) rfl ?_
 rintro _ w1 ⟨rfl, hF1⟩
 have K := hF1.frm
 have hA : Own w1 9 1 (some ⟨w.heap.size, 0, none⟩) 1 1 (SB [[]]) := Own.of_blk (n := 1) hF1.blk rfl jd
 have hub : ∀ x ∈ ob (some (⟨w.heap.size, 0, none⟩ : Addr)), w.heap.size ≤ x := by simp [ob]
 refine ja rfl (jO (jN (jv3 0 1 5 ?_)))
 refine jS (jS (jR (jz 0 (jO (jN (jB ?_))))))
 refine VC.loop (σ := Nat × List Tx × Tx × Option Addr × Nat) (fun s => [(0, encStr q), (1, .int .u8 ((c.toNat : Nat) : Int)), (5, .slice s.2.2.2.1 (s.2.1 ++ [s.2.2.1]).length s.2.2.2.2), (6, .int .i64 ((s.1 : Nat) : Int))]) (fun s wr => s.1 ≤ q.length ∧ bG c q = s.2.1 ++ gA s.2.2.1 (bG c (q.drop s.1)) ∧ s.2.1.length ≤ s.1 ∧ s.2.2.1.length ≤ s.1 ∧ Own wr 9 1 s.2.2.2.1 (s.2.1 ++ [s.2.2.1]).length s.2.2.2.2 (SB (s.2.1 ++ [s.2.2.1])) ∧ (∀ x ∈ ob s.2.2.2.1, w.heap.size ≤ x) ∧ Frm [] w wr) (fun s => q.length - s.1) (0, [], [], some ⟨w.heap.size, 0, none⟩, 1) (js4 rfl rfl rfl rfl) ⟨jo, by rw [zco, zcg, tU (oH c q)], jp, jp, hA, hub, K⟩ ?_
 rintro ⟨i, a, b, A, d⟩ wr ⟨hi, hsp, hal, hbl, hA, hub, K⟩
 dsimp only at hi hsp hal hbl hA hub ⊢
 have hwl : (a ++ [b]).length = a.length + 1 := jp
 refine jS (jS (jR (jm rfl (jm rfl (je (Run.lenT rfl zj) (jb rfl rfl (Bin.lssN _ _) (jO (jN (jv5 0 1 5 6 11 ?_)))))))))
 refine jD rfl (fun hc1 => ?_) fun hc1 => ?_
 ·
  have hgx : q[i]? = some q[i] := zb hc1
  have hdc := qQ0 hc1
  have htk1 : (q.drop i).take (i + 1 - i) = [q[i]] := by rw [hdc, show i + 1 - i = 1 by omega]; rfl
  have hlk : ((q.drop i).take (i + 1 - i)).length = 1 := by rw [htk1]; rfl
  generalize hx : q[i] = x at *
  refine jQ (jN (jv4 0 1 5 6 ?_))
  refine jS (jB (jS (jR (jm rfl (jm rfl (je (Run.indexT _ rfl rfl zj hgx) (jm rfl (jb rfl rfl (Bin.eqlN _ _) (jO (jN (jv5 0 1 5 6 18 ?_)))))))))))
  refine VC.meet (σ := List Tx × Tx × Option Addr × Nat) (fun s => [(0, encStr q), (1, .int .u8 ((c.toNat : Nat) : Int)), (5, .slice s.2.2.1 (s.1 ++ [s.2.1]).length s.2.2.2), (6, .int .i64 ((i : Nat) : Int))]) (fun s wr => bG c q = s.1 ++ gA s.2.1 (bG c (q.drop (i + 1))) ∧ s.1.length ≤ i + 1 ∧ s.2.1.length ≤ i + 1 ∧ Own wr 9 1 s.2.2.1 (s.1 ++ [s.2.1]).length s.2.2.2 (SB (s.1 ++ [s.2.1])) ∧ (∀ x ∈ ob s.2.2.1, w.heap.size ≤ x) ∧ Frm [] w wr) ?_ ?_
  ·
   refine jD rfl (fun hc2 => ?_) fun hc2 => ?_
   ·
    have hl2 : (a ++ [b]).length + 1 = (a ++ [b] ++ [([] : Tx)]).length := jp
    have hxc : x = c := UInt8.toNat_inj.1 hc2
    have hsp2 : bG c q = (a ++ [b]) ++ gA [] (bG c (q.drop (i + 1))) := by rw [hsp, hdc, hxc, yM, tU (oH c _)]; simp
    refine jR (jM ?_)
    refine Ops.m (qV.buildS1 rfl zc zm dI jd jd rfl rfl) rfl ?_
    rintro _ w3 ⟨rfl, hF3⟩
    have K := K.trans hF3.frm jp
    refine Ops.m (qV.app rfl rfl zc (eF) rfl jd (hA.frm hF3.frm jp) (hrdT (q := []) hF3) (dS _) jo jo) rfl ?_
    rintro _ w4 ⟨A4, d4, rfl, hA4, hf4, hob4⟩
    rw [← bA] at hA4
    have hub4 := fF hub hob4 K.size
    have K := Frm.own K hf4 hub
    refine ja rfl (jO ?_)
    refine jN ⟨(a ++ [b], [], A4, d4), (js4 rfl rfl (by rw [← hl2]; rfl) rfl), ?_⟩
    exact ⟨hsp2, by dsimp only; omega, jp, by simpa using hA4, hub4, K⟩
   obtain ⟨ad, rfl, _⟩ := eZ hA.rd (jo : a.length < (a ++ [b]).length)
   have hxc : x ≠ c := fun h => hc2 (by rw [h])
   have hsp2 : bG c q = a ++ gA (b ++ [x]) (bG c (q.drop (i + 1))) := by rw [hsp, hdc, vJ hxc]
   refine VC.held (fun _ => True) jK ?_
   refine jH 0 rfl trivial (fun w0 hw0 => Run.mv rfl) ?_
   refine jH 1 rfl trivial (fun w0 hw0 => Run.mv rfl) ?_
   refine jH 2 rfl trivial (fun w0 hw0 => Run.lenS rfl zc) ?_
   refine jH 3 rfl trivial (fun w0 hw0 => Run.bin rfl rfl (Bin.subN (a ++ [b]).length 1 jo (by simp [bmax]; omega))) ?_
   refine jH 4 rfl trivial (fun w0 hw0 => Run.index1 ((a ++ [b]).length - 1) rfl rfl zc zm (jo : (a ++ [b]).length - 1 < (a ++ [b]).length)) ?_
   refine jH 6 rfl trivial (fun w0 hw0 => Run.mv rfl) ?_
   refine jH 7 rfl trivial (fun w0 hw0 => Run.mv rfl) ?_
   refine jH 8 rfl trivial (fun w0 hw0 => Run.mv rfl) ?_
   refine jH 9 rfl trivial (fun w0 hw0 => Run.bin rfl rfl (Bin.add_i64 _ 1 jo)) ?_
   refine jH 10 rfl trivial (fun w0 hw0 => Run.sliceT i (i + 1) rfl zj (evB.some_ rfl) (evB.some_ rfl) jo jo) ?_
   refine qQ.r1 5 rfl jK trivial (Run.load rfl zx (qQ1 hA)) trivial rfl rfl ?_
   refine jH 11 rfl trivial (fun w0 hw0 => Run.addT rfl rfl jo) ?_
   refine jH 12 rfl trivial (fun w0 hw0 => Run.index1 ((a ++ [b]).length - 1) rfl rfl zc zm (jo : (a ++ [b]).length - 1 < (a ++ [b]).length)) ?_
   refine qQ.st 13 rfl jK (qP.storeOwn ((a ++ [b]).length - 1) rfl rfl zm hA rfl jo rfl) trivial rfl ?_
   rintro w6 ⟨hA6, hf6, _⟩
   rw [htk1] at hA6
   have hA6 : Own w6 9 1 (some ad) (a ++ [b ++ [x]]).length d (SB (a ++ [b ++ [x]])) := by
    have e1 : (SB (a ++ [b])).set ((a ++ [b]).length - 1) (encStr (b ++ [x])) = SB (a ++ [b ++ [x]]) := by
     rw [show (a ++ [b]).length - 1 = a.length by omega, bA, bA, ← qK6 a]
     exact qZy _ _ _
    rw [← e1, show (a ++ [b ++ [x]]).length = (a ++ [b]).length by simp]
    exact hA6
   have K := Frm.own K.drew hf6 hub
   refine ⟨trivial, ?_⟩
   refine qQ.done jK ?_
   refine jN ⟨(a, b ++ [x], some ad, d), (js4 rfl rfl (by simp; rfl) rfl), ?_⟩
   exact ⟨hsp2, by dsimp only; omega, by simp; omega, hA6, hub, K⟩
  rintro ⟨a5, b5, A5, d5⟩ w5 ⟨hsp5, hal5, hbl5, hA5, hub5, K5⟩ Γ hΓ
  dsimp only at hsp5 hal5 hbl5 hA5 hub5
  refine qW (jN (VC.sub _ hΓ ?_))
  refine jR (jm rfl (jb rfl rfl (Bin.add_i64 _ 1 jo) (ja rfl (jO ?_))))
  refine jN ⟨(i + 1, a5, b5, A5, d5), (js4 rfl rfl rfl rfl), ?_, ?_⟩
  · exact ⟨hc1, hsp5, hal5, hbl5, hA5, hub5, K5⟩
  first | omega | (dsimp only; omega)
 have him : i = q.length := jo
 subst him
 have hfin : bG c q = a ++ [b] := by rw [hsp, List.drop_length]; simp [bG, gA]
 refine jX ?_
 refine qJ (qJ (qN ?_))
 refine jN (jv1 5 ?_)
 refine jS (jR (jm rfl (ja rfl (jO (jN (jv1 4 ?_))))))
 refine jT ?_
 refine qR rfl ?_
 rw [hfin]
 exact ⟨K, A, d, rfl, hA, hub⟩
end
section
open Go.RowKit Go.Sort
theorem qZz (x : UInt8) : ¬ gU x ↔ x.toNat < 33 ∨ 126 < x.toNat ∨ x.toNat = 40 ∨ x.toNat = 41 ∨ x.toNat = 123 ∨ x.toNat = 125 ∨ x.toNat = 37 ∨ x.toNat = 42 ∨ x.toNat = 34 ∨ x.toNat = 92 := by
 have e : ∀ k : UInt8, x = k ↔ x.toNat = k.toNat := fun k => ⟨fun h => by rw [h], fun h => UInt8.toNat_inj.1 h⟩
 unfold gU mX
 simp only [zbh, zcj, or_false, e]
 simp only [show (40 : UInt8).toNat = 40 from rfl, show (41 : UInt8).toNat = 41 from rfl, show (123 : UInt8).toNat = 123 from rfl, show (125 : UInt8).toNat = 125 from rfl, show (37 : UInt8).toNat = 37 from rfl, show (42 : UInt8).toNat = 42 from rfl, show (34 : UInt8).toNat = 34 from rfl, show (92 : UInt8).toNat = 92 from rfl]
 omega
def OkAt (q : Tx) (j : Nat) : Prop := ∀ x, q[j]? = some x → gU x ∧ ¬ (x.toNat = 47 ∧ (j = 0 ∨ j = q.length - 1 ∨ eH q[j - 1]? = 47))
theorem n47 {x : UInt8} : x.toNat = 47 ↔ x = 47 := ⟨fun h => UInt8.toNat_inj.1 h, fun h => by rw [h]; rfl⟩
theorem lP (q : Tx) : isN q ↔ (∀ j, j < q.length → OkAt q j) ∧ 1 ≤ q.length ∧ q.length ≤ 60 := by
 unfold isN
 constructor
 ·
  rintro ⟨h1, h2, h3, h4, h5, h6⟩
  refine ⟨fun j hj x hx => ⟨h6 x (zcr hx), ?_⟩, List.length_pos_iff.2 h1, h2⟩
  rintro ⟨h7, h8⟩
  rw [n47] at h7
  subst h7
  rcases h8 with rfl | rfl | h8
  · exact h3 hx
  · exact h4 hx
  rw [xL] at h8
  rcases zch j with rfl | h9
  · exact h3 hx
  have := (sB q).2 ⟨j - 1, h8, by rw [show j - 1 + 1 = j by omega]; exact hx⟩
  rw [h5] at this
  cases this
 rintro ⟨h1, h2, h3⟩
 refine ⟨List.length_pos_iff.1 h2, h3, fun h => ((h1 0 jo) 47 h).2 ⟨rfl, .inl rfl⟩, fun h => ((h1 (q.length - 1) jo) 47 h).2 ⟨rfl, .inr (.inl rfl)⟩, ?_, fun c hc => ?_⟩
 ·
  cases hd : jP q with
  | false => rfl
  | true =>
   obtain ⟨i, h4, h5⟩ := (sB q).1 hd
   have hi : i + 1 < q.length := (List.getElem?_eq_some_iff.1 h5).1
   exact absurd ⟨rfl, .inr (.inr (by rw [show i + 1 - 1 = i by omega, h4]; rfl))⟩ ((h1 (i + 1) hi) 47 h5).2
 obtain ⟨j, hj, rfl⟩ := zag hc
 exact ((h1 j hj) _ (zb hj)).1
theorem oM (q : Tx) (w : World) (hq : q.length ≤ 1000000) : Calls Tryz.prog 50 #[encStr q] w fun e w' => e = .returned (.bool (decide (isN q))) ∧ w = w' := by
 refine VC.calls (nt := 80) (res := #[.tmp 2]) Tryz.func50 rfl Tryz.ntmps50 Tryz.results50 rfl ?_
 refine jS (jR (ja rfl (jO (jN (jv1 0 ?_)))))
 refine jS (jS (jR (jz 0 (jO (jN (jB ?_))))))
 refine VC.loop (σ := Nat) (fun s => [(0, encStr q), (3, .int .i64 ((s : Nat) : Int))]) (fun s wr => s ≤ q.length ∧ (∀ j, j < s → OkAt q j) ∧ w = wr) (fun s => q.length - s) 0 (js2 rfl rfl) ⟨zae _, fun _ h => jo, rfl⟩ ?_
 rintro i _ ⟨hi, hd, rfl⟩
 refine jS (jS (jR (jm rfl (jm rfl (je (Run.lenT rfl zj) (jb rfl rfl (Bin.lssN _ _) (jO (jN (jv3 0 3 8 ?_)))))))))
 refine jD rfl (fun hc1 => ?_) fun hc1 => ?_
 ·
  obtain ⟨x, hx⟩ := fM hc1
  have hsn := qZz x
  refine jQ (jN (jv2 0 3 ?_))
  refine jS (jB (jS (jR (jm rfl (jm rfl (je (Run.indexT _ rfl rfl zj hx) (ja rfl (jO (jN (jv3 0 3 4 ?_))))))))))
  refine jS (jS ?_)
  refine VC.split1 [(0, _), (3, _), (4, _)] (js3 rfl rfl rfl) 51 (.bool (decide (x.toNat < 33 ∨ 126 < x.toNat ∨ x.toNat = 40 ∨ x.toNat = 41 ∨ x.toNat = 123 ∨ x.toNat = 125 ∨ x.toNat = 37 ∨ x.toNat = 42 ∨ x.toNat = 34 ∨ x.toNat = 92))) ?_ ?_
  ·
   refine jR ?_
   refine jm rfl (jb rfl rfl (Bin.lssN _ 33) ?_)
   by_cases hs15 : x.toNat < 33
   ·
    refine jM ?_
    refine jU ?_
    refine jU ?_
    refine je (Run.pickT rfl rfl au) (jM ?_)
    refine jU ?_
    refine jU ?_
    refine je (Run.pickT rfl rfl au) (jM ?_)
    refine jU ?_
    refine jU ?_
    refine je (Run.pickT rfl rfl au) (jM ?_)
    refine jU ?_
    refine jU ?_
    refine je (Run.pickT rfl rfl au) (jM ?_)
    refine jU ?_
    refine jU ?_
    refine je (Run.pickT rfl rfl au) (jM ?_)
    refine jU ?_
    refine jU ?_
    refine je (Run.pickT rfl rfl au) (jM ?_)
    refine jU ?_
    refine jU ?_
    refine je (Run.pickT rfl rfl au) (jM ?_)
    refine jU ?_
    refine jU ?_
    refine je (Run.pickT rfl rfl au) (jM ?_)
    refine jU ?_
    refine jU ?_
    refine je (Run.pickT rfl rfl au) (jO ?_)
    refine jN ⟨(js4 (jC (by clear hsn; simp [*])) rfl rfl rfl), rfl⟩
   refine jM ?_
   refine jG ?_
   refine jk (Run.bin rfl rfl (Bin.gtrN _ 126)) ?_
   by_cases hs18 : 126 < x.toNat
   ·
    refine je (Run.pickF rfl rfl au) (jM ?_)
    refine jU ?_
    refine jU ?_
    refine je (Run.pickT rfl rfl au) (jM ?_)
    refine jU ?_
    refine jU ?_
    refine je (Run.pickT rfl rfl au) (jM ?_)
    refine jU ?_
    refine jU ?_
    refine je (Run.pickT rfl rfl au) (jM ?_)
    refine jU ?_
    refine jU ?_
    refine je (Run.pickT rfl rfl au) (jM ?_)
    refine jU ?_
    refine jU ?_
    refine je (Run.pickT rfl rfl au) (jM ?_)
    refine jU ?_
    refine jU ?_
    refine je (Run.pickT rfl rfl au) (jM ?_)
    refine jU ?_
    refine jU ?_
    refine je (Run.pickT rfl rfl au) (jM ?_)
    refine jU ?_
    refine jU ?_
    refine je (Run.pickT rfl rfl au) (jO ?_)
    refine jN ⟨(js4 (jC (by clear hsn; simp [*])) rfl rfl rfl), rfl⟩
   refine je (Run.pickF rfl rfl au) (jM ?_)
   refine jG ?_
   refine jk (Run.bin rfl rfl (Bin.eqlN _ 40)) ?_
   by_cases hs22 : x.toNat = 40
   ·
    refine je (Run.pickF rfl rfl au) (jM ?_)
    refine jU ?_
    refine jU ?_
    refine je (Run.pickT rfl rfl au) (jM ?_)
    refine jU ?_
    refine jU ?_
    refine je (Run.pickT rfl rfl au) (jM ?_)
    refine jU ?_
    refine jU ?_
    refine je (Run.pickT rfl rfl au) (jM ?_)
    refine jU ?_
    refine jU ?_
    refine je (Run.pickT rfl rfl au) (jM ?_)
    refine jU ?_
    refine jU ?_
    refine je (Run.pickT rfl rfl au) (jM ?_)
    refine jU ?_
    refine jU ?_
    refine je (Run.pickT rfl rfl au) (jM ?_)
    refine jU ?_
    refine jU ?_
    refine je (Run.pickT rfl rfl au) (jO ?_)
    refine jN ⟨(js4 (jC (by clear hsn; simp [*])) rfl rfl rfl), rfl⟩
   refine je (Run.pickF rfl rfl au) (jM ?_)
   refine jG ?_
   refine jk (Run.bin rfl rfl (Bin.eqlN _ 41)) ?_
   by_cases hs26 : x.toNat = 41
   ·
    refine je (Run.pickF rfl rfl au) (jM ?_)
    refine jU ?_
    refine jU ?_
    refine je (Run.pickT rfl rfl au) (jM ?_)
    refine jU ?_
    refine jU ?_
    refine je (Run.pickT rfl rfl au) (jM ?_)
    refine jU ?_
    refine jU ?_
    refine je (Run.pickT rfl rfl au) (jM ?_)
    refine jU ?_
    refine jU ?_
    refine je (Run.pickT rfl rfl au) (jM ?_)
    refine jU ?_
    refine jU ?_
    refine je (Run.pickT rfl rfl au) (jM ?_)
    refine jU ?_
    refine jU ?_
    refine je (Run.pickT rfl rfl au) (jO ?_)
    refine jN ⟨(js4 (jC (by clear hsn; simp [*])) rfl rfl rfl), rfl⟩
   refine je (Run.pickF rfl rfl au) (jM ?_)
   refine jG ?_
   refine jk (Run.bin rfl rfl (Bin.eqlN _ 123)) ?_
   by_cases hs30 : x.toNat = 123
   ·
    refine je (Run.pickF rfl rfl au) (jM ?_)
    refine jU ?_
    refine jU ?_
    refine je (Run.pickT rfl rfl au) (jM ?_)
    refine jU ?_
    refine jU ?_
    refine je (Run.pickT rfl rfl au) (jM ?_)
    refine jU ?_
    refine jU ?_
    refine je (Run.pickT rfl rfl au) (jM ?_)
    refine jU ?_
    refine jU ?_
    refine je (Run.pickT rfl rfl au) (jM ?_)
    refine jU ?_
    refine jU ?_
    refine je (Run.pickT rfl rfl au) (jO ?_)
    refine jN ⟨(js4 (jC (by clear hsn; simp [*])) rfl rfl rfl), rfl⟩
   refine je (Run.pickF rfl rfl au) (jM ?_)
   refine jG ?_
   refine jk (Run.bin rfl rfl (Bin.eqlN _ 125)) ?_
   by_cases hs34 : x.toNat = 125
   ·
    refine je (Run.pickF rfl rfl au) (jM ?_)
    refine jU ?_
    refine jU ?_
    refine je (Run.pickT rfl rfl au) (jM ?_)
    refine jU ?_
    refine jU ?_
    refine je (Run.pickT rfl rfl au) (jM ?_)
    refine jU ?_
    refine jU ?_
    refine je (Run.pickT rfl rfl au) (jM ?_)
    refine jU ?_
    refine jU ?_
    refine je (Run.pickT rfl rfl au) (jO ?_)
    refine jN ⟨(js4 (jC (by clear hsn; simp [*])) rfl rfl rfl), rfl⟩
   refine je (Run.pickF rfl rfl au) (jM ?_)
   refine jG ?_
   refine jk (Run.bin rfl rfl (Bin.eqlN _ 37)) ?_
   by_cases hs38 : x.toNat = 37
   ·
    refine je (Run.pickF rfl rfl au) (jM ?_)
    refine jU ?_
    refine jU ?_
    refine je (Run.pickT rfl rfl au) (jM ?_)
    refine jU ?_
    refine jU ?_
    refine je (Run.pickT rfl rfl au) (jM ?_)
    refine jU ?_
    refine jU ?_
    refine je (Run.pickT rfl rfl au) (jO ?_)
    refine jN ⟨(js4 (jC (by clear hsn; simp [*])) rfl rfl rfl), rfl⟩
   refine je (Run.pickF rfl rfl au) (jM ?_)
   refine jG ?_
   refine jk (Run.bin rfl rfl (Bin.eqlN _ 42)) ?_
   by_cases hs42 : x.toNat = 42
   ·
    refine je (Run.pickF rfl rfl au) (jM ?_)
    refine jU ?_
    refine jU ?_
    refine je (Run.pickT rfl rfl au) (jM ?_)
    refine jU ?_
    refine jU ?_
    refine je (Run.pickT rfl rfl au) (jO ?_)
    refine jN ⟨(js4 (jC (by clear hsn; simp [*])) rfl rfl rfl), rfl⟩
   refine je (Run.pickF rfl rfl au) (jM ?_)
   refine jG ?_
   refine jk (Run.bin rfl rfl (Bin.eqlN _ 34)) ?_
   by_cases hs46 : x.toNat = 34
   ·
    refine je (Run.pickF rfl rfl au) (jM ?_)
    refine jU ?_
    refine jU ?_
    refine je (Run.pickT rfl rfl au) (jO ?_)
    refine jN ⟨(js4 (jC (by clear hsn; simp [*])) rfl rfl rfl), rfl⟩
   refine je (Run.pickF rfl rfl au) (jM ?_)
   refine jG ?_
   refine jk (Run.bin rfl rfl (Bin.eqlN _ 92)) ?_
   refine je (Run.pickF rfl rfl au) (jO ?_)
   refine jN ⟨(js4 (jC (by clear hsn; simp [*])) rfl rfl rfl), rfl⟩
  intro Γ hΓ
  refine jN (VC.sub _ hΓ ?_)
  refine jD rfl (fun hc2 => ?_) fun hc2 => ?_
  ·
   have hbad : ¬ isN q := fun h => (hsn.2 hc2) ((((lP q).1 h).1 i hc1) x hx).1
   refine jS (jR (ja rfl (jO (jN (jv1 2 ?_)))))
   refine jT ?_
   refine qZ (qH (qZ (qZ (qH (qZ (qR rfl ?_))))))
   exact ⟨by rw [decide_eq_false hbad], rfl⟩
  refine jQ (jN (jv3 0 3 4 ?_))
  refine jS ?_
  refine VC.split1 [(0, _), (3, _)] (js2 rfl rfl) 71 (.bool (decide (x.toNat = 47 ∧ (i = 0 ∨ i = q.length - 1 ∨ eH q[i - 1]? = 47)))) ?_ ?_
  ·
   refine jR ?_
   refine jm rfl (jb rfl rfl (Bin.eqlN _ 47) ?_)
   by_cases hs53 : x.toNat = 47
   ·
    refine jM ?_
    refine jG ?_
    refine jk (Run.bin rfl rfl (Bin.eqlN _ 0)) ?_
    by_cases hs56 : i = 0
    ·
     refine jG ?_
     refine jU ?_
     refine jU ?_
     refine jU ?_
     refine jU ?_
     refine jU ?_
     refine jk (Run.pickT rfl rfl au) ?_
     refine jG ?_
     refine jU ?_
     refine jU ?_
     refine jU ?_
     refine jU ?_
     refine jU ?_
     refine jk (Run.pickT rfl rfl au) ?_
     refine je (Run.pickT rfl rfl au) (jO ?_)
     refine jN ⟨(js3 (jC (by clear hsn hc2; simp [eH, *])) rfl rfl), rfl⟩
    obtain ⟨y, hy⟩ := fM (jo : i - 1 < q.length)
    refine jG ?_
    refine jG ?_
    refine jG ?_
    refine jk (Run.lenT rfl zj) ?_
    refine jk (Run.bin rfl rfl (Bin.sub_i64 _ 1 jo jo)) ?_
    refine jk (Run.bin rfl rfl (Bin.eqlN _ _)) ?_
    by_cases hs62 : i = q.length - 1
    ·
     refine jk (Run.pickF rfl rfl au) ?_
     refine jG ?_
     refine jU ?_
     refine jU ?_
     refine jU ?_
     refine jU ?_
     refine jU ?_
     refine jk (Run.pickT rfl rfl au) ?_
     refine je (Run.pickT rfl rfl au) (jO ?_)
     refine jN ⟨(js3 (jC (by clear hsn hc2; simp [eH, *])) rfl rfl), rfl⟩
    refine jk (Run.pickF rfl rfl au) ?_
    refine jG ?_
    refine jG ?_
    refine jG ?_
    refine jk (Run.bin rfl rfl (Bin.sub_i64 _ 1 jo jo)) ?_
    refine jk (Run.indexT _ rfl rfl zj hy) ?_
    refine jk (Run.bin rfl rfl (Bin.eqlN _ 47)) ?_
    refine jk (Run.pickF rfl rfl au) ?_
    refine je (Run.pickT rfl rfl au) (jO ?_)
    refine jN ⟨(js3 (jC (by clear hsn hc2; simp [eH, *])) rfl rfl), rfl⟩
   refine jM ?_
   refine jU ?_
   refine jU ?_
   refine jU ?_
   refine Ops.skU rfl rfl ?_
   refine Ops.skU rfl rfl ?_
   refine Ops.skU rfl rfl ?_
   refine Ops.skU rfl rfl ?_
   refine Ops.skU rfl rfl ?_
   refine jU ?_
   refine jU ?_
   refine Ops.skU rfl rfl ?_
   refine Ops.skU rfl rfl ?_
   refine Ops.skU rfl rfl ?_
   refine Ops.skU rfl rfl ?_
   refine Ops.skU rfl rfl ?_
   refine jU ?_
   refine je (Run.pickF rfl rfl au) (jO ?_)
   refine jN ⟨(js3 (jC (by clear hsn hc2; simp [eH, *])) rfl rfl), rfl⟩
  intro Γ hΓ
  refine jN (VC.sub _ hΓ ?_)
  refine jD rfl (fun hc3 => ?_) fun hc3 => ?_
  ·
   have hbad : ¬ isN q := fun h => ((((lP q).1 h).1 i hc1) x hx).2 hc3
   refine jS (jR (ja rfl (jO (jN (jv1 2 ?_)))))
   refine jT ?_
   refine qH (qZ (qZ (qH (qZ (qR rfl ?_)))))
   exact ⟨by rw [decide_eq_false hbad], rfl⟩
  refine jQ ?_
  refine qW (jN ?_)
  refine jv2 0 3 ?_
  refine jR (jm rfl (jb rfl rfl (Bin.add_i64 _ 1 jo) (ja rfl (jO ?_))))
  refine jN ⟨(i + 1), (js2 rfl rfl), ?_, ?_⟩
  ·
   refine ⟨hc1, fun j hj => ?_, rfl⟩
   by_cases e : j = i
   ·
    subst e
    intro y hy
    rw [hx] at hy
    cases hy
    exact ⟨Classical.not_not.1 (fun h => hc2 (hsn.1 h)), hc3⟩
   exact hd j jo
  first | omega | (dsimp only; omega)
 refine jX ?_
 refine qJ (qJ (qN ?_))
 refine jN (jv1 0 ?_)
 refine jS ?_
 refine VC.split1 [] .nil 2 (.bool (decide (1 ≤ q.length ∧ q.length ≤ 60))) ?_ ?_
 ·
  refine jR ?_
  refine jm rfl (je (Run.lenT rfl zj) (jb rfl rfl (Bin.leqN 1 _) ?_))
  by_cases hs74 : 1 ≤ q.length
  ·
   refine jM ?_
   refine jG ?_
   refine jk (Run.lenT rfl zj) ?_
   refine jk (Run.bin rfl rfl (Bin.leqN _ 60)) ?_
   refine je (Run.pickT rfl rfl au) (ja rfl (jO ?_))
   refine jN ⟨(js1 (jC (by simp [*]))), rfl⟩
  refine jM ?_
  refine jU ?_
  refine jU ?_
  refine jU ?_
  refine je (Run.pickF rfl rfl au) (ja rfl (jO ?_))
  refine jN ⟨(js1 (jC (by simp [*]))), rfl⟩
 intro Γ hΓ
 refine jN (VC.sub _ hΓ ?_)
 refine jT ?_
 refine qR rfl ?_
 obtain rfl : i = q.length := jo
 exact ⟨by rw [decide_eq_decide.2 (show isN q ↔ 1 ≤ q.length ∧ q.length ≤ 60 from ⟨fun h => ((lP q).1 h).2, fun h => (lP q).2 ⟨hd, h⟩⟩)], rfl⟩
theorem qVj : ∀ L ∈ qC, ∀ c : UInt8, low c = low L ↔ upC c = L := by
 have e : ∀ a b : UInt8, a = b ↔ a.toNat = b.toNat := fun a b => ⟨fun h => by rw [h], fun h => UInt8.toNat_inj.1 h⟩
 intro L hL c
 rw [e, e, dG, dG, pI]
 simp only [qC, zbh, zcj, or_false] at hL
 rcases hL with rfl | rfl | rfl | rfl | rfl
 · simp only [show (73 : UInt8).toNat = 73 from rfl]; (repeat' split) <;> omega
 · simp only [show (78 : UInt8).toNat = 78 from rfl]; (repeat' split) <;> omega
 · simp only [show (66 : UInt8).toNat = 66 from rfl]; (repeat' split) <;> omega
 · simp only [show (79 : UInt8).toNat = 79 from rfl]; (repeat' split) <;> omega
 simp only [show (88 : UInt8).toNat = 88 from rfl]; (repeat' split) <;> omega
theorem tB : ∀ (l : Tx), (∀ L ∈ l, ∀ c : UInt8, low c = low L ↔ upC c = L) → ∀ a : Tx, qT a = qT l ↔ upT a = l
 | [], _, a => by
  unfold qT upT
  rw [zdp, List.map_eq_nil_iff, List.map_eq_nil_iff]
 | L :: l, h, a => by
  have ih := tB l (fun x hx => h x (.tail _ hx))
  cases a with
  | nil => simp [qT, upT]
  | cons c a =>
   have h1 := h L (.head _) c
   have h2 := ih a
   unfold qT upT at *
   rw [zbw, zbw, zbw, List.cons.injEq, List.cons.injEq, h1, h2]
theorem pM (c : UInt8) : ∀ s : Tx, ∃ r, bG c s = bF c s :: r
 | [] => ⟨[], rfl⟩
 | x :: s => by
  obtain ⟨r, hr⟩ := pM c s
  unfold bG bF
  split
  · exact ⟨_, rfl⟩
  rw [hr]; exact ⟨r, rfl⟩
theorem wW (c : UInt8) : ∀ s : Tx, (bF c s).length ≤ s.length
 | [] => zw _
 | x :: s => by
  unfold bF
  split
  · simp
  rw [zbi, zbi]; have := wW c s; omega
theorem nC (q : Tx) (w : World) (hq : q.length ≤ 1000000) : Calls Tryz.prog 111 #[encStr q] w fun e w' => e = .returned (encStr (eG q)) ∧ Frm [] w w' := by
 obtain ⟨r, hr⟩ := pM 47 q
 have hbl := wW 47 q
 have hsu := tB qC qVj (bF 47 q)
 refine VC.calls (nt := 14) (res := #[.tmp 2]) Tryz.func111 rfl Tryz.ntmps111 Tryz.results111 rfl ?_
 refine jS (jR (ja rfl (jO (jN (jv1 0 ?_)))))
 refine jS (jR (jM ?_))
 refine Ops.cl (jE2 Tryz.call138) (qQ2 q 47 _ hq) rfl ?_
 rintro e w1 ⟨hf1, A, d, rfl, ho, _⟩
 refine ⟨_, rfl, ?_⟩
 have K := hf1
 rw [hr] at ho ⊢
 obtain ⟨ad, rfl, hel⟩ := ho.rd.elem (k := 0) jp
 refine je (Run.indexS 0 rfl rfl zc zm jp) (jl rfl zx (hel 0 (encStr (bF 47 q)) (by simp [SB])) (ja rfl (jO (jN (jv2 0 3 ?_)))))
 refine jS (jS (jR (jM ?_)))
 refine Ops.cl (jE2 Tryz.call139) (pJ (bF 47 q) qC _ jo jd) rfl ?_
 rintro e w2 ⟨rfl, hd⟩
 refine ⟨_, rfl, ?_⟩
 have K := K.drawn hd
 refine jO (jN (jv2 0 9 ?_))
 refine VC.condB rfl (fun hc1 => ?_) (fun hc1 => ?_)
 ·
  have hc1 := hsu.1 (of_decide_eq_true hc1)
  have h5 : 5 ≤ q.length := by
   have := congrArg List.length hc1
   rw [kN] at this
   have h6 : qC.length = 5 := rfl
   omega
  refine jS (jR (jm rfl (je (Run.sliceT 5 q.length rfl zj (evB.some_ rfl) evB.none_ h5 (zw _)) ?_)))
  rw [zv (by rw [zal]; omega)]
  have hdl : (q.drop 5).length = q.length - 5 := zal
  have h5l : ([73, 78, 66, 79, 88] : Tx).length = 5 := rfl
  refine je (Run.addT rfl rfl jo) (ja rfl (jO (jN (jv1 2 ?_))))
  refine jT ?_
  refine qZ (qR rfl ?_)
  refine ⟨?_, K⟩
  unfold eG
  rw [if_pos hc1]
  rfl
 have hc1 : ¬ upT (bF 47 q) = qC := fun h => of_decide_eq_false hc1 (hsu.2 h)
 refine jQ (jN (jv1 0 ?_))
 refine jS (jR (jm rfl (ja rfl (jO (jN (jv1 2 ?_))))))
 refine jT ?_
 refine qR rfl ?_
 refine ⟨?_, K⟩
 unfold eG
 rw [if_neg hc1]
theorem jL (q : Tx) (w : World) (hq : q.length ≤ 1000000) : Calls Tryz.prog 60 #[encStr q] w fun e w' => e = .returned (encStr (qS q)) ∧ Frm [] w w' := by
 refine VC.calls (nt := 8) (res := #[.tmp 2]) Tryz.func60 rfl Tryz.ntmps60 Tryz.results60 rfl ?_
 refine jS (jR (ja rfl (jO (jN (jv1 0 ?_)))))
 refine jS (jS (jR (jM ?_)))
 refine Ops.cl (jE1 Tryz.call50) (oM q _ hq) rfl ?_
 rintro e _ ⟨rfl, rfl⟩
 refine ⟨_, rfl, ?_⟩
 refine jO (jN (jv2 0 4 ?_))
 refine VC.condB rfl (fun hc1 => ?_) (fun hc1 => ?_)
 ·
  refine jS (jR (jM ?_))
  refine Ops.cl (jE1 Tryz.call111) (nC q _ hq) rfl ?_
  rintro e w1 ⟨rfl, hf1⟩
  refine ⟨_, rfl, ?_⟩
  refine ja rfl (jO (jN (jv1 2 ?_)))
  refine jT ?_
  refine qZ (qR rfl ?_)
  exact ⟨by unfold qS; rw [if_pos (of_decide_eq_true hc1)], hf1⟩
 refine jQ (jN (jv1 0 ?_))
 refine jS (jR (jm rfl (ja rfl (jO (jN (jv1 2 ?_))))))
 refine jT ?_
 refine qR rfl ?_
 exact ⟨by unfold qS; rw [if_neg (of_decide_eq_false hc1)], Frm.refl _ _⟩
end
section
open Go.RowKit Go.Sort
theorem qKt (a b c d : Int) (w : World) : (Op.eqFields 9999 #[.int .i64 a, .int .i64 b] #[.int .i64 c, .int .i64 d] (Tryz.prog.fieldsOf 58).toList).run Tryz.prog w = .ok (decide (a = c ∧ b = d)) w := by
 obtain ⟨f0, f1, hf, ⟨n0, t0, o0⟩, n1, t1, o1⟩ := qX2
 rw [hf]
 have h := vB (P := Tryz.prog) (w := w) (d := 9998) (xs := #[.int .i64 a, .int .i64 b]) (ys := #[.int .i64 c, .int .i64 d]) (f := f0) (fs := [f1]) (k := .i64) (k' := .i64) (a := a) (b := c) (by rw [n0]; decide) (by rw [t0]; exact zed) (by rw [t0]; exact Tryz.underlying2) (by rw [o0]; rfl) (by rw [o0]; rfl)
  (vB (k := .i64) (k' := .i64) (a := b) (b := d) (by rw [n1]; decide) (by rw [t1]; exact zp) (by rw [t1]; exact zac) (by rw [o1]; rfl) (by rw [o1]; rfl) qJ7)
 have e : decide (a = c ∧ b = d) = (decide (a = c) && (decide (b = d) && true)) := by
  rw [zbt]
  simp
 rw [e]
 exact h
theorem qVk (x y : MsgP) : x = y ↔ (x.uid = y.uid ∧ (x.sec = y.sec ∧ x.zone = y.zone) ∧ x.size = y.size ∧ x.blob = y.blob ∧ x.flags = y.flags) := by
 cases x; cases y
 simp [and_assoc]
end
section
open Go.RowKit Go.Sort
theorem lD (x : Mc) (w : World) (hx : x.At w) : Calls Tryz.prog 124 #[.agg x.cells.toArray] w fun e w' => e = .returned (.bool (decide (cP x.m))) ∧ Frm [] w w' := by
 refine VC.calls (nt := 29) (res := #[.tmp 2]) Tryz.func124 rfl Tryz.ntmps124 Tryz.results124 rfl ?_
 refine jS (jR ?_)
 refine Ops.m (qV.box rfl) rfl ?_
 rintro _ w1 ⟨rfl, hF1⟩
 have hb1 := hF1.blk
 have hf1 := hF1.frm
 have hs1 : w.heap.size ≤ w.heap.size := zw _
 generalize hg1 : w.heap.size = g1 at hb1 ⊢
 refine ja rfl (jO (jN (jv1 1 ?_)))
 refine jS (jR (jf rfl zad rfl zcx (je (Run.loadA rfl Tryz.isAgg58 zcx (hb1.sub 1 [.int .i64 x.m.sec, .int .i64 x.m.zone] rfl) (by first | rfl | (simp; done))) ?_)))
 refine Ops.cl (jE1 Tryz.call156) (xE x.m.sec x.m.zone _) rfl ?_
 rintro e w2 ⟨rfl, hf2⟩
 refine ⟨_, rfl, ?_⟩
 have hfr2 := hf1.trans hf2 jp
 have hb1 := hb1.frm hf2 jp
 have hck := qZb x.m.sec x.m.zone
 rw [hck]
 refine jm rfl (je (Run.extract rfl rfl) (je (Run.extract rfl rfl) (je (Run.extract rfl rfl) (ja rfl (ja rfl (ja rfl (jO (jN (jv2 1 5 ?_)))))))))
 refine jS ?_
 refine VC.splitR [] (Frm [] w) 2 (.bool (decide (cP x.m))) ?_ ?_
 ·
  refine jR (jM ?_)
  by_cases hs13 : dQ x.m.sec x.m.zone
  ·
   refine jM ?_
   refine jk (Run.fieldAddr rfl zad rfl zn jd) ?_
   refine jk (Run.load rfl zp (hb1.cell 3)) ?_
   refine jk (Run.bin rfl rfl (Bin.geq _ 0)) ?_
   by_cases hs17 : 0 ≤ x.m.size
   ·
    refine je (Run.pickT rfl rfl au) (jM ?_)
    refine jk (Run.fieldAddr rfl zad rfl zd jd) ?_
    refine jk (Run.load rfl zk (hb1.cell 4)) ?_
    refine jk (Run.bin rfl rfl (Bin.gtrN _ 0)) ?_
    by_cases hs22 : 0 < x.m.blob
    ·
     refine je (Run.pickT rfl rfl au) (jM ?_)
     refine jk (Run.fieldAddr rfl zad rfl zaj jd) ?_
     refine jk (Run.load rfl zar (hb1.cell 5)) ?_
     refine Ops.clg rfl au (jE1 Tryz.call157) (uC x.A x.c x.m.flags _ (by have := hx.n; omega) hx.q (hx.frm hfr2 jp).rd) rfl ?_
     rintro e w3 ⟨rfl, hf3⟩
     refine ⟨_, rfl, ?_⟩
     have hfr3 := hfr2.trans hf3 jp
     by_cases hs27 : cY x.m.flags
     ·
      refine je (Run.pickT rfl rfl au) (ja rfl (jO ?_))
      refine jN ⟨(js1 (jC (Eq.symm (by unfold cP; first | exact decide_eq_true ⟨by assumption, by assumption, jo, by assumption⟩ | exact decide_eq_false (fun h => by first | exact absurd h.1 (by assumption) | exact absurd h.2.1 (by assumption) | (have := h.2.2.1; omega) | exact absurd h.2.2.2 (by assumption)) | exact decide_eq_decide.2 ⟨fun h => h.2.2.2, fun h => ⟨by assumption, by assumption, jo, h⟩⟩)))), (by first | exact hfr3 | exact hfr2)⟩
     refine je (Run.pickT rfl rfl au) (ja rfl (jO ?_))
     refine jN ⟨(js1 (jC (Eq.symm (by unfold cP; first | exact decide_eq_true ⟨by assumption, by assumption, jo, by assumption⟩ | exact decide_eq_false (fun h => by first | exact absurd h.1 (by assumption) | exact absurd h.2.1 (by assumption) | (have := h.2.2.1; omega) | exact absurd h.2.2.2 (by assumption)) | exact decide_eq_decide.2 ⟨fun h => h.2.2.2, fun h => ⟨by assumption, by assumption, jo, h⟩⟩)))), (by first | exact hfr3 | exact hfr2)⟩
    refine je (Run.pickT rfl rfl au) (jM ?_)
    refine jU ?_
    refine jU ?_
    refine jU ?_
    refine je (Run.pickF rfl rfl au) (ja rfl (jO ?_))
    refine jN ⟨(js1 (jC (Eq.symm (by unfold cP; first | exact decide_eq_true ⟨by assumption, by assumption, jo, by assumption⟩ | exact decide_eq_false (fun h => by first | exact absurd h.1 (by assumption) | exact absurd h.2.1 (by assumption) | (have := h.2.2.1; omega) | exact absurd h.2.2.2 (by assumption)) | exact decide_eq_decide.2 ⟨fun h => h.2.2.2, fun h => ⟨by assumption, by assumption, jo, h⟩⟩)))), (by first | exact hfr3 | exact hfr2)⟩
   refine je (Run.pickT rfl rfl au) (jM ?_)
   refine jU ?_
   refine jU ?_
   refine jU ?_
   refine je (Run.pickF rfl rfl au) (jM ?_)
   refine jU ?_
   refine jU ?_
   refine jU ?_
   refine je (Run.pickF rfl rfl au) (ja rfl (jO ?_))
   refine jN ⟨(js1 (jC (Eq.symm (by unfold cP; first | exact decide_eq_true ⟨by assumption, by assumption, jo, by assumption⟩ | exact decide_eq_false (fun h => by first | exact absurd h.1 (by assumption) | exact absurd h.2.1 (by assumption) | (have := h.2.2.1; omega) | exact absurd h.2.2.2 (by assumption)) | exact decide_eq_decide.2 ⟨fun h => h.2.2.2, fun h => ⟨by assumption, by assumption, jo, h⟩⟩)))), (by first | exact hfr3 | exact hfr2)⟩
  refine jM ?_
  refine jU ?_
  refine jU ?_
  refine jU ?_
  refine je (Run.pickF rfl rfl au) (jM ?_)
  refine jU ?_
  refine jU ?_
  refine jU ?_
  refine je (Run.pickF rfl rfl au) (jM ?_)
  refine jU ?_
  refine jU ?_
  refine jU ?_
  refine je (Run.pickF rfl rfl au) (ja rfl (jO ?_))
  refine jN ⟨(js1 (jC (Eq.symm (by unfold cP; first | exact decide_eq_true ⟨by assumption, by assumption, jo, by assumption⟩ | exact decide_eq_false (fun h => by first | exact absurd h.1 (by assumption) | exact absurd h.2.1 (by assumption) | (have := h.2.2.1; omega) | exact absurd h.2.2.2 (by assumption)) | exact decide_eq_decide.2 ⟨fun h => h.2.2.2, fun h => ⟨by assumption, by assumption, jo, h⟩⟩)))), (by first | exact hfr3 | exact hfr2)⟩
 intro Γ wR hΓ hR
 refine jN (VC.sub _ hΓ ?_)
 refine jT ?_
 refine qR rfl ?_
 exact ⟨rfl, hR⟩
theorem nD {n : Int} {l : List Mc} : ∀ {i : Nat}, i ≤ l.length → (∀ j (hj : j < l.length), j < i → bC n (Ms l) j (l[j]).m) → 0 ≤ prevU (Ms l) i ∧ (0 < i → 1 ≤ prevU (Ms l) i)
 | 0, _, _ => ⟨Int.le_refl _, fun h => absurd h (Nat.lt_irrefl 0)⟩
 | i + 1, hi, h => by
  have ih := nD (i := i) jo (fun j hj hji => h j hj jo)
  have h1 := (h i jo jo).1
  have h2 := mY (l := l) (i := i) jo
  rw [h2]
  omega
theorem rC (v n : Int) (A : Option Addr) (c : Nat) (l : List Mc) (w : World) (hl : RdM w A l) (hn : l.length ≤ 1000000) : Calls Tryz.prog 78 #[.agg #[.int .i64 v, .int .i64 n, .slice A l.length c]] w fun e w' => e = .returned (.bool (decide (bE ⟨v, n, Ms l⟩))) ∧ Frm [] w w' := by
 refine VC.calls (nt := 74) (res := #[.tmp 2]) Tryz.func78 rfl Tryz.ntmps78 Tryz.results78 rfl ?_
 refine jS (jR ?_)
 refine Ops.m (qV.box rfl) rfl ?_
 rintro _ w1 ⟨rfl, hF1⟩
 have hb1 := hF1.blk
 have hf1 := hF1.frm
 have hs1 : w.heap.size ≤ w.heap.size := zw _
 generalize hg1 : w.heap.size = g1 at hb1 ⊢
 refine ja rfl (jO (jN (jv1 1 ?_)))
 refine jS (jS (jR (jz 0 (jO (jN (jB ?_))))))
 refine VC.loop (σ := Nat) (fun s => [(1, .pointer (some ⟨g1, 0, none⟩)), (3, .int .i64 ((s : Nat) : Int))]) (fun s wr => s ≤ l.length ∧ Frm [] w wr ∧ Blk wr g1 43 #[.int .i64 v, .int .i64 n, .slice A l.length c] ∧ ∀ j (hj : j < l.length), j < s → bC n (Ms l) j (l[j]).m) (fun s => l.length - s) 0 (js2 rfl rfl) ⟨jo, hf1, hb1, jp⟩ ?_
 rintro i wr ⟨hi, hfr, hb1, hg⟩
 refine jS (jS (jR (jm rfl (jf rfl zl rfl zak (jl rfl zas (hb1.cell 2) (je (Run.lenS rfl zab) (jb rfl rfl (Bin.lssN _ _) (jO (jN (jv3 1 3 9 ?_))))))))))
 refine jD rfl (fun hc1 => ?_) fun hc1 => ?_
 ·
  have hR := hl.frm hfr
  have hAe : ∃ ad, A = some ad := (hR.elem hc1).elim fun ad h => ⟨ad, h.1⟩
  obtain ⟨ad, rfl⟩ := hAe
  have hcell : ∀ k (hk : k < l.length) j v, (l[k]).cells[j]? = some v → wr.cell? ((ad.add (k * 6)).add j) = some v := fun k hk => by
   obtain ⟨ad', hA, h⟩ := hR.elem hk
   injection hA with hA
   subst hA
   exact h
  have hxa := hR.fl (l[i]) (zaa hc1)
  have hcx := hcell i hc1
  have hpz : i = 0 → prevU (Ms l) i = 0 := fun h => by subst h; rfl
  have hps : ∀ (h : 0 < i), prevU (Ms l) i = (l[i - 1]'jo).m.uid := fun h => by
   have := mY (l := l) (i := i - 1) jo
   rwa [show i - 1 + 1 = i by omega] at this
  have hpge := nD hi hg
  generalize hx : l[i] = x at *
  refine jQ (jN (jv2 1 3 ?_))
  refine jS (jB (jS (jR (jf rfl zl rfl zak (jl rfl zas (hb1.cell 2) (jm rfl (je (Run.indexS i rfl rfl zab zam hc1) (jf rfl zad rfl zn (jl rfl zp (hcx 0 _ rfl) (ja rfl (jO (jN (jv3 1 3 4 ?_)))))))))))))
  refine jS ?_
  refine VC.splitR [(1, .pointer (some ⟨g1, 0, none⟩)), (3, .int .i64 ((i : Nat) : Int))] (Frm [] wr) 49 (.bool (decide (¬ bC n (Ms l) i x.m))) ?_ ?_
  ·
   refine jR ?_
   refine jm rfl (jb rfl rfl (Bin.lss _ 1) ?_)
   by_cases hs19 : x.m.uid < 1
   ·
    refine jM ?_
    refine jU ?_
    refine jU ?_
    refine jU ?_
    refine jU ?_
    refine je (Run.pickT rfl rfl au) (jM ?_)
    refine jU ?_
    refine jU ?_
    refine jU ?_
    refine Ops.skU rfl rfl ?_
    refine Ops.skU rfl rfl ?_
    refine Ops.skU rfl rfl ?_
    refine Ops.skU rfl rfl ?_
    refine Ops.skU rfl rfl ?_
    refine Ops.skU rfl rfl ?_
    refine Ops.skU rfl rfl ?_
    refine Ops.skU rfl rfl ?_
    refine Ops.skU rfl rfl ?_
    refine jU ?_
    refine je (Run.pickT rfl rfl au) (jM ?_)
    refine jU ?_
    refine jU ?_
    refine jU ?_
    refine jU ?_
    refine jU ?_
    refine jU ?_
    refine jU ?_
    refine je (Run.pickT rfl rfl au) (jO ?_)
    refine jN ⟨(js3 (jC (Eq.symm (by first | exact decide_eq_true (fun h => by have h1 := h.1; have h2 := h.2.1; first | omega | (have := hps (by assumption); omega) | (have := hpz jo; omega)) | (rw [← decide_not]; exact decide_eq_decide.2 ⟨fun h hm => h ⟨by first | (have := hps (by assumption); omega) | (have := hpz jo; omega), jo, hm⟩, fun h hg => h hg.2.2⟩) | exact decide_eq_decide.2 ⟨fun _ => jo, fun _ h => by have h1 := h.1; have := hps (by assumption); omega⟩))) rfl rfl), (by first | exact hf4 | exact Frm.refl _ _)⟩
   refine jM ?_
   refine jG ?_
   refine jk (Run.fieldAddr rfl zl rfl zn jd) ?_
   refine jk (Run.load rfl zp (hb1.cell 1)) ?_
   refine jk (Run.bin rfl rfl (Bin.geq _ _)) ?_
   by_cases hs24 : n ≤ x.m.uid
   ·
    refine je (Run.pickF rfl rfl au) (jM ?_)
    refine jU ?_
    refine jU ?_
    refine jU ?_
    refine Ops.skU rfl rfl ?_
    refine Ops.skU rfl rfl ?_
    refine Ops.skU rfl rfl ?_
    refine Ops.skU rfl rfl ?_
    refine Ops.skU rfl rfl ?_
    refine Ops.skU rfl rfl ?_
    refine Ops.skU rfl rfl ?_
    refine Ops.skU rfl rfl ?_
    refine Ops.skU rfl rfl ?_
    refine jU ?_
    refine je (Run.pickT rfl rfl au) (jM ?_)
    refine jU ?_
    refine jU ?_
    refine jU ?_
    refine jU ?_
    refine jU ?_
    refine jU ?_
    refine jU ?_
    refine je (Run.pickT rfl rfl au) (jO ?_)
    refine jN ⟨(js3 (jC (Eq.symm (by first | exact decide_eq_true (fun h => by have h1 := h.1; have h2 := h.2.1; first | omega | (have := hps (by assumption); omega) | (have := hpz jo; omega)) | (rw [← decide_not]; exact decide_eq_decide.2 ⟨fun h hm => h ⟨by first | (have := hps (by assumption); omega) | (have := hpz jo; omega), jo, hm⟩, fun h hg => h hg.2.2⟩) | exact decide_eq_decide.2 ⟨fun _ => jo, fun _ h => by have h1 := h.1; have := hps (by assumption); omega⟩))) rfl rfl), (by first | exact hf4 | exact Frm.refl _ _)⟩
   refine je (Run.pickF rfl rfl au) (jM ?_)
   refine jG ?_
   refine jk (Run.bin rfl rfl (Bin.gtrN _ 0)) ?_
   by_cases hs28 : 0 < i
   ·
    refine jG ?_
    refine jk (Run.fieldAddr rfl zl rfl zak jd) ?_
    refine jk (Run.load rfl zas (hb1.cell 2)) ?_
    refine jG ?_
    refine jk (Run.bin rfl rfl (Bin.sub_i64 _ 1 jo jo)) ?_
    refine jk (Run.indexS (i - 1) rfl rfl zab zam jo) ?_
    refine jk (Run.fieldAddr rfl zad rfl zn jd) ?_
    refine jk (Run.load rfl zp (hcell (i - 1) jo 0 _ rfl)) ?_
    refine jG ?_
    refine jk (Run.bin rfl rfl (Bin.geq _ _)) ?_
    by_cases hs38 : x.m.uid ≤ (l[i - 1]'jo).m.uid
    ·
     refine jk (Run.pickT rfl rfl au) ?_
     refine je (Run.pickF rfl rfl au) (jM ?_)
     refine jU ?_
     refine jU ?_
     refine jU ?_
     refine jU ?_
     refine jU ?_
     refine jU ?_
     refine jU ?_
     refine je (Run.pickT rfl rfl au) (jO ?_)
     refine jN ⟨(js3 (jC (Eq.symm (by first | exact decide_eq_true (fun h => by have h1 := h.1; have h2 := h.2.1; first | omega | (have := hps (by assumption); omega) | (have := hpz jo; omega)) | (rw [← decide_not]; exact decide_eq_decide.2 ⟨fun h hm => h ⟨by first | (have := hps (by assumption); omega) | (have := hpz jo; omega), jo, hm⟩, fun h hg => h hg.2.2⟩) | exact decide_eq_decide.2 ⟨fun _ => jo, fun _ h => by have h1 := h.1; have := hps (by assumption); omega⟩))) rfl rfl), (by first | exact hf4 | exact Frm.refl _ _)⟩
    refine jk (Run.pickT rfl rfl au) ?_
    refine je (Run.pickF rfl rfl au) (jM ?_)
    refine jk (Run.fieldAddr rfl zl rfl zak jd) ?_
    refine jk (Run.load rfl zas (hb1.cell 2)) ?_
    refine jG ?_
    refine jk (Run.indexS i rfl rfl zab zam hc1) ?_
    refine jk (Run.loadA rfl zdb zam hcx (by first | rfl | (simp; done))) ?_
    refine Ops.clg rfl au (jE1 Tryz.call124) (lD x _ hxa) rfl ?_
    rintro e w4 ⟨rfl, hf4⟩
    refine ⟨_, rfl, ?_⟩
    by_cases hs47 : cP x.m
    ·
     refine jk (Run.not rfl) ?_
     refine je (Run.pickF rfl rfl au) (jO ?_)
     refine jN ⟨(js3 (jC (Eq.symm (by first | exact decide_eq_true (fun h => by have h1 := h.1; have h2 := h.2.1; first | omega | (have := hps (by assumption); omega) | (have := hpz jo; omega)) | (rw [← decide_not]; exact decide_eq_decide.2 ⟨fun h hm => h ⟨by first | (have := hps (by assumption); omega) | (have := hpz jo; omega), jo, hm⟩, fun h hg => h hg.2.2⟩) | exact decide_eq_decide.2 ⟨fun _ => jo, fun _ h => by have h1 := h.1; have := hps (by assumption); omega⟩))) rfl rfl), (by first | exact hf4 | exact Frm.refl _ _)⟩
    refine jk (Run.not rfl) ?_
    refine je (Run.pickF rfl rfl au) (jO ?_)
    refine jN ⟨(js3 (jC (Eq.symm (by first | exact decide_eq_true (fun h => by have h1 := h.1; have h2 := h.2.1; first | omega | (have := hps (by assumption); omega) | (have := hpz jo; omega)) | (rw [← decide_not]; exact decide_eq_decide.2 ⟨fun h hm => h ⟨by first | (have := hps (by assumption); omega) | (have := hpz jo; omega), jo, hm⟩, fun h hg => h hg.2.2⟩) | exact decide_eq_decide.2 ⟨fun _ => jo, fun _ h => by have h1 := h.1; have := hps (by assumption); omega⟩))) rfl rfl), (by first | exact hf4 | exact Frm.refl _ _)⟩
   refine jG ?_
   refine jU ?_
   refine jU ?_
   refine jU ?_
   refine jU ?_
   refine jU ?_
   refine jU ?_
   refine jU ?_
   refine jU ?_
   refine jU ?_
   refine jk (Run.pickF rfl rfl au) ?_
   refine je (Run.pickF rfl rfl au) (jM ?_)
   refine jk (Run.fieldAddr rfl zl rfl zak jd) ?_
   refine jk (Run.load rfl zas (hb1.cell 2)) ?_
   refine jG ?_
   refine jk (Run.indexS i rfl rfl zab zam hc1) ?_
   refine jk (Run.loadA rfl zdb zam hcx (by first | rfl | (simp; done))) ?_
   refine Ops.clg rfl au (jE1 Tryz.call124) (lD x _ hxa) rfl ?_
   rintro e w4 ⟨rfl, hf4⟩
   refine ⟨_, rfl, ?_⟩
   by_cases hs47 : cP x.m
   ·
    refine jk (Run.not rfl) ?_
    refine je (Run.pickF rfl rfl au) (jO ?_)
    refine jN ⟨(js3 (jC (Eq.symm (by first | exact decide_eq_true (fun h => by have h1 := h.1; have h2 := h.2.1; first | omega | (have := hps (by assumption); omega) | (have := hpz jo; omega)) | (rw [← decide_not]; exact decide_eq_decide.2 ⟨fun h hm => h ⟨by first | (have := hps (by assumption); omega) | (have := hpz jo; omega), jo, hm⟩, fun h hg => h hg.2.2⟩) | exact decide_eq_decide.2 ⟨fun _ => jo, fun _ h => by have h1 := h.1; have := hps (by assumption); omega⟩))) rfl rfl), (by first | exact hf4 | exact Frm.refl _ _)⟩
   refine jk (Run.not rfl) ?_
   refine je (Run.pickF rfl rfl au) (jO ?_)
   refine jN ⟨(js3 (jC (Eq.symm (by first | exact decide_eq_true (fun h => by have h1 := h.1; have h2 := h.2.1; first | omega | (have := hps (by assumption); omega) | (have := hpz jo; omega)) | (rw [← decide_not]; exact decide_eq_decide.2 ⟨fun h hm => h ⟨by first | (have := hps (by assumption); omega) | (have := hpz jo; omega), jo, hm⟩, fun h hg => h hg.2.2⟩) | exact decide_eq_decide.2 ⟨fun _ => jo, fun _ h => by have h1 := h.1; have := hps (by assumption); omega⟩))) rfl rfl), (by first | exact hf4 | exact Frm.refl _ _)⟩
  intro Γ w4 hΓ hf4
  refine jN (VC.sub _ hΓ ?_)
  refine jD rfl (fun hc2 => ?_) fun hc2 => ?_
  ·
   have hng : ¬ bC n (Ms l) i x.m := hc2
   refine jS (jR (ja rfl (jO (jN (jv1 2 ?_)))))
   refine jT ?_
   refine qH (qZ (qZ (qH (qZ (qR rfl ?_)))))
   refine ⟨?_, hfr.trans hf4 jp⟩
   rw [decide_eq_false]
   intro h
   have := (pV h).2 i hc1
   rw [hx] at this
   exact hng this
  have hgi : bC n (Ms l) i x.m := Classical.not_not.1 hc2
  have hfr4 := hfr.trans hf4 jp
  refine jQ ?_
  refine qW (jN ?_)
  refine jv2 1 3 ?_
  refine jR (jm rfl (jb rfl rfl (Bin.add_i64 _ 1 jo) (ja rfl (jO ?_))))
  refine jN ⟨(i + 1), (js2 rfl rfl), ?_, ?_⟩
  ·
   refine ⟨hc1, hfr4, hb1.frm hf4 jp, fun j hj hji => ?_⟩
   rcases zby j i with h | h
   · exact hg j hj h
   obtain rfl : j = i := jo
   rw [hx]; exact hgi
  first | omega | (dsimp only; omega)
 refine jX ?_
 refine qJ (qJ (qN ?_))
 refine jN (jv1 1 ?_)
 refine jS ?_
 refine VC.split1 [] .nil 2 (.bool (decide (1 ≤ v ∧ v ≤ 2147483647 ∧ 1 ≤ n ∧ n ≤ 2147483648 ∧ l.length ≤ 128))) ?_ ?_
 ·
  refine jR (jf rfl zl rfl zn (jl rfl zp (hb1.cell 0) (jb rfl rfl (Bin.leq 1 _) ?_)))
  by_cases hs52 : 1 ≤ v
  ·
   refine jM ?_
   refine jk (Run.fieldAddr rfl zl rfl zn jd) ?_
   refine jk (Run.load rfl zp (hb1.cell 0)) ?_
   refine jk (Run.bin rfl rfl (Bin.leq _ 2147483647)) ?_
   by_cases hs56 : v ≤ 2147483647
   ·
    refine je (Run.pickT rfl rfl au) (jM ?_)
    refine jk (Run.fieldAddr rfl zl rfl zn jd) ?_
    refine jk (Run.load rfl zp (hb1.cell 1)) ?_
    refine jk (Run.bin rfl rfl (Bin.leq 1 _)) ?_
    by_cases hs61 : 1 ≤ n
    ·
     refine je (Run.pickT rfl rfl au) (jM ?_)
     refine jk (Run.fieldAddr rfl zl rfl zn jd) ?_
     refine jk (Run.load rfl zp (hb1.cell 1)) ?_
     refine jk (Run.bin rfl rfl (Bin.leq _ 2147483648)) ?_
     by_cases hs66 : n ≤ 2147483648
     ·
      refine je (Run.pickT rfl rfl au) (jM ?_)
      refine jk (Run.fieldAddr rfl zl rfl zak jd) ?_
      refine jk (Run.load rfl zas (hb1.cell 2)) ?_
      refine jk (Run.lenS rfl zab) ?_
      refine jk (Run.bin rfl rfl (Bin.leqN _ 128)) ?_
      by_cases hs72 : l.length ≤ 128
      ·
       refine je (Run.pickT rfl rfl au) (ja rfl (jO ?_))
       refine jN ⟨(js1 (jC (Eq.symm (by simp [*])))), rfl⟩
      refine je (Run.pickT rfl rfl au) (ja rfl (jO ?_))
      refine jN ⟨(js1 (jC (Eq.symm (by simp [*])))), rfl⟩
     refine je (Run.pickT rfl rfl au) (jM ?_)
     refine jU ?_
     refine jU ?_
     refine jU ?_
     refine jU ?_
     refine je (Run.pickF rfl rfl au) (ja rfl (jO ?_))
     refine jN ⟨(js1 (jC (Eq.symm (by simp [*])))), rfl⟩
    refine je (Run.pickT rfl rfl au) (jM ?_)
    refine jU ?_
    refine jU ?_
    refine jU ?_
    refine je (Run.pickF rfl rfl au) (jM ?_)
    refine jU ?_
    refine jU ?_
    refine jU ?_
    refine jU ?_
    refine je (Run.pickF rfl rfl au) (ja rfl (jO ?_))
    refine jN ⟨(js1 (jC (Eq.symm (by simp [*])))), rfl⟩
   refine je (Run.pickT rfl rfl au) (jM ?_)
   refine jU ?_
   refine jU ?_
   refine jU ?_
   refine je (Run.pickF rfl rfl au) (jM ?_)
   refine jU ?_
   refine jU ?_
   refine jU ?_
   refine je (Run.pickF rfl rfl au) (jM ?_)
   refine jU ?_
   refine jU ?_
   refine jU ?_
   refine jU ?_
   refine je (Run.pickF rfl rfl au) (ja rfl (jO ?_))
   refine jN ⟨(js1 (jC (Eq.symm (by simp [*])))), rfl⟩
  refine jM ?_
  refine jU ?_
  refine jU ?_
  refine jU ?_
  refine je (Run.pickF rfl rfl au) (jM ?_)
  refine jU ?_
  refine jU ?_
  refine jU ?_
  refine je (Run.pickF rfl rfl au) (jM ?_)
  refine jU ?_
  refine jU ?_
  refine jU ?_
  refine je (Run.pickF rfl rfl au) (jM ?_)
  refine jU ?_
  refine jU ?_
  refine jU ?_
  refine jU ?_
  refine je (Run.pickF rfl rfl au) (ja rfl (jO ?_))
  refine jN ⟨(js1 (jC (Eq.symm (by simp [*])))), rfl⟩
 intro Γ hΓ
 refine jN (VC.sub _ hΓ ?_)
 refine jT ?_
 refine qR rfl ?_
 refine ⟨?_, hfr⟩
 congr 2
 rw [decide_eq_decide]
 exact ⟨fun h => wQ h (fun j hj => hg j hj jo), fun h => (pV h).1⟩
end
section
open Go.RowKit Go.Sort
theorem kQ (v n v2 n2 : Int) (A B : Option Addr) (c d : Nat) (l l2 : List Mc) (w : World) (hl : RdM w A l) (hl2 : RdM w B l2) (hn : l.length ≤ 1000000) (hn2 : l2.length ≤ 1000000) :
  Calls Tryz.prog 22 #[.agg #[.int .i64 v, .int .i64 n, .slice A l.length c], .agg #[.int .i64 v2, .int .i64 n2, .slice B l2.length d]] w fun e w' => e = .returned (.bool (decide (v = v2 ∧ n = n2 ∧ Ms l = Ms l2))) ∧ Frm [] w w' := by
 refine VC.calls (nt := 80) (res := #[.tmp 4]) Tryz.func22 rfl Tryz.ntmps22 Tryz.results22 rfl ?_
 refine jS (jR ?_)
 refine Ops.m (qV.box rfl) rfl ?_
 rintro _ w1 ⟨rfl, hF2⟩
 have hb2 := hF2.blk
 have hf2 := hF2.frm
 have hs2 : w.heap.size ≤ w.heap.size := zw _
 generalize hg2 : w.heap.size = g2 at hb2 ⊢
 refine Ops.m (qV.box rfl) rfl ?_
 rintro _ w2 ⟨rfl, hF3⟩
 have hb3 := hF3.blk
 have hb2 := hb2.frm hF3.frm jp
 have hf3 := hf2.trans hF3.frm jp
 have hs3 : w.heap.size ≤ w1.heap.size := hf2.size
 generalize hg3 : w1.heap.size = g3 at hb3 hs3 ⊢
 refine ja rfl (jO (jN (jv2 2 3 ?_)))
 refine jS (jS ?_)
 refine VC.split1 [(2, _), (3, _)] (js2 rfl rfl) 28 (.bool (decide (v ≠ v2 ∨ n ≠ n2 ∨ l.length ≠ l2.length))) ?_ ?_
 ·
  refine jR (jf rfl zl rfl zn (jl rfl zp (hb2.cell 0) (jf rfl zl rfl zn (jl rfl zp (hb3.cell 0) (jb rfl rfl (Bin.neq _ _) ?_)))))
  by_cases hs12 : v ≠ v2
  ·
   refine jM ?_
   refine jU ?_
   refine jU ?_
   refine jU ?_
   refine jU ?_
   refine jU ?_
   refine je (Run.pickT rfl rfl au) (jM ?_)
   refine jU ?_
   refine jU ?_
   refine jU ?_
   refine jU ?_
   refine jU ?_
   refine jU ?_
   refine jU ?_
   refine je (Run.pickT rfl rfl au) (jO ?_)
   refine jN ⟨(js3 (jC (Eq.symm (by simp [*]))) rfl rfl), rfl⟩
  refine jM ?_
  refine jk (Run.fieldAddr rfl zl rfl zn jd) ?_
  refine jk (Run.load rfl zp (hb2.cell 1)) ?_
  refine jk (Run.fieldAddr rfl zl rfl zn jd) ?_
  refine jk (Run.load rfl zp (hb3.cell 1)) ?_
  refine jk (Run.bin rfl rfl (Bin.neq _ _)) ?_
  by_cases hs18 : n ≠ n2
  ·
   refine je (Run.pickF rfl rfl au) (jM ?_)
   refine jU ?_
   refine jU ?_
   refine jU ?_
   refine jU ?_
   refine jU ?_
   refine jU ?_
   refine jU ?_
   refine je (Run.pickT rfl rfl au) (jO ?_)
   refine jN ⟨(js3 (jC (Eq.symm (by simp [*]))) rfl rfl), rfl⟩
  refine je (Run.pickF rfl rfl au) (jM ?_)
  refine jk (Run.fieldAddr rfl zl rfl zak jd) ?_
  refine jk (Run.load rfl zas (hb2.cell 2)) ?_
  refine jk (Run.lenS rfl zab) ?_
  refine jk (Run.fieldAddr rfl zl rfl zak jd) ?_
  refine jk (Run.load rfl zas (hb3.cell 2)) ?_
  refine jk (Run.lenS rfl zab) ?_
  refine jk (Run.bin rfl rfl (Bin.neqN _ _)) ?_
  by_cases hs27 : l.length ≠ l2.length
  ·
   refine je (Run.pickF rfl rfl au) (jO ?_)
   refine jN ⟨(js3 (jC (Eq.symm (by simp [*]))) rfl rfl), rfl⟩
  refine je (Run.pickF rfl rfl au) (jO ?_)
  refine jN ⟨(js3 (jC (Eq.symm (by simp [*]))) rfl rfl), rfl⟩
 intro Γ hΓ
 refine jN (VC.sub _ hΓ ?_)
 refine jD rfl (fun hc1 => ?_) fun hc1 => ?_
 ·
  refine jS (jR (ja rfl (jO (jN (jv1 4 ?_)))))
  refine jT ?_
  refine qZ (qR rfl ?_)
  refine ⟨?_, hf3⟩
  rw [decide_eq_false]
  rintro ⟨h1, h2, h3⟩
  have h4 := congrArg List.length h3
  simp only [Ms, zah] at h4
  rcases hc1 with h | h | h
  · exact h h1
  · exact h h2
  exact h h4
 obtain ⟨hvv, hnn, hll⟩ : v = v2 ∧ n = n2 ∧ l.length = l2.length := jo
 refine jQ (jN (jv2 2 3 ?_))
 refine jS (jS (jR (jz 0 (jO (jN (jB ?_))))))
 refine VC.loop (σ := Nat) (fun s => [(2, .pointer (some ⟨g2, 0, none⟩)), (3, .pointer (some ⟨g3, 0, none⟩)), (5, .int .i64 ((s : Nat) : Int))]) (fun s wr => s ≤ l.length ∧ Frm [] w wr ∧ Blk wr g2 43 #[.int .i64 v, .int .i64 n, .slice A l.length c] ∧ Blk wr g3 43 #[.int .i64 v2, .int .i64 n2, .slice B l2.length d] ∧ Ms (l.take s) = Ms (l2.take s)) (fun s => l.length - s) 0 (js3 rfl rfl rfl) ⟨jo, hf3, hb2, hb3, jp⟩ ?_
 rintro i wr ⟨hi, hfr, hb2, hb3, hsm⟩
 refine jS (jS (jR (jm rfl (jf rfl zl rfl zak (jl rfl zas (hb2.cell 2) (je (Run.lenS rfl zab) (jb rfl rfl (Bin.lssN _ _) (jO (jN (jv4 2 3 5 33 ?_))))))))))
 refine jD rfl (fun hc2 => ?_) fun hc2 => ?_
 ·
  obtain ⟨ad, hAe, hcell⟩ : ∃ ad, A = some ad ∧ ∀ W, Frm [] w W → ∀ j v, (l[i]).cells[j]? = some v → W.cell? ((ad.add (i * 6)).add j) = some v := by
   obtain ⟨ad, hA, _⟩ := hl.elem hc2
   refine ⟨ad, hA, fun W hW => ?_⟩
   obtain ⟨ad', hA', h⟩ := (hl.frm hW).elem hc2
   rw [hA] at hA'
   injection hA' with hA'
   subst hA'
   exact h
  have hc2' : i < l2.length := jo
  obtain ⟨ad2, hBe, hcell2⟩ : ∃ ad, B = some ad ∧ ∀ W, Frm [] w W → ∀ j v, (l2[i]).cells[j]? = some v → W.cell? ((ad.add (i * 6)).add j) = some v := by
   obtain ⟨ad, hA, _⟩ := hl2.elem hc2'
   refine ⟨ad, hA, fun W hW => ?_⟩
   obtain ⟨ad', hA', h⟩ := (hl2.frm hW).elem hc2'
   rw [hA] at hA'
   injection hA' with hA'
   subst hA'
   exact h
  subst hAe hBe
  have hxa := (hl.frm hfr).fl (l[i]) (zaa hc2)
  have hya := (hl2.frm hfr).fl (l2[i]) (zaa hc2')
  have hms := pF hc2
  have hms2 := pF hc2'
  generalize hx : l[i] = x at *
  generalize hy : l2[i] = y at *
  have hme := qVk x.m y.m
  refine jQ (jN (jv3 2 3 5 ?_))
  refine jS (jB (jS ?_))
  refine VC.meet (σ := Nat × Nat) (fun s => [(2, .pointer (some ⟨g2, 0, none⟩)), (3, .pointer (some ⟨g3, 0, none⟩)), (5, .int .i64 ((i : Nat) : Int)), (6, .pointer (some ⟨s.1, 0, none⟩)), (7, .pointer (some ⟨s.2, 0, none⟩))]) (fun s wm => Blk wm s.1 60 x.cells.toArray ∧ Blk wm s.2 60 y.cells.toArray ∧ Frm [] wr wm) ?_ ?_
  ·
   refine VC.held (fun W => Frm [] wr W) jK ?_
   have hS : Frm [] wr wr.drew := (Frm.refl _ _).drew
   refine jH 0 rfl hS (fun w0 hw0 => Run.fieldAddr rfl zl rfl zak jd) ?_
   refine jH 1 rfl hS (fun w0 hw0 => Run.load rfl zas ((hb2.frm hw0 jp).cell 2)) ?_
   refine jH 2 rfl hS (fun w0 hw0 => Run.mv rfl) ?_
   refine jH 3 rfl hS (fun w0 hw0 => Run.indexS i rfl rfl zab zam hc2) ?_
   refine jH 4 rfl hS (fun w0 hw0 => Run.loadA rfl zdb zam (hcell _ (hfr.trans hw0 jp)) (by first | rfl | (simp; done))) ?_
   refine jH 5 rfl hS (fun w0 hw0 => Run.fieldAddr rfl zl rfl zak jd) ?_
   refine jH 6 rfl hS (fun w0 hw0 => Run.load rfl zas ((hb3.frm hw0 jp).cell 2)) ?_
   refine jH 7 rfl hS (fun w0 hw0 => Run.mv rfl) ?_
   refine jH 8 rfl hS (fun w0 hw0 => Run.indexS i rfl rfl zab zam hc2') ?_
   refine jH 9 rfl hS (fun w0 hw0 => Run.loadA rfl zdb zam (hcell2 _ (hfr.trans hw0 jp)) (by first | rfl | (simp; done))) ?_
   refine qQ.or2 10 11 jK ?_ ?_
   ·
    refine dE.m rfl (qV.alloc eA) trivial rfl rfl ?_
    rintro _ w6 ⟨rfl, hF6⟩
    have hge6 := hS.size
    try have hne := hb7.lt
    try have hb7 := hb7.frm hF6.frm jp
    have hS6 : Frm [] wr w6 := hS.trans hF6.frm jp
    refine ⟨hS6, ?_⟩
    have hS := hS6
    have hb6 := hF6.blk
    refine qQ.m 11 rfl jK (qV.alloc eA) trivial rfl rfl ?_
    rintro _ w7 ⟨rfl, hF7⟩
    have hge7 := hS.size
    try have hne := hb6.lt
    try have hb6 := hb6.frm hF7.frm jp
    have hS7 : Frm [] wr w7 := hS.trans hF7.frm jp
    refine ⟨hS7, ?_⟩
    have hS := hS7
    have hb7 := hF7.blk
    refine qQ.st 12 rfl jK (qP.storeA rfl rfl zam hb6 rfl x.cells_one) trivial rfl ?_
    rintro w8 ⟨hb68, hf8, hs8⟩
    have hS8 : Frm [] wr w8 := hS.own hf8 (fun y hy => by simp only [za] at hy; subst hy; exact hge6)
    refine ⟨hS8, ?_⟩
    have hS := hS8
    have hb78 := hb7.frm hf8 (by simp only [za]; omega)
    refine qQ.st 13 rfl jK (qP.storeA rfl rfl zam hb78 rfl y.cells_one) trivial rfl ?_
    rintro w9 ⟨hb79, hf9, hs9⟩
    have hS9 : Frm [] wr w9 := hS.own hf9 (fun y hy => by simp only [za] at hy; subst hy; exact hge7)
    refine ⟨hS9, ?_⟩
    have hS := hS9
    have hb69 := hb68.frm hf9 (by simp only [za]; omega)
    refine qQ.done jK ?_
    refine jN ⟨(_, _), (js5 rfl rfl rfl rfl rfl), ?_⟩
    exact ⟨hb69, hb79, hS⟩
   refine dE.m rfl (qV.alloc eA) trivial rfl rfl ?_
   rintro _ w7 ⟨rfl, hF7⟩
   have hge7 := hS.size
   try have hne := hb6.lt
   try have hb6 := hb6.frm hF7.frm jp
   have hS7 : Frm [] wr w7 := hS.trans hF7.frm jp
   refine ⟨hS7, ?_⟩
   have hS := hS7
   have hb7 := hF7.blk
   refine qQ.m 10 rfl jK (qV.alloc eA) trivial rfl rfl ?_
   rintro _ w6 ⟨rfl, hF6⟩
   have hge6 := hS.size
   try have hne := hb7.lt
   try have hb7 := hb7.frm hF6.frm jp
   have hS6 : Frm [] wr w6 := hS.trans hF6.frm jp
   refine ⟨hS6, ?_⟩
   have hS := hS6
   have hb6 := hF6.blk
   refine qQ.st 12 rfl jK (qP.storeA rfl rfl zam hb6 rfl x.cells_one) trivial rfl ?_
   rintro w8 ⟨hb68, hf8, hs8⟩
   have hS8 : Frm [] wr w8 := hS.own hf8 (fun y hy => by simp only [za] at hy; subst hy; exact hge6)
   refine ⟨hS8, ?_⟩
   have hS := hS8
   have hb78 := hb7.frm hf8 (by simp only [za]; omega)
   refine qQ.st 13 rfl jK (qP.storeA rfl rfl zam hb78 rfl y.cells_one) trivial rfl ?_
   rintro w9 ⟨hb79, hf9, hs9⟩
   have hS9 : Frm [] wr w9 := hS.own hf9 (fun y hy => by simp only [za] at hy; subst hy; exact hge7)
   refine ⟨hS9, ?_⟩
   have hS := hS9
   have hb69 := hb68.frm hf9 (by simp only [za]; omega)
   refine qQ.done jK ?_
   refine jN ⟨(_, _), (js5 rfl rfl rfl rfl rfl), ?_⟩
   exact ⟨hb69, hb79, hS⟩
  rintro ⟨g6, g7⟩ w5 ⟨hb6, hb7, hf5⟩ Γ hΓ
  dsimp only at hb6 hb7
  refine jN (VC.sub _ hΓ (jS ?_))
  refine VC.splitR [(2, .pointer (some ⟨g2, 0, none⟩)), (3, .pointer (some ⟨g3, 0, none⟩)), (5, .int .i64 ((i : Nat) : Int))] (Frm [] w5) 79 (.bool (decide (¬ x.m = y.m))) ?_ ?_
  ·
   refine jR (jf rfl zad rfl zn (jl rfl zp (hb6.cell 0) (jf rfl zad rfl zn (jl rfl zp (hb7.cell 0) (jb rfl rfl (Bin.neq _ _) ?_)))))
   by_cases hs50 : x.m.uid ≠ y.m.uid
   ·
    refine jM ?_
    refine jU ?_
    refine jU ?_
    refine jU ?_
    refine jU ?_
    refine jU ?_
    refine je (Run.pickT rfl rfl au) (jM ?_)
    refine jU ?_
    refine jU ?_
    refine jU ?_
    refine jU ?_
    refine jU ?_
    refine je (Run.pickT rfl rfl au) (jM ?_)
    refine jU ?_
    refine jU ?_
    refine jU ?_
    refine jU ?_
    refine jU ?_
    refine je (Run.pickT rfl rfl au) (jM ?_)
    refine jU ?_
    refine jU ?_
    refine jU ?_
    refine jU ?_
    refine jU ?_
    refine jU ?_
    refine je (Run.pickT rfl rfl au) (jO ?_)
    refine jN ⟨(js4 (jC (Eq.symm (by simp_all))) rfl rfl rfl), (by first | exact hd6.frm | exact Frm.refl _ _)⟩
   refine jM ?_
   refine jk (Run.fieldAddr rfl zad rfl zcx jd) ?_
   refine jk (Run.loadA rfl Tryz.isAgg58 zcx (hb6.sub 1 [.int .i64 x.m.sec, .int .i64 x.m.zone] rfl) (by first | rfl | (simp; done))) ?_
   refine jk (Run.fieldAddr rfl zad rfl zcx jd) ?_
   refine jk (Run.loadA rfl Tryz.isAgg58 zcx (hb7.sub 1 [.int .i64 y.m.sec, .int .i64 y.m.zone] rfl) (by first | rfl | (simp; done))) ?_
   refine jk (Run.neqAgg rfl rfl jK jK jK (qKt _ _ _ _ _)) ?_
   by_cases hs56 : ¬ (x.m.sec = y.m.sec ∧ x.m.zone = y.m.zone)
   ·
    refine je (Run.pickF rfl rfl au) (jM ?_)
    refine jU ?_
    refine jU ?_
    refine jU ?_
    refine jU ?_
    refine jU ?_
    refine je (Run.pickT rfl rfl au) (jM ?_)
    refine jU ?_
    refine jU ?_
    refine jU ?_
    refine jU ?_
    refine jU ?_
    refine je (Run.pickT rfl rfl au) (jM ?_)
    refine jU ?_
    refine jU ?_
    refine jU ?_
    refine jU ?_
    refine jU ?_
    refine jU ?_
    refine je (Run.pickT rfl rfl au) (jO ?_)
    refine jN ⟨(js4 (jC (Eq.symm (by simp_all))) rfl rfl rfl), (by first | exact hd6.frm | exact Frm.refl _ _)⟩
   refine je (Run.pickF rfl rfl au) (jM ?_)
   refine jk (Run.fieldAddr rfl zad rfl zn jd) ?_
   refine jk (Run.load rfl zp (hb6.cell 3)) ?_
   refine jk (Run.fieldAddr rfl zad rfl zn jd) ?_
   refine jk (Run.load rfl zp (hb7.cell 3)) ?_
   refine jk (Run.bin rfl rfl (Bin.neq _ _)) ?_
   by_cases hs63 : x.m.size ≠ y.m.size
   ·
    refine je (Run.pickF rfl rfl au) (jM ?_)
    refine jU ?_
    refine jU ?_
    refine jU ?_
    refine jU ?_
    refine jU ?_
    refine je (Run.pickT rfl rfl au) (jM ?_)
    refine jU ?_
    refine jU ?_
    refine jU ?_
    refine jU ?_
    refine jU ?_
    refine jU ?_
    refine je (Run.pickT rfl rfl au) (jO ?_)
    refine jN ⟨(js4 (jC (Eq.symm (by simp_all))) rfl rfl rfl), (by first | exact hd6.frm | exact Frm.refl _ _)⟩
   refine je (Run.pickF rfl rfl au) (jM ?_)
   refine jk (Run.fieldAddr rfl zad rfl zd jd) ?_
   refine jk (Run.load rfl zk (hb6.cell 4)) ?_
   refine jk (Run.fieldAddr rfl zad rfl zd jd) ?_
   refine jk (Run.load rfl zk (hb7.cell 4)) ?_
   refine jk (Run.bin rfl rfl (Bin.neqN _ _)) ?_
   by_cases hs70 : x.m.blob ≠ y.m.blob
   ·
    refine je (Run.pickF rfl rfl au) (jM ?_)
    refine jU ?_
    refine jU ?_
    refine jU ?_
    refine jU ?_
    refine jU ?_
    refine jU ?_
    refine je (Run.pickT rfl rfl au) (jO ?_)
    refine jN ⟨(js4 (jC (Eq.symm (by simp_all))) rfl rfl rfl), (by first | exact hd6.frm | exact Frm.refl _ _)⟩
   refine je (Run.pickF rfl rfl au) (jM ?_)
   refine jk (Run.fieldAddr rfl zad rfl zaj jd) ?_
   refine jk (Run.load rfl zar (hb6.cell 5)) ?_
   refine jk (Run.fieldAddr rfl zad rfl zaj jd) ?_
   refine jk (Run.load rfl zar (hb7.cell 5)) ?_
   refine Ops.clg rfl au (jE2 Tryz.call71) (pK x.A y.A x.c y.c x.m.flags y.m.flags _ (by have := hxa.n; omega) (by have := hya.n; omega) (hxa.frm hf5 jp).rd (hya.frm hf5 jp).rd) rfl ?_
   rintro e w6 ⟨rfl, hd6⟩
   refine ⟨_, rfl, ?_⟩
   by_cases hs77 : x.m.flags = y.m.flags
   ·
    refine jk (Run.not rfl) ?_
    refine je (Run.pickF rfl rfl au) (jO ?_)
    refine jN ⟨(js4 (jC (Eq.symm (by simp_all))) rfl rfl rfl), (by first | exact hd6.frm | exact Frm.refl _ _)⟩
   refine jk (Run.not rfl) ?_
   refine je (Run.pickF rfl rfl au) (jO ?_)
   refine jN ⟨(js4 (jC (Eq.symm (by simp_all))) rfl rfl rfl), (by first | exact hd6.frm | exact Frm.refl _ _)⟩
  intro Γ w6 hΓ hf6
  refine jN (VC.sub _ hΓ ?_)
  refine jD rfl (fun hc3 => ?_) fun hc3 => ?_
  ·
   refine jS (jR (ja rfl (jO (jN (jv1 4 ?_)))))
   refine jT ?_
   refine qH (qZ (qZ (qH (qZ (qR rfl ?_)))))
   refine ⟨?_, (hfr.trans hf5 jp).trans hf6 jp⟩
   rw [decide_eq_false]
   rintro ⟨_, _, h⟩
   have h1 := congrArg (fun z => z[i]?) h
   simp only [Ms, zcm, zb hc2, zb hc2', zcz, Option.some.injEq] at h1
   rw [hx, hy] at h1
   exact hc3 h1
  refine jQ ?_
  refine qW (jN ?_)
  refine jv3 2 3 5 ?_
  refine jR (jm rfl (jb rfl rfl (Bin.add_i64 _ 1 jo) (ja rfl (jO ?_))))
  refine jN ⟨(i + 1), (js3 rfl rfl rfl), ?_, ?_⟩
  ·
   have hxy : x.m = y.m := Classical.not_not.1 hc3
   have hf56 := hf5.trans hf6 jp
   exact ⟨hc2, hfr.trans hf56 jp, hb2.frm hf56 jp, hb3.frm hf56 jp, by rw [hms, hms2, hsm, hxy]⟩
  first | omega | (dsimp only; omega)
 refine jX ?_
 refine qJ (qJ (qN ?_))
 refine jN ?_
 refine VC.sub [] .nil ?_
 refine jS (jR (ja rfl (jO (jN (jT ?_)))))
 refine qR rfl ?_
 refine ⟨?_, hfr⟩
 have hil : i = l.length := jo
 subst hil
 rw [zaq, hll, zaq] at hsm
 rw [decide_eq_true ⟨hvv, hnn, hsm⟩]
end
section
open Go.RowKit Go.Sort
theorem kX (q : Tx) (w : World) : Calls Tryz.prog 12 #[encStr q] w fun e w' => e = .returned (encStr (q.take 70)) ∧ w = w' := by
 refine VC.calls (nt := 9) (res := #[.tmp 2]) Tryz.func12 rfl Tryz.ntmps12 Tryz.results12 rfl ?_
 refine jS (jR (ja rfl (jO (jN (jv1 0 ?_)))))
 refine jS (jS (jR (jm rfl (je (Run.lenT rfl zj) (jb rfl rfl (Bin.gtrN _ 70) (jO (jN (jv2 0 5 ?_))))))))
 refine jD rfl (fun hc1 => ?_) fun hc1 => ?_
 ·
  refine jS (jR (jm rfl (je (Run.sliceT 0 70 rfl zj evB.none_ (evB.some_ rfl) jo jo) ?_)))
  rw [zco, zcb]
  refine ja rfl (jO (jN (jv1 2 ?_)))
  refine jT ?_
  refine qZ (qR rfl ?_)
  exact ⟨rfl, rfl⟩
 refine jQ (jN (jv1 0 ?_))
 refine jS (jR (jm rfl (ja rfl (jO (jN (jv1 2 ?_))))))
 refine jT ?_
 refine qR rfl ?_
 exact ⟨by rw [zv jo], rfl⟩
theorem mS (q : Tx) (w : World) (hq : q.length ≤ 1000000) : Calls Tryz.prog 77 #[encStr q] w fun e w' => e = .returned (.bool (decide (dH q))) ∧ Frm [] w w' := by
 have K := Frm.refl [] w
 refine VC.calls (nt := 11) (res := #[.tmp 2]) Tryz.func77 rfl Tryz.ntmps77 Tryz.results77 rfl ?_
 refine jS (jR (ja rfl (jO (jN (jv1 0 ?_)))))
 refine jS ?_
 refine VC.splitR [] (fun wz => Frm [] w wz) 2 (.bool (decide (dH q))) ?_ ?_
 ·
  refine jR (jM ?_)
  refine Ops.cl (jE1 Tryz.call50) (oM q _ hq) rfl ?_
  rintro e _ ⟨rfl, rfl⟩
  refine ⟨_, rfl, ?_⟩
  by_cases hs4 : isN q
  ·
   refine jM ?_
   refine jG ?_
   refine Ops.clg rfl au (jE1 Tryz.call60) (jL q _ hq) rfl ?_
   rintro e w2 ⟨rfl, hf2⟩
   refine ⟨_, rfl, ?_⟩
   have K := K.trans hf2 jp
   refine jG ?_
   refine jk (Run.eqlT rfl rfl) ?_
   refine je (Run.pickT rfl rfl au) (ja rfl (jO ?_))
   refine jN ⟨(js1 (jC (by simp [dH, *]))), (K)⟩
  refine jM ?_
  refine jU ?_
  refine jU ?_
  refine jU ?_
  refine jU ?_
  refine je (Run.pickF rfl rfl au) (ja rfl (jO ?_))
  refine jN ⟨(js1 (jC (by simp [dH, *]))), (K)⟩
 intro Γ wz hΓ K
 refine jN (VC.sub _ hΓ ?_)
 refine jT ?_
 refine qR rfl ?_
 exact ⟨rfl, K⟩
set_option maxHeartbeats 1000000 in
theorem vK (m1 m2 : MlC) (w : World) (hm1 : RdL w m1) (hm2 : RdL w m2) : Calls Tryz.prog 15 #[m1.val, m2.val] w fun e w' => e = .returned (.bool (decide (m1.p = m2.p))) ∧ Frm [] w w' := by
 have hn1 := hm1.ln
 have hn2 := hm2.ln
 have hs1 := hm1.sn
 have hs2 := hm2.sn
 have hext : m1.p = m2.p ↔ m1.v = m2.v ∧ m1.b = m2.b ∧ Ns m1.l = Ns m2.l ∧ m1.ss = m2.ss := by
  constructor
  ·
   intro h
   injection h with h1 h2 h3 h4
   exact ⟨h3, h4, h1, h2⟩
  rintro ⟨h1, h2, h3, h4⟩
  show MailP.mk _ _ _ _ = MailP.mk _ _ _ _
  rw [h1, h2, h3, h4]
 refine VC.calls (nt := 91) (res := #[.tmp 4]) Tryz.func15 rfl Tryz.ntmps15 Tryz.results15 rfl ?_
 refine jS (jR ?_)
 refine Ops.m (qV.box rfl) rfl ?_
 rintro _ w1 ⟨rfl, hF_w1⟩
 have hb1 : Blk w1 w.heap.size 25 m1.cells.toArray := hF_w1.blk
 have K := hF_w1.frm
 generalize w.heap.size = g1 at hb1 ⊢
 refine Ops.m (qV.box rfl) rfl ?_
 rintro _ w2 ⟨rfl, hF_w2⟩
 have hb2 : Blk w2 w1.heap.size 25 m2.cells.toArray := hF_w2.blk
 have hb1 := hb1.frm hF_w2.frm jp
 have K := K.trans hF_w2.frm jp
 generalize w1.heap.size = g2 at hb2 ⊢
 refine ja rfl (jO (jN (jv2 2 3 ?_)))
 refine jS (jS ?_)
 refine VC.split1 [(2, _), (3, _)] (js2 rfl rfl) 36 (.bool (decide (m1.v ≠ m2.v ∨ m1.b ≠ m2.b ∨ m1.l.length ≠ m2.l.length ∨ m1.ss.length ≠ m2.ss.length))) ?_ ?_
 ·
  refine jR (jf rfl zf rfl zn (jl rfl zp (hb1.cell 2) (jf rfl zf rfl zn (jl rfl zp (hb2.cell 2) (jb rfl rfl (Bin.neq _ _) ?_)))))
  by_cases hs11 : m1.v ≠ m2.v
  ·
   refine jM ?_
   refine jU ?_
   refine jU ?_
   refine jU ?_
   refine jU ?_
   refine jU ?_
   refine je (Run.pickT rfl rfl au) (jM ?_)
   refine jU ?_
   refine jU ?_
   refine jU ?_
   refine jU ?_
   refine jU ?_
   refine jU ?_
   refine jU ?_
   refine je (Run.pickT rfl rfl au) (jM ?_)
   refine jU ?_
   refine jU ?_
   refine jU ?_
   refine jU ?_
   refine jU ?_
   refine jU ?_
   refine jU ?_
   refine je (Run.pickT rfl rfl au) (jO ?_)
   refine jN ⟨(js3 (jC (by clear hext; simp [*])) rfl rfl), rfl⟩
  refine jM ?_
  refine jk (Run.fieldAddr rfl zf rfl zn jd) ?_
  refine jk (Run.load rfl zp (hb1.cell 3)) ?_
  refine jk (Run.fieldAddr rfl zf rfl zn jd) ?_
  refine jk (Run.load rfl zp (hb2.cell 3)) ?_
  refine jk (Run.bin rfl rfl (Bin.neq _ _)) ?_
  by_cases hs17 : m1.b ≠ m2.b
  ·
   refine je (Run.pickF rfl rfl au) (jM ?_)
   refine jU ?_
   refine jU ?_
   refine jU ?_
   refine jU ?_
   refine jU ?_
   refine jU ?_
   refine jU ?_
   refine je (Run.pickT rfl rfl au) (jM ?_)
   refine jU ?_
   refine jU ?_
   refine jU ?_
   refine jU ?_
   refine jU ?_
   refine jU ?_
   refine jU ?_
   refine je (Run.pickT rfl rfl au) (jO ?_)
   refine jN ⟨(js3 (jC (by clear hext; simp [*])) rfl rfl), rfl⟩
  refine je (Run.pickF rfl rfl au) (jM ?_)
  refine jk (Run.fieldAddr rfl zf rfl zaf jd) ?_
  refine jk (Run.load rfl zap (hb1.cell 0)) ?_
  refine jk (Run.lenS rfl zg) ?_
  refine jk (Run.fieldAddr rfl zf rfl zaf jd) ?_
  refine jk (Run.load rfl zap (hb2.cell 0)) ?_
  refine jk (Run.lenS rfl zg) ?_
  refine jk (Run.bin rfl rfl (Bin.neqN _ _)) ?_
  by_cases hs26 : m1.l.length ≠ m2.l.length
  ·
   refine je (Run.pickF rfl rfl au) (jM ?_)
   refine jU ?_
   refine jU ?_
   refine jU ?_
   refine jU ?_
   refine jU ?_
   refine jU ?_
   refine jU ?_
   refine je (Run.pickT rfl rfl au) (jO ?_)
   refine jN ⟨(js3 (jC (by clear hext; simp [*])) rfl rfl), rfl⟩
  refine je (Run.pickF rfl rfl au) (jM ?_)
  refine jk (Run.fieldAddr rfl zf rfl zaj jd) ?_
  refine jk (Run.load rfl zar (hb1.cell 1)) ?_
  refine jk (Run.lenS rfl zc) ?_
  refine jk (Run.fieldAddr rfl zf rfl zaj jd) ?_
  refine jk (Run.load rfl zar (hb2.cell 1)) ?_
  refine jk (Run.lenS rfl zc) ?_
  refine jk (Run.bin rfl rfl (Bin.neqN _ _)) ?_
  refine je (Run.pickF rfl rfl au) (jO ?_)
  refine jN ⟨(js3 (jC (by clear hext; simp [*])) rfl rfl), rfl⟩
 intro Γ hΓ
 refine jN (VC.sub _ hΓ ?_)
 refine jD rfl (fun hc1 => ?_) fun hc1 => ?_
 ·
  have hbad : ¬ m1.p = m2.p := fun h => by
   obtain ⟨h1, h2, h3, h4⟩ := hext.1 h
   have h5 := congrArg List.length h3
   rw [bP, bP] at h5
   rw [h4] at hc1
   omega
  refine jS (jR (ja rfl (jO (jN (jv1 4 ?_)))))
  refine jT ?_
  refine qZ (qR rfl ?_)
  exact ⟨by rw [decide_eq_false hbad], K⟩
 obtain ⟨hvv, hbb, hll, hss⟩ : m1.v = m2.v ∧ m1.b = m2.b ∧ m1.l.length = m2.l.length ∧ m1.ss.length = m2.ss.length := by omega
 refine jQ (jN (jv2 2 3 ?_))
 refine jS (jS (jR (jz 0 (jO (jN (jB ?_))))))
 refine VC.loop (σ := Nat) (fun s => [(2, .pointer (some ⟨g1, 0, none⟩)), (3, .pointer (some ⟨g2, 0, none⟩)), (5, .int .i64 ((s : Nat) : Int))]) (fun s wr => s ≤ m1.l.length ∧ (∀ j (h1 : j < m1.l.length) (h2 : j < m2.l.length), j < s → (m1.l[j]).p = (m2.l[j]).p) ∧ Blk wr g1 25 m1.cells.toArray ∧ Blk wr g2 25 m2.cells.toArray ∧ Frm [] w wr) (fun s => m1.l.length - s) 0 (js3 rfl rfl rfl) ⟨zae _, fun _ _ _ h => jo, hb1, hb2, K⟩ ?_
 rintro i wr ⟨hi, hd, hb1, hb2, K⟩
 refine jS (jS (jR (jm rfl (jf rfl zf rfl zaf (jl rfl zap (hb1.cell 0) (je (Run.lenS rfl zg) (jb rfl rfl (Bin.lssN _ _) (jO (jN (jv4 2 3 5 41 ?_))))))))))
 refine jD rfl (fun hc2 => ?_) fun hc2 => ?_
 ·
  obtain ⟨ad1, had1, helad1⟩ : ∃ ad, m1.A = some ad ∧ ∀ W, Frm [] wr W → ∀ j v, (m1.l[i]).cells[j]? = some v → W.cell? ((ad.add (i * 4)).add j) = some v := by
   have hi' : i < m1.l.length := by omega
   obtain ⟨ad, hA, _⟩ := (hm1.frm K).l.elem hi'
   refine ⟨ad, hA, fun W hW => ?_⟩
   obtain ⟨ad', hA', h⟩ := (hm1.frm (K.trans hW jp)).l.elem hi'
   rw [hA] at hA'
   cases hA'
   exact h
  obtain ⟨ad2, had2, helad2⟩ : ∃ ad, m2.A = some ad ∧ ∀ W, Frm [] wr W → ∀ j v, (m2.l[i]).cells[j]? = some v → W.cell? ((ad.add (i * 4)).add j) = some v := by
   have hi' : i < m2.l.length := by omega
   obtain ⟨ad, hA, _⟩ := (hm2.frm K).l.elem hi'
   refine ⟨ad, hA, fun W hW => ?_⟩
   obtain ⟨ad', hA', h⟩ := (hm2.frm (K.trans hW jp)).l.elem hi'
   rw [hA] at hA'
   cases hA'
   exact h
  have hxa := (hm1.frm K).l.el _ (zaa hc2)
  have hya := (hm2.frm K).l.el _ (zaa (jo : i < m2.l.length))
  generalize hx : m1.l[i] = x at *
  generalize hy : m2.l[i] = y at *
  have hpe : x.p = y.p ↔ x.nm = y.nm ∧ x.v = y.v ∧ x.n = y.n ∧ Ms x.l = Ms y.l := by
   unfold Nc.p
   constructor
   ·
    intro h
    injection h with h1 h2
    injection h2 with h2 h3 h4
    exact ⟨h1, h2, h3, h4⟩
   rintro ⟨h1, h2, h3, h4⟩
   rw [h1, h2, h3, h4]
  refine jQ (jN (jv3 2 3 5 ?_))
  refine jS (jB (jS ?_))
  refine VC.meet (σ := Unit) (fun s => [(2, .pointer (some ⟨g1, 0, none⟩)), (3, .pointer (some ⟨g2, 0, none⟩)), (5, .int .i64 ((i : Nat) : Int)), (72, .bool (decide (x.p ≠ y.p)))]) (fun s wz => Frm [] wr wz) ?_ ?_
  ·
   refine VC.held (fun W => Frm [] wr W) jK ?_
   have hS : Frm [] wr wr.drew := (Frm.refl _ _).drew
   refine jH 0 rfl hS (fun w0 hw0 => Run.fieldAddr rfl zf rfl zaf jd) ?_
   refine jH 1 rfl hS (fun w0 hw0 => Run.load rfl zap ((hb1.frm hw0 jp).cell 0)) ?_
   refine jH 2 rfl hS (fun w0 hw0 => Run.mv rfl) ?_
   refine jH 3 rfl hS (fun w0 hw0 => Run.indexS i (show _ = some (Value.slice (some ad1) m1.l.length m1.c) by rw [← had1]; rfl) rfl zg zq jo) ?_
   refine jH 4 rfl hS (fun w0 hw0 => Run.fieldAddr rfl zy rfl zm jd) ?_
   refine jH 5 rfl hS (fun w0 hw0 => Run.load rfl zx (helad1 _ hw0 0 (encStr x.nm) rfl)) ?_
   refine jH 6 rfl hS (fun w0 hw0 => Run.fieldAddr rfl zf rfl zaf jd) ?_
   refine jH 7 rfl hS (fun w0 hw0 => Run.load rfl zap ((hb2.frm hw0 jp).cell 0)) ?_
   refine jH 8 rfl hS (fun w0 hw0 => Run.mv rfl) ?_
   refine jH 9 rfl hS (fun w0 hw0 => Run.indexS i (show _ = some (Value.slice (some ad2) m2.l.length m2.c) by rw [← had2]; rfl) rfl zg zq jo) ?_
   refine jH 10 rfl hS (fun w0 hw0 => Run.fieldAddr rfl zy rfl zm jd) ?_
   refine jH 11 rfl hS (fun w0 hw0 => Run.load rfl zx (helad2 _ hw0 0 (encStr y.nm) rfl)) ?_
   refine jH 12 rfl hS (fun w0 hw0 => Run.neqT rfl rfl) ?_
   refine jH 13 rfl hS (fun w0 hw0 => Run.mv rfl) ?_
   by_cases hs57 : x.nm ≠ y.nm
   ·
    refine qQ.skip 14 rfl jK jK jK hS rfl rfl (decide_eq_true hs57) rfl rfl ?_
    refine qQ.skip 15 rfl jK jK jK hS rfl rfl (decide_eq_true hs57) rfl rfl ?_
    refine qQ.skip 16 rfl jK jK jK hS rfl rfl (decide_eq_true hs57) rfl rfl ?_
    refine qQ.skip 17 rfl jK jK jK hS rfl rfl (decide_eq_true hs57) rfl rfl ?_
    refine qQ.skip 18 rfl jK jK jK hS rfl rfl (decide_eq_true hs57) rfl rfl ?_
    refine qQ.skip 19 rfl jK jK jK hS rfl rfl (decide_eq_true hs57) rfl rfl ?_
    refine qQ.skip 20 rfl jK jK jK hS rfl rfl (decide_eq_true hs57) rfl rfl ?_
    refine qQ.skip 21 rfl jK jK jK hS rfl rfl (decide_eq_true hs57) rfl rfl ?_
    refine qQ.skip 22 rfl jK jK jK hS rfl rfl (decide_eq_true hs57) rfl rfl ?_
    refine qQ.skip 23 rfl jK jK jK hS rfl rfl (decide_eq_true hs57) rfl rfl ?_
    refine qQ.skip 24 rfl jK jK jK hS rfl rfl (decide_eq_true hs57) rfl rfl ?_
    refine qQ.skip 25 rfl jK jK jK hS rfl rfl (decide_eq_true hs57) rfl rfl ?_
    refine qQ.skip 26 rfl jK jK jK hS rfl rfl (decide_eq_true hs57) rfl rfl ?_
    refine qQ.skip 27 rfl jK jK jK hS rfl rfl (decide_eq_true hs57) rfl rfl ?_
    refine jH 28 rfl hS (fun w0 hw0 => Run.pickT rfl rfl (decide_eq_true hs57)) ?_
    refine qQ.done jK ?_
    refine jN ⟨(), (js4 rfl rfl rfl (by rw [show decide (x.p ≠ y.p) = true from decide_eq_true (fun h => hs57 (hpe.1 h).1)]; rfl)), ?_⟩
    exact hS
   refine qQ.take 14 rfl jK jK jK hS (fun w0 hw0 => Run.fieldAddr rfl zf rfl zaf jd) (Up.g rfl ((decide_eq_false hs57))) rfl rfl ?_
   refine qQ.take 15 rfl jK jK jK hS (fun w0 hw0 => Run.load rfl zap ((hb1.frm hw0 jp).cell 0)) (Up.g rfl ((decide_eq_false hs57))) rfl rfl ?_
   refine qQ.take 16 rfl jK jK jK hS (fun w0 hw0 => Run.mv rfl) (Up.g rfl ((decide_eq_false hs57))) rfl rfl ?_
   refine qQ.take 17 rfl jK jK jK hS (fun w0 hw0 => Run.indexS i (show _ = some (Value.slice (some ad1) m1.l.length m1.c) by rw [← had1]; rfl) rfl zg zq jo) (Up.g rfl ((decide_eq_false hs57))) rfl rfl ?_
   refine qQ.take 18 rfl jK jK jK hS (fun w0 hw0 => Run.fieldAddr rfl zy rfl zu jd) (Up.g rfl ((decide_eq_false hs57))) rfl rfl ?_
   refine qQ.take 19 rfl jK jK jK hS (fun w0 hw0 => Run.loadA rfl zaz zu (cs := BVc x.v x.n x.A x.l.length x.c) (fun j v hj => by rw [Go.Proofs.YtgmbmfpfhcekiaaGreat.add_add]; exact helad1 _ hw0 (1 + j) v (by rw [zeh]; exact hj)) (by first | rfl | (simp; done))) (Up.g rfl ((decide_eq_false hs57))) rfl rfl ?_
   refine qQ.take 20 rfl jK jK jK hS (fun w0 hw0 => Run.fieldAddr rfl zf rfl zaf jd) (Up.g rfl ((decide_eq_false hs57))) rfl rfl ?_
   refine qQ.take 21 rfl jK jK jK hS (fun w0 hw0 => Run.load rfl zap ((hb2.frm hw0 jp).cell 0)) (Up.g rfl ((decide_eq_false hs57))) rfl rfl ?_
   refine qQ.take 22 rfl jK jK jK hS (fun w0 hw0 => Run.mv rfl) (Up.g rfl ((decide_eq_false hs57))) rfl rfl ?_
   refine qQ.take 23 rfl jK jK jK hS (fun w0 hw0 => Run.indexS i (show _ = some (Value.slice (some ad2) m2.l.length m2.c) by rw [← had2]; rfl) rfl zg zq jo) (Up.g rfl ((decide_eq_false hs57))) rfl rfl ?_
   refine qQ.take 24 rfl jK jK jK hS (fun w0 hw0 => Run.fieldAddr rfl zy rfl zu jd) (Up.g rfl ((decide_eq_false hs57))) rfl rfl ?_
   refine qQ.take 25 rfl jK jK jK hS (fun w0 hw0 => Run.loadA rfl zaz zu (cs := BVc y.v y.n y.A y.l.length y.c) (fun j v hj => by rw [Go.Proofs.YtgmbmfpfhcekiaaGreat.add_add]; exact helad2 _ hw0 (1 + j) v (by rw [zeh]; exact hj)) (by first | rfl | (simp; done))) (Up.g rfl ((decide_eq_false hs57))) rfl rfl ?_
   refine qQ.cl 26 rfl jK (jE2 Tryz.call22) (kQ x.v x.n y.v y.n x.A y.A x.c y.c x.l y.l _ (hxa.rd.frm hS) (hya.rd.frm hS) (by have := hxa.n; omega) (by have := hya.n; omega)) (Up.g rfl ((decide_eq_false hs57))) rfl rfl ?_
   rintro e wA ⟨rfl, hfA⟩
   have hSA := hS.trans hfA jp
   refine ⟨_, rfl, hSA, ?_⟩
   have hS := hSA
   refine qQ.take 27 rfl jK jK jK hS (fun w0 hw0 => Run.not rfl) (Up.g rfl ((decide_eq_false hs57))) rfl rfl ?_
   refine jH 28 rfl hS (fun w0 hw0 => Run.pickF rfl rfl (decide_eq_false hs57)) ?_
   refine qQ.done jK ?_
   refine jN ⟨(), (js4 rfl rfl rfl (by rw [show decide (x.p ≠ y.p) = !decide (x.v = y.v ∧ x.n = y.n ∧ Ms x.l = Ms y.l) from by rw [← decide_not, decide_eq_decide]; exact not_congr (hpe.trans ⟨fun h => h.2, fun h => ⟨Classical.not_not.1 hs57, h⟩⟩)]; rfl)), ?_⟩
   exact hS
  rintro _ wz hfz Γ hΓ
  have hb1 := hb1.frm hfz jp
  have hb2 := hb2.frm hfz jp
  have K := K.trans hfz jp
  refine jN (VC.sub _ hΓ ?_)
  refine VC.condB rfl (fun hc3 => ?_) (fun hc3 => ?_)
  ·
   have hbad : ¬ m1.p = m2.p := fun h => by
    have h3 := (hext.1 h).2.2.1
    have h4 := congrArg (fun l => l[i]?) h3
    simp only [Ns, zcm, zb hc2, zb (jo : i < m2.l.length), hx, hy, zcz, Option.some.injEq] at h4
    exact (of_decide_eq_true hc3) h4
   refine jS (jR (ja rfl (jO (jN (jv1 4 ?_)))))
   refine jT ?_
   refine qH (qZ (qZ (qH (qZ (qR rfl ?_)))))
   exact ⟨by rw [decide_eq_false hbad], K⟩
  have hc3 : x.p = y.p := Classical.not_not.1 (of_decide_eq_false hc3)
  refine jQ ?_
  refine qW (jN ?_)
  refine jv3 2 3 5 ?_
  refine jR (jm rfl (jb rfl rfl (Bin.add_i64 _ 1 jo) (ja rfl (jO ?_))))
  refine jN ⟨(i + 1), (js3 rfl rfl rfl), ?_, ?_⟩
  ·
   refine ⟨hc2, fun j h1 h2 hj => ?_, hb1, hb2, K⟩
   by_cases e : j = i
   ·
    subst e
    rw [hx, hy]
    exact hc3
   exact hd j h1 h2 jo
  first | omega | (dsimp only; omega)
 obtain rfl : i = m1.l.length := by omega
 have hNs : Ns m1.l = Ns m2.l := List.ext_getElem (by rw [bP, bP]; exact hll) (fun j h1 h2 => by
  rw [bP] at h1 h2
  rw [show (Ns m1.l)[j] = (m1.l[j]).p from zbe _, show (Ns m2.l)[j] = (m2.l[j]).p from zbe _]
  exact hd j h1 h2 h1)
 refine jX ?_
 refine qJ (qJ (qN ?_))
 refine jN (jv2 2 3 ?_)
 refine jS (jS (jR (jz 0 (jO (jN (jB ?_))))))
 refine VC.loop (σ := Nat) (fun s => [(2, .pointer (some ⟨g1, 0, none⟩)), (3, .pointer (some ⟨g2, 0, none⟩)), (6, .int .i64 ((s : Nat) : Int))]) (fun s wr => s ≤ m1.ss.length ∧ (∀ j, j < s → m1.ss[j]? = m2.ss[j]?) ∧ Blk wr g1 25 m1.cells.toArray ∧ Blk wr g2 25 m2.cells.toArray ∧ Frm [] w wr) (fun s => m1.ss.length - s) 0 (js3 rfl rfl rfl) ⟨zae _, fun _ h => jo, hb1, hb2, K⟩ ?_
 rintro k wr ⟨hk, hd2, hb1, hb2, K⟩
 refine jS (jS (jR (jm rfl (jf rfl zf rfl zaj (jl rfl zar (hb1.cell 1) (je (Run.lenS rfl zc) (jb rfl rfl (Bin.lssN _ _) (jO (jN (jv4 2 3 6 77 ?_))))))))))
 refine jD rfl (fun hc4 => ?_) fun hc4 => ?_
 ·
  have hdw := qK.drew wr
  have hb1 := hb1.drawn hdw
  have hb2 := hb2.drawn hdw
  have K := K.drawn hdw
  have hk2 : k < m2.ss.length := by omega
  obtain ⟨ad1, had1, hel1⟩ := (hm1.s.frm K jp).elem hc4
  obtain ⟨ad2, had2, hel2⟩ := (hm2.s.frm K jp).elem hk2
  have hg1 : m1.ss[k]? = some m1.ss[k] := zb hc4
  have hg2 : m2.ss[k]? = some m2.ss[k] := zb hk2
  refine jQ (jN (jv3 2 3 6 ?_))
  refine jS (jB (jS ?_))
  refine VC.still jK jK ?_
  refine qE (Run.fieldAddr rfl zf rfl zaj jd) ?_
  refine qE (Run.load rfl zar (hb1.cell 1)) ?_
  refine qM ?_
  refine qE (Run.indexS k (show _ = some (Value.slice (some ad1) m1.ss.length m1.d) by rw [← had1]; rfl) rfl zc zm hc4) ?_
  refine qE (Run.load rfl zx (hel1 0 (encStr m1.ss[k]) (by simp [SB, hc4]))) ?_
  refine qE (Run.fieldAddr rfl zf rfl zaj jd) ?_
  refine qE (Run.load rfl zar (hb2.cell 1)) ?_
  refine qM ?_
  refine qE (Run.indexS k (show _ = some (Value.slice (some ad2) m2.ss.length m2.d) by rw [← had2]; rfl) rfl zc zm hk2) ?_
  refine qE (Run.load rfl zx (hel2 0 (encStr m2.ss[k]) (by simp [SB, hk2]))) ?_
  refine qE (Run.neqT rfl rfl) ?_
  refine bZ.nil ?_
  refine jN (jv4 2 3 6 90 ?_)
  refine jD rfl (fun hc5 => ?_) fun hc5 => ?_
  ·
   have hbad : ¬ m1.p = m2.p := fun h => by
    have h3 := congrArg (fun l => l[k]?) (hext.1 h).2.2.2
    simp only [hg1, hg2, Option.some.injEq] at h3
    exact hc5 h3
   refine jS (jR (ja rfl (jO (jN (jv1 4 ?_)))))
   refine jT ?_
   refine qH (qZ (qZ (qH (qZ (qR rfl ?_)))))
   exact ⟨by rw [decide_eq_false hbad], K⟩
  have hc5 : m1.ss[k] = m2.ss[k] := Classical.not_not.1 hc5
  refine jQ ?_
  refine qW (jN ?_)
  refine jv3 2 3 6 ?_
  refine jR (jm rfl (jb rfl rfl (Bin.add_i64 _ 1 jo) (ja rfl (jO ?_))))
  refine jN ⟨(k + 1), (js3 rfl rfl rfl), ?_, ?_⟩
  ·
   refine ⟨hc4, fun j hj => ?_, hb1, hb2, K⟩
   by_cases e : j = k
   ·
    subst e
    rw [hg1, hg2, hc5]
   exact hd2 j jo
  first | omega | (dsimp only; omega)
 refine jX ?_
 refine qJ (qJ (qN ?_))
 refine jN ?_
 refine VC.sub [] .nil ?_
 refine jS (jR (ja rfl (jO (jN (jT ?_)))))
 refine qR rfl ?_
 obtain rfl : k = m1.ss.length := by omega
 have hse : m1.ss = m2.ss := zcl (fun j => by
  rcases zby j m1.ss.length with h | h
  · exact hd2 j h
  rw [zbl h, zbl jo])
 exact ⟨by rw [decide_eq_true (hext.2 ⟨hvv, hbb, hNs, hse⟩)], K⟩
def atR (l : List NmP) (t : Tx) : Int := match l.findIdx? (fun x => decide (x.1 = t)) with | some i => (i : Int) | none => -1
theorem qKu {l : List NmP} {t : Tx} : atR l t < 0 ↔ t ∉ l.map Prod.fst := by
 unfold atR
 cases h : l.findIdx? (fun x => decide (x.1 = t)) with
 | none =>
  rw [List.findIdx?_eq_none_iff] at h
  refine ⟨fun _ hm => ?_, fun _ => jd⟩
  obtain ⟨x, hx, rfl⟩ := List.mem_map.1 hm
  have := h x hx
  simp at this
 | some i =>
  rw [zdy] at h
  obtain ⟨h1, h2, _⟩ := h
  refine ⟨fun h3 => by dsimp only at h3; omega, fun h3 => absurd ?_ h3⟩
  rw [← of_decide_eq_true h2]
  exact zbr (zaa h1)
theorem qZ0 (A : Option Addr) (c : Nat) (l : List Nc) (q : Tx) (w : World) (hl : RdN w A l) (hln : l.length ≤ 1000000) (hq : q.length ≤ 1000000) : Calls Tryz.prog 30 #[.slice A l.length c, encStr q] w fun e w' => e = .returned (.int .i64 (atR (Ns l) (qS q))) ∧ Frm [] w w' := by
 have K := Frm.refl [] w
 refine VC.calls (nt := 21) (res := #[.tmp 4]) Tryz.func30 rfl Tryz.ntmps30 Tryz.results30 rfl ?_
 refine jS (jR (jz 0 (jO (jN (jv2 0 1 ?_)))))
 refine jS (jS (jR (jz 0 (jO (jN (jB ?_))))))
 refine VC.loop (σ := Nat) (fun s => [(0, .slice A l.length c), (1, encStr q), (5, .int .i64 ((s : Nat) : Int))]) (fun s wr => s ≤ l.length ∧ (∀ j (h : j < l.length), j < s → (l[j]).nm ≠ qS q) ∧ Frm [] w wr) (fun s => l.length - s) 0 (js3 rfl rfl rfl) ⟨zae _, fun _ _ h => jo, K⟩ ?_
 rintro i wr ⟨hi, hd, K⟩
 refine jS (jS (jR (jm rfl (jm rfl (je (Run.lenS rfl zg) (jb rfl rfl (Bin.lssN _ _) (jO (jN (jv4 0 1 5 9 ?_)))))))))
 refine jD rfl (fun hc1 => ?_) fun hc1 => ?_
 ·
  obtain ⟨ad, hA, _⟩ := (hl.frm K).elem hc1
  have hel : ∀ W, Frm [] wr W → ∀ j v, (l[i]).cells[j]? = some v → W.cell? ((ad.add (i * 4)).add j) = some v := fun W hW => by
   obtain ⟨ad', hA', h⟩ := (hl.frm (K.trans hW jp)).elem hc1
   rw [hA] at hA'
   cases hA'
   exact h
  obtain ⟨x, hx⟩ : ∃ x, x = l[i] := ⟨_, rfl⟩
  rw [← hx] at hel
  refine jQ (jN (jv3 0 1 5 ?_))
  refine jS (jB (jS ?_))
  refine VC.held (fun W => Frm [] wr W) jK ?_
  have hS : Frm [] wr wr.drew := (Frm.refl _ _).drew
  refine jH 0 rfl hS (fun w0 hw0 => Run.mv rfl) ?_
  refine jH 1 rfl hS (fun w0 hw0 => Run.mv rfl) ?_
  refine jH 2 rfl hS (fun w0 hw0 => Run.indexS i (show _ = some (Value.slice (some ad) l.length c) by rw [← hA]; rfl) rfl zg zq hc1) ?_
  refine jH 3 rfl hS (fun w0 hw0 => Run.fieldAddr rfl zy rfl zm jd) ?_
  refine jH 4 rfl hS (fun w0 hw0 => Run.load rfl zx (hel _ hw0 0 (encStr x.nm) rfl)) ?_
  refine jH 5 rfl hS (fun w0 hw0 => Run.mv rfl) ?_
  refine qQ.cl 6 rfl jK (jE1 Tryz.call60) (jL q _ hq) trivial rfl rfl ?_
  rintro e wA ⟨rfl, hfA⟩
  have hSA := hS.trans hfA jp
  refine ⟨_, rfl, hSA, ?_⟩
  have hS := hSA
  have K := K.trans hS jp
  refine jH 7 rfl hS (fun w0 hw0 => Run.eqlT rfl rfl) ?_
  refine qQ.done jK ?_
  refine jN (jv4 0 1 5 19 ?_)
  refine jD rfl (fun hc2 => ?_) fun hc2 => ?_
  ·
   refine jS (jR (jm rfl (ja rfl (jO (jN (jv1 4 ?_))))))
   refine jT ?_
   refine qH (qZ (qZ (qH (qZ (qR rfl ?_)))))
   have hc2 : (l[i]).nm = qS q := by
    rw [← hx]
    first | exact hc2 | exact of_decide_eq_true hc2
   refine ⟨?_, K⟩
   have e : (Ns l).findIdx? (fun x => decide (x.1 = qS q)) = some i := by
    rw [zdy]
    refine ⟨by rw [bP]; exact hc1, ?_, fun j hj => ?_⟩
    ·
     rw [show (Ns l)[i]'(by rw [bP]; exact hc1) = (l[i]).p from zbe _]
     exact decide_eq_true hc2
    rw [show (Ns l)[j]'(by rw [bP]; omega) = (l[j]).p from zbe _]
    simp only [decide_eq_true_eq]
    exact hd j jo hj
   unfold atR
   rw [e]
  refine jQ ?_
  refine qW (jN ?_)
  refine jv3 0 1 5 ?_
  refine jR (jm rfl (jb rfl rfl (Bin.add_i64 _ 1 jo) (ja rfl (jO ?_))))
  refine jN ⟨(i + 1), (js3 rfl rfl rfl), ?_, ?_⟩
  ·
   refine ⟨hc1, fun j h hj => ?_, K⟩
   by_cases e : j = i
   ·
    subst e
    rw [← hx]
    first | exact hc2 | exact of_decide_eq_false hc2
   exact hd j h jo
  first | omega | (dsimp only; omega)
 refine jX ?_
 refine qJ (qJ (qN ?_))
 refine jN ?_
 refine VC.sub [] .nil ?_
 refine jS (jR ?_)
 refine Ops.r (v := .int .i64 (-1)) (Run.asg rfl) rfl ?_
 refine jO (jN (jT ?_))
 refine qR rfl ?_
 refine ⟨?_, K⟩
 have e : (Ns l).findIdx? (fun x => decide (x.1 = qS q)) = none := by
  rw [List.findIdx?_eq_none_iff]
  intro x hx
  obtain ⟨y, hy, rfl⟩ := List.mem_map.1 hx
  obtain ⟨j, hj, rfl⟩ := zag hy
  exact decide_eq_false (hd j hj jo)
 unfold atR
 rw [e]
end
section
open Go.RowKit Go.Sort
def NmC (m : MlC) (i : Nat) (x : Nc) : Prop := bJ (qB m.p) i x.nm ∧ bE x.p.2 ∧ x.v ≤ m.v
instance (m : MlC) (i : Nat) (x : Nc) : Decidable (NmC m i x) := by unfold NmC; infer_instance
theorem rD (m : MlC) {i : Nat} (h : i < m.l.length) : (qB m.p)[i]? = some (m.l[i]).nm := by
 simp [qB, MlC.p, Ns, Nc.p, zb h]
theorem pN (m : MlC) {i : Nat} (h : i < m.l.length) {h2 : i < (qB m.p).length} : (qB m.p)[i] = (m.l[i]).nm := Option.some.inj ((zb h2).symm.trans (rD m h))
theorem qZ1 (m : MlC) : bV m.p ↔ ((∀ i (h : i < m.l.length), NmC m i m.l[i] ∧ (m.l[i]).v ∉ (m.l.take i).map Nc.v ∧ ∀ y ∈ (m.l[i]).l, (y.m.blob : Int) ≤ m.b) ∧ (∀ i (h : i < m.ss.length), bJ m.ss i m.ss[i])) ∧ qC ∈ m.l.map Nc.nm ∧ m.l.length ≤ 24 ∧ m.ss.length ≤ 24 ∧ 1 ≤ m.v ∧ m.v ≤ 2147483647 ∧ 0 ≤ m.b ∧ m.b ≤ 2147483647 := by
 have en : qB m.p = m.l.map Nc.nm := by simp [qB, MlC.p, Ns, Nc.p]
 have el := fA m
 rw [wJ]
 constructor
 ·
  rintro ⟨⟨⟨h1, h2⟩, ⟨h3, h4⟩, h5, h6, h7, h8, h9⟩, hb⟩
  refine ⟨⟨fun i h => ?_, h4⟩, by rw [← en]; exact h9, jo, h3, h5, h6, h7, h8⟩
  have h2i := h2 i jo
  rw [pN m h] at h2i
  obtain ⟨⟨k1, k2, k3⟩, k4⟩ := hb i h
  exact ⟨⟨h2i, k1, k2⟩, k3, k4⟩
 rintro ⟨⟨h, h4⟩, h9, h1, h3, h5, h6, h7, h8⟩
 refine ⟨⟨⟨jo, fun i hi => ?_⟩, ⟨h3, h4⟩, h5, h6, h7, h8, by rw [en]; exact h9⟩, fun i hi => ?_⟩
 ·
  have hi' : i < m.l.length := jo
  rw [pN m hi']
  exact (h i hi').1.1
 obtain ⟨⟨_, k1, k2⟩, k3, k4⟩ := h i hi
 exact ⟨⟨k1, k2, k3⟩, k4⟩
set_option maxHeartbeats 1000000 in
theorem yN (m : MlC) (w : World) (hm : RdL w m) (hbb : m.b ≤ 9223372036854775807) : Calls Tryz.prog 26 #[m.val] w fun e w' => e = .returned (.bool (decide (bV m.p))) ∧ Frm [] w w' := by
 have hln := hm.ln
 have hsn := hm.sn
 have hMi := qZ1 m
 refine VC.calls (nt := 166) (res := #[.tmp 2]) Tryz.func26 rfl Tryz.ntmps26 Tryz.results26 rfl ?_
 refine jS (jR ?_)
 refine Ops.m (qV.box rfl) rfl ?_
 rintro _ w1 ⟨rfl, hF_w1⟩
 have hb1 : Blk w1 w.heap.size 25 #[.slice m.A m.l.length m.c, .slice m.S m.ss.length m.d, .int .i64 m.v, .int .i64 m.b] := hF_w1.blk
 have K := hF_w1.frm
 generalize w.heap.size = g1 at hb1 ⊢
 refine ja rfl (jO (jN (jv1 1 ?_)))
 refine jS (jR (ja rfl (jO (jN (jS (jS (jR (jz 0 (jO (jN (jB ?_)))))))))))
 refine VC.loop (σ := Nat) (fun s => [(1, .pointer (some ⟨g1, 0, none⟩)), (3, .bool (decide (qC ∈ (m.l.take s).map Nc.nm))), (4, .int .i64 ((s : Nat) : Int))]) (fun s wr => s ≤ m.l.length ∧ Blk wr g1 25 #[.slice m.A m.l.length m.c, .slice m.S m.ss.length m.d, .int .i64 m.v, .int .i64 m.b] ∧ (∀ j (h : j < m.l.length), j < s → NmC m j m.l[j] ∧ (m.l[j]).v ∉ (m.l.take j).map Nc.v ∧ ∀ y ∈ (m.l[j]).l, (y.m.blob : Int) ≤ m.b) ∧ Frm [] w wr) (fun s => m.l.length - s) 0 (js3 rfl rfl rfl) ⟨zae _, hb1, fun _ _ h => jo, K⟩ ?_
 rintro i wr ⟨hi, hb1, hd, K⟩
 refine jS (jS (jR (jm rfl (jf rfl zf rfl zaf (jl rfl zap (hb1.cell 0) (je (Run.lenS rfl zg) (jb rfl rfl (Bin.lssN _ _) (jO (jN (jv4 1 3 4 13 ?_))))))))))
 refine jD rfl (fun hc1 => ?_) fun hc1 => ?_
 ·
  obtain ⟨ad, had, hel⟩ := (hm.frm K).l.elem hc1
  have hxa := (hm.frm K).l.el _ (zaa hc1)
  have hts : (m.l.take (i + 1)).map Nc.nm = (m.l.take i).map Nc.nm ++ [(m.l[i]).nm] := by rw [zan, zb hc1, zbc]; rfl
  have hnm : NmC m i m.l[i] ↔ (dH (m.l[i]).nm ∧ (0 < i → ((qB m.p)[i - 1]?).getD [] < (m.l[i]).nm)) ∧ bE (m.l[i]).p.2 ∧ (m.l[i]).v ≤ m.v := Iff.rfl
  have hnp : ∀ (h0 : 0 < i), (m.l[i - 1]).nm = ((qB m.p)[i - 1]?).getD [] := fun h0 => by rw [rD m jo]; rfl
  generalize hpvd : ((qB m.p)[i - 1]?).getD [] = pv at hnm hnp
  have hxn := hxa.n
  have hxq := hxa.q
  generalize hx : m.l[i] = x at *
  refine jQ (jN (jv3 1 3 4 ?_))
  refine jS (jB (jS (jR (jf rfl zf rfl zaf (jl rfl zap (hb1.cell 0) (jm rfl (je (Run.indexS i (show _ = some (Value.slice (some ad) m.l.length m.c) by rw [← had]; rfl) rfl zg zq hc1) (je (Run.loadA rfl zde zq hel (by first | rfl | (simp; done))) ?_))))))))
  refine Ops.m (qV.alloc cJ) rfl ?_
  rintro _ w2 ⟨rfl, hF2⟩
  refine Ops.st (qP.storeA rfl rfl zq hF2.blk rfl x.cells_one) ?_
  rintro w3 ⟨hb5, hf3, hs3⟩
  have hb5 : Blk w3 wr.heap.size 45 #[encStr x.nm, .int .i64 x.v, .int .i64 x.n, .slice x.A x.l.length x.c] := hb5
  have K3 : Frm [] wr w3 := hF2.frm.trans hf3 jp
  have hg5 : w.heap.size ≤ wr.heap.size := K.size
  have K := K.trans K3 jp
  have hb1 := hb1.frm K3 jp
  have hxa := hxa.frm K3
  generalize hgg5 : wr.heap.size = g5 at hb5 hg5 ⊢
  refine jO (jN (jv4 1 3 4 5 ?_))
  refine jS ?_
  refine VC.split1 [(1, _), (4, _), (5, _)] (js3 rfl rfl rfl) 3 (.bool (decide ((qC ∈ (m.l.take i).map Nc.nm) ∨ (x.nm = qC)))) ?_ ?_
  ·
   by_cases hs0 : qC ∈ (m.l.take i).map Nc.nm
   ·
    refine jR (jm rfl (jM ?_))
    refine jU ?_
    refine jU ?_
    refine jU ?_
    refine je (Run.pickT rfl rfl au) (ja rfl (jO ?_))
    refine jN ⟨(js4 (by rw [dor1 hs0]; rfl) rfl rfl rfl), rfl⟩
   refine jR (jm rfl (jM ?_))
   refine jk (Run.fieldAddr rfl zy rfl zm jd) ?_
   refine jk (Run.load rfl zx (hb5.cell 0)) ?_
   refine jk (Run.eqlT rfl rfl) ?_
   refine je (Run.pickF rfl rfl au) (ja rfl (jO ?_))
   refine jN ⟨(js4 (by rw [dor0 hs0]; rfl) rfl rfl rfl), rfl⟩
  intro Γ hΓ
  refine jN (VC.sub _ hΓ (jS (jS ?_)))
  refine VC.meet (σ := Unit) (fun s => [(1, .pointer (some ⟨g1, 0, none⟩)), (3, .bool (decide (qC ∈ (m.l.take i).map Nc.nm ∨ x.nm = qC))), (4, .int .i64 ((i : Nat) : Int)), (5, .pointer (some ⟨g5, 0, none⟩)), (60, .bool (decide (¬ ((dH x.nm ∧ (0 < i → pv < x.nm)) ∧ bE ⟨x.v, x.n, Ms x.l⟩ ∧ x.v ≤ m.v))))]) (fun s wz => Frm [] w3 wz) ?_ ?_
  ·
   refine VC.held (fun W => Frm [] w3 W) jK ?_
   have hS : Frm [] w3 w3.drew := (Frm.refl _ _).drew
   refine jH 0 rfl hS (fun w0 hw0 => Run.fieldAddr rfl zy rfl zm jd) ?_
   refine jH 1 rfl hS (fun w0 hw0 => Run.load rfl zx ((hb5.frm hw0 jp).cell 0)) ?_
   refine qQ.cl 2 rfl jK (jE1 Tryz.call77) (mS x.nm _ jo) trivial rfl rfl ?_
   rintro e wA ⟨rfl, hfwA⟩
   have hSwA := hS.trans hfwA jp
   refine ⟨_, rfl, hSwA, ?_⟩
   have hS := hSwA
   by_cases hs29 : dH x.nm
   ·
    refine jH 3 rfl hS (fun w0 hw0 => Run.not rfl) ?_
    refine jH 4 rfl hS (fun w0 hw0 => Run.mv rfl) ?_
    refine qQ.take 5 rfl jK jK jK hS (fun w0 hw0 => Run.mv rfl) (Up.g rfl (by first | rfl | exact decide_eq_true hs29 | (simp [hs29]; done))) rfl rfl ?_
    refine qQ.take 6 rfl jK jK jK hS (fun w0 hw0 => Run.bin rfl rfl (Bin.gtrN _ 0)) (Up.g rfl (by first | rfl | exact decide_eq_true hs29 | (simp [hs29]; done))) rfl rfl ?_
    by_cases hs33 : 0 < i
    ·
     obtain ⟨ad2, had2, hel2⟩ : ∃ ad, m.A = some ad ∧ ∀ W, Frm [] w3 W → W.cell? ((ad.add ((i - 1) * 4)).add 0) = some (encStr pv) := by
      obtain ⟨ad, hA, _⟩ := (hm.frm K).l.elem (jo : i - 1 < m.l.length)
      refine ⟨ad, hA, fun W hW => ?_⟩
      obtain ⟨ad', hA', h⟩ := (hm.frm (K.trans hW jp)).l.elem (jo : i - 1 < m.l.length)
      rw [hA] at hA'
      cases hA'
      exact h 0 _ (by rw [← hnp hs33]; rfl)
     refine qQ.take 7 rfl jK jK jK hS (fun w0 hw0 => Run.mv rfl) (Up.g rfl (by first | rfl | exact decide_eq_true hs29 | exact decide_eq_true hs33 | (simp [hs29]; done) | (simp [hs33]; done))) rfl rfl ?_
     refine qQ.take 8 rfl jK jK jK hS (fun w0 hw0 => Run.fieldAddr rfl zf rfl zaf jd) (Up.g rfl (by first | rfl | exact decide_eq_true hs29 | exact decide_eq_true hs33 | (simp [hs29]; done) | (simp [hs33]; done))) rfl rfl ?_
     refine qQ.take 9 rfl jK jK jK hS (fun w0 hw0 => Run.load rfl zap ((hb1.frm hw0 jp).cell 0)) (Up.g rfl (by first | rfl | exact decide_eq_true hs29 | exact decide_eq_true hs33 | (simp [hs29]; done) | (simp [hs33]; done))) rfl rfl ?_
     refine qQ.take 10 rfl jK jK jK hS (fun w0 hw0 => Run.mv rfl) (Up.g rfl (by first | rfl | exact decide_eq_true hs29 | exact decide_eq_true hs33 | (simp [hs29]; done) | (simp [hs33]; done))) rfl rfl ?_
     refine qQ.take 11 rfl jK jK jK hS (fun w0 hw0 => Run.bin rfl rfl (Bin.sub_i64 _ 1 jo jo)) (Up.g rfl (by first | rfl | exact decide_eq_true hs29 | exact decide_eq_true hs33 | (simp [hs29]; done) | (simp [hs33]; done))) rfl rfl ?_
     refine qQ.take 12 rfl jK jK jK hS (fun w0 hw0 => Run.indexS (i - 1) (show _ = some (Value.slice (some ad2) m.l.length m.c) by rw [← had2]; rfl) rfl zg zq jo) (Up.g rfl (by first | rfl | exact decide_eq_true hs29 | exact decide_eq_true hs33 | (simp [hs29]; done) | (simp [hs33]; done))) rfl rfl ?_
     refine qQ.take 13 rfl jK jK jK hS (fun w0 hw0 => Run.fieldAddr rfl zy rfl zm jd) (Up.g rfl (by first | rfl | exact decide_eq_true hs29 | exact decide_eq_true hs33 | (simp [hs29]; done) | (simp [hs33]; done))) rfl rfl ?_
     refine qQ.take 14 rfl jK jK jK hS (fun w0 hw0 => Run.load rfl zx (hel2 _ hw0)) (Up.g rfl (by first | rfl | exact decide_eq_true hs29 | exact decide_eq_true hs33 | (simp [hs29]; done) | (simp [hs33]; done))) rfl rfl ?_
     refine qQ.take 15 rfl jK jK jK hS (fun w0 hw0 => Run.fieldAddr rfl zy rfl zm jd) (Up.g rfl (by first | rfl | exact decide_eq_true hs29 | exact decide_eq_true hs33 | (simp [hs29]; done) | (simp [hs33]; done))) rfl rfl ?_
     refine qQ.take 16 rfl jK jK jK hS (fun w0 hw0 => Run.load rfl zx ((hb5.frm hw0 jp).cell 0)) (Up.g rfl (by first | rfl | exact decide_eq_true hs29 | exact decide_eq_true hs33 | (simp [hs29]; done) | (simp [hs33]; done))) rfl rfl ?_
     refine qQ.take 17 rfl jK jK jK hS (fun w0 hw0 => Run.geqT rfl rfl) (Up.g rfl (by first | rfl | exact decide_eq_true hs29 | exact decide_eq_true hs33 | (simp [hs29]; done) | (simp [hs33]; done))) rfl rfl ?_
     by_cases hs44 : pv < x.nm
     ·
      refine qQ.take 18 rfl jK jK jK hS (fun w0 hw0 => Run.pickT rfl rfl (by first | rfl | exact decide_eq_true hs29 | exact decide_eq_true hs33 | exact decide_eq_false hs44 | (simp [hs29]; done) | (simp [hs33]; done) | (simp [hs44]; done))) (Up.g rfl (by first | rfl | exact decide_eq_true hs29 | exact decide_eq_true hs33 | exact decide_eq_false hs44 | (simp [hs29]; done) | (simp [hs33]; done) | (simp [hs44]; done))) rfl rfl ?_
      refine jH 19 rfl hS (fun w0 hw0 => Run.pickF rfl rfl (by first | rfl | exact decide_eq_true hs29 | exact decide_eq_true hs33 | exact decide_eq_false hs44 | (simp [hs29]; done) | (simp [hs33]; done) | (simp [hs44]; done))) ?_
      refine jH 20 rfl hS (fun w0 hw0 => Run.mv rfl) ?_
      refine qQ.take 21 rfl jK jK jK hS (fun w0 hw0 => Run.fieldAddr rfl zy rfl zu jd) (Up.g rfl (by first | rfl | exact decide_eq_true hs29 | exact decide_eq_true hs33 | exact decide_eq_false hs44 | (simp [hs29]; done) | (simp [hs33]; done) | (simp [hs44]; done))) rfl rfl ?_
      refine qQ.take 22 rfl jK jK jK hS (fun w0 hw0 => Run.loadA rfl zaz zu ((hb5.frm hw0 jp).sub 1 (BVc x.v x.n x.A x.l.length x.c) rfl) (by first | rfl | (simp; done))) (Up.g rfl (by first | rfl | exact decide_eq_true hs29 | exact decide_eq_true hs33 | exact decide_eq_false hs44 | (simp [hs29]; done) | (simp [hs33]; done) | (simp [hs44]; done))) rfl rfl ?_
      refine qQ.cl 23 rfl jK (jE1 Tryz.call78) (rC x.v x.n x.A x.c x.l _ (hxa.rd.frm hS) jo) (Up.g rfl (by first | rfl | exact decide_eq_true hs29 | exact decide_eq_true hs33 | exact decide_eq_false hs44 | (simp [hs29]; done) | (simp [hs33]; done) | (simp [hs44]; done))) rfl rfl ?_
      rintro e wB ⟨rfl, hfwB⟩
      have hSwB := hS.trans hfwB jp
      refine ⟨_, rfl, hSwB, ?_⟩
      have hS := hSwB
      by_cases hs50 : bE ⟨x.v, x.n, Ms x.l⟩
      ·
       refine qQ.take 24 rfl jK jK jK hS (fun w0 hw0 => Run.not rfl) (Up.g rfl (by first | rfl | exact decide_eq_true hs29 | exact decide_eq_true hs33 | exact decide_eq_false hs44 | exact decide_eq_true hs50 | (simp [hs29]; done) | (simp [hs33]; done) | (simp [hs44]; done) | (simp [hs50]; done))) rfl rfl ?_
       refine jH 25 rfl hS (fun w0 hw0 => Run.pickF rfl rfl (by first | rfl | exact decide_eq_true hs29 | exact decide_eq_true hs33 | exact decide_eq_false hs44 | exact decide_eq_true hs50 | (simp [hs29]; done) | (simp [hs33]; done) | (simp [hs44]; done) | (simp [hs50]; done))) ?_
       refine jH 26 rfl hS (fun w0 hw0 => Run.mv rfl) ?_
       refine qQ.take 27 rfl jK jK jK hS (fun w0 hw0 => Run.fieldAddr rfl zy rfl zu jd) (Up.g rfl (by first | rfl | exact decide_eq_true hs29 | exact decide_eq_true hs33 | exact decide_eq_false hs44 | exact decide_eq_true hs50 | (simp [hs29]; done) | (simp [hs33]; done) | (simp [hs44]; done) | (simp [hs50]; done))) rfl rfl ?_
       refine qQ.take 28 rfl jK jK jK hS (fun w0 hw0 => Run.fieldAddr rfl zl rfl zn jd) (Up.g rfl (by first | rfl | exact decide_eq_true hs29 | exact decide_eq_true hs33 | exact decide_eq_false hs44 | exact decide_eq_true hs50 | (simp [hs29]; done) | (simp [hs33]; done) | (simp [hs44]; done) | (simp [hs50]; done))) rfl rfl ?_
       refine qQ.take 29 rfl jK jK jK hS (fun w0 hw0 => Run.load rfl zp ((hb5.frm hw0 jp).cell 1)) (Up.g rfl (by first | rfl | exact decide_eq_true hs29 | exact decide_eq_true hs33 | exact decide_eq_false hs44 | exact decide_eq_true hs50 | (simp [hs29]; done) | (simp [hs33]; done) | (simp [hs44]; done) | (simp [hs50]; done))) rfl rfl ?_
       refine qQ.take 30 rfl jK jK jK hS (fun w0 hw0 => Run.fieldAddr rfl zf rfl zn jd) (Up.g rfl (by first | rfl | exact decide_eq_true hs29 | exact decide_eq_true hs33 | exact decide_eq_false hs44 | exact decide_eq_true hs50 | (simp [hs29]; done) | (simp [hs33]; done) | (simp [hs44]; done) | (simp [hs50]; done))) rfl rfl ?_
       refine qQ.take 31 rfl jK jK jK hS (fun w0 hw0 => Run.load rfl zp ((hb1.frm hw0 jp).cell 2)) (Up.g rfl (by first | rfl | exact decide_eq_true hs29 | exact decide_eq_true hs33 | exact decide_eq_false hs44 | exact decide_eq_true hs50 | (simp [hs29]; done) | (simp [hs33]; done) | (simp [hs44]; done) | (simp [hs50]; done))) rfl rfl ?_
       refine qQ.take 32 rfl jK jK jK hS (fun w0 hw0 => Run.bin rfl rfl (Bin.gtr _ _)) (Up.g rfl (by first | rfl | exact decide_eq_true hs29 | exact decide_eq_true hs33 | exact decide_eq_false hs44 | exact decide_eq_true hs50 | (simp [hs29]; done) | (simp [hs33]; done) | (simp [hs44]; done) | (simp [hs50]; done))) rfl rfl ?_
       by_cases hs59 : m.v < x.v
       ·
        refine jH 33 rfl hS (fun w0 hw0 => Run.pickF rfl rfl (by first | rfl | exact decide_eq_true hs29 | exact decide_eq_true hs33 | exact decide_eq_false hs44 | exact decide_eq_true hs50 | exact decide_eq_true hs59 | (simp [hs29]; done) | (simp [hs33]; done) | (simp [hs44]; done) | (simp [hs50]; done) | (simp [hs59]; done))) ?_
        refine qQ.done jK ?_
        refine jN ⟨(), (js5 rfl rfl rfl rfl (jC (by clear hMi hd hel hm; grind))), ?_⟩
        exact hS
       refine jH 33 rfl hS (fun w0 hw0 => Run.pickF rfl rfl (by first | rfl | exact decide_eq_true hs29 | exact decide_eq_true hs33 | exact decide_eq_false hs44 | exact decide_eq_true hs50 | exact decide_eq_false hs59 | (simp [hs29]; done) | (simp [hs33]; done) | (simp [hs44]; done) | (simp [hs50]; done) | (simp [hs59]; done))) ?_
       refine qQ.done jK ?_
       refine jN ⟨(), (js5 rfl rfl rfl rfl (jC (by clear hMi hd hel hm; grind))), ?_⟩
       exact hS
      refine qQ.take 24 rfl jK jK jK hS (fun w0 hw0 => Run.not rfl) (Up.g rfl (by first | rfl | exact decide_eq_true hs29 | exact decide_eq_true hs33 | exact decide_eq_false hs44 | exact decide_eq_false hs50 | (simp [hs29]; done) | (simp [hs33]; done) | (simp [hs44]; done) | (simp [hs50]; done))) rfl rfl ?_
      refine jH 25 rfl hS (fun w0 hw0 => Run.pickF rfl rfl (by first | rfl | exact decide_eq_true hs29 | exact decide_eq_true hs33 | exact decide_eq_false hs44 | exact decide_eq_false hs50 | (simp [hs29]; done) | (simp [hs33]; done) | (simp [hs44]; done) | (simp [hs50]; done))) ?_
      refine jH 26 rfl hS (fun w0 hw0 => Run.mv rfl) ?_
      refine qQ.skip 27 rfl jK jK jK hS rfl rfl (by first | rfl | exact decide_eq_true hs29 | exact decide_eq_true hs33 | exact decide_eq_false hs44 | exact decide_eq_false hs50 | (simp [hs29]; done) | (simp [hs33]; done) | (simp [hs44]; done) | (simp [hs50]; done)) rfl rfl ?_
      refine qQ.skip 28 rfl jK jK jK hS rfl rfl (by first | rfl | exact decide_eq_true hs29 | exact decide_eq_true hs33 | exact decide_eq_false hs44 | exact decide_eq_false hs50 | (simp [hs29]; done) | (simp [hs33]; done) | (simp [hs44]; done) | (simp [hs50]; done)) rfl rfl ?_
      refine qQ.skip 29 rfl jK jK jK hS rfl rfl (by first | rfl | exact decide_eq_true hs29 | exact decide_eq_true hs33 | exact decide_eq_false hs44 | exact decide_eq_false hs50 | (simp [hs29]; done) | (simp [hs33]; done) | (simp [hs44]; done) | (simp [hs50]; done)) rfl rfl ?_
      refine qQ.skip 30 rfl jK jK jK hS rfl rfl (by first | rfl | exact decide_eq_true hs29 | exact decide_eq_true hs33 | exact decide_eq_false hs44 | exact decide_eq_false hs50 | (simp [hs29]; done) | (simp [hs33]; done) | (simp [hs44]; done) | (simp [hs50]; done)) rfl rfl ?_
      refine qQ.skip 31 rfl jK jK jK hS rfl rfl (by first | rfl | exact decide_eq_true hs29 | exact decide_eq_true hs33 | exact decide_eq_false hs44 | exact decide_eq_false hs50 | (simp [hs29]; done) | (simp [hs33]; done) | (simp [hs44]; done) | (simp [hs50]; done)) rfl rfl ?_
      refine qQ.skip 32 rfl jK jK jK hS rfl rfl (by first | rfl | exact decide_eq_true hs29 | exact decide_eq_true hs33 | exact decide_eq_false hs44 | exact decide_eq_false hs50 | (simp [hs29]; done) | (simp [hs33]; done) | (simp [hs44]; done) | (simp [hs50]; done)) rfl rfl ?_
      refine jH 33 rfl hS (fun w0 hw0 => Run.pickT rfl rfl (by first | rfl | exact decide_eq_true hs29 | exact decide_eq_true hs33 | exact decide_eq_false hs44 | exact decide_eq_false hs50 | (simp [hs29]; done) | (simp [hs33]; done) | (simp [hs44]; done) | (simp [hs50]; done))) ?_
      refine qQ.done jK ?_
      refine jN ⟨(), (js5 rfl rfl rfl rfl (jC (by clear hMi hd hel hm; grind))), ?_⟩
      exact hS
     refine qQ.take 18 rfl jK jK jK hS (fun w0 hw0 => Run.pickT rfl rfl (by first | rfl | exact decide_eq_true hs29 | exact decide_eq_true hs33 | exact decide_eq_true hs44 | (simp [hs29]; done) | (simp [hs33]; done) | (simp [hs44]; done))) (Up.g rfl (by first | rfl | exact decide_eq_true hs29 | exact decide_eq_true hs33 | exact decide_eq_true hs44 | (simp [hs29]; done) | (simp [hs33]; done) | (simp [hs44]; done))) rfl rfl ?_
     refine jH 19 rfl hS (fun w0 hw0 => Run.pickF rfl rfl (by first | rfl | exact decide_eq_true hs29 | exact decide_eq_true hs33 | exact decide_eq_true hs44 | (simp [hs29]; done) | (simp [hs33]; done) | (simp [hs44]; done))) ?_
     refine jH 20 rfl hS (fun w0 hw0 => Run.mv rfl) ?_
     refine qQ.skip 21 rfl jK jK jK hS rfl rfl (by first | rfl | exact decide_eq_true hs29 | exact decide_eq_true hs33 | exact decide_eq_true hs44 | (simp [hs29]; done) | (simp [hs33]; done) | (simp [hs44]; done)) rfl rfl ?_
     refine qQ.skip 22 rfl jK jK jK hS rfl rfl (by first | rfl | exact decide_eq_true hs29 | exact decide_eq_true hs33 | exact decide_eq_true hs44 | (simp [hs29]; done) | (simp [hs33]; done) | (simp [hs44]; done)) rfl rfl ?_
     refine qQ.skip 23 rfl jK jK jK hS rfl rfl (by first | rfl | exact decide_eq_true hs29 | exact decide_eq_true hs33 | exact decide_eq_true hs44 | (simp [hs29]; done) | (simp [hs33]; done) | (simp [hs44]; done)) rfl rfl ?_
     refine qQ.skip 24 rfl jK jK jK hS rfl rfl (by first | rfl | exact decide_eq_true hs29 | exact decide_eq_true hs33 | exact decide_eq_true hs44 | (simp [hs29]; done) | (simp [hs33]; done) | (simp [hs44]; done)) rfl rfl ?_
     refine jH 25 rfl hS (fun w0 hw0 => Run.pickT rfl rfl (by first | rfl | exact decide_eq_true hs29 | exact decide_eq_true hs33 | exact decide_eq_true hs44 | (simp [hs29]; done) | (simp [hs33]; done) | (simp [hs44]; done))) ?_
     refine jH 26 rfl hS (fun w0 hw0 => Run.mv rfl) ?_
     refine qQ.skip 27 rfl jK jK jK hS rfl rfl (by first | rfl | exact decide_eq_true hs29 | exact decide_eq_true hs33 | exact decide_eq_true hs44 | (simp [hs29]; done) | (simp [hs33]; done) | (simp [hs44]; done)) rfl rfl ?_
     refine qQ.skip 28 rfl jK jK jK hS rfl rfl (by first | rfl | exact decide_eq_true hs29 | exact decide_eq_true hs33 | exact decide_eq_true hs44 | (simp [hs29]; done) | (simp [hs33]; done) | (simp [hs44]; done)) rfl rfl ?_
     refine qQ.skip 29 rfl jK jK jK hS rfl rfl (by first | rfl | exact decide_eq_true hs29 | exact decide_eq_true hs33 | exact decide_eq_true hs44 | (simp [hs29]; done) | (simp [hs33]; done) | (simp [hs44]; done)) rfl rfl ?_
     refine qQ.skip 30 rfl jK jK jK hS rfl rfl (by first | rfl | exact decide_eq_true hs29 | exact decide_eq_true hs33 | exact decide_eq_true hs44 | (simp [hs29]; done) | (simp [hs33]; done) | (simp [hs44]; done)) rfl rfl ?_
     refine qQ.skip 31 rfl jK jK jK hS rfl rfl (by first | rfl | exact decide_eq_true hs29 | exact decide_eq_true hs33 | exact decide_eq_true hs44 | (simp [hs29]; done) | (simp [hs33]; done) | (simp [hs44]; done)) rfl rfl ?_
     refine qQ.skip 32 rfl jK jK jK hS rfl rfl (by first | rfl | exact decide_eq_true hs29 | exact decide_eq_true hs33 | exact decide_eq_true hs44 | (simp [hs29]; done) | (simp [hs33]; done) | (simp [hs44]; done)) rfl rfl ?_
     refine jH 33 rfl hS (fun w0 hw0 => Run.pickT rfl rfl (by first | rfl | exact decide_eq_true hs29 | exact decide_eq_true hs33 | exact decide_eq_true hs44 | (simp [hs29]; done) | (simp [hs33]; done) | (simp [hs44]; done))) ?_
     refine qQ.done jK ?_
     refine jN ⟨(), (js5 rfl rfl rfl rfl (jC (by clear hMi hd hel hm; grind))), ?_⟩
     exact hS
    refine qQ.take 7 rfl jK jK jK hS (fun w0 hw0 => Run.mv rfl) (Up.g rfl (by first | rfl | exact decide_eq_true hs29 | exact decide_eq_false hs33 | (simp [hs29]; done) | (simp [hs33]; done))) rfl rfl ?_
    refine qQ.skip 8 rfl jK jK jK hS rfl rfl (by first | rfl | exact decide_eq_true hs29 | exact decide_eq_false hs33 | (simp [hs29]; done) | (simp [hs33]; done)) rfl rfl ?_
    refine qQ.skip 9 rfl jK jK jK hS rfl rfl (by first | rfl | exact decide_eq_true hs29 | exact decide_eq_false hs33 | (simp [hs29]; done) | (simp [hs33]; done)) rfl rfl ?_
    refine qQ.skip 10 rfl jK jK jK hS rfl rfl (by first | rfl | exact decide_eq_true hs29 | exact decide_eq_false hs33 | (simp [hs29]; done) | (simp [hs33]; done)) rfl rfl ?_
    refine qQ.skip 11 rfl jK jK jK hS rfl rfl (by first | rfl | exact decide_eq_true hs29 | exact decide_eq_false hs33 | (simp [hs29]; done) | (simp [hs33]; done)) rfl rfl ?_
    refine qQ.skip 12 rfl jK jK jK hS rfl rfl (by first | rfl | exact decide_eq_true hs29 | exact decide_eq_false hs33 | (simp [hs29]; done) | (simp [hs33]; done)) rfl rfl ?_
    refine qQ.skip 13 rfl jK jK jK hS rfl rfl (by first | rfl | exact decide_eq_true hs29 | exact decide_eq_false hs33 | (simp [hs29]; done) | (simp [hs33]; done)) rfl rfl ?_
    refine qQ.skip 14 rfl jK jK jK hS rfl rfl (by first | rfl | exact decide_eq_true hs29 | exact decide_eq_false hs33 | (simp [hs29]; done) | (simp [hs33]; done)) rfl rfl ?_
    refine qQ.skip 15 rfl jK jK jK hS rfl rfl (by first | rfl | exact decide_eq_true hs29 | exact decide_eq_false hs33 | (simp [hs29]; done) | (simp [hs33]; done)) rfl rfl ?_
    refine qQ.skip 16 rfl jK jK jK hS rfl rfl (by first | rfl | exact decide_eq_true hs29 | exact decide_eq_false hs33 | (simp [hs29]; done) | (simp [hs33]; done)) rfl rfl ?_
    refine qQ.skip 17 rfl jK jK jK hS rfl rfl (by first | rfl | exact decide_eq_true hs29 | exact decide_eq_false hs33 | (simp [hs29]; done) | (simp [hs33]; done)) rfl rfl ?_
    refine qQ.take 18 rfl jK jK jK hS (fun w0 hw0 => Run.pickF rfl rfl (by first | rfl | exact decide_eq_true hs29 | exact decide_eq_false hs33 | (simp [hs29]; done) | (simp [hs33]; done))) (Up.g rfl (by first | rfl | exact decide_eq_true hs29 | exact decide_eq_false hs33 | (simp [hs29]; done) | (simp [hs33]; done))) rfl rfl ?_
    refine jH 19 rfl hS (fun w0 hw0 => Run.pickF rfl rfl (by first | rfl | exact decide_eq_true hs29 | exact decide_eq_false hs33 | (simp [hs29]; done) | (simp [hs33]; done))) ?_
    refine jH 20 rfl hS (fun w0 hw0 => Run.mv rfl) ?_
    refine qQ.take 21 rfl jK jK jK hS (fun w0 hw0 => Run.fieldAddr rfl zy rfl zu jd) (Up.g rfl (by first | rfl | exact decide_eq_true hs29 | exact decide_eq_false hs33 | (simp [hs29]; done) | (simp [hs33]; done))) rfl rfl ?_
    refine qQ.take 22 rfl jK jK jK hS (fun w0 hw0 => Run.loadA rfl zaz zu ((hb5.frm hw0 jp).sub 1 (BVc x.v x.n x.A x.l.length x.c) rfl) (by first | rfl | (simp; done))) (Up.g rfl (by first | rfl | exact decide_eq_true hs29 | exact decide_eq_false hs33 | (simp [hs29]; done) | (simp [hs33]; done))) rfl rfl ?_
    refine qQ.cl 23 rfl jK (jE1 Tryz.call78) (rC x.v x.n x.A x.c x.l _ (hxa.rd.frm hS) jo) (Up.g rfl (by first | rfl | exact decide_eq_true hs29 | exact decide_eq_false hs33 | (simp [hs29]; done) | (simp [hs33]; done))) rfl rfl ?_
    rintro e wB ⟨rfl, hfwB⟩
    have hSwB := hS.trans hfwB jp
    refine ⟨_, rfl, hSwB, ?_⟩
    have hS := hSwB
    by_cases hs50 : bE ⟨x.v, x.n, Ms x.l⟩
    ·
     refine qQ.take 24 rfl jK jK jK hS (fun w0 hw0 => Run.not rfl) (Up.g rfl (by first | rfl | exact decide_eq_true hs29 | exact decide_eq_false hs33 | exact decide_eq_true hs50 | (simp [hs29]; done) | (simp [hs33]; done) | (simp [hs50]; done))) rfl rfl ?_
     refine jH 25 rfl hS (fun w0 hw0 => Run.pickF rfl rfl (by first | rfl | exact decide_eq_true hs29 | exact decide_eq_false hs33 | exact decide_eq_true hs50 | (simp [hs29]; done) | (simp [hs33]; done) | (simp [hs50]; done))) ?_
     refine jH 26 rfl hS (fun w0 hw0 => Run.mv rfl) ?_
     refine qQ.take 27 rfl jK jK jK hS (fun w0 hw0 => Run.fieldAddr rfl zy rfl zu jd) (Up.g rfl (by first | rfl | exact decide_eq_true hs29 | exact decide_eq_false hs33 | exact decide_eq_true hs50 | (simp [hs29]; done) | (simp [hs33]; done) | (simp [hs50]; done))) rfl rfl ?_
     refine qQ.take 28 rfl jK jK jK hS (fun w0 hw0 => Run.fieldAddr rfl zl rfl zn jd) (Up.g rfl (by first | rfl | exact decide_eq_true hs29 | exact decide_eq_false hs33 | exact decide_eq_true hs50 | (simp [hs29]; done) | (simp [hs33]; done) | (simp [hs50]; done))) rfl rfl ?_
     refine qQ.take 29 rfl jK jK jK hS (fun w0 hw0 => Run.load rfl zp ((hb5.frm hw0 jp).cell 1)) (Up.g rfl (by first | rfl | exact decide_eq_true hs29 | exact decide_eq_false hs33 | exact decide_eq_true hs50 | (simp [hs29]; done) | (simp [hs33]; done) | (simp [hs50]; done))) rfl rfl ?_
     refine qQ.take 30 rfl jK jK jK hS (fun w0 hw0 => Run.fieldAddr rfl zf rfl zn jd) (Up.g rfl (by first | rfl | exact decide_eq_true hs29 | exact decide_eq_false hs33 | exact decide_eq_true hs50 | (simp [hs29]; done) | (simp [hs33]; done) | (simp [hs50]; done))) rfl rfl ?_
     refine qQ.take 31 rfl jK jK jK hS (fun w0 hw0 => Run.load rfl zp ((hb1.frm hw0 jp).cell 2)) (Up.g rfl (by first | rfl | exact decide_eq_true hs29 | exact decide_eq_false hs33 | exact decide_eq_true hs50 | (simp [hs29]; done) | (simp [hs33]; done) | (simp [hs50]; done))) rfl rfl ?_
     refine qQ.take 32 rfl jK jK jK hS (fun w0 hw0 => Run.bin rfl rfl (Bin.gtr _ _)) (Up.g rfl (by first | rfl | exact decide_eq_true hs29 | exact decide_eq_false hs33 | exact decide_eq_true hs50 | (simp [hs29]; done) | (simp [hs33]; done) | (simp [hs50]; done))) rfl rfl ?_
     by_cases hs59 : m.v < x.v
     ·
      refine jH 33 rfl hS (fun w0 hw0 => Run.pickF rfl rfl (by first | rfl | exact decide_eq_true hs29 | exact decide_eq_false hs33 | exact decide_eq_true hs50 | exact decide_eq_true hs59 | (simp [hs29]; done) | (simp [hs33]; done) | (simp [hs50]; done) | (simp [hs59]; done))) ?_
      refine qQ.done jK ?_
      refine jN ⟨(), (js5 rfl rfl rfl rfl (jC (by clear hMi hd hel hm; grind))), ?_⟩
      exact hS
     refine jH 33 rfl hS (fun w0 hw0 => Run.pickF rfl rfl (by first | rfl | exact decide_eq_true hs29 | exact decide_eq_false hs33 | exact decide_eq_true hs50 | exact decide_eq_false hs59 | (simp [hs29]; done) | (simp [hs33]; done) | (simp [hs50]; done) | (simp [hs59]; done))) ?_
     refine qQ.done jK ?_
     refine jN ⟨(), (js5 rfl rfl rfl rfl (jC (by clear hMi hd hel hm; grind))), ?_⟩
     exact hS
    refine qQ.take 24 rfl jK jK jK hS (fun w0 hw0 => Run.not rfl) (Up.g rfl (by first | rfl | exact decide_eq_true hs29 | exact decide_eq_false hs33 | exact decide_eq_false hs50 | (simp [hs29]; done) | (simp [hs33]; done) | (simp [hs50]; done))) rfl rfl ?_
    refine jH 25 rfl hS (fun w0 hw0 => Run.pickF rfl rfl (by first | rfl | exact decide_eq_true hs29 | exact decide_eq_false hs33 | exact decide_eq_false hs50 | (simp [hs29]; done) | (simp [hs33]; done) | (simp [hs50]; done))) ?_
    refine jH 26 rfl hS (fun w0 hw0 => Run.mv rfl) ?_
    refine qQ.skip 27 rfl jK jK jK hS rfl rfl (by first | rfl | exact decide_eq_true hs29 | exact decide_eq_false hs33 | exact decide_eq_false hs50 | (simp [hs29]; done) | (simp [hs33]; done) | (simp [hs50]; done)) rfl rfl ?_
    refine qQ.skip 28 rfl jK jK jK hS rfl rfl (by first | rfl | exact decide_eq_true hs29 | exact decide_eq_false hs33 | exact decide_eq_false hs50 | (simp [hs29]; done) | (simp [hs33]; done) | (simp [hs50]; done)) rfl rfl ?_
    refine qQ.skip 29 rfl jK jK jK hS rfl rfl (by first | rfl | exact decide_eq_true hs29 | exact decide_eq_false hs33 | exact decide_eq_false hs50 | (simp [hs29]; done) | (simp [hs33]; done) | (simp [hs50]; done)) rfl rfl ?_
    refine qQ.skip 30 rfl jK jK jK hS rfl rfl (by first | rfl | exact decide_eq_true hs29 | exact decide_eq_false hs33 | exact decide_eq_false hs50 | (simp [hs29]; done) | (simp [hs33]; done) | (simp [hs50]; done)) rfl rfl ?_
    refine qQ.skip 31 rfl jK jK jK hS rfl rfl (by first | rfl | exact decide_eq_true hs29 | exact decide_eq_false hs33 | exact decide_eq_false hs50 | (simp [hs29]; done) | (simp [hs33]; done) | (simp [hs50]; done)) rfl rfl ?_
    refine qQ.skip 32 rfl jK jK jK hS rfl rfl (by first | rfl | exact decide_eq_true hs29 | exact decide_eq_false hs33 | exact decide_eq_false hs50 | (simp [hs29]; done) | (simp [hs33]; done) | (simp [hs50]; done)) rfl rfl ?_
    refine jH 33 rfl hS (fun w0 hw0 => Run.pickT rfl rfl (by first | rfl | exact decide_eq_true hs29 | exact decide_eq_false hs33 | exact decide_eq_false hs50 | (simp [hs29]; done) | (simp [hs33]; done) | (simp [hs50]; done))) ?_
    refine qQ.done jK ?_
    refine jN ⟨(), (js5 rfl rfl rfl rfl (jC (by clear hMi hd hel hm; grind))), ?_⟩
    exact hS
   refine jH 3 rfl hS (fun w0 hw0 => Run.not rfl) ?_
   refine jH 4 rfl hS (fun w0 hw0 => Run.mv rfl) ?_
   refine qQ.skip 5 rfl jK jK jK hS rfl rfl (by first | rfl | exact decide_eq_false hs29 | (simp [hs29]; done)) rfl rfl ?_
   refine qQ.skip 6 rfl jK jK jK hS rfl rfl (by first | rfl | exact decide_eq_false hs29 | (simp [hs29]; done)) rfl rfl ?_
   refine qQ.skip 7 rfl jK jK jK hS rfl rfl (by first | rfl | exact decide_eq_false hs29 | (simp [hs29]; done)) rfl rfl ?_
   refine qQ.skU 8 rfl jK jK jK hS rfl rfl rfl rfl ?_
   refine qQ.skU 9 rfl jK jK jK hS rfl rfl rfl rfl ?_
   refine qQ.skU 10 rfl jK jK jK hS rfl rfl rfl rfl ?_
   refine qQ.skU 11 rfl jK jK jK hS rfl rfl rfl rfl ?_
   refine qQ.skU 12 rfl jK jK jK hS rfl rfl rfl rfl ?_
   refine qQ.skU 13 rfl jK jK jK hS rfl rfl rfl rfl ?_
   refine qQ.skU 14 rfl jK jK jK hS rfl rfl rfl rfl ?_
   refine qQ.skU 15 rfl jK jK jK hS rfl rfl rfl rfl ?_
   refine qQ.skU 16 rfl jK jK jK hS rfl rfl rfl rfl ?_
   refine qQ.skU 17 rfl jK jK jK hS rfl rfl rfl rfl ?_
   refine qQ.skip 18 rfl jK jK jK hS rfl rfl (by first | rfl | exact decide_eq_false hs29 | (simp [hs29]; done)) rfl rfl ?_
   refine jH 19 rfl hS (fun w0 hw0 => Run.pickT rfl rfl (by first | rfl | exact decide_eq_false hs29 | (simp [hs29]; done))) ?_
   refine jH 20 rfl hS (fun w0 hw0 => Run.mv rfl) ?_
   refine qQ.skip 21 rfl jK jK jK hS rfl rfl (by first | rfl | exact decide_eq_false hs29 | (simp [hs29]; done)) rfl rfl ?_
   refine qQ.skip 22 rfl jK jK jK hS rfl rfl (by first | rfl | exact decide_eq_false hs29 | (simp [hs29]; done)) rfl rfl ?_
   refine qQ.skip 23 rfl jK jK jK hS rfl rfl (by first | rfl | exact decide_eq_false hs29 | (simp [hs29]; done)) rfl rfl ?_
   refine qQ.skip 24 rfl jK jK jK hS rfl rfl (by first | rfl | exact decide_eq_false hs29 | (simp [hs29]; done)) rfl rfl ?_
   refine jH 25 rfl hS (fun w0 hw0 => Run.pickT rfl rfl (by first | rfl | exact decide_eq_false hs29 | (simp [hs29]; done))) ?_
   refine jH 26 rfl hS (fun w0 hw0 => Run.mv rfl) ?_
   refine qQ.skip 27 rfl jK jK jK hS rfl rfl (by first | rfl | exact decide_eq_false hs29 | (simp [hs29]; done)) rfl rfl ?_
   refine qQ.skip 28 rfl jK jK jK hS rfl rfl (by first | rfl | exact decide_eq_false hs29 | (simp [hs29]; done)) rfl rfl ?_
   refine qQ.skip 29 rfl jK jK jK hS rfl rfl (by first | rfl | exact decide_eq_false hs29 | (simp [hs29]; done)) rfl rfl ?_
   refine qQ.skip 30 rfl jK jK jK hS rfl rfl (by first | rfl | exact decide_eq_false hs29 | (simp [hs29]; done)) rfl rfl ?_
   refine qQ.skip 31 rfl jK jK jK hS rfl rfl (by first | rfl | exact decide_eq_false hs29 | (simp [hs29]; done)) rfl rfl ?_
   refine qQ.skip 32 rfl jK jK jK hS rfl rfl (by first | rfl | exact decide_eq_false hs29 | (simp [hs29]; done)) rfl rfl ?_
   refine jH 33 rfl hS (fun w0 hw0 => Run.pickT rfl rfl (by first | rfl | exact decide_eq_false hs29 | (simp [hs29]; done))) ?_
   refine qQ.done jK ?_
   refine jN ⟨(), (js5 rfl rfl rfl rfl (jC (by clear hMi hd hel hm; grind))), ?_⟩
   exact hS
  rintro _ wz hfz Γ hΓ
  have hb1 := hb1.frm hfz jp
  have hb5 := hb5.frm hfz jp
  have hxa := hxa.frm hfz
  have K := K.trans hfz jp
  refine jN (VC.sub _ hΓ ?_)
  refine jD rfl (fun hc2 => ?_) fun hc2 => ?_
  ·
   have hbad : ¬ bV m.p := fun h => by
    have h2 := ((hMi.1 h).1.1 i hc1).1
    rw [hx] at h2
    exact hc2 (hnm.1 h2)
   refine jS (jR (ja rfl (jO (jN (jv1 2 ?_)))))
   refine jT ?_
   refine qZ (qH (qZ (qZ (qH (qZ (qR rfl ?_))))))
   exact ⟨by rw [decide_eq_false hbad], K⟩
  have hc2 := hnm.2 (Classical.not_not.1 hc2)
  refine jQ (jN (jv4 1 3 4 5 ?_))
  refine jS (jS (jR (jz 0 (jO (jN (jB ?_))))))
  refine VC.loop (σ := Nat) (fun s => [(1, .pointer (some ⟨g1, 0, none⟩)), (3, .bool (decide (qC ∈ (m.l.take i).map Nc.nm ∨ x.nm = qC))), (4, .int .i64 ((i : Nat) : Int)), (5, .pointer (some ⟨g5, 0, none⟩)), (6, .int .i64 ((s : Nat) : Int))]) (fun s wr => s ≤ i ∧ (∀ j (h : j < m.l.length), j < s → (m.l[j]).v ≠ x.v) ∧ Blk wr g1 25 #[.slice m.A m.l.length m.c, .slice m.S m.ss.length m.d, .int .i64 m.v, .int .i64 m.b] ∧ Blk wr g5 45 #[encStr x.nm, .int .i64 x.v, .int .i64 x.n, .slice x.A x.l.length x.c] ∧ x.At wr ∧ Frm [] w wr) (fun s => i - s) 0 (js5 rfl rfl rfl rfl rfl) ⟨zae _, fun _ _ h => jo, hb1, hb5, hxa, K⟩ ?_
  rintro k wr ⟨hk, hd2, hb1, hb5, hxa, K⟩
  refine jS (jS (jR (jm rfl (jm rfl (jb rfl rfl (Bin.lssN _ _) (jO (jN (jv6 1 3 4 5 6 63 ?_))))))))
  refine jD rfl (fun hc3 => ?_) fun hc3 => ?_
  ·
   have hk1 : k < m.l.length := jo
   obtain ⟨adk, hadk, helk⟩ := (hm.frm K.drew).l.elem hk1
   have hdw := qK.drew wr
   have hb1 := hb1.drawn hdw
   have hb5 := hb5.drawn hdw
   have hxa := hxa.frm hdw.frm
   have K := K.drawn hdw
   have hvk : (m.l[k]).v ∈ (m.l.take i).map Nc.v := List.mem_map.2 ⟨m.l[k], List.mem_iff_getElem.2 ⟨k, by rw [zt]; omega, zdk⟩, rfl⟩
   refine jQ (jN (jv5 1 3 4 5 6 ?_))
   refine jS (jB (jS ?_))
   refine VC.still jK jK ?_
   refine qE (Run.fieldAddr rfl zf rfl zaf jd) ?_
   refine qE (Run.load rfl zap (hb1.cell 0)) ?_
   refine qM ?_
   refine qE (Run.indexS k (show _ = some (Value.slice (some adk) m.l.length m.c) by rw [← hadk]; rfl) rfl zg zq hk1) ?_
   refine qE (Run.fieldAddr rfl zy rfl zu jd) ?_
   refine qE (Run.fieldAddr rfl zl rfl zn jd) ?_
   refine qE (Run.load rfl zp (helk 1 (.int .i64 (m.l[k]).v) rfl)) ?_
   refine qE (Run.fieldAddr rfl zy rfl zu jd) ?_
   refine qE (Run.fieldAddr rfl zl rfl zn jd) ?_
   refine qE (Run.load rfl zp (hb5.cell 1)) ?_
   refine qE (Run.bin rfl rfl (Bin.eql _ _)) ?_
   refine bZ.nil ?_
   refine jN (jv6 1 3 4 5 6 76 ?_)
   refine jD rfl (fun hc4 => ?_) fun hc4 => ?_
   ·
    have hbad : ¬ bV m.p := fun h => by
     have h2 := ((hMi.1 h).1.1 i hc1).2.1
     rw [hx, ← hc4] at h2
     exact h2 hvk
    refine jS (jR (ja rfl (jO (jN (jv1 2 ?_)))))
    refine jT ?_
    refine qH (qZ (qZ (qH (qZ (qH (qZ (qZ (qH (qZ (qR rfl ?_))))))))))
    exact ⟨by rw [decide_eq_false hbad], K⟩
   refine jQ ?_
   refine qW (jN ?_)
   refine jv5 1 3 4 5 6 ?_
   refine jR (jm rfl (jb rfl rfl (Bin.add_i64 _ 1 jo) (ja rfl (jO ?_))))
   refine jN ⟨(k + 1), (js5 rfl rfl rfl rfl rfl), ?_, ?_⟩
   ·
    refine ⟨hc3, fun j h1 hj => ?_, hb1, hb5, hxa, K⟩
    by_cases e : j = k
    ·
     subst e
     exact hc4
    exact hd2 j h1 jo
   first | omega | (dsimp only; omega)
  refine jX ?_
  refine qJ (qJ (qN ?_))
  refine jN (jv4 1 3 4 5 ?_)
  refine jS (jR (jz 0 (jO (jN (jB ?_)))))
  have hvn : x.v ∉ (m.l.take i).map Nc.v := fun h => by
   obtain ⟨y, hy, e⟩ := List.mem_map.1 h
   obtain ⟨j, hj, rfl⟩ := zag hy
   rw [zt] at hj
   rw [zdk] at e
   exact hd2 j jo jo e
  refine VC.loop (σ := Nat) (fun s => [(1, .pointer (some ⟨g1, 0, none⟩)), (3, .bool (decide (qC ∈ (m.l.take i).map Nc.nm ∨ x.nm = qC))), (4, .int .i64 ((i : Nat) : Int)), (5, .pointer (some ⟨g5, 0, none⟩)), (7, .int .i64 ((s : Nat) : Int))]) (fun s wr => s ≤ x.l.length ∧ (∀ j (h : j < x.l.length), j < s → ((x.l[j]).m.blob : Int) ≤ m.b) ∧ Blk wr g1 25 #[.slice m.A m.l.length m.c, .slice m.S m.ss.length m.d, .int .i64 m.v, .int .i64 m.b] ∧ Blk wr g5 45 #[encStr x.nm, .int .i64 x.v, .int .i64 x.n, .slice x.A x.l.length x.c] ∧ x.At wr ∧ Frm [] w wr) (fun s => x.l.length - s) 0 (js5 rfl rfl rfl rfl rfl) ⟨zae _, fun _ _ h => jo, hb1, hb5, hxa, K⟩ ?_
  rintro k3 wr ⟨hk3, hd3, hb1, hb5, hxa, K⟩
  refine jS (jS (jR (jm rfl (jf rfl zy rfl zu (jf rfl zl rfl zak (jl rfl zas (hb5.cell 3) (je (Run.lenS rfl zab) (jb rfl rfl (Bin.lssN _ _) (jO (jN (jv6 1 3 4 5 7 82 ?_)))))))))))
  refine jD rfl (fun hc5 => ?_) fun hc5 => ?_
  ·
   have hdw := qK.drew wr
   have hb1 := hb1.drawn hdw
   have hb5 := hb5.drawn hdw
   have hxa := hxa.frm hdw.frm
   have K := K.drawn hdw
   obtain ⟨ady, hady, hely⟩ := hxa.rd.elem hc5
   have hym := zaa hc5
   generalize hy : x.l[k3] = y at *
   refine jQ (jN (jv5 1 3 4 5 7 ?_))
   refine jS (jB (jS ?_))
   refine VC.splitR [(1, .pointer (some ⟨g1, 0, none⟩)), (3, .bool (decide (qC ∈ (m.l.take i).map Nc.nm ∨ x.nm = qC))), (4, .int .i64 ((i : Nat) : Int)), (5, .pointer (some ⟨g5, 0, none⟩)), (7, .int .i64 ((k3 : Nat) : Int))] (fun wz => Frm [] w wz ∧ Blk wz g1 25 #[.slice m.A m.l.length m.c, .slice m.S m.ss.length m.d, .int .i64 m.v, .int .i64 m.b] ∧ Blk wz g5 45 #[encStr x.nm, .int .i64 x.v, .int .i64 x.n, .slice x.A x.l.length x.c] ∧ x.At wz) 100 (.bool (decide (m.b < 0 ∨ m.b < ((y.m.blob : Nat) : Int)))) ?_ ?_
   ·
    refine VC.still jK jK ?_
    refine qE (Run.fieldAddr rfl zf rfl zn jd) ?_
    refine qE (Run.load rfl zp (hb1.cell 3)) ?_
    refine qE (Run.bin rfl rfl (Bin.lss _ 0)) ?_
    by_cases hs87 : m.b < 0
    ·
     refine qM ?_
     refine qU ?_
     refine qU ?_
     refine qU ?_
     refine qU ?_
     refine qU ?_
     refine qU ?_
     refine qU ?_
     refine qU ?_
     refine qU ?_
     refine qU ?_
     refine qU ?_
     refine qE (Run.pickT rfl rfl au) ?_
     refine bZ.nil ?_
     refine jN ⟨(js6 (jC (by first | exact (decide_eq_true (p := m.b < 0 ∨ m.b < ((y.m.blob : Nat) : Int)) (.inl hs87)).symm | exact decide_eq_decide.2 ⟨.inr, fun h => h.resolve_left hs87⟩)) rfl rfl rfl rfl rfl), (⟨K, hb1, hb5, hxa⟩)⟩
    obtain ⟨nb, hnb⟩ : ∃ nb : Nat, m.b = (nb : Int) := ⟨m.b.toNat, jo⟩
    refine qM ?_
    refine qG (Run.fieldAddr rfl zy rfl zu jd) ?_
    refine qG (Run.fieldAddr rfl zl rfl zak jd) ?_
    refine qG (Run.load rfl zas (hb5.cell 3)) ?_
    refine qG (Run.mv rfl) ?_
    refine qG (Run.indexS k3 (show _ = some (Value.slice (some ady) x.l.length x.c) by rw [← hady]; rfl) rfl zab zam hc5) ?_
    refine qG (Run.fieldAddr rfl zad rfl zd jd) ?_
    refine qG (Run.load rfl zk (hely 4 (.int .u64 ((y.m.blob : Nat) : Int)) rfl)) ?_
    refine qG (Run.fieldAddr rfl zf rfl zn jd) ?_
    refine qG (Run.load rfl zp (hb1.cell 3)) ?_
    refine qG (Run.conv rfl zac zay m.b (by rw [hnb]; exact dN _ _ (by simp only [bmax]; omega))) ?_
    refine qG (Run.bin rfl rfl (Bin.gtr _ _)) ?_
    refine qE (Run.pickF rfl rfl au) ?_
    refine bZ.nil ?_
    refine jN ⟨(js6 (jC (by first | exact (decide_eq_true (p := m.b < 0 ∨ m.b < ((y.m.blob : Nat) : Int)) (.inl hs87)).symm | exact decide_eq_decide.2 ⟨.inr, fun h => h.resolve_left hs87⟩)) rfl rfl rfl rfl rfl), (⟨K, hb1, hb5, hxa⟩)⟩
   intro Γ wz hΓ ⟨K, hb1, hb5, hxa⟩
   refine jN (VC.sub _ hΓ ?_)
   refine jD rfl (fun hc6 => ?_) fun hc6 => ?_
   ·
    have hbad : ¬ bV m.p := fun h => by
     have h2 := ((hMi.1 h).1.1 i hc1).2.2
     rw [hx] at h2
     have h3 := h2 _ hym
     omega
    refine jS (jR (ja rfl (jO (jN (jv1 2 ?_)))))
    refine jT ?_
    refine qH (qZ (qZ (qH (qH (qZ (qZ (qH (qZ (qR rfl ?_)))))))))
    exact ⟨by rw [decide_eq_false hbad], K⟩
   refine jQ ?_
   refine qW (jN ?_)
   refine jv5 1 3 4 5 7 ?_
   refine jR (jm rfl (jb rfl rfl (Bin.add_i64 _ 1 jo) (ja rfl (jO ?_))))
   refine jN ⟨(k3 + 1), (js5 rfl rfl rfl rfl rfl), ?_, ?_⟩
   ·
    refine ⟨hc5, fun j h1 hj => ?_, hb1, hb5, hxa, K⟩
    by_cases e : j = k3
    ·
     subst e
     rw [hy]; omega
    exact hd3 j h1 jo
   first | omega | (dsimp only; omega)
  refine jX ?_
  refine qJ (qJ (qN ?_))
  refine qW (jN ?_)
  refine jv3 1 3 4 ?_
  refine jR (jm rfl (jb rfl rfl (Bin.add_i64 _ 1 jo) (ja rfl (jO ?_))))
  refine jN ⟨(i + 1), (js3 rfl (by rw [hts, show decide (qC ∈ (m.l.take i).map Nc.nm ++ [x.nm]) = decide (qC ∈ (m.l.take i).map Nc.nm ∨ x.nm = qC) from decide_eq_decide.2 (by rw [zds, za, eq_comm (a := x.nm)])]; rfl) rfl), ?_, ?_⟩
  ·
   refine ⟨hc1, hb1, fun j h1 hj => ?_, K⟩
   by_cases e : j = i
   ·
    subst e
    rw [hx]
    refine ⟨hc2, hvn, fun y hy => ?_⟩
    obtain ⟨q, hq, rfl⟩ := zag hy
    exact hd3 q hq jo
   exact hd j h1 jo
  first | omega | (dsimp only; omega)
 refine jX ?_
 refine qJ (qJ (qN ?_))
 refine jN (jv2 1 3 ?_)
 refine jS (jS (jR (jz 0 (jO (jN (jB ?_))))))
 obtain rfl : i = m.l.length := jo
 refine VC.loop (σ := Nat) (fun s => [(1, .pointer (some ⟨g1, 0, none⟩)), (3, .bool (decide (qC ∈ (m.l.take m.l.length).map Nc.nm))), (8, .int .i64 ((s : Nat) : Int))]) (fun s wr => s ≤ m.ss.length ∧ (∀ j (h : j < m.ss.length), j < s → bJ m.ss j m.ss[j]) ∧ Blk wr g1 25 #[.slice m.A m.l.length m.c, .slice m.S m.ss.length m.d, .int .i64 m.v, .int .i64 m.b] ∧ Frm [] w wr) (fun s => m.ss.length - s) 0 (js3 rfl rfl rfl) ⟨zae _, fun _ _ h => jo, hb1, K⟩ ?_
 rintro k4 wr ⟨hk4, hd4, hb1, K⟩
 refine jS (jS (jR (jm rfl (jf rfl zf rfl zaj (jl rfl zar (hb1.cell 1) (je (Run.lenS rfl zc) (jb rfl rfl (Bin.lssN _ _) (jO (jN (jv4 1 3 8 105 ?_))))))))))
 refine jD rfl (fun hc7 => ?_) fun hc7 => ?_
 ·
  have hSat : ∀ k, k < m.ss.length → ∃ ad, m.S = some ad ∧ ∀ W, Frm [] wr W → W.cell? ((ad.add (k * 1)).add 0) = some (encStr (m.ss[k]?.getD [])) := by
   intro k hk
   obtain ⟨ad, hA, _⟩ := (hm.s.frm K jp).elem hk
   refine ⟨ad, hA, fun W hW => ?_⟩
   obtain ⟨ad', hA', h⟩ := (hm.s.frm (K.trans hW jp) jp).elem hk
   rw [hA] at hA'
   cases hA'
   exact h 0 _ (by simp [SB, zb hk])
  obtain ⟨ad, had, hel⟩ := hSat k4 hc7
  have hqq := hm.sq _ (zaa hc7)
  have hnm : bJ m.ss k4 m.ss[k4] ↔ dH m.ss[k4] ∧ (0 < k4 → (m.ss[k4 - 1]?).getD [] < m.ss[k4]) := Iff.rfl
  rw [zb hc7, zdz] at hel
  generalize hx : m.ss[k4] = q at *
  generalize hpvd : (m.ss[k4 - 1]?).getD [] = pv at hnm
  refine jQ (jN (jv3 1 3 8 ?_))
  refine jS (jB (jS ?_))
  refine VC.meet (σ := Unit) (fun s => [(1, .pointer (some ⟨g1, 0, none⟩)), (3, .bool (decide (qC ∈ (m.l.take m.l.length).map Nc.nm))), (8, .int .i64 ((k4 : Nat) : Int)), (132, .bool (decide (¬ (dH q ∧ (0 < k4 → pv < q)))))]) (fun s wz => Frm [] wr wz) ?_ ?_
  ·
   refine VC.held (fun W => Frm [] wr W) jK ?_
   have hS : Frm [] wr wr.drew := (Frm.refl _ _).drew
   refine jH 0 rfl hS (fun w0 hw0 => Run.fieldAddr rfl zf rfl zaj jd) ?_
   refine jH 1 rfl hS (fun w0 hw0 => Run.load rfl zar ((hb1.frm hw0 jp).cell 1)) ?_
   refine jH 2 rfl hS (fun w0 hw0 => Run.mv rfl) ?_
   refine jH 3 rfl hS (fun w0 hw0 => Run.indexS k4 (show _ = some (Value.slice (some ad) m.ss.length m.d) by rw [← had]; rfl) rfl zc zm hc7) ?_
   refine jH 4 rfl hS (fun w0 hw0 => Run.load rfl zx (hel _ hw0)) ?_
   refine qQ.cl 5 rfl jK (jE1 Tryz.call77) (mS q _ jo) trivial rfl rfl ?_
   rintro e wC ⟨rfl, hfwC⟩
   have hSwC := hS.trans hfwC jp
   refine ⟨_, rfl, hSwC, ?_⟩
   have hS := hSwC
   by_cases hs113 : dH q
   ·
    refine jH 6 rfl hS (fun w0 hw0 => Run.not rfl) ?_
    refine jH 7 rfl hS (fun w0 hw0 => Run.mv rfl) ?_
    refine qQ.take 8 rfl jK jK jK hS (fun w0 hw0 => Run.mv rfl) (Up.g rfl (by first | rfl | exact decide_eq_true hs113 | (simp [hs113]; done))) rfl rfl ?_
    refine qQ.take 9 rfl jK jK jK hS (fun w0 hw0 => Run.bin rfl rfl (Bin.gtrN _ 0)) (Up.g rfl (by first | rfl | exact decide_eq_true hs113 | (simp [hs113]; done))) rfl rfl ?_
    by_cases hs117 : 0 < k4
    ·
     obtain ⟨ad2, had2, hel2⟩ := hSat (k4 - 1) jo
     rw [hpvd] at hel2
     refine qQ.take 10 rfl jK jK jK hS (fun w0 hw0 => Run.mv rfl) (Up.g rfl (by first | rfl | exact decide_eq_true hs113 | exact decide_eq_true hs117 | (simp [hs113]; done) | (simp [hs117]; done))) rfl rfl ?_
     refine qQ.take 11 rfl jK jK jK hS (fun w0 hw0 => Run.fieldAddr rfl zf rfl zaj jd) (Up.g rfl (by first | rfl | exact decide_eq_true hs113 | exact decide_eq_true hs117 | (simp [hs113]; done) | (simp [hs117]; done))) rfl rfl ?_
     refine qQ.take 12 rfl jK jK jK hS (fun w0 hw0 => Run.load rfl zar ((hb1.frm hw0 jp).cell 1)) (Up.g rfl (by first | rfl | exact decide_eq_true hs113 | exact decide_eq_true hs117 | (simp [hs113]; done) | (simp [hs117]; done))) rfl rfl ?_
     refine qQ.take 13 rfl jK jK jK hS (fun w0 hw0 => Run.mv rfl) (Up.g rfl (by first | rfl | exact decide_eq_true hs113 | exact decide_eq_true hs117 | (simp [hs113]; done) | (simp [hs117]; done))) rfl rfl ?_
     refine qQ.take 14 rfl jK jK jK hS (fun w0 hw0 => Run.bin rfl rfl (Bin.sub_i64 _ 1 jo jo)) (Up.g rfl (by first | rfl | exact decide_eq_true hs113 | exact decide_eq_true hs117 | (simp [hs113]; done) | (simp [hs117]; done))) rfl rfl ?_
     refine qQ.take 15 rfl jK jK jK hS (fun w0 hw0 => Run.indexS (k4 - 1) (show _ = some (Value.slice (some ad2) m.ss.length m.d) by rw [← had2]; rfl) rfl zc zm jo) (Up.g rfl (by first | rfl | exact decide_eq_true hs113 | exact decide_eq_true hs117 | (simp [hs113]; done) | (simp [hs117]; done))) rfl rfl ?_
     refine qQ.take 16 rfl jK jK jK hS (fun w0 hw0 => Run.load rfl zx (hel2 _ hw0)) (Up.g rfl (by first | rfl | exact decide_eq_true hs113 | exact decide_eq_true hs117 | (simp [hs113]; done) | (simp [hs117]; done))) rfl rfl ?_
     refine qQ.take 17 rfl jK jK jK hS (fun w0 hw0 => Run.fieldAddr rfl zf rfl zaj jd) (Up.g rfl (by first | rfl | exact decide_eq_true hs113 | exact decide_eq_true hs117 | (simp [hs113]; done) | (simp [hs117]; done))) rfl rfl ?_
     refine qQ.take 18 rfl jK jK jK hS (fun w0 hw0 => Run.load rfl zar ((hb1.frm hw0 jp).cell 1)) (Up.g rfl (by first | rfl | exact decide_eq_true hs113 | exact decide_eq_true hs117 | (simp [hs113]; done) | (simp [hs117]; done))) rfl rfl ?_
     refine qQ.take 19 rfl jK jK jK hS (fun w0 hw0 => Run.mv rfl) (Up.g rfl (by first | rfl | exact decide_eq_true hs113 | exact decide_eq_true hs117 | (simp [hs113]; done) | (simp [hs117]; done))) rfl rfl ?_
     refine qQ.take 20 rfl jK jK jK hS (fun w0 hw0 => Run.indexS k4 (show _ = some (Value.slice (some ad) m.ss.length m.d) by rw [← had]; rfl) rfl zc zm hc7) (Up.g rfl (by first | rfl | exact decide_eq_true hs113 | exact decide_eq_true hs117 | (simp [hs113]; done) | (simp [hs117]; done))) rfl rfl ?_
     refine qQ.take 21 rfl jK jK jK hS (fun w0 hw0 => Run.load rfl zx (hel _ hw0)) (Up.g rfl (by first | rfl | exact decide_eq_true hs113 | exact decide_eq_true hs117 | (simp [hs113]; done) | (simp [hs117]; done))) rfl rfl ?_
     refine qQ.take 22 rfl jK jK jK hS (fun w0 hw0 => Run.geqT rfl rfl) (Up.g rfl (by first | rfl | exact decide_eq_true hs113 | exact decide_eq_true hs117 | (simp [hs113]; done) | (simp [hs117]; done))) rfl rfl ?_
     by_cases hs130 : pv < q
     ·
      refine qQ.take 23 rfl jK jK jK hS (fun w0 hw0 => Run.pickT rfl rfl (by first | rfl | exact decide_eq_true hs113 | exact decide_eq_true hs117 | exact decide_eq_false hs130 | (simp [hs113]; done) | (simp [hs117]; done) | (simp [hs130]; done))) (Up.g rfl (by first | rfl | exact decide_eq_true hs113 | exact decide_eq_true hs117 | exact decide_eq_false hs130 | (simp [hs113]; done) | (simp [hs117]; done) | (simp [hs130]; done))) rfl rfl ?_
      refine jH 24 rfl hS (fun w0 hw0 => Run.pickF rfl rfl (by first | rfl | exact decide_eq_true hs113 | exact decide_eq_true hs117 | exact decide_eq_false hs130 | (simp [hs113]; done) | (simp [hs117]; done) | (simp [hs130]; done))) ?_
      refine qQ.done jK ?_
      refine jN ⟨(), (js4 rfl rfl rfl (jC (by clear hMi hd hel hm hd4 hSat; grind))), ?_⟩
      exact hS
     refine qQ.take 23 rfl jK jK jK hS (fun w0 hw0 => Run.pickT rfl rfl (by first | rfl | exact decide_eq_true hs113 | exact decide_eq_true hs117 | exact decide_eq_true hs130 | (simp [hs113]; done) | (simp [hs117]; done) | (simp [hs130]; done))) (Up.g rfl (by first | rfl | exact decide_eq_true hs113 | exact decide_eq_true hs117 | exact decide_eq_true hs130 | (simp [hs113]; done) | (simp [hs117]; done) | (simp [hs130]; done))) rfl rfl ?_
     refine jH 24 rfl hS (fun w0 hw0 => Run.pickF rfl rfl (by first | rfl | exact decide_eq_true hs113 | exact decide_eq_true hs117 | exact decide_eq_true hs130 | (simp [hs113]; done) | (simp [hs117]; done) | (simp [hs130]; done))) ?_
     refine qQ.done jK ?_
     refine jN ⟨(), (js4 rfl rfl rfl (jC (by clear hMi hd hel hm hd4 hSat; grind))), ?_⟩
     exact hS
    refine qQ.take 10 rfl jK jK jK hS (fun w0 hw0 => Run.mv rfl) (Up.g rfl (by first | rfl | exact decide_eq_true hs113 | exact decide_eq_false hs117 | (simp [hs113]; done) | (simp [hs117]; done))) rfl rfl ?_
    refine qQ.skip 11 rfl jK jK jK hS rfl rfl (by first | rfl | exact decide_eq_true hs113 | exact decide_eq_false hs117 | (simp [hs113]; done) | (simp [hs117]; done)) rfl rfl ?_
    refine qQ.skip 12 rfl jK jK jK hS rfl rfl (by first | rfl | exact decide_eq_true hs113 | exact decide_eq_false hs117 | (simp [hs113]; done) | (simp [hs117]; done)) rfl rfl ?_
    refine qQ.skip 13 rfl jK jK jK hS rfl rfl (by first | rfl | exact decide_eq_true hs113 | exact decide_eq_false hs117 | (simp [hs113]; done) | (simp [hs117]; done)) rfl rfl ?_
    refine qQ.skip 14 rfl jK jK jK hS rfl rfl (by first | rfl | exact decide_eq_true hs113 | exact decide_eq_false hs117 | (simp [hs113]; done) | (simp [hs117]; done)) rfl rfl ?_
    refine qQ.skip 15 rfl jK jK jK hS rfl rfl (by first | rfl | exact decide_eq_true hs113 | exact decide_eq_false hs117 | (simp [hs113]; done) | (simp [hs117]; done)) rfl rfl ?_
    refine qQ.skip 16 rfl jK jK jK hS rfl rfl (by first | rfl | exact decide_eq_true hs113 | exact decide_eq_false hs117 | (simp [hs113]; done) | (simp [hs117]; done)) rfl rfl ?_
    refine qQ.skip 17 rfl jK jK jK hS rfl rfl (by first | rfl | exact decide_eq_true hs113 | exact decide_eq_false hs117 | (simp [hs113]; done) | (simp [hs117]; done)) rfl rfl ?_
    refine qQ.skip 18 rfl jK jK jK hS rfl rfl (by first | rfl | exact decide_eq_true hs113 | exact decide_eq_false hs117 | (simp [hs113]; done) | (simp [hs117]; done)) rfl rfl ?_
    refine qQ.skip 19 rfl jK jK jK hS rfl rfl (by first | rfl | exact decide_eq_true hs113 | exact decide_eq_false hs117 | (simp [hs113]; done) | (simp [hs117]; done)) rfl rfl ?_
    refine qQ.skip 20 rfl jK jK jK hS rfl rfl (by first | rfl | exact decide_eq_true hs113 | exact decide_eq_false hs117 | (simp [hs113]; done) | (simp [hs117]; done)) rfl rfl ?_
    refine qQ.skip 21 rfl jK jK jK hS rfl rfl (by first | rfl | exact decide_eq_true hs113 | exact decide_eq_false hs117 | (simp [hs113]; done) | (simp [hs117]; done)) rfl rfl ?_
    refine qQ.skip 22 rfl jK jK jK hS rfl rfl (by first | rfl | exact decide_eq_true hs113 | exact decide_eq_false hs117 | (simp [hs113]; done) | (simp [hs117]; done)) rfl rfl ?_
    refine qQ.take 23 rfl jK jK jK hS (fun w0 hw0 => Run.pickF rfl rfl (by first | rfl | exact decide_eq_true hs113 | exact decide_eq_false hs117 | (simp [hs113]; done) | (simp [hs117]; done))) (Up.g rfl (by first | rfl | exact decide_eq_true hs113 | exact decide_eq_false hs117 | (simp [hs113]; done) | (simp [hs117]; done))) rfl rfl ?_
    refine jH 24 rfl hS (fun w0 hw0 => Run.pickF rfl rfl (by first | rfl | exact decide_eq_true hs113 | exact decide_eq_false hs117 | (simp [hs113]; done) | (simp [hs117]; done))) ?_
    refine qQ.done jK ?_
    refine jN ⟨(), (js4 rfl rfl rfl (jC (by clear hMi hd hel hm hd4 hSat; grind))), ?_⟩
    exact hS
   refine jH 6 rfl hS (fun w0 hw0 => Run.not rfl) ?_
   refine jH 7 rfl hS (fun w0 hw0 => Run.mv rfl) ?_
   refine qQ.skip 8 rfl jK jK jK hS rfl rfl (by first | rfl | exact decide_eq_false hs113 | (simp [hs113]; done)) rfl rfl ?_
   refine qQ.skip 9 rfl jK jK jK hS rfl rfl (by first | rfl | exact decide_eq_false hs113 | (simp [hs113]; done)) rfl rfl ?_
   refine qQ.skip 10 rfl jK jK jK hS rfl rfl (by first | rfl | exact decide_eq_false hs113 | (simp [hs113]; done)) rfl rfl ?_
   refine qQ.skU 11 rfl jK jK jK hS rfl rfl rfl rfl ?_
   refine qQ.skU 12 rfl jK jK jK hS rfl rfl rfl rfl ?_
   refine qQ.skU 13 rfl jK jK jK hS rfl rfl rfl rfl ?_
   refine qQ.skU 14 rfl jK jK jK hS rfl rfl rfl rfl ?_
   refine qQ.skU 15 rfl jK jK jK hS rfl rfl rfl rfl ?_
   refine qQ.skU 16 rfl jK jK jK hS rfl rfl rfl rfl ?_
   refine qQ.skU 17 rfl jK jK jK hS rfl rfl rfl rfl ?_
   refine qQ.skU 18 rfl jK jK jK hS rfl rfl rfl rfl ?_
   refine qQ.skU 19 rfl jK jK jK hS rfl rfl rfl rfl ?_
   refine qQ.skU 20 rfl jK jK jK hS rfl rfl rfl rfl ?_
   refine qQ.skU 21 rfl jK jK jK hS rfl rfl rfl rfl ?_
   refine qQ.skU 22 rfl jK jK jK hS rfl rfl rfl rfl ?_
   refine qQ.skip 23 rfl jK jK jK hS rfl rfl (by first | rfl | exact decide_eq_false hs113 | (simp [hs113]; done)) rfl rfl ?_
   refine jH 24 rfl hS (fun w0 hw0 => Run.pickT rfl rfl (by first | rfl | exact decide_eq_false hs113 | (simp [hs113]; done))) ?_
   refine qQ.done jK ?_
   refine jN ⟨(), (js4 rfl rfl rfl (jC (by clear hMi hd hel hm hd4 hSat; grind))), ?_⟩
   exact hS
  rintro _ wz hfz Γ hΓ
  have hb1 := hb1.frm hfz jp
  have K := K.trans hfz jp
  refine jN (VC.sub _ hΓ ?_)
  refine jD rfl (fun hc8 => ?_) fun hc8 => ?_
  ·
   have hbad : ¬ bV m.p := fun h => by
    have h2 := (hMi.1 h).1.2 k4 hc7
    rw [hx] at h2
    exact hc8 (hnm.1 h2)
   refine jS (jR (ja rfl (jO (jN (jv1 2 ?_)))))
   refine jT ?_
   refine qH (qZ (qZ (qH (qZ (qR rfl ?_)))))
   exact ⟨by rw [decide_eq_false hbad], K⟩
  have hc8 := hnm.2 (Classical.not_not.1 hc8)
  refine jQ ?_
  refine qW (jN ?_)
  refine jv3 1 3 8 ?_
  refine jR (jm rfl (jb rfl rfl (Bin.add_i64 _ 1 jo) (ja rfl (jO ?_))))
  refine jN ⟨(k4 + 1), (js3 rfl rfl rfl), ?_, ?_⟩
  ·
   refine ⟨hc7, fun j h1 hj => ?_, hb1, K⟩
   by_cases e : j = k4
   ·
    subst e
    rw [hx]
    exact hc8
   exact hd4 j h1 jo
  first | omega | (dsimp only; omega)
 obtain rfl : k4 = m.ss.length := jo
 rw [zaq]
 refine jX ?_
 refine qJ (qJ (qN ?_))
 refine jN (jv2 1 3 ?_)
 refine jS ?_
 refine VC.split1 [] .nil 2 (.bool (decide (qC ∈ m.l.map Nc.nm ∧ m.l.length ≤ 24 ∧ m.ss.length ≤ 24 ∧ 1 ≤ m.v ∧ m.v ≤ 2147483647 ∧ 0 ≤ m.b ∧ m.b ≤ 2147483647))) ?_ ?_
 ·
  refine jR (jM ?_)
  by_cases hs133 : qC ∈ m.l.map Nc.nm
  ·
   refine jM ?_
   refine jk (Run.fieldAddr rfl zf rfl zaf jd) ?_
   refine jk (Run.load rfl zap (hb1.cell 0)) ?_
   refine jk (Run.lenS rfl zg) ?_
   refine jk (Run.bin rfl rfl (Bin.leqN _ 24)) ?_
   by_cases hs138 : m.l.length ≤ 24
   ·
    refine je (Run.pickT rfl rfl au) (jM ?_)
    refine jk (Run.fieldAddr rfl zf rfl zaj jd) ?_
    refine jk (Run.load rfl zar (hb1.cell 1)) ?_
    refine jk (Run.lenS rfl zc) ?_
    refine jk (Run.bin rfl rfl (Bin.leqN _ 24)) ?_
    by_cases hs144 : m.ss.length ≤ 24
    ·
     refine je (Run.pickT rfl rfl au) (jM ?_)
     refine jk (Run.fieldAddr rfl zf rfl zn jd) ?_
     refine jk (Run.load rfl zp (hb1.cell 2)) ?_
     refine jk (Run.bin rfl rfl (Bin.leq 1 _)) ?_
     by_cases hs149 : 1 ≤ m.v
     ·
      refine je (Run.pickT rfl rfl au) (jM ?_)
      refine jk (Run.fieldAddr rfl zf rfl zn jd) ?_
      refine jk (Run.load rfl zp (hb1.cell 2)) ?_
      refine jk (Run.bin rfl rfl (Bin.leq _ 2147483647)) ?_
      by_cases hs154 : m.v ≤ 2147483647
      ·
       refine je (Run.pickT rfl rfl au) (jM ?_)
       refine jk (Run.fieldAddr rfl zf rfl zn jd) ?_
       refine jk (Run.load rfl zp (hb1.cell 3)) ?_
       refine jk (Run.bin rfl rfl (Bin.leq 0 _)) ?_
       by_cases hs159 : 0 ≤ m.b
       ·
        refine je (Run.pickT rfl rfl au) (jM ?_)
        refine jk (Run.fieldAddr rfl zf rfl zn jd) ?_
        refine jk (Run.load rfl zp (hb1.cell 3)) ?_
        refine jk (Run.bin rfl rfl (Bin.leq _ 2147483647)) ?_
        refine je (Run.pickT rfl rfl au) (ja rfl (jO ?_))
        refine jN ⟨(js1 (jC (by clear hMi hd hd4 hm; grind))), rfl⟩
       refine je (Run.pickT rfl rfl au) (jM ?_)
       refine jU ?_
       refine jU ?_
       refine jU ?_
       refine je (Run.pickF rfl rfl au) (ja rfl (jO ?_))
       refine jN ⟨(js1 (jC (by clear hMi hd hd4 hm; grind))), rfl⟩
      refine je (Run.pickT rfl rfl au) (jM ?_)
      refine jU ?_
      refine jU ?_
      refine jU ?_
      refine je (Run.pickF rfl rfl au) (jM ?_)
      refine jU ?_
      refine jU ?_
      refine jU ?_
      refine je (Run.pickF rfl rfl au) (ja rfl (jO ?_))
      refine jN ⟨(js1 (jC (by clear hMi hd hd4 hm; grind))), rfl⟩
     refine je (Run.pickT rfl rfl au) (jM ?_)
     refine jU ?_
     refine jU ?_
     refine jU ?_
     refine je (Run.pickF rfl rfl au) (jM ?_)
     refine jU ?_
     refine jU ?_
     refine jU ?_
     refine je (Run.pickF rfl rfl au) (jM ?_)
     refine jU ?_
     refine jU ?_
     refine jU ?_
     refine je (Run.pickF rfl rfl au) (ja rfl (jO ?_))
     refine jN ⟨(js1 (jC (by clear hMi hd hd4 hm; grind))), rfl⟩
    refine je (Run.pickT rfl rfl au) (jM ?_)
    refine jU ?_
    refine jU ?_
    refine jU ?_
    refine je (Run.pickF rfl rfl au) (jM ?_)
    refine jU ?_
    refine jU ?_
    refine jU ?_
    refine je (Run.pickF rfl rfl au) (jM ?_)
    refine jU ?_
    refine jU ?_
    refine jU ?_
    refine je (Run.pickF rfl rfl au) (jM ?_)
    refine jU ?_
    refine jU ?_
    refine jU ?_
    refine je (Run.pickF rfl rfl au) (ja rfl (jO ?_))
    refine jN ⟨(js1 (jC (by clear hMi hd hd4 hm; grind))), rfl⟩
   refine je (Run.pickT rfl rfl au) (jM ?_)
   refine jU ?_
   refine jU ?_
   refine jU ?_
   refine jU ?_
   refine je (Run.pickF rfl rfl au) (jM ?_)
   refine jU ?_
   refine jU ?_
   refine jU ?_
   refine je (Run.pickF rfl rfl au) (jM ?_)
   refine jU ?_
   refine jU ?_
   refine jU ?_
   refine je (Run.pickF rfl rfl au) (jM ?_)
   refine jU ?_
   refine jU ?_
   refine jU ?_
   refine je (Run.pickF rfl rfl au) (jM ?_)
   refine jU ?_
   refine jU ?_
   refine jU ?_
   refine je (Run.pickF rfl rfl au) (ja rfl (jO ?_))
   refine jN ⟨(js1 (jC (by clear hMi hd hd4 hm; grind))), rfl⟩
  refine jM ?_
  refine jU ?_
  refine jU ?_
  refine jU ?_
  refine jU ?_
  refine je (Run.pickF rfl rfl au) (jM ?_)
  refine jU ?_
  refine jU ?_
  refine jU ?_
  refine jU ?_
  refine je (Run.pickF rfl rfl au) (jM ?_)
  refine jU ?_
  refine jU ?_
  refine jU ?_
  refine je (Run.pickF rfl rfl au) (jM ?_)
  refine jU ?_
  refine jU ?_
  refine jU ?_
  refine je (Run.pickF rfl rfl au) (jM ?_)
  refine jU ?_
  refine jU ?_
  refine jU ?_
  refine je (Run.pickF rfl rfl au) (jM ?_)
  refine jU ?_
  refine jU ?_
  refine jU ?_
  refine je (Run.pickF rfl rfl au) (ja rfl (jO ?_))
  refine jN ⟨(js1 (jC (by clear hMi hd hd4 hm; grind))), rfl⟩
 intro Γ hΓ
 refine jN (VC.sub _ hΓ ?_)
 refine jT ?_
 refine qR rfl ?_
 refine ⟨?_, K⟩
 rw [decide_eq_decide.2 (show bV m.p ↔ _ from hMi.trans ⟨fun h => h.2, fun h => ⟨⟨fun j h1 => hd j h1 h1, fun j h1 => hd4 j h1 h1⟩, h⟩⟩)]
end
section
open Go.RowKit Go.Sort
theorem qVl {H : Type} {enc : TypeId × Value → H} {P : Program} {w : World} {base : Nat} {spare : Nat → Bool} {held : Bool} {t e : TypeId} {fuel len cap : Nat} {a : Option Addr} {x : DataW H × List MemPlace} (ht : P.underlying t = some (.slice e)) (he : P.underlying e = some .string) (hc : P.cellsOf e = 1)
  (h : DataW.trod enc P w base spare held fuel t [.slice a len cap] = some x) : ∃ l : List Tx, l.length = len ∧ len ≤ cap ∧ cap ≤ 9223372036854775807 ∧ Rd w 1 a len (SB l) := by
 obtain ⟨ls, h1, h2, h3, h4, _⟩ := vC ht he hc h
 refine ⟨ls.map (·.data.toList), by simpa using h1, h2, h3, ?_⟩
 have : SB (ls.map (·.data.toList)) = ls.map Value.string := by simp only [SB, zcs]; rfl
 rw [this]
 exact h4
theorem qVm {w : World} {A : Option Addr} {c : Nat} {l : List Tx} (m : Nat) (h : Rd w 1 A l.length (SB l)) (hc : l.length ≤ c) (hm : m ≤ l.length) : Rd w 1 (dP A c 0 1) (l.take m).length (SB (l.take m)) := by
 have e := h.cut (l := 0) (r := m) (cap := c) jo jo hc
 have e1 : (l.take m).length = m := by simp; omega
 have e2 : SB (l.take m) = ((SB l).drop (0 * 1)).take ((m - 0) * 1) := by simp [SB, zdu]
 rw [e1, e2]
 exact e
def eN (l : List Tx) : List Tx := (l.take 24).map fun x => x.take 30
theorem yP (l : List Tx) : (eN l).length ≤ 24 ∧ ∀ q ∈ eN l, q.length ≤ 30 := by
 unfold eN
 refine ⟨by simp; omega, fun q hq => ?_⟩
 obtain ⟨x, _, rfl⟩ := List.mem_map.1 hq
 simp
 omega
theorem yR (A : Option Addr) (c0 : Nat) (l : List Tx) (w : World) (hc : l.length ≤ c0) (hr : Rd w 1 A l.length (SB l)) :
  Calls Tryz.prog 34 #[.slice A l.length c0] w fun e w' => Frm [] w w' ∧ ∃ B d, e = .returned (.slice B (eN l).length d) ∧ Own w' 9 1 B (eN l).length d (SB (eN l)) ∧ (∀ x ∈ ob B, w.heap.size ≤ x) := by
 refine VC.calls (nt := 31) (res := #[.tmp 2]) Tryz.func34 rfl Tryz.ntmps34 Tryz.results34 rfl ?_
 refine jS (jR (ja rfl (jO (jN (jv1 0 ?_)))))
 refine jS (jS (jR (jm rfl (je (Run.lenS rfl zc) (jb rfl rfl (Bin.gtrN _ 24) (jO (jN (jv2 0 8 ?_))))))))
 refine VC.meet (σ := Option Addr × Nat) (fun s => [(0, .slice s.1 (l.take 24).length s.2)]) (fun s wm => w = wm ∧ Rd w 1 s.1 (l.take 24).length (SB (l.take 24))) ?_ ?_
 ·
  refine jD rfl (fun hc1 => ?_) fun hc1 => ?_
  ·
   refine jR (jm rfl (je (Run.sliceS 0 24 rfl zc zm evB.none_ (evB.some_ rfl) jo jo) (ja rfl (jO ?_))))
   refine jN ⟨(dP A c0 0 1, c0 - 0), (js1 (by rw [show (l.take 24).length = 24 - 0 by simp; omega]; rfl)), ?_⟩
   exact ⟨rfl, qVm 24 hr hc jo⟩
  refine jQ ?_
  refine jN ⟨(A, c0), (js1 (by rw [zv jo]; rfl)), ?_⟩
  rw [zv jo]
  exact ⟨rfl, hr⟩
 rintro ⟨A2, c2⟩ _ ⟨rfl, hr2⟩ Γ hΓ
 have hl24 : (l.take 24).length ≤ 24 := by simp; omega
 generalize hm : l.take 24 = m at *
 refine jN (VC.sub _ hΓ (jS (jR (ja rfl (jO (jN (jS (jS (jR (jz 0 (jO (jN (jB ?_)))))))))))))
 refine VC.loop (σ := Nat × Option Addr × Nat) (fun s => [(0, .slice A2 m.length c2), (3, .slice s.2.1 ((m.take s.1).map fun x => x.take 30).length s.2.2), (4, .int .i64 ((s.1 : Nat) : Int))]) (fun s wr => s.1 ≤ m.length ∧ Own wr 9 1 s.2.1 ((m.take s.1).map fun x => x.take 30).length s.2.2 (SB ((m.take s.1).map fun x => x.take 30)) ∧ (∀ x ∈ ob s.2.1, w.heap.size ≤ x) ∧ Frm [] w wr) (fun s => m.length - s.1) (0, none, 0) (js3 rfl rfl rfl) ⟨jo, Own.nil _ _ _, by simp [ob], Frm.refl _ _⟩ ?_
 rintro ⟨i, B, d⟩ wr ⟨hi, hown, hge, hfr⟩
 dsimp only at hi hown hge ⊢
 have hil : ((m.take i).map fun x : Tx => x.take 30).length = i := by simp; omega
 refine jS (jS (jR (jm rfl (jm rfl (je (Run.lenS rfl zc) (jb rfl rfl (Bin.lssN _ _) (jO (jN (jv4 0 3 4 14 ?_)))))))))
 refine jD rfl (fun hc2 => ?_) fun hc2 => ?_
 ·
  obtain ⟨ad, rfl, hcell⟩ := eZ (hr2.frm hfr jp) hc2
  have hts : ((m.take (i + 1)).map fun x : Tx => x.take 30) = ((m.take i).map fun x : Tx => x.take 30) ++ [m[i].take 30] := by rw [cL hc2]; simp only [zbc, zbw, zdp]
  generalize m[i] = x at *
  refine jQ (jN (jv3 0 3 4 ?_))
  refine jS (jB (jS (jR (jm rfl (jm rfl (je (Run.index1 i rfl rfl zc zm hc2) (jl rfl zx hcell (ja rfl (jO (jN (jv4 0 3 4 5 ?_)))))))))))
  refine jS (jS (jR (jm rfl (je (Run.lenT rfl zj) (jb rfl rfl (Bin.gtrN _ 30) (jO (jN (jv5 0 3 4 5 23 ?_))))))))
  refine VC.meet (σ := Unit) (fun s => [(0, .slice (some ad) m.length c2), (3, .slice B ((m.take i).map fun x => x.take 30).length d), (4, .int .i64 ((i : Nat) : Int)), (5, encStr (x.take 30))]) (fun s wm => wr = wm) ?_ ?_
  ·
   refine jD rfl (fun hc3 => ?_) fun hc3 => ?_
   ·
    refine jR (jm rfl (je (Run.sliceT 0 30 rfl zj evB.none_ (evB.some_ rfl) jo jo) (ja rfl (jO ?_))))
    refine jN ⟨(), (js4 rfl rfl rfl rfl), ?_⟩
    rfl
   refine jQ ?_
   refine jN ⟨(), (js4 rfl rfl rfl (by rw [zv (l := x) (i := 30) jo]; rfl)), ?_⟩
   rfl
  rintro _ _ rfl Γ hΓ
  refine jN (VC.sub _ hΓ (jR (jm rfl (jM ?_))))
  refine Ops.m (qV.buildS1 rfl zc zm dI jd jd rfl rfl) rfl ?_
  rintro _ w4 ⟨rfl, hF4⟩
  have hfr4 := hfr.trans hF4.frm jp
  refine Ops.m (qV.app rfl rfl zc (eF) rfl jd (hown.frm hF4.frm jp) (sI hF4) (dS _) jo jo) rfl ?_
  rintro _ w5 ⟨A5, c5, rfl, hown5, hfr5, hob5⟩
  rw [← bA] at hown5
  have hge5 := fF hge hob5 hfr4.size
  have hfr5' := hfr4.own hfr5 hge
  refine ja rfl (jO ?_)
  refine qW (jN ?_)
  refine jv3 0 3 4 ?_
  refine jR (jm rfl (jb rfl rfl (Bin.add_i64 _ 1 jo) (ja rfl (jO ?_))))
  refine jN ⟨(i + 1, A5, c5), (js3 rfl (by rw [hts, zi]; rfl) rfl), ?_, ?_⟩
  ·
   rw [hts]
   exact ⟨hc2, by rw [zi]; exact hown5, hge5, hfr5'⟩
  first | omega | (dsimp only; omega)
 refine jX ?_
 refine qJ (qJ (qN ?_))
 refine jN (jv1 3 ?_)
 refine jS (jR (jm rfl (ja rfl (jO (jN (jv1 2 ?_))))))
 refine jT ?_
 refine qR rfl ?_
 have him : i = m.length := jo
 subst him
 rw [zaq] at hown ⊢
 have e : (m.map fun x : Tx => x.take 30) = eN l := by rw [← hm]; rfl
 rw [e] at hown ⊢
 exact ⟨hfr, B, d, rfl, hown, hge⟩
theorem IsN.ok {w0 w' : World} {e : Ending} {F : Except Nat (List Tx)} {B : Option Addr} {d : Nat} {r x : List Tx} {k : Nat} (h : IsN w0 w' e F B d r k) (hF : F = .ok x) : k = 0 ∧ r = x := by
 rcases h.2.2.2 with ⟨h1, h2⟩ | ⟨_, _, h2⟩
 · rw [hF] at h2; injection h2 with h2; exact ⟨h1, h2.symm⟩
 rw [hF] at h2; cases h2
end
section
open Go.RowKit Go.Sort
structure RawM (w : World) (A : Option Addr) (l : List Mc) : Prop where
 rd : Rd w 6 A l.length (MC l)
 fl : ∀ x ∈ l, Rd w 1 x.A x.m.flags.length (SB x.m.flags) ∧ x.m.flags.length ≤ x.c
theorem RawM.frm {w w' : World} {A : Option Addr} {l : List Mc} (h : RawM w A l) (k : Frm [] w w') : RawM w' A l :=
 ⟨h.rd.frm k jp, fun x hx => ⟨(h.fl x hx).1.frm k jp, (h.fl x hx).2⟩⟩
theorem qKv (l : List Mc) (m : Nat) (hm : m ≤ l.length) : (MC l).take (m * 6) = MC (l.take m) := by
 have e1 : MC l = MC (l.take m) ++ MC (l.drop m) := by rw [← rN, zbu]
 have e2 : (MC (l.take m)).length = m * 6 := by rw [oL, zt]; congr 1; omega
 rw [e1, zbb jo, zv jo]
theorem RawM.take {w : World} {A : Option Addr} {l : List Mc} (h : RawM w A l) (m : Nat) : RawM w A (l.take m) := by
 refine ⟨?_, fun x hx => h.fl x (zci hx)⟩
 rcases Nat.le_total m l.length with hm | hm
 ·
  have h1 := h.rd.cut (cap := l.length) (zae m) hm (zw _)
  rw [fX, zcb, Nat.zero_mul, zco, qKv l m hm] at h1
  rw [zt, zau hm]
  exact h1
 rw [zv hm]
 exact h.rd
theorem RawM.elem {w : World} {A : Option Addr} {l : List Mc} {k : Nat} (h : RawM w A l) (hk : k < l.length) : ∃ ad, A = some ad ∧ ∀ j v, (l[k]).cells[j]? = some v → w.cell? ((ad.add (k * 6)).add j) = some v := by
 obtain ⟨ad, rfl, hc⟩ := h.rd.elem hk
 refine ⟨ad, rfl, fun j v hj => hc j v ?_⟩
 rw [fY Mc.cells 6 Mc.cells_len l k hk]
 exact hj
def qZ2 (l : List MsgP) : List MsgP := (l.take 129).map fun m => { m with flags := eN m.flags }
theorem qQ3 {l : List Mc} {i : Nat} (h : i < (l.take 129).length) : (Ms ((l.take 129).take (i + 1))).map (fun m => { m with flags := eN m.flags }) = (Ms ((l.take 129).take i)).map (fun m => { m with flags := eN m.flags }) ++ [{ ((l.take 129)[i]).m with flags := eN ((l.take 129)[i]).m.flags }] := by
 rw [pF h, zbc]
 rfl
theorem yS (v n : Int) (A : Option Addr) (c : Nat) (l : List Mc) (w : World) (hl : RawM w A l) (hc : l.length ≤ c) : Calls Tryz.prog 44 #[.agg #[.int .i64 v, .int .i64 n, .slice A l.length c]] w fun e w' => Frm [] w w' ∧ ∃ B d l', e = .returned (.agg #[.int .i64 v, .int .i64 n, .slice B l'.length d]) ∧ OwM w' B d l' ∧ Ms l' = qZ2 (Ms l) ∧ l'.length ≤ 129 ∧ ∀ b ∈ ob B, w.heap.size ≤ b := by
 refine VC.calls (nt := 37) (res := #[.cell 2 43]) Tryz.func44 rfl Tryz.ntmps44 Tryz.results44 rfl ?_
 refine jS (jR ?_)
 refine Ops.m (qV.box rfl) rfl ?_
 rintro _ w1 ⟨rfl, hF1⟩
 have hb1 := hF1.blk
 have hf1 := hF1.frm
 have hs1 : w.heap.size ≤ w.heap.size := zw _
 generalize hg1 : w.heap.size = g1 at hb1 ⊢
 refine Ops.m (qV.alloc cN) rfl ?_
 rintro _ w2 ⟨rfl, hF2⟩
 have hb2 := hF2.blk
 have hb1 := hb1.frm hF2.frm jp
 have hf2 := hf1.trans hF2.frm jp
 have hs2 : w.heap.size ≤ w1.heap.size := hf1.size
 generalize hg2 : w1.heap.size = g2 at hb2 hs2 ⊢
 have hn12 : g1 < g2 := by rw [← hg2, ← hg1]; have := hF1.size; omega
 refine jO (jN (jv2 1 2 ?_))
 refine jS (jS (jR (jf rfl zl rfl zak (jl rfl zas (hb1.cell 2) (je (Run.lenS rfl zab) (jb rfl rfl (Bin.gtrN _ 129) (jO (jN (jv3 1 2 9 ?_)))))))))
 refine VC.meet (σ := Unit) (fun s => [(1, .pointer (some ⟨g1, 0, none⟩)), (2, .pointer (some ⟨g2, 0, none⟩))]) (fun s wm => Blk wm g1 43 (BVc v n A (l.take 129).length c).toArray ∧ Blk wm g2 43 (BVc 0 0 none 0 0).toArray ∧ Frm [] w wm) ?_ ?_
 ·
  refine jD rfl (fun hc1 => ?_) fun hc1 => ?_
  ·
   refine jR (jf rfl zl rfl zak (jl rfl zas (hb1.cell 2) (je (Run.sliceS 0 129 rfl zab zam evB.none_ (evB.some_ rfl) jo jo) (jf rfl zl rfl zak ?_))))
   refine Ops.st (qP.store rfl rfl zak hb1 rfl rfl) ?_
   rintro w3 ⟨hb13, hf3, hs3⟩
   have hlt : (l.take 129).length = 129 := by rw [zt]; omega
   have hb13 : Blk w3 g1 43 (BVc v n (dP A c 0 6) (129 - 0) (c - 0)).toArray := hb13
   rw [fX, zcb, zcb] at hb13
   have hb23 := hb2.frm hf3 (by simp; omega)
   have hfr3 := hf2.own hf3 (fun y hy => by simp at hy; omega)
   refine jO ?_
   refine jN ⟨(), (js2 rfl rfl), ?_⟩
   exact ⟨by rw [hlt]; exact hb13, hb23, hfr3⟩
  refine jQ ?_
  refine jN ⟨(), (js2 rfl rfl), ?_⟩
  have hlt : (l.take 129).length = l.length := by rw [zt]; omega
  exact ⟨by rw [hlt]; exact hb1, hb2, hf2⟩
 rintro _ w3 ⟨hb1, hb2, hf3⟩ Γ hΓ
 have hlt := hl.take 129
 have hlt129 : (l.take 129).length ≤ 129 := by rw [zt]; omega
 refine jN (VC.sub _ hΓ (jS (jR (ja rfl (jO (jN (jS (jS (jR (jz 0 (jO (jN (jB ?_)))))))))))))
 refine VC.loop (σ := Nat × Option Addr × Nat × List Mc) (fun s => [(1, .pointer (some ⟨g1, 0, none⟩)), (2, .pointer (some ⟨g2, 0, none⟩)), (3, .slice s.2.1 s.2.2.2.length s.2.2.1), (4, .int .i64 ((s.1 : Nat) : Int))]) (fun s wr => s.1 ≤ (l.take 129).length ∧ OwM wr s.2.1 s.2.2.1 s.2.2.2 ∧ Ms s.2.2.2 = (Ms ((l.take 129).take s.1)).map (fun m => { m with flags := eN m.flags }) ∧ (∀ b ∈ ob s.2.1, w3.heap.size ≤ b) ∧ Frm [] w3 wr) (fun s => (l.take 129).length - s.1) (0, none, 0, []) (js4 rfl rfl rfl rfl) ⟨jo, OwM.nil _, rfl, by simp [ob], Frm.refl _ _⟩ ?_
 rintro ⟨i, B, d, l'⟩ wr ⟨hi, hown, hms, hge, hfr⟩
 dsimp only at hi hown hms hge ⊢
 have hll : l'.length = i := by
  have h := congrArg List.length hms
  simp only [Ms, zah, zt (i := i)] at h
  omega
 have hb1r := hb1.frm hfr jp
 refine jS (jS (jR (jm rfl (jf rfl zl rfl zak (jl rfl zas (hb1r.cell 2) (je (Run.lenS rfl zab) (jb rfl rfl (Bin.lssN _ _) (jO (jN (jv5 1 2 3 4 18 ?_))))))))))
 refine jD rfl (fun hc2 => ?_) fun hc2 => ?_
 ·
  obtain ⟨ad, rfl, hcell⟩ := (hlt.frm (hf3.trans hfr jp)).elem hc2
  have hxa := (hlt.frm (hf3.trans hfr jp)).fl ((l.take 129)[i]) (zaa hc2)
  have hmt := qQ3 hc2
  generalize hx : (l.take 129)[i] = x at *
  refine jQ (jN (jv4 1 2 3 4 ?_))
  refine jS (jB (jS (jR (jf rfl zl rfl zak (jl rfl zas (hb1r.cell 2) (jm rfl (je (Run.indexS i rfl rfl zab zam hc2) (je (Run.loadA rfl zdb zam hcell (by first | rfl | (simp; done))) ?_))))))))
  refine Ops.m (qV.alloc eA) rfl ?_
  rintro _ w4 ⟨rfl, hF4⟩
  have hb4 := hF4.blk
  have hf4 := hF4.frm
  have hsz4 : wr.heap.size ≤ wr.heap.size := zw _
  have hfs := hfr.size
  generalize hg4 : wr.heap.size = g4 at hb4 hsz4 hfs ⊢
  refine Ops.st (qP.storeA rfl rfl zam hb4 rfl x.cells_one) ?_
  rintro w5 ⟨hb5, hf5, hs5⟩
  have hfr5 : Frm [] wr w5 := hf4.own hf5 (fun y hy => by simp at hy; omega)
  refine jO (jN (jv5 1 2 3 4 5 ?_))
  refine jS (jR (jf rfl zad rfl zaj (jl rfl zar (hb5.cell 5) ?_)))
  refine Ops.cl (jE1 Tryz.call34) (yR x.A x.c x.m.flags _ hxa.2 (hxa.1.frm hfr5 jp)) rfl ?_
  rintro e w6 ⟨hf6, C, dC, rfl, hownC, hgeC⟩
  refine ⟨_, rfl, ?_⟩
  have hfr6 := hfr5.trans hf6 jp
  have hb56 := hb5.frm hf6 jp
  have hff := yP x.m.flags
  refine jf rfl zad rfl zaj ?_
  refine Ops.st (qP.store rfl rfl zaj hb56 rfl rfl) ?_
  rintro w7 ⟨hb7, hf7, hs7⟩
  have hb7 : Blk w7 g4 60 (⟨{ x.m with flags := eN x.m.flags }, C, dC⟩ : Mc).cells.toArray := hb7
  have hownC7 := hownC.frm hf7 (fun y hy => by have := hownC.ne_blk hb56 jd; simp; rintro rfl; exact this hy)
  have hfr7 : Frm [] wr w7 := hfr6.own hf7 (fun y hy => by simp at hy; omega)
  refine jO (jN (jv5 1 2 3 4 5 ?_))
  refine jR (jm rfl (je (Run.loadA rfl zdb zam (fun j v hj => hb7.cells j v hj) (by first | rfl | (simp; done))) ?_))
  refine Ops.m (qV.buildS1 rfl zab zam eA jd jd rfl rfl) rfl ?_
  rintro _ w8 ⟨rfl, hF8⟩
  have hfr8 := hfr7.trans hF8.frm jp
  have hown8 := hown.frm hfr8
  have hownC8 := hownC7.frm hF8.frm jp
  refine Ops.m (qV.app rfl rfl zab (zE) rfl jd hown8.own (hrdM (x := ⟨{ x.m with flags := eN x.m.flags }, C, dC⟩) hF8) (oQ Mc.cells Mc.cells_one _) jo jo) rfl ?_
  rintro _ w9 ⟨A9, c9, rfl, hown9, hf9, hob9⟩
  rw [← rN] at hown9
  have hge9 := fF hge hob9 (zax hfr.size hfr8.size)
  have hfr9 := (hfr.trans hfr8 jp).own hf9 hge
  have hM9 := hown8.put (x := ⟨{ x.m with flags := eN x.m.flags }, C, dC⟩) (by simpa using hown9) hf9 hownC8 ⟨by have := hff.1; dsimp only; omega, fun q hq => by have := hff.2 q hq; omega⟩
  refine ja rfl (jO ?_)
  refine qW (jN ?_)
  refine jv4 1 2 3 4 ?_
  refine jR (jm rfl (jb rfl rfl (Bin.add_i64 _ 1 jo) (ja rfl (jO ?_))))
  refine jN ⟨(i + 1, A9, c9, l' ++ [⟨{ x.m with flags := eN x.m.flags }, C, dC⟩]), (js4 rfl rfl (by rw [zi]; rfl) rfl), ?_, ?_⟩
  · exact ⟨hc2, hM9, by rw [hmt, ← hms]; simp [Ms], hge9, hfr9⟩
  first | omega | (dsimp only; omega)
 refine jX ?_
 refine qJ (qJ (qN ?_))
 refine jN (jv3 1 2 3 ?_)
 refine jS (jR (jm rfl (jf rfl zl rfl zak ?_)))
 refine Ops.st (qP.store rfl rfl zak hb1r rfl rfl) ?_
 rintro w10 ⟨hb110, hf10, hs10⟩
 have hb110 : Blk w10 g1 43 (BVc v n B l'.length d).toArray := hb110
 have hb210 := (hb2.frm hfr jp).frm hf10 (by simp; omega)
 have hM10 := hown.blk hf10 hb1r jd jd
 have hfr10 := (hf3.trans hfr jp).own hf10 (fun y hy => by simp at hy; omega)
 refine jO (jN (jv2 1 2 ?_))
 refine jS (jR (je (Run.loadA rfl zaz zu (fun j v hj => hb110.cells j v hj) (by first | rfl | (simp; done))) ?_))
 refine Ops.st (qP.storeA rfl rfl zu hb210 rfl (cR _ _ _ _ _)) ?_
 rintro w11 ⟨hb211, hf11, hs11⟩
 have hM11 := hM10.blk hf11 hb210 jd jd
 have hfr11 := hfr10.own hf11 (fun y hy => by simp at hy; omega)
 refine jO (jN (jv1 2 ?_))
 refine jT ?_
 refine bT ?_
 refine qL rfl zaz zu (fun j v hj => hb211.cells j v hj) (by first | rfl | (simp; done)) ?_
 refine bX ?_
 have hil : i = (l.take 129).length := jo
 rw [hil, zaq] at hms
 refine ⟨hfr11, B, d, l', rfl, hM11, ?_, jo, fun b hb => by have := hge b hb; have := hf3.size; omega⟩
 rw [hms]
 unfold qZ2
 simp only [Ms, zdu]
end
section
open Go.RowKit
def m0 (b : Nat) : MsgP := ⟨0, 0, 0, 0, b, []⟩
def m1 (u : Int) (b : Nat) (f : List Tx) : MsgP := ⟨u, 0, 0, 0, b, f⟩
end
section
open Go.RowKit Go.ChangeShapes Go.WideShapes Go.Deep
section
variable {H : Type} {enc : TypeId × Value → H} {w : World} {base : Nat} {spare : Nat → Bool} {held : Bool}
theorem qZ3 {n : Nat} {cs : List Value} {x : DataW H × List MemPlace} (h : DataW.trod enc Tryz.prog w base spare held n 60 cs = some x) :
  ∃ y : Mc, cs = y.cells ∧ Rd w 1 y.A y.m.flags.length (SB y.m.flags) ∧ y.m.flags.length ≤ y.c := by
 obtain ⟨xs, n', _, _, hlen, hxl, hf⟩ := DataW.trod_struct zad h
 have hl : cs.length = 6 := hlen.trans jK
 obtain ⟨a0, a1, a2, a3, a4, a5, rfl⟩ : ∃ a0 a1 a2 a3 a4 a5, cs = [a0, a1, a2, a3, a4, a5] := by
  match cs, hl with
  | [a0, a1, a2, a3, a4, a5], _ => exact ⟨a0, a1, a2, a3, a4, a5, rfl⟩
 have hget : ∀ i, i < 5 → ∃ y, xs[i]? = some y := fun i hi => ⟨xs[i]'(by rw [hxl]; exact hi), zb _⟩
 have h0 := hf 0 _ rfl
 have h1 := hf 1 _ rfl
 have h2 := hf 2 _ rfl
 have h3 := hf 3 _ rfl
 have h4 := hf 4 _ rfl
 obtain ⟨y0, e0⟩ := hget 0 jd
 obtain ⟨y1, e1⟩ := hget 1 jd
 obtain ⟨y2, e2⟩ := hget 2 jd
 obtain ⟨y3, e3⟩ := hget 3 jd
 obtain ⟨y4, e4⟩ := hget 4 jd
 rw [e0] at h0
 rw [e1] at h1
 rw [e2] at h2
 rw [e3] at h3
 rw [e4] at h4
 have c1 : Tryz.prog.cellsOf 3 = 1 := by kernel_rfl
 have c2 : Tryz.prog.cellsOf 58 = 2 := by kernel_rfl
 have c3 : Tryz.prog.cellsOf 40 = 1 := by kernel_rfl
 have c4 : Tryz.prog.cellsOf 23 = 1 := by kernel_rfl
 have h0 : DataW.trod enc Tryz.prog w base spare held n' 3 ([a0, a1, a2, a3, a4, a5].take (Tryz.prog.cellsOf 3)) = some y0 := h0
 have h1 : DataW.trod enc Tryz.prog w base spare held n' 58 ([a1, a2, a3, a4, a5].take (Tryz.prog.cellsOf 58)) = some y1 := h1
 have h2 : DataW.trod enc Tryz.prog w base spare held n' 3 ([a3, a4, a5].take (Tryz.prog.cellsOf 3)) = some y2 := h2
 have h3 : DataW.trod enc Tryz.prog w base spare held n' 40 ([a4, a5].take (Tryz.prog.cellsOf 40)) = some y3 := h3
 have h4 : DataW.trod enc Tryz.prog w base spare held n' 23 ([a5].take (Tryz.prog.cellsOf 23)) = some y4 := h4
 rw [c1] at h0 h2
 rw [c2] at h1
 rw [c3] at h3
 rw [c4] at h4
 obtain ⟨z0, g0, _⟩ := DataW.trod_int zac h0
 obtain ⟨z2, g2, _⟩ := DataW.trod_int zac h2
 obtain ⟨z3, g3, _, w3⟩ := DataW.trod_int zay h3
 obtain ⟨xd, nd, _, _, _, hxd, hfd⟩ := DataW.trod_struct zbg h1
 have d0 := hfd 0 _ rfl
 have d1 := hfd 1 _ rfl
 have hgd : ∀ i, i < 2 → ∃ y, xd[i]? = some y := fun i hi => ⟨xd[i]'(by rw [hxd]; exact hi), zb _⟩
 obtain ⟨u0, f0⟩ := hgd 0 jd
 obtain ⟨u1, f1⟩ := hgd 1 jd
 rw [f0] at d0
 rw [f1] at d1
 have c5 : Tryz.prog.cellsOf 2 = 1 := by kernel_rfl
 have d0 : DataW.trod enc Tryz.prog w base spare held nd 2 ([a1, a2].take (Tryz.prog.cellsOf 2)) = some u0 := d0
 have d1 : DataW.trod enc Tryz.prog w base spare held nd 3 ([a2].take (Tryz.prog.cellsOf 3)) = some u1 := d1
 rw [c5] at d0
 rw [c1] at d1
 obtain ⟨zs, gs, _⟩ := DataW.trod_int Tryz.underlying2 d0
 obtain ⟨zz, gz, _⟩ := DataW.trod_int zac d1
 simp only [zda, zdm, List.cons.injEq, and_true] at g0 g2 g3 gs gz
 subst g0 g2 g3 gs gz
 have h4 : DataW.trod enc Tryz.prog w base spare held n' 23 [a5] = some y4 := h4
 have hv : ∃ A l c, a5 = .slice A l c := by
  rcases open_slice1 zc jK h4 with ⟨hcs, _⟩ | ⟨ad, l, c, _, _, _, _, _, hcs, _⟩
  · exact ⟨_, _, _, by simpa using hcs⟩
  exact ⟨_, _, _, by simpa using hcs⟩
 obtain ⟨A, len, c, rfl⟩ := hv
 obtain ⟨fl, rfl, hlc, _, hrd⟩ := qVl zc zj jK h4
 have hz3 := bounds_u64 w3
 refine ⟨⟨⟨z0, zs, zz, z2, z3.toNat, fl⟩, A, c⟩, ?_, hrd, hlc⟩
 simp only [Mc.cells]
 rw [Int.toNat_of_nonneg hz3.1]
theorem qKw {fuel len cap : Nat} {a : Option Addr} {x : DataW H × List MemPlace} (h : DataW.trod enc Tryz.prog w base spare held fuel 41 [.slice a len cap] = some x) :
  ∃ l : List Mc, l.length = len ∧ len ≤ cap ∧ cap ≤ 9223372036854775807 ∧ RawM w a l := by
 have hC : Tryz.prog.cellsOf 60 = 6 := by kernel_rfl
 rcases open_slice zab h with ⟨hcs, _⟩ | ⟨ad, l, c, m, n, D, Pl, hcs, _, hl, hm, hmm, _, hi⟩
 ·
  simp only [List.cons.injEq, Value.slice.injEq, and_true] at hcs
  obtain ⟨rfl, rfl, rfl⟩ := hcs
  exact ⟨[], rfl, zw _, jo, Rd.nil _ _ _, jp⟩
 simp only [List.cons.injEq, Value.slice.injEq, and_true] at hcs
 obtain ⟨rfl, rfl, rfl⟩ := hcs
 have hml : len ≤ m := by rw [hmm]; split <;> omega
 rw [hC] at hi
 have key : ∀ i, i < len → ∃ y : Mc, (∀ j, j < 6 → w.cell? ((ad.add (i * 6)).add j) = y.cells[j]?) ∧ Rd w 1 y.A y.m.flags.length (SB y.m.flags) ∧ y.m.flags.length ≤ y.c := by
  intro i hil
  obtain ⟨cs', hc, ht'⟩ := hi i jo
  obtain ⟨_, hcl, hat⟩ := World.cells?_some hc
  obtain ⟨y, rfl, h1, h2⟩ := qZ3 ht'
  exact ⟨y, fun j hj => hat j hj, h1, h2⟩
 obtain ⟨ls, hll, hq⟩ := fB len key
 have hcell : ∀ j u, (MC ls)[j]? = some u → w.cell? (ad.add j) = some u := by
  intro j u hu
  rw [show MC ls = ls.flatMap Mc.cells from rfl, gP Mc.cells 6 jo Mc.cells_len] at hu
  obtain ⟨y, hy, hu'⟩ := Option.bind_eq_some_iff.1 hu
  have := (hq _ y hy).1 (j % 6) (Nat.mod_lt _ jo)
  rw [Go.Proofs.YtgmbmfpfhcekiaaGreat.add_add, zej, Nat.div_add_mod] at this
  rw [this, hu']
 refine ⟨ls, hll, hl, by simpa [maxLen] using hm, ⟨by rw [oL], fun hn => ⟨ad, rfl, ?_, hcell⟩⟩, fun y hy => ?_⟩
 ·
  have h0 : 0 < (MC ls).length := by rw [oL]; omega
  have := World.block_lt_of_cell? w _ (hcell 0 _ (zb h0))
  rwa [eT] at this
 obtain ⟨i, hi', hli⟩ := zag hy
 exact (hq i y (by rw [zb hi', hli])).2
end
end
end Go.Proofs.YtgmbmfpfhcekiaaGreat
