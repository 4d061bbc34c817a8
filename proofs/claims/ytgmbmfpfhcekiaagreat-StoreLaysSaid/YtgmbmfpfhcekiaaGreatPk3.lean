/-
  Lemmas on the way, joined: StoS, StoT, StoV, StoW, SeqU, StoX, BoxI, BoxR, BoxQ, BoxK, StoY, StoZ, FlagA, BoxF, BoxX.
-/
import Derived.Test.YtgmbmfpfhcekiaaGreatPk2
set_option maxRecDepth 100000
set_option linter.unusedVariables false
set_option linter.unusedSimpArgs false
namespace Go.Proofs.YtgmbmfpfhcekiaaGreat
section
open Go.RowKit Go.Sort
theorem qQj {w w' : World} {m : MlC} {A : Option Addr} {c : Nat} {l : List Nc} (ho : Own w' 45 4 A l.length c (NDC l)) (hf : ∀ b ∈ ob A, w.heap.size ≤ b) (hl : l.length ≤ 1000000) (hx : ∀ w'', RdL w'' m → ∀ y ∈ l, y.At w'') : cM w w' (ob A) m (m.wl A c l) := by
 refine ⟨hf, fun w'' T kT hT hm => ?_⟩
 have ho := ho.frm kT (fun y hy h => hT y h hy)
 exact ⟨⟨ho.rd, hx w'' hm⟩, hm.s, ho.le, hm.sc, hl, hm.sn, hm.sq⟩
theorem qQk {q : Tx} {l : List Nc} {x : Nc} (h : goP q x.nm) : goC q (l ++ [x]) = goC q l ++ [x] ∧ stC q (l ++ [x]) = stC q l := by
 unfold goC stC
 simp [zbp, h]
theorem qQl {q : Tx} {l : List Nc} {x : Nc} (h : ¬ goP q x.nm) : goC q (l ++ [x]) = goC q l ∧ stC q (l ++ [x]) = stC q l ++ [x] := by
 unfold goC stC
 simp [zbp, h]
theorem qX8 {w : World} {x : Nc} (q t : Tx) (h : x.At w) : (eE q t x).At w := ⟨h.rd, h.n, by
 show (okD (dQ x.nm q t)).length ≤ _
 cases e : dQ x.nm q t with
 | error k => simp [okD]
 | ok s => have := sS e; show s.length ≤ _; omega⟩
set_option maxHeartbeats 2000000 in
theorem tE (m : MlC) (q t : Tx) (w : World) (hm : RdL w m) (hq : q.length ≤ 400000) (ht : t.length ≤ 400000) (hr : bN m.p.l) (h24 : m.l.length ≤ 24) (h0 : 1 ≤ m.v) (h1 : m.v ≤ 2147483647) (hL : rT m.p q t) (hv : cY w) :
  Calls Tryz.prog 63 #[m.val, encStr q, encStr t] w fun e w' => ∃ (m' : MlC) (k : Nat), e = .returned (.tuple #[m'.val, .int .i64 ((k : Nat) : Int)]) ∧ cE w w' m (jJ m.p q t) m' k ∧ Frm [] w w' := by
 have hln := hm.ln
 have hpl := dZ m
 have hdl : (goC q m.l).length + (stC q m.l).length ≤ m.l.length := nI _ _ (fun x h => by simp only [decide_eq_true_eq] at h; simp [h]) m.l
 have hgm : ∀ y ∈ goC q m.l, y ∈ m.l := fun y hy => (zdz.1 hy).1
 have hsm : ∀ y ∈ stC q m.l, y ∈ m.l := fun y hy => (zdz.1 hy).1
 have hgF : Ns (goC q m.l) = goF q m.p.l := qZq q m.l
 have hsF : Ns (stC q m.l) = stF q m.p.l := qZr q m.l
 have hsr : bN (stF q m.p.l) := hr.sublist (List.filter_sublist.map _)
 have hul : (upN t).length ≤ t.length := by
  by_cases h : t = []
  · subst h; decide
  have := gC h; omega
 refine VC.calls (nt := 119) (res := #[.cell 6 25, .tmp 7]) Tryz.func63 rfl Tryz.ntmps63 Tryz.results63 rfl ?_
 refine jS (jR ?_)
 refine Ops.m (qJ.box rfl) rfl ?_
 rintro _ w1 ⟨rfl, hF_w1⟩
 have hb1 : Blk w1 w.heap.size 25 #[.slice m.A m.l.length m.c, .slice m.S m.ss.length m.d, .int .i64 m.v, .int .i64 m.b] := hF_w1.blk
 have K := hF_w1.frm
 generalize hg1 : w.heap.size = g1 at hb1 ⊢
 refine Ops.m (qJ.alloc qI) rfl ?_
 rintro _ w2 ⟨rfl, hF2⟩
 have hb4 := hF2.blk
 have hg4 : w.heap.size ≤ w1.heap.size := K.size
 have hb1 := hb1.frm hF2.frm jp
 have hl1 := hb1.lt
 have hl4 := hb4.lt
 have K := K.trans hF2.frm jp
 have hne14 : g1 ≠ w1.heap.size := by have := hF_w1.size; omega
 have hg1s : w.heap.size ≤ g1 := jo
 generalize hg4' : w1.heap.size = g4 at hb4 hg4 hne14 hl4 ⊢
 refine jz 0 (jO (jN (jv4 1 2 3 6 ?_)))
 refine jS (jR (ja rfl (ja rfl (jO (jN (jS (jS (jR (jf rfl zd rfl zx (jl rfl zah (hb1.cell 0) (je (Run.lenS rfl ze) ?_)))))))))))
 refine jx .i64 0 ?_
 refine jO (jN (jv9 1 2 3 6 8 9 24 25 26 ?_))
 refine jB ?_
 refine VC.loop (σ := (Nat × Option Addr × Nat) × (Option Addr × Nat)) (fun s => [(1, encStr q), (2, encStr t), (3, .pointer (some ⟨g1, 0, none⟩)), (6, .pointer (some ⟨g4, 0, none⟩)), (8, .slice s.1.2.1 (goC q (m.l.take s.1.1)).length s.1.2.2), (9, .slice s.2.1 (stC q (m.l.take s.1.1)).length s.2.2), (24, .slice m.A m.l.length m.c), (25, .int .i64 ((m.l.length : Nat) : Int)), (26, .int .i64 ((s.1.1 : Nat) : Int))]) (fun s wr => s.1.1 ≤ m.l.length ∧ Blk wr g1 25 #[.slice m.A m.l.length m.c, .slice m.S m.ss.length m.d, .int .i64 m.v, .int .i64 m.b] ∧ Blk wr g4 25 qP.cells.toArray ∧ Own wr 45 4 s.1.2.1 (goC q (m.l.take s.1.1)).length s.1.2.2 (NDC (goC q (m.l.take s.1.1))) ∧ Own wr 45 4 s.2.1 (stC q (m.l.take s.1.1)).length s.2.2 (NDC (stC q (m.l.take s.1.1))) ∧ (∀ b ∈ ob s.1.2.1, w.heap.size ≤ b) ∧ (∀ b ∈ ob s.2.1, w.heap.size ≤ b) ∧ (∀ b ∈ ob s.1.2.1, b ∉ ob s.2.1) ∧ Frm [] w wr) (fun s => m.l.length - s.1.1) ((0, none, 0), (none, 0)) (js9 rfl rfl rfl rfl rfl rfl rfl rfl rfl) ⟨zam _, hb1, hb4, Own.nil _ _ _, Own.nil _ _ _, by simp [ob], by simp [ob], by simp [ob], K⟩ ?_
 rintro ⟨⟨i, Ag, cg⟩, ⟨As, cs⟩⟩ wr ⟨hi, hb1, hb4, hog, hos, hgg, hgs, hdis, K⟩
 dsimp only at *
 refine jS (jR (jb rfl rfl (Bin.lssN _ _) (jO (jN (jS ?_)))))
 refine jD rfl (fun hc1 => ?_) fun hc1 => ?_
 ·
  obtain ⟨ad, hA, hel⟩ := (hm.frm K).l.elem hc1
  have hxa := (hm.frm K).l.el _ (zr hc1)
  have hts : m.l.take (i + 1) = m.l.take i ++ [m.l[i]] := by rw [zar, zc hc1]; rfl
  have hbg : (goC q (m.l.take i)).length ≤ (m.l.take i).length := zbs _ _
  have hbs : (stC q (m.l.take i)).length ≤ (m.l.take i).length := zbs _ _
  have htk : (m.l.take i).length ≤ i := zco _ _
  generalize hx : m.l[i] = x at *
  refine jQ (jN (jv9 1 2 3 6 8 9 24 25 26 ?_))
  refine jS (jB (jS (jR (je (Run.indexS i (show _ = some (Value.slice (some ad) m.l.length m.c) by rw [← hA]; rfl) rfl ze zo hc1) (je (Run.loadA rfl zdc zo hel (by first | rfl | (simp; done))) ?_)))))
  refine Ops.m (qJ.alloc cN) rfl ?_
  rintro _ w3 ⟨rfl, hF3⟩
  refine Ops.st (qW.storeA rfl rfl zo hF3.blk rfl x.cells_one) ?_
  rintro w4 ⟨hb11, hf4, hs4⟩
  have hb11 : Blk w4 wr.heap.size 45 x.cells.toArray := hb11
  have K3 : Frm [] wr w4 := hF3.frm.trans hf4 jp
  have hb1 := hb1.frm K3 jp
  have hb4 := hb4.frm K3 jp
  have hog := hog.frm K3 jp
  have hos := hos.frm K3 jp
  have hKs_K3 := K.size
  have K := K.trans K3 jp
  have hxa := hxa.frm K3
  generalize hg11 : wr.heap.size = g11 at hb11 hKs_K3 ⊢
  refine jO (jN (jv10 1 2 3 6 8 9 11 24 25 26 ?_))
  refine jS ?_
  refine VC.meet (σ := Unit) (fun s => [(1, encStr q), (2, encStr t), (3, .pointer (some ⟨g1, 0, none⟩)), (6, .pointer (some ⟨g4, 0, none⟩)), (8, .slice Ag (goC q (m.l.take i)).length cg), (9, .slice As (stC q (m.l.take i)).length cs), (11, .pointer (some ⟨g11, 0, none⟩)), (24, .slice m.A m.l.length m.c), (25, .int .i64 ((m.l.length : Nat) : Int)), (26, .int .i64 ((i : Nat) : Int)), (40, .bool (decide (goP q x.nm)))]) (fun s wz => Frm [] w4 wz) ?_ ?_
  ·
   refine VC.held (fun W => Frm [] w4 W) jK ?_
   have hS : Frm [] w4 w4.drew := (Frm.refl _ _).drew
   refine jH 0 rfl hS (fun w0 hw0 => Run.mv rfl) ?_
   refine jH 2 rfl hS (fun w0 hw0 => Run.fieldAddr rfl zy rfl zp jd) ?_
   refine jH 3 rfl hS (fun w0 hw0 => Run.load rfl zab ((hb11.frm hw0 jp).cell 0)) ?_
   refine qZ.cl 1 rfl jK (jE1 zce) (bD q _ jo (hv.frm (K.trans hS jp))) trivial rfl rfl ?_
   rintro e wA ⟨rfl, hfA⟩
   have hSA := hS.trans hfA jp
   refine ⟨_, rfl, hSA, ?_⟩
   have hS := hSA
   refine jH 4 rfl hS (fun w0 hw0 => Run.eqlT rfl rfl) ?_
   refine jH 5 rfl hS (fun w0 hw0 => Run.mv rfl) ?_
   by_cases hs35 : qV q = x.nm
   ·
    refine qZ.skip 6 rfl jK jK jK hS rfl rfl (decide_eq_true hs35) rfl rfl ?_
    refine qZ.skip 7 rfl jK jK jK hS rfl rfl (decide_eq_true hs35) rfl rfl ?_
    refine qZ.skip 8 rfl jK jK jK hS rfl rfl (decide_eq_true hs35) rfl rfl ?_
    refine qZ.skip 9 rfl jK jK jK hS rfl rfl (decide_eq_true hs35) rfl rfl ?_
    refine jH 10 rfl hS (fun w0 hw0 => Run.pickT rfl rfl (decide_eq_true hs35)) ?_
    refine qZ.done jK ?_
    refine jN ⟨(), (js11 rfl rfl rfl rfl rfl rfl rfl rfl rfl rfl (by rw [show decide (goP q x.nm) = true from decide_eq_true (.inl hs35)]; rfl)), ?_⟩
    exact hS
   refine qZ.take 6 rfl jK jK jK hS (fun w0 hw0 => Run.fieldAddr rfl zy rfl zp jd) (Up.g rfl ((decide_eq_false hs35))) rfl rfl ?_
   refine qZ.take 7 rfl jK jK jK hS (fun w0 hw0 => Run.load rfl zab ((hb11.frm hw0 jp).cell 0)) (Up.g rfl ((decide_eq_false hs35))) rfl rfl ?_
   refine qZ.take 8 rfl jK jK jK hS (fun w0 hw0 => Run.mv rfl) (Up.g rfl ((decide_eq_false hs35))) rfl rfl ?_
   refine qZ.cl 9 rfl jK (jE2 Tryz.call57) (gJ x.nm q _ hxa.q jo (hv.frm (K.trans hS jp))) (Up.g rfl ((decide_eq_false hs35))) rfl rfl ?_
   rintro e wB ⟨rfl, hfB⟩
   have hSB := hS.trans hfB jp
   refine ⟨_, rfl, hSB, ?_⟩
   have hS := hSB
   refine jH 10 rfl hS (fun w0 hw0 => Run.pickF rfl rfl (decide_eq_false hs35)) ?_
   refine qZ.done jK ?_
   refine jN ⟨(), (js11 rfl rfl rfl rfl rfl rfl rfl rfl rfl rfl (by rw [show decide (goP q x.nm) = decide (cR x.nm q) from decide_eq_decide.2 ⟨fun h => h.resolve_left hs35, .inr⟩]; rfl)), ?_⟩
   exact hS
  rintro _ wz hfz Γ hΓ
  have hb1 := hb1.frm hfz jp
  have hb4 := hb4.frm hfz jp
  have hb11 := hb11.frm hfz jp
  have hog := hog.frm hfz jp
  have hos := hos.frm hfz jp
  have hKs_hfz := K.size
  have K := K.trans hfz jp
  refine jN (VC.sub _ hΓ ?_)
  refine VC.condB rfl (fun hc2 => ?_) (fun hc2 => ?_)
  ·
   have hc2 : goP q x.nm := of_decide_eq_true hc2
   refine jR (jm rfl (je (Run.loadA rfl zdc zo hb11.cells (by first | rfl | (simp; done))) ?_))
   refine Ops.m (qJ.buildS1 rfl ze zo cN jd jd rfl rfl) rfl ?_
   rintro _ w5 ⟨rfl, hF5⟩
   have hr5 : Rd w5 4 (some ⟨wz.heap.size, 0, none⟩) 1 (NDC [x]) := mE hF5
   have hF5f := hF5.frm
   have hb1 := hb1.frm hF5f jp
   have hb4 := hb4.frm hF5f jp
   have hog := hog.frm hF5f jp
   have hos := hos.frm hF5f jp
   have hKs_hF5f := K.size
   have K := K.trans hF5f jp
   refine Ops.m (qJ.app rfl rfl ze (fM) rfl jd hog hr5 (eV _) jo jo) rfl ?_
   rintro _ w6 ⟨B6, c6, rfl, ho6, hf6, hob6⟩
   rw [← cQ] at ho6
   obtain ⟨hg1', hg2'⟩ := qQk (l := m.l.take i) hc2
   rw [← hts] at hg1' hg2'
   have hgl : (goC q (m.l.take (i + 1))).length = (goC q (m.l.take i)).length + 1 := by rw [hg1', zm]; rfl
   have hb1 := hb1.frm hf6 (hog.ne_blk hb1 jd)
   have hb4 := hb4.frm hf6 (hog.ne_blk hb4 jd)
   have hol := hos.lt
   have hos := hos.frm hf6 (fun y hy h => hdis y h hy)
   have hKs5 := K.size
   have K := K.own hf6 hgg
   have hgg6 : ∀ b ∈ ob B6, w.heap.size ≤ b := fun b hb => by
    rcases hob6 with h | h
    · rw [h] at hb; exact hgg b hb
    rw [h, za] at hb; omega
   have hdis6 : ∀ b ∈ ob B6, b ∉ ob As := fun b hb h2 => by
    rcases hob6 with h | h
    · rw [h] at hb; exact hdis b hb h2
    rw [h, za] at hb; have := hol b h2; omega
   refine ja rfl (jO ?_)
   refine qT (jN ?_)
   refine jv9 1 2 3 6 8 9 24 25 26 ?_
   refine jR (jb rfl rfl (Bin.add_i64 _ 1 jo) (jm rfl (jO ?_)))
   refine jN ⟨((i + 1, B6, c6), (As, cs)), (js9 rfl rfl rfl rfl (by rw [hgl]; rfl) (by rw [hg2']; rfl) rfl rfl rfl), ?_, ?_⟩
   · exact ⟨hc1, hb1, hb4, by rw [hgl, hg1']; exact ho6, by rw [hg2']; exact hos, hgg6, hgs, hdis6, K⟩
   first | omega | (dsimp only; omega)
  have hc2 : ¬ goP q x.nm := of_decide_eq_false hc2
  refine jR (jm rfl (je (Run.loadA rfl zdc zo hb11.cells (by first | rfl | (simp; done))) ?_))
  refine Ops.m (qJ.buildS1 rfl ze zo cN jd jd rfl rfl) rfl ?_
  rintro _ w5 ⟨rfl, hF5⟩
  have hr5 : Rd w5 4 (some ⟨wz.heap.size, 0, none⟩) 1 (NDC [x]) := mE hF5
  have hF5f := hF5.frm
  have hb1 := hb1.frm hF5f jp
  have hb4 := hb4.frm hF5f jp
  have hog := hog.frm hF5f jp
  have hos := hos.frm hF5f jp
  have hKs_hF5f := K.size
  have K := K.trans hF5f jp
  refine Ops.m (qJ.app rfl rfl ze (fM) rfl jd hos hr5 (eV _) jo jo) rfl ?_
  rintro _ w6 ⟨B6, c6, rfl, ho6, hf6, hob6⟩
  rw [← cQ] at ho6
  obtain ⟨hg1', hg2'⟩ := qQl (l := m.l.take i) hc2
  rw [← hts] at hg1' hg2'
  have hgl : (stC q (m.l.take (i + 1))).length = (stC q (m.l.take i)).length + 1 := by rw [hg2', zm]; rfl
  have hb1 := hb1.frm hf6 (hos.ne_blk hb1 jd)
  have hb4 := hb4.frm hf6 (hos.ne_blk hb4 jd)
  have hol := hog.lt
  have hog := hog.frm hf6 (fun y hy h => hdis y hy h)
  have hKs5 := K.size
  have K := K.own hf6 hgs
  have hgs6 : ∀ b ∈ ob B6, w.heap.size ≤ b := fun b hb => by
   rcases hob6 with h | h
   · rw [h] at hb; exact hgs b hb
   rw [h, za] at hb; omega
  have hdis6 : ∀ b ∈ ob Ag, b ∉ ob B6 := fun b hb h2 => by
   rcases hob6 with h | h
   · rw [h] at h2; exact hdis b hb h2
   rw [h, za] at h2; have := hol b hb; omega
  refine ja rfl (jO ?_)
  refine qT (jN ?_)
  refine jv9 1 2 3 6 8 9 24 25 26 ?_
  refine jR (jb rfl rfl (Bin.add_i64 _ 1 jo) (jm rfl (jO ?_)))
  refine jN ⟨((i + 1, Ag, cg), (B6, c6)), (js9 rfl rfl rfl rfl (by rw [hg1']; rfl) (by rw [hgl]; rfl) rfl rfl rfl), ?_, ?_⟩
  · exact ⟨hc1, hb1, hb4, by rw [hg1']; exact hog, by rw [hgl, hg2']; exact ho6, hgg, hgs6, hdis6, K⟩
  first | omega | (dsimp only; omega)
 obtain rfl : i = m.l.length := jo
 rw [zak] at hog hos ⊢
 generalize hgd : goC q m.l = gs at *
 generalize hsd : stC q m.l = ss at *
 refine jX ?_
 refine qH (qH (qF ?_))
 refine jN (jv6 1 2 3 6 8 9 ?_)
 refine jS (jR (je (Run.loadA rfl zg zb hb1.cells (by first | rfl | (simp; done))) ?_))
 refine Ops.m (qJ.alloc qI) rfl ?_
 rintro _ w7 ⟨rfl, hF7⟩
 refine Ops.st (qW.storeA rfl rfl zb hF7.blk rfl (MlC.cells_one m)) ?_
 rintro w8 ⟨hb12, hf8, hs8⟩
 have hb12 : Blk w8 wr.heap.size 25 #[.slice m.A m.l.length m.c, .slice m.S m.ss.length m.d, .int .i64 m.v, .int .i64 m.b] := hb12
 have K8 : Frm [] wr w8 := hF7.frm.trans hf8 jp
 have hl1w := hb1.lt
 have hl4w := hb4.lt
 have hb1 := hb1.frm K8 jp
 have hb4 := hb4.frm K8 jp
 have hog := hog.frm K8 jp
 have hos := hos.frm K8 jp
 have hKs_K8 := K.size
 have K := K.trans K8 jp
 generalize hg12 : wr.heap.size = g12 at hb12 hKs_K8 hl1w hl4w ⊢
 refine jO (jN (jv7 1 2 3 6 8 9 12 ?_))
 refine jS (jR (jm rfl (jf rfl zd rfl zx ?_)))
 refine Ops.st (qW.store rfl rfl zx hb12 rfl rfl) ?_
 have hb12x := hb12
 rintro w9 ⟨hb12, (hf9 : Frm [g12] _ _), hs9⟩
 have hb12 : Blk w9 g12 25 (m.wl As cs ss).cells.toArray := hb12
 have hb1 := hb1.frm hf9 (by simp; omega)
 have hb4 := hb4.frm hf9 (by simp; omega)
 have hog := hog.frm hf9 (fun y hy h => by rw [za] at h; rw [h] at hy; exact hog.ne_blk hb12x jd hy)
 have hos := hos.frm hf9 (fun y hy h => by rw [za] at h; rw [h] at hy; exact hos.ne_blk hb12x jd hy)
 have K := K.own hf9 (fun y hy => by rw [za] at hy; omega)
 refine jO (jN (jv7 1 2 3 6 8 9 12 ?_))
 refine jS (jS (jR (jm rfl (je (Run.lenS rfl ze) ?_))))
 refine jx .i64 0 ?_
 refine jO (jN (jB ?_))
 refine VC.loop (σ := Nat) (fun s => [(1, encStr q), (2, encStr t), (3, .pointer (some ⟨g1, 0, none⟩)), (6, .pointer (some ⟨g4, 0, none⟩)), (8, .slice Ag gs.length cg), (9, .slice As ss.length cs), (12, .pointer (some ⟨g12, 0, none⟩)), (53, .slice Ag gs.length cg), (54, .int .i64 ((gs.length : Nat) : Int)), (55, .int .i64 ((s : Nat) : Int))]) (fun s wr => s ≤ gs.length ∧ Blk wr g1 25 #[.slice m.A m.l.length m.c, .slice m.S m.ss.length m.d, .int .i64 m.v, .int .i64 m.b] ∧ Blk wr g4 25 qP.cells.toArray ∧ Blk wr g12 25 (m.wl As cs ss).cells.toArray ∧ Own wr 45 4 Ag gs.length cg (NDC (fK q t gs s)) ∧ Own wr 45 4 As ss.length cs (NDC ss) ∧ (∀ j (h : j < gs.length), j < s → oI (Ns ss) q t (gs[j]).p) ∧ Frm [] w wr) (fun s => gs.length - s) 0 (js10 rfl rfl rfl rfl rfl rfl rfl rfl rfl rfl) ⟨zam _, hb1, hb4, hb12, hog, hos, fun _ _ h => jo, K⟩ ?_
 rintro k wr ⟨hk, hb1, hb4, hb12, hog, hos, hok, K⟩
 refine jS (jR (jb rfl rfl (Bin.lssN _ _) (jO (jN (jS ?_)))))
 refine jD rfl (fun hc3 => ?_) fun hc3 => ?_
 ·
  obtain ⟨gg, rfl⟩ : ∃ g, Ag = some ⟨g, 0, none⟩ := by
   rcases hog.cases with ⟨_, h0, _⟩ | ⟨g, _, h0, _⟩
   · omega
   exact ⟨g, h0⟩
  have hcl := qQh q t gs k hk
  have hkc : k < (fK q t gs k).length := jo
  have hcat := qXs q t gs k hc3 hkc
  have hsetn := fun s => qQg (fK q t gs k) k hkc s
  rw [hcat] at hsetn
  have hnext := yN q t gs k hc3
  have hmem := hgm gs[k] (zr hc3)
  have hxa := (hm.frm K).l.el _ hmem
  have hcell : ∀ j v, (gs[k]).cells[j]? = some v → wr.cell? (((⟨gg, 0, none⟩ : Addr).add (k * 4)).add j) = some v := fun j v hj => nL hog hc3 (by rw [xO hkc, hcat]; exact hj)
  obtain ⟨x, hx⟩ : ∃ x, x = gs[k] := ⟨_, rfl⟩
  rw [← hx] at hsetn hnext hmem hxa hcell
  refine jQ (jN (jv10 1 2 3 6 8 9 12 53 54 55 ?_))
  refine jS (jB (jS (jR (jm rfl (je (Run.indexS k rfl rfl ze zo hc3) (je (Run.loadA rfl zdc zo hcell (by first | rfl | (simp; done))) ?_))))))
  refine Ops.m (qJ.alloc cN) rfl ?_
  rintro _ wa ⟨rfl, hFa⟩
  refine jA ?_
  refine Ops.st (qW.storeA rfl rfl zo hFa.blk rfl x.cells_one) ?_
  rintro wb ⟨hb14, hfb, hsb⟩
  have hb14 : Blk wb wr.heap.size 45 x.cells.toArray := hb14
  have Kb : Frm [] wr wb := hFa.frm.trans hfb jp
  have hb1 := hb1.frm Kb jp
  have hb4 := hb4.frm Kb jp
  have hb12 := hb12.frm Kb jp
  have hog := hog.frm Kb jp
  have hos := hos.frm Kb jp
  have hKs_Kb := K.size
  have K := K.trans Kb jp
  generalize hg14 : wr.heap.size = g14 at hb14 hKs_Kb ⊢
  refine jO (jN (jv12 1 2 3 6 8 9 12 13 14 53 54 55 ?_))
  refine jS (jR (jf rfl zy rfl zp (jl rfl zab (hb14.cell 0) (jm rfl (jM ?_)))))
  refine Ops.cl (jE3 Tryz.call112) (wJ x.nm q t _ hxa.q jo jo (hv.frm K)) rfl ?_
  rintro e wc ⟨r, ke, rfl, hfc, hmv⟩
  refine ⟨_, rfl, ?_⟩
  have hb1 := hb1.frm hfc jp
  have hb4 := hb4.frm hfc jp
  have hb12 := hb12.frm hfc jp
  have hog := hog.frm hfc jp
  have hos := hos.frm hfc jp
  have hKs_hfc := K.size
  have K := K.trans hfc jp
  refine jm rfl (je (Run.extract rfl rfl) (je (Run.extract rfl rfl) (ja rfl (ja rfl (jO (jN (jv13 1 2 3 6 8 9 12 13 15 16 53 54 55 ?_)))))))
  refine jS (jS (jR (jm rfl (jb rfl rfl (Bin.neqN _ 0) (jO (jN (jv14 1 2 3 6 8 9 12 13 15 16 53 54 55 69 ?_)))))))
  refine jD rfl (fun hc4 => ?_) fun hc4 => ?_
  ·
   have hbad := qQf (k := k) (stay := Ns ss) (l := Ns gs) (f := q) (t := t) (e := ke) (by rw [bC]; exact hc3) (fun j hj hjk => by rw [show (Ns gs)[j] = (gs[j]'(by rw [bC] at hj; exact hj)).p from zbf _]; exact hok j _ hjk) (by rw [show (Ns gs)[k]'(by rw [bC]; exact hc3) = (gs[k]).p from zbf _, ← hx]; exact (hmv.resolve_left (fun h => hc4 h.1)).2.1)
   refine jS (jR (je (Run.build evs.nil qI (qR).choose_spec.1 (qR).choose_spec.2 rfl) (jM ?_)))
   refine Ops.st (qW.storeA rfl rfl zb hb4 rfl (MlC.cells_one qP)) ?_
   rintro wd ⟨hb4, (hfwd : Frm [g4] _ _), hswd⟩
   have hb4 : Blk wd g4 25 qP.cells.toArray := hb4
   have K := K.own hfwd (fun y hy => by rw [za] at hy; omega)
   refine ja rfl (jO (jN (jv2 6 7 ?_)))
   refine jT ?_
   refine qQ (qN (qQ (qQ (qN (qQ (bZ ?_))))))
   refine qS rfl zg zb (hb4.cells) (by first | rfl | (simp; done)) ?_
   refine qK rfl ?_
   refine qB ?_
   refine ⟨qP, ke, rfl, cE.err hc4 ?_, K⟩
   unfold jJ
   rw [← hgF, ← hsF, hbad]
  have hmv : dQ x.nm q t = .ok r := (hmv.resolve_right (fun h => h.1 jo)).2
  have hrl := sS hmv
  refine jQ (jN (jv12 1 2 3 6 8 9 12 13 15 53 54 55 ?_))
  refine jS (jS (jR (jm rfl (je (Run.build (evs.cons rfl evs.nil) qI (qR).choose_spec.1 (qR).choose_spec.2 rfl) (jM ?_)))))
  refine Ops.cl (jE2 zcy) (cV ⟨As, cs, ss, none, 0, [], 0, 0⟩ r _ ⟨hos.rd, fun y hy => (hm.frm K).l.el y (hsm y hy)⟩ (by show ss.length ≤ _; omega) jo (by show bN (Ns ss); rw [hsF]; exact hsr) (hv.frm K)) rfl ?_
  rintro e wd ⟨kk, rfl, hpos, hfd⟩
  refine ⟨_, rfl, ?_⟩
  have hb1 := hb1.frm hfd jp
  have hb4 := hb4.frm hfd jp
  have hb12 := hb12.frm hfd jp
  have hog := hog.frm hfd jp
  have hos := hos.frm hfd jp
  have hKs_hfd := K.size
  have K := K.trans hfd jp
  refine jm rfl (je (Run.extract rfl rfl) (je (Run.extract rfl rfl) (ja rfl (ja rfl (jO (jN (jv13 1 2 3 6 8 9 12 13 15 18 53 54 55 ?_)))))))
  refine jS (jR (jm rfl (jO (jN (jv13 1 2 3 6 8 9 12 13 15 53 54 55 79 ?_)))))
  refine VC.condB rfl (fun hc5 => ?_) (fun hc5 => ?_)
  ·
   have hc5 : qV r ∈ (Ns ss).map Prod.fst := of_decide_eq_true hc5
   have hbad := wP (k := k) (stay := Ns ss) (l := Ns gs) (f := q) (t := t) (s := r) (by rw [bC]; exact hc3) (fun j hj hjk => by rw [show (Ns gs)[j] = (gs[j]'(by rw [bC] at hj; exact hj)).p from zbf _]; exact hok j _ hjk) (by rw [show (Ns gs)[k]'(by rw [bC]; exact hc3) = (gs[k]).p from zbf _, ← hx]; exact hmv) hc5
   refine jS (jR (je (Run.build evs.nil qI (qR).choose_spec.1 (qR).choose_spec.2 rfl) ?_))
   refine Ops.st (qW.storeA rfl rfl zb hb4 rfl (MlC.cells_one qP)) ?_
   rintro we ⟨hb4, (hfwe : Frm [g4] _ _), hswe⟩
   have hb4 : Blk we g4 25 qP.cells.toArray := hb4
   have K := K.own hfwe (fun y hy => by rw [za] at hy; omega)
   refine jz 15 (jO (jN (jv2 6 7 ?_)))
   refine jT ?_
   refine qQ (qN (qQ (qQ (qN (qQ (bZ ?_))))))
   refine qS rfl zg zb (hb4.cells) (by first | rfl | (simp; done)) ?_
   refine qK rfl ?_
   refine qB ?_
   refine ⟨qP, 15, rfl, cE.err jd ?_, K⟩
   unfold jJ
   rw [← hgF, ← hsF, hbad]
  have hc5 : qV r ∉ (Ns ss).map Prod.fst := of_decide_eq_false hc5
  refine jQ (jN (jv12 1 2 3 6 8 9 12 13 15 53 54 55 ?_))
  refine jR (jm rfl (jm rfl (jm rfl (je (Run.indexS k rfl rfl ze zo hc3) (jf rfl zy rfl zp ?_)))))
  refine Ops.st (qW.storeOwn (k * 4 + 0) (by rw [← Go.Proofs.YtgmbmfpfhcekiaaGreat.add_add]; rfl) rfl zp hog rfl jo rfl) ?_
  rintro we ⟨hoe, (hfe : Frm [gg] _ _), hse⟩
  have hoe : Own we 45 4 (some ⟨gg, 0, none⟩) gs.length cg (NDC (fK q t gs (k + 1))) := by
   rw [← hnext r hmv, ← hsetn r]
   exact hoe
  have hb1 := hb1.frm hfe (hog.ne_blk hb1 jd)
  have hb4 := hb4.frm hfe (hog.ne_blk hb4 jd)
  have hb12 := hb12.frm hfe (hog.ne_blk hb12 jd)
  have hos := hos.frm hfe (fun y hy h => hdis y (by simpa [ob] using h) hy)
  have K := K.own hfe (fun y hy => hgg y (by simpa [ob] using hy))
  refine jO ?_
  refine qT (jN ?_)
  refine jv10 1 2 3 6 8 9 12 53 54 55 ?_
  refine jR (jb rfl rfl (Bin.add_i64 _ 1 jo) (jm rfl (jO ?_)))
  refine jN ⟨(k + 1), (js10 rfl rfl rfl rfl rfl rfl rfl rfl rfl rfl), ?_, ?_⟩
  ·
   refine ⟨hc3, hb1, hb4, hb12, hoe, hos, fun j hj hjk => ?_, K⟩
   by_cases e : j = k
   ·
    subst e
    exact ⟨r, by rw [← hx]; exact hmv, hc5⟩
   exact hok j hj jo
  first | omega | (dsimp only; omega)
 obtain rfl : k = gs.length := jo
 rw [qQi] at hog
 refine jX ?_
 refine qH (qH (qF ?_))
 refine jN (jv5 2 3 6 8 12 ?_)
 refine jS ?_
 refine VC.held (fun W => Frm [] wr W) jK ?_
 have hS : Frm [] wr wr.drew := (Frm.refl _ _).drew
 refine jH 0 rfl hS (fun w0 hw0 => Run.loadA rfl zg zb (fun j v hj => (hb12.frm hw0 jp).cells j v hj) (by first | rfl | (simp; done))) ?_
 refine jH 1 rfl hS (fun w0 hw0 => Run.mv rfl) ?_
 refine qZ.cl 2 rfl jK (jE1 Tryz.call104) (lH t _ jo (hv.frm (K.trans hS jp))) trivial rfl rfl ?_
 rintro e wf ⟨rfl, hff⟩
 have hSf := hS.trans hff jp
 refine ⟨_, rfl, hSf, ?_⟩
 have hS := hSf
 have hkm : cM w wr (ob As) m (m.wl As cs ss) := qQj hos hgs jo (fun w'' h y hy => h.l.el y (hsm y hy))
 have hmoS := (hkm.frm hS jp).now (hm.frm (K.trans hS jp))
 have hrS : bN (m.wl As cs ss).p.l := by show bN (Ns ss); rw [hsF]; exact hsr
 refine qZ.cl 3 rfl jK (jE2 Tryz.call47) (gH (m.wl As cs ss) (upN t) _ hmoS jo hrS (hv.frm (K.trans hS jp))) trivial rfl rfl ?_
 rintro e wg ⟨B, d, rfl, hob, hobb, hfg⟩
 have hSg := hS.trans hfg jp
 refine ⟨_, rfl, hSg, ?_⟩
 have hS := hSg
 have hb1 := hb1.frm hS jp
 have hb4 := hb4.frm hS jp
 have hb12 := hb12.frm hS jp
 have hog := hog.frm hS jp
 have hos := hos.frm hS jp
 have hkm := hkm.frm hS jp
 have hKs := K.size
 have K := K.trans hS jp
 have hnm := sN (m.wl As cs ss).p.l (upN t)
 have hmF : (m.wl As cs ss).p = { m.p with l := stF q m.p.l } := by show MailP.mk (Ns ss) _ _ _ = _; rw [hsF]; rfl
 generalize hnn : bF (m.wl As cs ss).p.l (upN t) = ms at *
 refine jH 4 rfl hS (fun w0 hw0 => Run.asg rfl) ?_
 refine qZ.done jK ?_
 refine jN (jv6 2 3 6 8 12 19 ?_)
 refine jS (jS (jR (je (Run.loadA rfl zg zb hb1.cells (by first | rfl | (simp; done))) (jm rfl (je (Run.lenS rfl zh) (jm rfl (je (Run.lenS rfl zh) ?_)))))))
 refine Ops.cl (jE3 Tryz.call48) (oE m ms.length ms.length _ hln jo jo jo jo) rfl ?_
 rintro e wh ⟨rfl, hfh⟩
 refine ⟨_, rfl, ?_⟩
 have hb1 := hb1.frm hfh jp
 have hb4 := hb4.frm hfh jp
 have hb12 := hb12.frm hfh jp
 have hog := hog.frm hfh jp
 have hos := hos.frm hfh jp
 have hKs_hfh := K.size
 have K := K.trans hfh jp
 have hkm := hkm.frm hfh jp
 have hro : bF (stF q m.p.l) (upN t) = ms := by rw [← hnn, hmF]
 refine ja rfl (jO (jN (jv5 2 6 8 12 20 ?_)))
 refine jS (jR (jm rfl (jb rfl rfl (Bin.neqN _ 0) (jO (jN (jv6 2 6 8 12 20 98 ?_))))))
 refine jD rfl (fun hc6 => ?_) fun hc6 => ?_
 ·
  refine jS (jR (je (Run.build evs.nil qI (qR).choose_spec.1 (qR).choose_spec.2 rfl) (jM ?_)))
  refine Ops.st (qW.storeA rfl rfl zb hb4 rfl (MlC.cells_one qP)) ?_
  rintro wi ⟨hb4, (hfwi : Frm [g4] _ _), hswi⟩
  have hb4 : Blk wi g4 25 qP.cells.toArray := hb4
  have K := K.own hfwi (fun y hy => by rw [za] at hy; omega)
  refine ja rfl (jO (jN (jv2 6 7 ?_)))
  refine jT ?_
  refine qQ (bZ ?_)
  refine qS rfl zg zb (hb4.cells) (by first | rfl | (simp; done)) ?_
  refine qK rfl ?_
  refine qB ?_
  refine ⟨qP, _, rfl, cE.err hc6 ?_, K⟩
  unfold jJ
  rw [← hgF, ← hsF, sR (fun j hj => by rw [show (Ns gs)[j] = (gs[j]'(by rw [bC] at hj; exact hj)).p from zbf _]; exact hok j _ (by rw [bC] at hj; exact hj))]
  dsimp only
  rw [hsF, hro, if_pos hc6]
 have hc6 : eT m.p ms.length ms.length = 0 := by omega
 obtain ⟨hro1, hro2⟩ := uD hc6
 have hsl : (m.wl As cs ss).p.l.length = ss.length := bC ss
 have hfo := oD (m.wl As cs ss).p (by show bN (Ns ss); rw [hsF]; exact hsr) ms ms.length (zaj _)
 rw [zak] at hfo
 obtain ⟨wj, hwj⟩ : ∃ wj, wj = wh := ⟨_, rfl⟩
 subst hwj
 refine jQ (jN (jv4 2 6 8 12 ?_))
 refine jS ?_
 refine VC.heldL 4 (fun W => Frm [] wj W) jK ?_
 have hS : Frm [] wj wj.drew := (Frm.refl _ _).drew
 refine jH 0 rfl hS (fun w0 hw0 => Run.loadA rfl zg zb (fun j v hj => (hb12.frm hw0 jp).cells j v hj) (by first | rfl | (simp; done))) ?_
 refine qZ.r1 1 rfl jK hS (Run.mv rfl) trivial rfl rfl ?_
 refine qZ.cl 2 rfl jK (jE1 Tryz.call104) (lH t _ jo (hv.frm (K.trans hS jp))) trivial rfl rfl ?_
 rintro e wk ⟨rfl, hfk⟩
 have hSk := hS.trans hfk jp
 refine ⟨_, rfl, hSk, ?_⟩
 have hS := hSk
 have hmoS := (hkm.frm hS jp).now (hm.frm (K.trans hS jp))
 have hrS : bN (m.wl As cs ss).p.l := by show bN (Ns ss); rw [hsF]; exact hsr
 refine qZ.cl 3 rfl jK (jE2 Tryz.call49) (nW (m.wl As cs ss) (upN t) _ hmoS jo hrS (by rw [hnn]; show ss.length + _ ≤ _; omega) (by show 0 ≤ m.v; omega) (by rw [hnn]; exact hro2) (hv.frm (K.trans hS jp))) trivial rfl rfl ?_
 rintro e wl ⟨mq, rfl, hmq, ⟨S2, hk2⟩, hfl⟩
 have hlt12 := (hb12.frm hS jp).lt
 have hlt4 := (hb4.frm hS jp).lt
 have hkk := (hkm.frm hS jp).trans hk2 hfl (zay K.size hS.size)
 have h12S : g12 ∉ ob As ++ S2 ∧ g4 ∉ ob As ++ S2 := ⟨fun h => by rcases zeq.1 h with h | h; exact hos.ne_blk hb12 jd h; have := hk2.1 _ h; omega, fun h => by rcases zeq.1 h with h | h; exact hos.ne_blk hb4 jd h; have := hk2.1 _ h; omega⟩
 have hSl := hS.trans hfl jp
 refine ⟨_, rfl, hSl, ?_⟩
 have hS := hSl
 refine qZ.stL rfl jK (qW.storeA rfl rfl zb (hb12.frm hS jp) rfl (MlC.cells_one mq)) trivial rfl ?_
 rintro wm ⟨hb12m, (hfm : Frm [g12] _ _), hsm'⟩
 have hb12m : Blk wm g12 25 mq.cells.toArray := hb12m
 have hne412 : g4 ≠ g12 := by omega
 have hb4 := (hb4.frm hS jp).frm hfm (by simpa using hne412)
 have hogS := hog.frm hS jp
 have hog := hogS.frm hfm (fun y hy h => by rw [za] at h; rw [h] at hy; exact hogS.ne_blk (hb12.frm hS jp) jd hy)
 have hkk := hkk.frm hfm (fun y hy h => by rw [za] at hy; rw [hy] at h; exact h12S.1 h)
 have K := (K.trans hS jp).own hfm (fun y hy => by rw [za] at hy; omega)
 have hmql : mq.l.length ≤ ss.length + ms.length := by
  have := hfo.2.2.1
  have e2 : mq.p = ms.foldl eZ (m.wl As cs ss).p := by rw [hmq]; unfold fP; rw [hnn]
  rw [← e2, dZ mq, hsl] at this
  exact this
 have hlay : ∀ j, j ≤ gs.length → bN ((((Ns gs).map (gQ q t)).take j).foldl oQ (fP (m.wl As cs ss).p (upN t))).l := fun j hj => by
  have := hL j (by rw [zba, ← hgF, bC]; exact hj)
  rw [← hgF, ← hmF] at this
  exact this
 refine qZ.done jK ?_
 refine jN (jv3 6 8 12 ?_)
 refine jS (jS (jR (jm rfl (je (Run.lenS rfl ze) ?_))))
 refine jx .i64 0 ?_
 refine jO (jN (jv5 6 12 105 106 107 ?_))
 refine jB ?_
 refine VC.loop (σ := Nat × MlC) (fun s => [(6, .pointer (some ⟨g4, 0, none⟩)), (12, .pointer (some ⟨g12, 0, none⟩)), (105, .slice Ag gs.length cg), (106, .int .i64 ((gs.length : Nat) : Int)), (107, .int .i64 ((s.1 : Nat) : Int))]) (fun s wr => s.1 ≤ gs.length ∧ Blk wr g4 25 qP.cells.toArray ∧ Blk wr g12 25 s.2.cells.toArray ∧ Own wr 45 4 Ag gs.length cg (NDC (gs.map (eE q t))) ∧ (∃ S, cM w wr S m s.2 ∧ g12 ∉ S ∧ g4 ∉ S) ∧ s.2.p = (((Ns gs).map (gQ q t)).take s.1).foldl oQ (fP (m.wl As cs ss).p (upN t)) ∧ s.2.l.length ≤ ss.length + ms.length + s.1 ∧ Frm [] w wr) (fun s => gs.length - s.1) (0, mq) (js5 rfl rfl rfl rfl rfl) ⟨zam _, hb4, hb12m, hog, ⟨_, hkk, h12S.1, h12S.2⟩, hmq, by dsimp only; omega, K⟩ ?_
 rintro ⟨j, mo⟩ wr ⟨hj, hb4, hb12, hog, ⟨S, hkS, hg12S, hg4S⟩, hmo, hmol, K⟩
 dsimp only at *
 refine jS (jR (jb rfl rfl (Bin.lssN _ _) (jO (jN (jS ?_)))))
 refine jD rfl (fun hc7 => ?_) fun hc7 => ?_
 ·
  obtain ⟨gg, rfl⟩ : ∃ g, Ag = some ⟨g, 0, none⟩ := by
   rcases hog.cases with ⟨_, h0, _⟩ | ⟨g, _, h0, _⟩
   · omega
   exact ⟨g, h0⟩
  have hgl : (gs.map (eE q t)).length = gs.length := zba _
  have hjc : j < (gs.map (eE q t)).length := by omega
  have hmem := hgm gs[j] (zr hc7)
  have hge : (gs.map (eE q t))[j] = eE q t gs[j] := zbf _
  have hya : ∀ w'', RdL w'' m → (eE q t gs[j]).At w'' := fun w'' h => qX8 q t (h.l.el _ hmem)
  have hcell : ∀ i v, (eE q t gs[j]).cells[i]? = some v → wr.cell? (((⟨gg, 0, none⟩ : Addr).add (j * 4)).add i) = some v := fun i v hi => nL hog hc7 (by rw [xO hjc, hge]; exact hi)
  have hfs : (((Ns gs).map (gQ q t)).take (j + 1)).foldl oQ (fP (m.wl As cs ss).p (upN t)) = oQ mo.p (eE q t gs[j]).p := by
   rw [zar, zez, ← hmo]
   have e : ((Ns gs).map (gQ q t))[j]? = some (eE q t gs[j]).p := by
    rw [zcv, show (Ns gs)[j]? = some (gs[j]).p by simp [Ns, hc7]]
    rfl
   rw [e]
   rfl
  have hrj := hlay j hj
  rw [← hmo] at hrj
  have hmoR := hkS.now (hm.frm K)
  generalize hy : eE q t gs[j] = y at *
  refine jQ (jN (jv5 6 12 105 106 107 ?_))
  refine jS (jB (jS (jR (je (Run.indexS j rfl rfl ze zo hc7) (je (Run.loadA rfl zdc zo hcell (by first | rfl | (simp; done))) ?_)))))
  refine Ops.m (qJ.alloc cN) rfl ?_
  rintro _ wa ⟨rfl, hFa⟩
  refine Ops.st (qW.storeA rfl rfl zo hFa.blk rfl y.cells_one) ?_
  rintro wb ⟨hb22, hfb, hsb⟩
  have hb22 : Blk wb wr.heap.size 45 #[encStr y.nm, .int .i64 y.v, .int .i64 y.n, .slice y.A y.l.length y.c] := hb22
  have Kb : Frm [] wr wb := hFa.frm.trans hfb jp
  have hb4 := hb4.frm Kb jp
  have hb12 := hb12.frm Kb jp
  have hog := hog.frm Kb jp
  have hKs_Kb := K.size
  have K := K.trans Kb jp
  have hkS := hkS.frm Kb jp
  have hyb := hya _ (hm.frm K)
  have hmoR := hkS.now (hm.frm K)
  generalize hg22 : wr.heap.size = g22 at hb22 hKs_Kb ⊢
  refine jO (jN (jv6 6 12 22 105 106 107 ?_))
  refine jR (je (Run.loadA rfl zg zb hb12.cells (by first | rfl | (simp; done))) (jf rfl zy rfl zp (jl rfl zab (hb22.cell 0) (jf rfl zy rfl zf (je (Run.loadA rfl zad zf (hb22.sub 1 (BVc y.v y.n y.A y.l.length y.c) rfl) (by first | rfl | (simp; done))) ?_)))))
  refine Ops.cl (jE3 Tryz.call113) (rX mo y.nm y.v y.n y.A y.c y.l _ hmoR jo hyb.q hrj hyb.rd hyb.n (hv.frm K)) rfl ?_
  rintro e wc ⟨A', c', kk, rfl, hkk, hpos, hoA, hobA, hfc⟩
  have hl12 := hb12.lt
  have hl4 := hb4.lt
  have hkS2 := yR hkS hfc K.size hkk jo hoA hobA (fun w'' h => ⟨(hya w'' h).rd, (hya w'' h).n, by show (qV y.nm).length ≤ _; rw [cW]; exact (hya w'' h).q⟩)
  have hstep := yP (x := y) (A := A') (c := c') hpos
  have hll := mF mo.l ⟨qV y.nm, y.v, y.n, y.A, y.c, y.l⟩ kk hkk
  have hS2n : g12 ∉ S ++ ob A' ∧ g4 ∉ S ++ ob A' := ⟨fun h => by rcases zeq.1 h with h | h; exact hg12S h; have := hobA _ h; omega, fun h => by rcases zeq.1 h with h | h; exact hg4S h; have := hobA _ h; omega⟩
  refine ⟨_, rfl, ?_⟩
  have hb4 := hb4.frm hfc jp
  have hb12 := hb12.frm hfc jp
  have hog := hog.frm hfc jp
  have hKs_hfc := K.size
  have K := K.trans hfc jp
  obtain ⟨mn, hmn⟩ : ∃ mn, mn = mo.wl A' c' (mo.l.take kk ++ ⟨qV y.nm, y.v, y.n, y.A, y.c, y.l⟩ :: mo.l.drop kk) := ⟨_, rfl⟩
  have hmnl : mn.l.length = mo.l.length + 1 := by rw [hmn]; exact hll
  rw [← hmn] at hkS2 hstep ⊢
  refine Ops.st (qW.storeA rfl rfl zb hb12 rfl (MlC.cells_one mn)) ?_
  have hb12x := hb12
  rintro wd ⟨hb12, (hfd : Frm [g12] _ _), hsd⟩
  have hb12 : Blk wd g12 25 mn.cells.toArray := hb12
  have hb4 := hb4.frm hfd (by simpa using hne412)
  have hog := hog.frm hfd (fun y hy h => by rw [za] at h; rw [h] at hy; exact hog.ne_blk hb12x jd hy)
  have hkS2 := hkS2.frm hfd (fun y hy h => by rw [za] at hy; rw [hy] at h; exact hS2n.1 h)
  have K := K.own hfd (fun y hy => by rw [za] at hy; omega)
  refine jO ?_
  refine qT (jN ?_)
  refine jv5 6 12 105 106 107 ?_
  refine jR (jb rfl rfl (Bin.add_i64 _ 1 jo) (jm rfl (jO ?_)))
  refine jN ⟨(j + 1, mn), (js5 rfl rfl rfl rfl rfl), ?_, ?_⟩
  · exact ⟨hc7, hb4, hb12, hog, ⟨_, hkS2, hS2n.1, hS2n.2⟩, by rw [hfs]; exact hstep, by dsimp only; omega, K⟩
  first | omega | (dsimp only; omega)
 refine jX ?_
 refine qH (qH (qF ?_))
 refine jN (jv2 6 12 ?_)
 refine jS (jR (je (Run.loadA rfl zg zb hb12.cells (by first | rfl | (simp; done))) ?_))
 refine Ops.st (qW.storeA rfl rfl zb hb4 rfl (MlC.cells_one mo)) ?_
 rintro we ⟨hb4, (hfe : Frm [g4] _ _), hse⟩
 have hb4 : Blk we g4 25 mo.cells.toArray := hb4
 refine jz 0 (jO (jN (jv2 6 7 ?_)))
 refine jT ?_
 refine bZ ?_
 refine qS rfl zg zb (hb4.cells) (by first | rfl | (simp; done)) ?_
 refine qK rfl ?_
 refine qB ?_
 obtain rfl : j = gs.length := by omega
 have hfull : ((Ns gs).map (gQ q t)).take gs.length = (Ns gs).map (gQ q t) := zw (by rw [zba, bC]; exact zaj _)
 rw [hfull] at hmo
 refine ⟨mo, 0, rfl, ⟨⟨S, hkS.frm hfe (fun y hy h => by rw [za] at hy; rw [hy] at h; exact hg4S h)⟩, .inl ⟨rfl, ?_⟩⟩, K.own hfe (fun y hy => by rw [za] at hy; omega)⟩
 unfold jJ
 rw [← hgF, ← hsF, sR (fun j hj => by rw [show (Ns gs)[j] = (gs[j]'(by rw [bC] at hj; exact hj)).p from zbf _]; exact hok j _ (by rw [bC] at hj; exact hj))]
 dsimp only
 rw [hsF, hro, if_neg jo, hmo, hmF]
end
section
open Go.RowKit Go.Sort
set_option maxHeartbeats 1000000 in
theorem sU (m : MlC) (q t : Tx) (w : World) (hm : RdL w m) (hq : q.length ≤ 400000) (ht : t.length ≤ 400000) (hL : rT m.p q t) (hin : qV q ≠ bX) (E : Except Nat MailP) (hv : cY w) :
  Calls Tryz.prog 19 #[m.val, encStr q, encStr t] w fun e w' => ∃ (m' : MlC) (k : Nat), e = .returned (.tuple #[m'.val, .int .i64 ((k : Nat) : Int)]) ∧ cE w w' m (eC m.p q t E) m' k ∧ Frm [] w w' := by
 have hln := hm.ln
 have hpl := dZ m
 refine VC.calls (nt := 65) (res := #[.cell 6 25, .tmp 7]) Tryz.func19 rfl Tryz.ntmps19 Tryz.results19 rfl ?_
 refine jS (jR ?_)
 refine Ops.m (qJ.box rfl) rfl ?_
 rintro _ w1 ⟨rfl, hF_w1⟩
 have hb1 : Blk w1 w.heap.size 25 #[.slice m.A m.l.length m.c, .slice m.S m.ss.length m.d, .int .i64 m.v, .int .i64 m.b] := hF_w1.blk
 have K := hF_w1.frm
 generalize hg1 : w.heap.size = g1 at hb1 ⊢
 refine Ops.m (qJ.alloc qI) rfl ?_
 rintro _ w2 ⟨rfl, hF2⟩
 have hb4 := hF2.blk
 have hg4 : w.heap.size ≤ w1.heap.size := K.size
 have hb1 := hb1.frm hF2.frm jp
 have hl1 := hb1.lt
 have hl4 := hb4.lt
 have K := K.trans hF2.frm jp
 have hne14 : g1 ≠ w1.heap.size := by have := hF_w1.size; omega
 have hg1s : w.heap.size ≤ g1 := jo
 generalize hg4' : w1.heap.size = g4 at hb4 hg4 hne14 hl4 ⊢
 refine jz 0 (jO (jN (jv4 1 2 3 6 ?_)))
 refine jS (jS (jR (je (Run.loadA rfl zg zb hb1.cells (by first | rfl | (simp; done))) ?_)))
 refine Ops.cl (jE1 zdq) (dR m _ (hm.frm K) (hv.frm K)) rfl ?_
 rintro e w3 ⟨rfl, hf3⟩
 refine ⟨_, rfl, ?_⟩
 have hb1 := hb1.frm hf3 jp
 have hb4 := hb4.frm hf3 jp
 have hKs_hf3 := K.size
 have K := K.trans hf3 jp
 refine je (Run.not rfl) (jO (jN (jv5 1 2 3 6 14 ?_)))
 refine VC.condB rfl (fun hc1 => ?_) (fun hc1 => ?_)
 ·
  have hc1 : ¬ bW m.p := by simpa using hc1
  refine jS (jR (je (Run.build evs.nil qI (qR).choose_spec.1 (qR).choose_spec.2 rfl) ?_))
  refine Ops.st (qW.storeA rfl rfl zb hb4 rfl (MlC.cells_one qP)) ?_
  rintro w4 ⟨hb4, (hfw4 : Frm [g4] _ _), hsw4⟩
  have hb4 : Blk w4 g4 25 qP.cells.toArray := hb4
  have K := K.own hfw4 (fun y hy => by rw [za] at hy; omega)
  refine jz 1 (jO (jN (jv2 6 7 ?_)))
  refine jT ?_
  refine qQ (bZ ?_)
  refine qS rfl zg zb (hb4.cells) (by first | rfl | (simp; done)) ?_
  refine qK rfl ?_
  refine qB ?_
  exact ⟨qP, 1, rfl, cE.err jd (by unfold eC; rw [if_pos hc1]), K⟩
 have hc1 : bW m.p := by simpa using hc1
 obtain ⟨hm24, hv1, hv2, hb0, hb2, hr, hinb⟩ := cA hc1
 refine jQ (jN (jv4 1 2 3 6 ?_))
 refine jS (jS ?_)
 refine VC.split1 [(1, _), (2, _), (3, _), (6, _)] (js4 rfl rfl rfl rfl) 23 (.bool (decide (¬ isN q ∨ ¬ isN t))) ?_ ?_
 ·
  refine jR (jM ?_)
  refine Ops.cl (jE1 zbw) (bI q _ jo (hv.frm K)) rfl ?_
  rintro e _ ⟨rfl, rfl⟩
  refine ⟨_, rfl, ?_⟩
  by_cases hs17 : isN q
  ·
   refine je (Run.not rfl) (jM ?_)
   refine jG ?_
   refine Ops.clg rfl au (jE1 zbw) (bI t _ jo (hv.frm K)) rfl ?_
   rintro e _ ⟨rfl, rfl⟩
   refine ⟨_, rfl, ?_⟩
   refine jk (Run.not rfl) ?_
   refine je (Run.pickF rfl rfl au) (jO ?_)
   refine jN ⟨(js5 (jC (by simp [*])) rfl rfl rfl rfl), rfl⟩
  refine je (Run.not rfl) (jM ?_)
  refine jU ?_
  refine jU ?_
  refine jU ?_
  refine je (Run.pickT rfl rfl au) (jO ?_)
  refine jN ⟨(js5 (jC (by simp [*])) rfl rfl rfl rfl), rfl⟩
 intro Γ hΓ
 refine jN (VC.sub _ hΓ ?_)
 refine jD rfl (fun hc2 => ?_) fun hc2 => ?_
 ·
  refine jS (jR (je (Run.build evs.nil qI (qR).choose_spec.1 (qR).choose_spec.2 rfl) ?_))
  refine Ops.st (qW.storeA rfl rfl zb hb4 rfl (MlC.cells_one qP)) ?_
  rintro w4 ⟨hb4, (hfw4 : Frm [g4] _ _), hsw4⟩
  have hb4 : Blk w4 g4 25 qP.cells.toArray := hb4
  have K := K.own hfw4 (fun y hy => by rw [za] at hy; omega)
  refine jz 18 (jO (jN (jv2 6 7 ?_)))
  refine jT ?_
  refine qQ (bZ ?_)
  refine qS rfl zg zb (hb4.cells) (by first | rfl | (simp; done)) ?_
  refine qK rfl ?_
  refine qB ?_
  exact ⟨qP, 18, rfl, cE.err jd (by unfold eC; rw [if_neg (not_not_intro hc1), if_pos hc2]), K⟩
 obtain ⟨hc2a, hc2b⟩ : isN q ∧ isN t := ⟨Classical.not_not.1 (fun h => hc2 (.inl h)), Classical.not_not.1 (fun h => hc2 (.inr h))⟩
 refine jQ (jN (jv4 1 2 3 6 ?_))
 refine jS (jR (je (Run.loadA rfl zg zb hb1.cells (by first | rfl | (simp; done))) (jM ?_)))
 refine Ops.cl (jE2 zcy) (cV m q _ (hm.frm K).l hln jo hr (hv.frm K)) rfl ?_
 rintro e w4 ⟨kf, rfl, hpos, hf4⟩
 refine ⟨_, rfl, ?_⟩
 have hb1 := hb1.frm hf4 jp
 have hb4 := hb4.frm hf4 jp
 have hKs_hf4 := K.size
 have K := K.trans hf4 jp
 refine jm rfl (je (Run.extract rfl rfl) (je (Run.extract rfl rfl) (ja rfl (ja rfl (jO (jN (jv6 1 2 3 6 8 9 ?_)))))))
 refine jS (jR (je (Run.loadA rfl zg zb hb1.cells (by first | rfl | (simp; done))) (jM ?_)))
 refine Ops.cl (jE2 zcy) (cV m t _ (hm.frm K).l hln jo hr (hv.frm K)) rfl ?_
 rintro e w5 ⟨kt, rfl, hpos2, hf5⟩
 refine ⟨_, rfl, ?_⟩
 have hb1 := hb1.frm hf5 jp
 have hb4 := hb4.frm hf5 jp
 have hKs_hf5 := K.size
 have K := K.trans hf5 jp
 refine jm rfl (je (Run.extract rfl rfl) (je (Run.extract rfl rfl) (ja rfl (ja rfl (jO (jN (jv7 1 2 3 6 8 9 11 ?_)))))))
 refine jS (jB (jS (jR (jm rfl (je (Run.not rfl) (ja rfl (jO (jN (jv7 1 2 3 6 8 11 37 ?_)))))))))
 refine VC.condB rfl (fun hc3 => ?_) (fun hc3 => ?_)
 ·
  have hc3 : qV q ∉ qL m.p := by simpa using hc3
  refine jS (jR (je (Run.build evs.nil qI (qR).choose_spec.1 (qR).choose_spec.2 rfl) ?_))
  refine Ops.st (qW.storeA rfl rfl zb hb4 rfl (MlC.cells_one qP)) ?_
  rintro w6 ⟨hb4, (hfw6 : Frm [g4] _ _), hsw6⟩
  have hb4 : Blk w6 g4 25 qP.cells.toArray := hb4
  have K := K.own hfw6 (fun y hy => by rw [za] at hy; omega)
  refine jz 6 (jO (jN (jv2 6 7 ?_)))
  refine jT ?_
  refine qN (qQ (bZ ?_))
  refine qS rfl zg zb (hb4.cells) (by first | rfl | (simp; done)) ?_
  refine qK rfl ?_
  refine qB ?_
  exact ⟨qP, 6, rfl, cE.err jd (by unfold eC; rw [if_neg (not_not_intro hc1), if_neg hc2, if_pos hc3]), K⟩
 have hc3 : qV q ∈ qL m.p := by simpa using hc3
 refine jS (jR (jm rfl (ja rfl (jO (jN (jv6 1 2 3 6 8 41 ?_))))))
 refine VC.condB rfl (fun hc4 => ?_) (fun hc4 => ?_)
 ·
  have hc4 : qV t ∈ qL m.p := by simpa using hc4
  refine jS (jR (je (Run.build evs.nil qI (qR).choose_spec.1 (qR).choose_spec.2 rfl) ?_))
  refine Ops.st (qW.storeA rfl rfl zb hb4 rfl (MlC.cells_one qP)) ?_
  rintro w6 ⟨hb4, (hfw6 : Frm [g4] _ _), hsw6⟩
  have hb4 : Blk w6 g4 25 qP.cells.toArray := hb4
  have K := K.own hfw6 (fun y hy => by rw [za] at hy; omega)
  refine jz 15 (jO (jN (jv2 6 7 ?_)))
  refine jT ?_
  refine qN (qQ (bZ ?_))
  refine qS rfl zg zb (hb4.cells) (by first | rfl | (simp; done)) ?_
  refine qK rfl ?_
  refine qB ?_
  exact ⟨qP, 15, rfl, cE.err jd (by unfold eC; rw [if_neg (not_not_intro hc1), if_neg hc2, if_neg (not_not_intro hc3), if_pos hc4]), K⟩
 have hc4 : qV t ∉ qL m.p := by simpa using hc4
 refine jS (jR (jM ?_))
 refine Ops.cl (jE1 zce) (bD q _ jo (hv.frm K)) rfl ?_
 rintro e w6 ⟨rfl, hf6⟩
 refine ⟨_, rfl, ?_⟩
 have hb1 := hb1.frm hf6 jp
 have hb4 := hb4.frm hf6 jp
 have hKs_hf6 := K.size
 have K := K.trans hf6 jp
 refine je (Run.eqlT rfl rfl) (ja rfl (jO (jN (jv6 1 2 3 6 8 44 ?_))))
 refine VC.condF rfl (decide_eq_false hin) ?_
 refine jS (jR (jm rfl (jM ?_)))
 refine Ops.cl (jE2 Tryz.call57) (gJ t q _ jo jo (hv.frm K)) rfl ?_
 rintro e w7 ⟨rfl, hf7⟩
 refine ⟨_, rfl, ?_⟩
 have hb1 := hb1.frm hf7 jp
 have hb4 := hb4.frm hf7 jp
 have hKs_hf7 := K.size
 have K := K.trans hf7 jp
 refine ja rfl (jO (jN (jv5 1 2 3 6 54 ?_)))
 refine VC.condB rfl (fun hc6 => ?_) (fun hc6 => ?_)
 ·
  have hc6 : cR t q := by simpa using hc6
  refine jS (jR (je (Run.build evs.nil qI (qR).choose_spec.1 (qR).choose_spec.2 rfl) ?_))
  refine Ops.st (qW.storeA rfl rfl zb hb4 rfl (MlC.cells_one qP)) ?_
  rintro w8 ⟨hb4, (hfw8 : Frm [g4] _ _), hsw8⟩
  have hb4 : Blk w8 g4 25 qP.cells.toArray := hb4
  have K := K.own hfw8 (fun y hy => by rw [za] at hy; omega)
  refine jz 16 (jO (jN (jv2 6 7 ?_)))
  refine jT ?_
  refine qN (qQ (bZ ?_))
  refine qS rfl zg zb (hb4.cells) (by first | rfl | (simp; done)) ?_
  refine qK rfl ?_
  refine qB ?_
  exact ⟨qP, 16, rfl, cE.err jd (by unfold eC; rw [if_neg (not_not_intro hc1), if_neg hc2, if_neg (not_not_intro hc3), if_neg hc4, if_neg hin, if_pos hc6]), K⟩
 have hc6 : ¬ cR t q := by simpa using hc6
 refine jQ ?_
 refine qT (jN ?_)
 refine jv4 1 2 3 6 ?_
 refine jS (jR (je (Run.loadA rfl zg zb hb1.cells (by first | rfl | (simp; done))) (jm rfl (jM ?_))))
 refine Ops.cl (jE3 Tryz.call63) (tE m q t _ (hm.frm K) hq ht hr hm24 hv1 hv2 hL (hv.frm K)) rfl ?_
 rintro e w8 ⟨m', k, rfl, ⟨⟨S, hkS⟩, hres⟩, hf8⟩
 have hl47 := hb4.lt
 refine ⟨_, rfl, ?_⟩
 have hb1 := hb1.frm hf8 jp
 have hb4 := hb4.frm hf8 jp
 have hKs_hf8 := K.size
 have K := K.trans hf8 jp
 refine je (Run.extract rfl rfl) (je (Run.extract rfl rfl) ?_)
 refine Ops.st (qW.storeA rfl rfl zb hb4 rfl (MlC.cells_one m')) ?_
 rintro w9 ⟨hb4, (hf9 : Frm [g4] _ _), hs9⟩
 have hb4 : Blk w9 g4 25 m'.cells.toArray := hb4
 have hkS9 := (hkS.old hKs_hf8).frm hf9 (fun y hy h => by rw [za] at hy; rw [hy] at h; have := hkS.1 _ h; omega)
 have K := K.own hf9 (fun y hy => by rw [za] at hy; omega)
 refine ja rfl (jO (jN (jv2 6 7 ?_)))
 refine jT ?_
 refine bZ ?_
 refine qS rfl zg zb (hb4.cells) (by first | rfl | (simp; done)) ?_
 refine qK rfl ?_
 refine qB ?_
 refine ⟨m', k, rfl, ⟨⟨S, hkS9⟩, ?_⟩, K⟩
 have e : eC m.p q t E = jJ m.p q t := by
  unfold eC
  rw [if_neg (not_not_intro hc1), if_neg hc2, if_neg (not_not_intro hc3), if_neg hc4, if_neg hin, if_neg hc6]
 rw [e]
 exact hres
end
section
open Go.RowKit
def aT : Tx := [97]
def abT : Tx := [97, 47, 98]
def cT : Tx := [99]
def cbT : Tx := [99, 47, 98]
def csT : Tx := [99, 42]
def qQ3 : Tx := [105, 110, 98, 111, 120]
def mA : MailP := ⟨[(bX, ⟨1, 1, []⟩), (aT, ⟨2, 1, []⟩), (abT, ⟨3, 1, []⟩)], [], 3, 0⟩
def mB : MailP := ⟨[(bX, ⟨1, 1, []⟩), (cT, ⟨2, 1, []⟩), (cbT, ⟨3, 1, []⟩)], [], 3, 0⟩
theorem qZs : fL newM abT = .ok mA := by kernel_rfl
theorem qZt : lW mA aT = some ⟨2, 1, []⟩ := by kernel_rfl
theorem qX9 : lW mA abT = some ⟨3, 1, []⟩ := by kernel_rfl
theorem qZa : eC mA aT cT (.error 0) = .ok mB := by kernel_rfl
theorem qZb : (goF aT mA.l).map (gQ aT cT) = [(cT, ⟨2, 1, []⟩), (cbT, ⟨3, 1, []⟩)] := by kernel_rfl
theorem qZc : rT mA aT cT := by
 unfold rT
 rw [qZb]
 intro j hj
 have hj2 : j ≤ 2 := hj
 have h : j = 0 ∨ j = 1 ∨ j = 2 := jo
 unfold bN
 rcases h with rfl | rfl | rfl
 · exact of_decide_eq_true jK
 · exact of_decide_eq_true jK
 exact of_decide_eq_true jK
theorem qZu : qV aT ≠ bX := of_decide_eq_true jK
theorem qZv : eU mB cT = .error 16 := by kernel_rfl
theorem qZw : eU mB qQ3 = .error 17 := by kernel_rfl
theorem qZx : lP mB csT false = [cT, cbT] := by kernel_rfl
end
section
open Go.RowKit Go.Sort
set_option maxHeartbeats 1000000 in
theorem fB (w : World) (hv : cY w) : Calls Tryz.prog 16 #[] w fun e w' => e = .returned (.bool true) ∧ Frm [] w w' := by
 have K := Frm.refl [] w
 refine VC.calls (nt := 95) (res := #[.tmp 0]) Tryz.func16 rfl Tryz.ntmps16 Tryz.results16 rfl ?_
 refine jS (jR (ja rfl (jO (jN ?_))))
 refine VC.sub [] .nil ?_
 refine jS (jR ?_)
 refine Ops.cl (jE0 Tryz.call28) (yM _) rfl ?_
 rintro e w1 ⟨m0, rfl, hm0, ⟨S0, hk0⟩, hfw1⟩
 refine ⟨_, rfl, ?_⟩
 have hv := hv.frm hfw1
 have K := K.trans hfw1 jp
 have hm0R := hk0.now (RdL.zero _)
 refine Ops.cl (jE2 Tryz.call13) (sP m0 abT _ hm0R jd hv) rfl ?_
 rintro e w2 ⟨ma, ke, rfl, ⟨⟨Sa, hka⟩, hra⟩, hfw2⟩
 refine ⟨_, rfl, ?_⟩
 have hm0R := hm0R.frm hfw2
 have hv := hv.frm hfw2
 have K := K.trans hfw2 jp
 have hmaR := hka.now hm0R
 rw [hm0, qZs] at hra
 obtain ⟨rfl, hma⟩ : ke = 0 ∧ mA = ma.p := by
  rcases hra with ⟨h1, h2⟩ | ⟨h1, h2, _⟩
  · exact ⟨h1, Except.ok.inj h2⟩
  cases h2
 refine jm rfl (je (Run.extract rfl rfl) (je (Run.extract rfl rfl) ?_))
 refine Ops.m (qJ.alloc qI) rfl ?_
 rintro _ w3 ⟨rfl, hFw3⟩
 refine Ops.st (qW.storeA rfl rfl zb hFw3.blk rfl (MlC.cells_one ma)) ?_
 rintro w4 ⟨hba, hfw4, hsw4⟩
 have hba : Blk w4 w2.heap.size 25 (ma.cells.toArray) := hba
 have Kw4 : Frm [] w2 w4 := hFw3.frm.trans hfw4 jp
 have hm0R := hm0R.frm Kw4
 have hmaR := hmaR.frm Kw4
 have hv := hv.frm Kw4
 have K := K.trans Kw4 jp
 generalize w2.heap.size = ga at hba ⊢
 refine ja rfl (jO (jN (jv2 1 2 ?_)))
 refine jS (jR (je (Run.loadA rfl zg zb hba.cells (by first | rfl | (simp; done))) ?_))
 refine Ops.cl (jE2 Tryz.call23) (oA ma aT _ hmaR jd hv) rfl ?_
 rintro e w5 ⟨vx, nx, Bx, dx, lx, bx, rfl, hOMx, hcx, hfw5⟩
 refine ⟨_, rfl, ?_⟩
 have hm0R := hm0R.frm hfw5
 have hmaR := hmaR.frm hfw5
 have hba := hba.frm hfw5 jp
 have hv := hv.frm hfw5
 have K := K.trans hfw5 jp
 rw [← hma, qZt] at hcx
 obtain ⟨rfl, rfl⟩ : bx = true ∧ vx = 2 := by
  rcases hcx with ⟨h1, h2⟩ | ⟨_, h2, _⟩
  · exact ⟨h1, (BoxV.mk.inj (Option.some.inj h2)).1.symm⟩
  cases h2
 refine jm rfl (je (Run.extract rfl rfl) (je (Run.extract rfl rfl) ?_))
 refine Ops.m (qJ.alloc bH) rfl ?_
 rintro _ w6 ⟨rfl, hFw6⟩
 refine Ops.st (qW.storeA rfl rfl zf hFw6.blk rfl (bK _ _ _ _ _)) ?_
 rintro w7 ⟨hbx, hfw7, hsw7⟩
 have hbx : Blk w7 w5.heap.size 43 ((BVc 2 nx Bx lx.length dx).toArray) := hbx
 have Kw7 : Frm [] w5 w7 := hFw6.frm.trans hfw7 jp
 have hm0R := hm0R.frm Kw7
 have hmaR := hmaR.frm Kw7
 have hba := hba.frm Kw7 jp
 have hv := hv.frm Kw7
 have K := K.trans Kw7 jp
 generalize w5.heap.size = gx at hbx ⊢
 refine ja rfl (jO (jN (jv4 1 2 3 4 ?_)))
 refine jS (jR (je (Run.loadA rfl zg zb hba.cells (by first | rfl | (simp; done))) ?_))
 refine Ops.cl (jE2 Tryz.call23) (oA ma abT _ hmaR jd hv) rfl ?_
 rintro e w8 ⟨vz, nz, Bz, dz, lz, bz, rfl, hOMz, hcz, hfw8⟩
 refine ⟨_, rfl, ?_⟩
 have hm0R := hm0R.frm hfw8
 have hmaR := hmaR.frm hfw8
 have hba := hba.frm hfw8 jp
 have hbx := hbx.frm hfw8 jp
 have hv := hv.frm hfw8
 have K := K.trans hfw8 jp
 rw [← hma, qX9] at hcz
 obtain ⟨rfl, rfl⟩ : bz = true ∧ vz = 3 := by
  rcases hcz with ⟨h1, h2⟩ | ⟨_, h2, _⟩
  · exact ⟨h1, (BoxV.mk.inj (Option.some.inj h2)).1.symm⟩
  cases h2
 refine jm rfl (je (Run.extract rfl rfl) (je (Run.extract rfl rfl) ?_))
 refine Ops.m (qJ.alloc bH) rfl ?_
 rintro _ w9 ⟨rfl, hFw9⟩
 refine Ops.st (qW.storeA rfl rfl zf hFw9.blk rfl (bK _ _ _ _ _)) ?_
 rintro w10 ⟨hby, hfw10, hsw10⟩
 have hby : Blk w10 w8.heap.size 43 ((BVc 3 nz Bz lz.length dz).toArray) := hby
 have Kw10 : Frm [] w8 w10 := hFw9.frm.trans hfw10 jp
 have hm0R := hm0R.frm Kw10
 have hmaR := hmaR.frm Kw10
 have hba := hba.frm Kw10 jp
 have hbx := hbx.frm Kw10 jp
 have hv := hv.frm Kw10
 have K := K.trans Kw10 jp
 generalize w8.heap.size = gy at hby ⊢
 refine ja rfl (jO (jN (jv6 1 2 3 4 5 6 ?_)))
 refine jS (jR (je (Run.loadA rfl zg zb hba.cells (by first | rfl | (simp; done))) ?_))
 refine Ops.cl (jE3 Tryz.call19) (sU ma aT cT _ hmaR jd jd (by rw [← hma]; exact qZc) qZu (.error 0) hv) rfl ?_
 rintro e w11 ⟨mb, kf, rfl, ⟨⟨Sb, hkb⟩, hrb⟩, hfw11⟩
 refine ⟨_, rfl, ?_⟩
 have hm0R := hm0R.frm hfw11
 have hmaR := hmaR.frm hfw11
 have hba := hba.frm hfw11 jp
 have hbx := hbx.frm hfw11 jp
 have hby := hby.frm hfw11 jp
 have hv := hv.frm hfw11
 have K := K.trans hfw11 jp
 have hmbR := hkb.now hmaR
 rw [← hma, qZa] at hrb
 obtain ⟨rfl, hmb⟩ : kf = 0 ∧ mB = mb.p := by
  rcases hrb with ⟨h1, h2⟩ | ⟨h1, h2, _⟩
  · exact ⟨h1, Except.ok.inj h2⟩
  cases h2
 refine jm rfl (je (Run.extract rfl rfl) (je (Run.extract rfl rfl) ?_))
 refine Ops.m (qJ.alloc qI) rfl ?_
 rintro _ w12 ⟨rfl, hFw12⟩
 refine Ops.st (qW.storeA rfl rfl zb hFw12.blk rfl (MlC.cells_one mb)) ?_
 rintro w13 ⟨hbb, hfw13, hsw13⟩
 have hbb : Blk w13 w11.heap.size 25 (mb.cells.toArray) := hbb
 have Kw13 : Frm [] w11 w13 := hFw12.frm.trans hfw13 jp
 have hm0R := hm0R.frm Kw13
 have hmaR := hmaR.frm Kw13
 have hba := hba.frm Kw13 jp
 have hbx := hbx.frm Kw13 jp
 have hby := hby.frm Kw13 jp
 have hmbR := hmbR.frm Kw13
 have hv := hv.frm Kw13
 have K := K.trans Kw13 jp
 generalize w11.heap.size = gb at hbb ⊢
 refine ja rfl (jO (jN (jv7 2 3 4 5 6 7 8 ?_)))
 refine jS (jR (je (Run.loadA rfl zg zb hbb.cells (by first | rfl | (simp; done))) ?_))
 refine Ops.cl (jE2 Tryz.call17) (mR mb cT _ hmbR jd hv) rfl ?_
 rintro e w14 ⟨mg, kg, rfl, ⟨⟨Sg, hkg⟩, hrg⟩, hfw14⟩
 refine ⟨_, rfl, ?_⟩
 have hm0R := hm0R.frm hfw14
 have hmaR := hmaR.frm hfw14
 have hba := hba.frm hfw14 jp
 have hbx := hbx.frm hfw14 jp
 have hby := hby.frm hfw14 jp
 have hmbR := hmbR.frm hfw14
 have hbb := hbb.frm hfw14 jp
 have hv := hv.frm hfw14
 have K := K.trans hfw14 jp
 rw [← hmb, qZv] at hrg
 obtain rfl : kg = 16 := by
  rcases hrg with ⟨_, h2⟩ | ⟨_, h2, _⟩
  · cases h2
  injection h2 with h2; exact h2.symm
 refine jm rfl (je (Run.extract rfl rfl) (je (Run.extract rfl rfl) ?_))
 refine Ops.m (qJ.alloc qI) rfl ?_
 rintro _ w15 ⟨rfl, hFw15⟩
 refine Ops.st (qW.storeA rfl rfl zb hFw15.blk rfl (MlC.cells_one mg)) ?_
 rintro w16 ⟨hbg9, hfw16, hsw16⟩
 have hbg9 : Blk w16 w14.heap.size 25 (mg.cells.toArray) := hbg9
 have Kw16 : Frm [] w14 w16 := hFw15.frm.trans hfw16 jp
 have hm0R := hm0R.frm Kw16
 have hmaR := hmaR.frm Kw16
 have hba := hba.frm Kw16 jp
 have hbx := hbx.frm Kw16 jp
 have hby := hby.frm Kw16 jp
 have hmbR := hmbR.frm Kw16
 have hbb := hbb.frm Kw16 jp
 have hv := hv.frm Kw16
 have K := K.trans Kw16 jp
 generalize w14.heap.size = gg9 at hbg9 ⊢
 refine ja rfl (jO (jN (jv8 2 3 4 5 6 7 8 10 ?_)))
 refine jS (jR (je (Run.loadA rfl zg zb hbb.cells (by first | rfl | (simp; done))) ?_))
 refine Ops.cl (jE2 Tryz.call17) (mR mb qQ3 _ hmbR jd hv) rfl ?_
 rintro e w17 ⟨mh, kh, rfl, ⟨⟨Sh, hkh⟩, hrh⟩, hfw17⟩
 refine ⟨_, rfl, ?_⟩
 have hm0R := hm0R.frm hfw17
 have hmaR := hmaR.frm hfw17
 have hba := hba.frm hfw17 jp
 have hbx := hbx.frm hfw17 jp
 have hby := hby.frm hfw17 jp
 have hmbR := hmbR.frm hfw17
 have hbb := hbb.frm hfw17 jp
 have hbg9 := hbg9.frm hfw17 jp
 have hv := hv.frm hfw17
 have K := K.trans hfw17 jp
 rw [← hmb, qZw] at hrh
 obtain rfl : kh = 17 := by
  rcases hrh with ⟨_, h2⟩ | ⟨_, h2, _⟩
  · cases h2
  injection h2 with h2; exact h2.symm
 refine jm rfl (je (Run.extract rfl rfl) (je (Run.extract rfl rfl) ?_))
 refine Ops.m (qJ.alloc qI) rfl ?_
 rintro _ w18 ⟨rfl, hFw18⟩
 refine Ops.st (qW.storeA rfl rfl zb hFw18.blk rfl (MlC.cells_one mh)) ?_
 rintro w19 ⟨hbg11, hfw19, hsw19⟩
 have hbg11 : Blk w19 w17.heap.size 25 (mh.cells.toArray) := hbg11
 have Kw19 : Frm [] w17 w19 := hFw18.frm.trans hfw19 jp
 have hm0R := hm0R.frm Kw19
 have hmaR := hmaR.frm Kw19
 have hba := hba.frm Kw19 jp
 have hbx := hbx.frm Kw19 jp
 have hby := hby.frm Kw19 jp
 have hmbR := hmbR.frm Kw19
 have hbb := hbb.frm Kw19 jp
 have hbg9 := hbg9.frm Kw19 jp
 have hv := hv.frm Kw19
 have K := K.trans Kw19 jp
 generalize w17.heap.size = gg11 at hbg11 ⊢
 refine ja rfl (jO (jN (jv9 2 3 4 5 6 7 8 10 12 ?_)))
 refine jS (jR (je (Run.loadA rfl zg zb hbb.cells (by first | rfl | (simp; done))) ?_))
 refine Ops.cl (jE3 Tryz.call27) (wN mb csT false _ hmbR jd hv) rfl ?_
 rintro e w20 ⟨Bl, dl, ss, rfl, hol, hss, _, hfw20⟩
 refine ⟨_, rfl, ?_⟩
 have hm0R := hm0R.frm hfw20
 have hmaR := hmaR.frm hfw20
 have hba := hba.frm hfw20 jp
 have hbx := hbx.frm hfw20 jp
 have hby := hby.frm hfw20 jp
 have hmbR := hmbR.frm hfw20
 have hbb := hbb.frm hfw20 jp
 have hbg9 := hbg9.frm hfw20 jp
 have hbg11 := hbg11.frm hfw20 jp
 have hv := hv.frm hfw20
 have K := K.trans hfw20 jp
 rw [← hmb, qZx] at hss
 subst hss
 obtain ⟨adl, rfl, hel0⟩ := hol.rd.elem (k := 0) jd
 obtain ⟨_, h1, hel1⟩ := hol.rd.elem (k := 1) jd
 cases h1
 refine ja rfl (jO (jN (jv9 2 3 4 5 6 8 10 12 13 ?_)))
 refine jS ?_
 refine VC.split1 [] .nil 0 (.bool (decide (True))) ?_ ?_
 ·
  refine jR ?_
  refine jm rfl (jb rfl rfl (Bin.eqlN _ 0) (jM ?_))
  refine jG ?_
  refine je (Run.pickT rfl rfl au) (jM ?_)
  refine jk (Run.fieldAddr rfl zj rfl zi jd) ?_
  refine jk (Run.load rfl zn (hbx.cell 0)) ?_
  refine jk (Run.bin rfl rfl (Bin.eql _ 2)) ?_
  refine je (Run.pickT rfl rfl au) (jM ?_)
  refine jG ?_
  refine je (Run.pickT rfl rfl au) (jM ?_)
  refine jk (Run.fieldAddr rfl zj rfl zi jd) ?_
  refine jk (Run.load rfl zn (hby.cell 0)) ?_
  refine jk (Run.bin rfl rfl (Bin.eql _ 3)) ?_
  refine je (Run.pickT rfl rfl au) (jM ?_)
  refine jG ?_
  refine jk (Run.bin rfl rfl (Bin.eqlN _ 0)) ?_
  refine je (Run.pickT rfl rfl au) (jM ?_)
  refine jG ?_
  refine jk (Run.lenS rfl zh) ?_
  refine jk (Run.bin rfl rfl (Bin.eqlN _ 2)) ?_
  refine je (Run.pickT rfl rfl au) (jM ?_)
  refine jG ?_
  refine jk (Run.indexS 0 rfl rfl zh zp jd) ?_
  refine jk (Run.load rfl zab (hel0 0 (encStr cT) rfl)) ?_
  refine jk (Run.eqlT rfl rfl) ?_
  refine je (Run.pickT rfl rfl au) (jM ?_)
  refine jG ?_
  refine jk (Run.indexS 1 rfl rfl zh zp jd) ?_
  refine jk (Run.load rfl zab (hel1 0 (encStr cbT) rfl)) ?_
  refine jk (Run.eqlT rfl rfl) ?_
  refine je (Run.pickT rfl rfl au) (jM ?_)
  refine jG ?_
  refine jk (Run.bin rfl rfl (Bin.eqlN _ 16)) ?_
  refine je (Run.pickT rfl rfl au) (jM ?_)
  refine jG ?_
  refine jk (Run.bin rfl rfl (Bin.eqlN _ 17)) ?_
  refine je (Run.pickT rfl rfl au) (jm rfl (je (Run.pickT rfl rfl au) (ja rfl (jO ?_))))
  refine jN ⟨(js1 (jC jp)), rfl⟩
 intro Γ hΓ
 refine jN (VC.sub _ hΓ ?_)
 refine jT ?_
 refine qC rfl ?_
 exact ⟨jp, K⟩
end
section
open Go.RowKit Go.Sort
def jV (b : Tx) : List Tx → List Tx
 | [] => [b]
 | p :: ps => (b ++ p) :: ps
theorem oX (c : UInt8) : ∀ s : Tx, bP c s ≠ []
 | [] => by simp [bP]
 | x :: r => by
  unfold bP
  split
  · simp
  split <;> simp
theorem sB {l : List Tx} (h : l ≠ []) : jV [] l = l := by
 cases l with
 | nil => exact absurd rfl h
 | cons p ps => rfl
theorem wS (c : UInt8) (b r : Tx) : jV b (bP c (c :: r)) = b :: bP c r := by simp [bP, jV]
theorem tF {c x : UInt8} (h : x ≠ c) (b r : Tx) : jV b (bP c (x :: r)) = jV (b ++ [x]) (bP c r) := by
 have e : bP c (x :: r) = match bP c r with
  | [] => [[x]]
  | p :: ps => (x :: p) :: ps := by
  rw [bP, if_neg h]
  cases bP c r <;> rfl
 rw [e]
 cases hs : bP c r with
 | nil => exact absurd hs (oX c r)
 | cons p ps => simp [jV]
theorem yS {α : Type} {s : List α} {i : Nat} (h : i < s.length) : s.drop i = s[i] :: s.drop (i + 1) := by rw [zax h]
theorem qQm {α : Type} (a : List α) (b v : α) : (a ++ [b]).set a.length v = a ++ [v] := jp
theorem hrdT {w w' : World} {t : TypeId} {q : Tx} (h : Fresh w w' t #[encStr q]) : Rd w' 1 (some ⟨w.heap.size, 0, none⟩) 1 (SB [q]) := Rd.of_blk (n := 1) (size := 1) h.blk rfl
theorem yU {w : World} {ad : Addr} {a : List Tx} {b : Tx} {d : Nat} (h : Own w 9 1 (some ad) (a ++ [b]).length d (SB (a ++ [b]))) : w.cell? (ad.add ((a ++ [b]).length - 1)) = some (encStr b) := by
 obtain ⟨ad', h1, h2⟩ := eR h.rd (show (a ++ [b]).length - 1 < (a ++ [b]).length by simp)
 cases h1
 rw [h2]
 simp
theorem yB (q : Tx) (c : UInt8) (w : World) (hs : q.length ≤ 1000000) : Calls Tryz.prog 138 #[encStr q, .int .u8 ((c.toNat : Nat) : Int)] w fun e w' => Frm [] w w' ∧ ∃ A d, e = .returned (.slice A (bP c q).length d) ∧ Own w' 9 1 A (bP c q).length d (SB (bP c q)) ∧ ∀ x ∈ ob A, w.heap.size ≤ x := by
 refine VC.calls (nt := 36) (res := #[.tmp 4]) Tryz.func138 rfl Tryz.ntmps138 Tryz.results138 rfl ?_
 refine jS (jR (ja rfl (jO (jN (jv2 0 1 ?_)))))
 refine jS (jR ?_)
 refine Ops.m (qJ.buildS1 rfl zh zp eL jd jd rfl rfl) rfl ?_
 rintro _ w1 ⟨rfl, hF1⟩
 have K := hF1.frm
 have hA : Own w1 9 1 (some ⟨w.heap.size, 0, none⟩) 1 1 (SB [[]]) := Own.of_blk (n := 1) hF1.blk rfl jd
 have hub : ∀ x ∈ ob (some (⟨w.heap.size, 0, none⟩ : Addr)), w.heap.size ≤ x := by simp [ob]
 refine ja rfl (jO (jN (jv3 0 1 5 ?_)))
 refine jS (jS (jR (jz 0 (jO (jN (jB ?_))))))
 refine VC.loop (σ := Nat × List Tx × Tx × Option Addr × Nat) (fun s => [(0, encStr q), (1, .int .u8 ((c.toNat : Nat) : Int)), (5, .slice s.2.2.2.1 (s.2.1 ++ [s.2.2.1]).length s.2.2.2.2), (6, .int .i64 ((s.1 : Nat) : Int))]) (fun s wr => s.1 ≤ q.length ∧ bP c q = s.2.1 ++ jV s.2.2.1 (bP c (q.drop s.1)) ∧ s.2.1.length ≤ s.1 ∧ s.2.2.1.length ≤ s.1 ∧ Own wr 9 1 s.2.2.2.1 (s.2.1 ++ [s.2.2.1]).length s.2.2.2.2 (SB (s.2.1 ++ [s.2.2.1])) ∧ (∀ x ∈ ob s.2.2.2.1, w.heap.size ≤ x) ∧ Frm [] w wr) (fun s => q.length - s.1) (0, [], [], some ⟨w.heap.size, 0, none⟩, 1) (js4 rfl rfl rfl rfl) ⟨jo, by rw [zcd, zav, sB (oX c q)], jp, jp, hA, hub, K⟩ ?_
 rintro ⟨i, a, b, A, d⟩ wr ⟨hi, hsp, hal, hbl, hA, hub, K⟩
 dsimp only at hi hsp hal hbl hA hub ⊢
 have hwl : (a ++ [b]).length = a.length + 1 := jp
 refine jS (jS (jR (jm rfl (jm rfl (je (Run.lenT rfl zl) (jb rfl rfl (Bin.lssN _ _) (jO (jN (jv5 0 1 5 6 11 ?_)))))))))
 refine jD rfl (fun hc1 => ?_) fun hc1 => ?_
 ·
  have hgx : q[i]? = some q[i] := zc hc1
  have hdc := yS hc1
  have htk1 : (q.drop i).take (i + 1 - i) = [q[i]] := by rw [hdc, show i + 1 - i = 1 by omega]; rfl
  have hlk : ((q.drop i).take (i + 1 - i)).length = 1 := by rw [htk1]; rfl
  generalize hx : q[i] = x at *
  refine jQ (jN (jv4 0 1 5 6 ?_))
  refine jS (jB (jS (jR (jm rfl (jm rfl (je (Run.indexT _ rfl rfl zl hgx) (jm rfl (jb rfl rfl (Bin.eqlN _ _) (jO (jN (jv5 0 1 5 6 18 ?_)))))))))))
  refine VC.meet (σ := List Tx × Tx × Option Addr × Nat) (fun s => [(0, encStr q), (1, .int .u8 ((c.toNat : Nat) : Int)), (5, .slice s.2.2.1 (s.1 ++ [s.2.1]).length s.2.2.2), (6, .int .i64 ((i : Nat) : Int))]) (fun s wr => bP c q = s.1 ++ jV s.2.1 (bP c (q.drop (i + 1))) ∧ s.1.length ≤ i + 1 ∧ s.2.1.length ≤ i + 1 ∧ Own wr 9 1 s.2.2.1 (s.1 ++ [s.2.1]).length s.2.2.2 (SB (s.1 ++ [s.2.1])) ∧ (∀ x ∈ ob s.2.2.1, w.heap.size ≤ x) ∧ Frm [] w wr) ?_ ?_
  ·
   refine jD rfl (fun hc2 => ?_) fun hc2 => ?_
   ·
    have hl2 : (a ++ [b]).length + 1 = (a ++ [b] ++ [([] : Tx)]).length := jp
    have hxc : x = c := UInt8.toNat_inj.1 hc2
    have hsp2 : bP c q = (a ++ [b]) ++ jV [] (bP c (q.drop (i + 1))) := by rw [hsp, hdc, hxc, wS, sB (oX c _)]; simp
    refine jR (jM ?_)
    refine Ops.m (qJ.buildS1 rfl zh zp eL jd jd rfl rfl) rfl ?_
    rintro _ w3 ⟨rfl, hF3⟩
    have K := K.trans hF3.frm jp
    refine Ops.m (qJ.app rfl rfl zh (gS) rfl jd (hA.frm hF3.frm jp) (hrdT (q := []) hF3) (eA _) jo jo) rfl ?_
    rintro _ w4 ⟨A4, d4, rfl, hA4, hf4, hob4⟩
    rw [← cU] at hA4
    have hub4 := dP hub hob4 K.size
    have K := Frm.own K hf4 hub
    refine ja rfl (jO ?_)
    refine jN ⟨(a ++ [b], [], A4, d4), (js4 rfl rfl (by rw [← hl2]; rfl) rfl), ?_⟩
    exact ⟨hsp2, by dsimp only; omega, jp, by simpa using hA4, hub4, K⟩
   obtain ⟨ad, rfl, _⟩ := eR hA.rd (jo : a.length < (a ++ [b]).length)
   have hxc : x ≠ c := fun h => hc2 (by rw [h])
   have hsp2 : bP c q = a ++ jV (b ++ [x]) (bP c (q.drop (i + 1))) := by rw [hsp, hdc, tF hxc]
   refine VC.held (fun _ => True) jK ?_
   refine jH 0 rfl trivial (fun w0 hw0 => Run.mv rfl) ?_
   refine jH 1 rfl trivial (fun w0 hw0 => Run.mv rfl) ?_
   refine jH 2 rfl trivial (fun w0 hw0 => Run.lenS rfl zh) ?_
   refine jH 3 rfl trivial (fun w0 hw0 => Run.bin rfl rfl (Bin.subN (a ++ [b]).length 1 jo (by simp [bmax]; omega))) ?_
   refine jH 4 rfl trivial (fun w0 hw0 => Run.index1 ((a ++ [b]).length - 1) rfl rfl zh zp (jo : (a ++ [b]).length - 1 < (a ++ [b]).length)) ?_
   refine jH 6 rfl trivial (fun w0 hw0 => Run.mv rfl) ?_
   refine jH 7 rfl trivial (fun w0 hw0 => Run.mv rfl) ?_
   refine jH 8 rfl trivial (fun w0 hw0 => Run.mv rfl) ?_
   refine jH 9 rfl trivial (fun w0 hw0 => Run.bin rfl rfl (Bin.add_i64 _ 1 jo)) ?_
   refine jH 10 rfl trivial (fun w0 hw0 => Run.sliceT i (i + 1) rfl zl (evB.some_ rfl) (evB.some_ rfl) jo jo) ?_
   refine qZ.r1 5 rfl jK trivial (Run.load rfl zab (yU hA)) trivial rfl rfl ?_
   refine jH 11 rfl trivial (fun w0 hw0 => Run.addT rfl rfl jo) ?_
   refine jH 12 rfl trivial (fun w0 hw0 => Run.index1 ((a ++ [b]).length - 1) rfl rfl zh zp (jo : (a ++ [b]).length - 1 < (a ++ [b]).length)) ?_
   refine qZ.st 13 rfl jK (qW.storeOwn ((a ++ [b]).length - 1) rfl rfl zp hA rfl jo rfl) trivial rfl ?_
   rintro w6 ⟨hA6, hf6, _⟩
   rw [htk1] at hA6
   have hA6 : Own w6 9 1 (some ad) (a ++ [b ++ [x]]).length d (SB (a ++ [b ++ [x]])) := by
    have e1 : (SB (a ++ [b])).set ((a ++ [b]).length - 1) (encStr (b ++ [x])) = SB (a ++ [b ++ [x]]) := by
     rw [show (a ++ [b]).length - 1 = a.length by omega, cU, cU, ← rD a]
     exact qQm _ _ _
    rw [← e1, show (a ++ [b ++ [x]]).length = (a ++ [b]).length by simp]
    exact hA6
   have K := Frm.own K.drew hf6 hub
   refine ⟨trivial, ?_⟩
   refine qZ.done jK ?_
   refine jN ⟨(a, b ++ [x], some ad, d), (js4 rfl rfl (by simp; rfl) rfl), ?_⟩
   exact ⟨hsp2, by dsimp only; omega, by simp; omega, hA6, hub, K⟩
  rintro ⟨a5, b5, A5, d5⟩ w5 ⟨hsp5, hal5, hbl5, hA5, hub5, K5⟩ Γ hΓ
  dsimp only at hsp5 hal5 hbl5 hA5 hub5
  refine qT (jN (VC.sub _ hΓ ?_))
  refine jR (jm rfl (jb rfl rfl (Bin.add_i64 _ 1 jo) (ja rfl (jO ?_))))
  refine jN ⟨(i + 1, a5, b5, A5, d5), (js4 rfl rfl rfl rfl), ?_, ?_⟩
  · exact ⟨hc1, hsp5, hal5, hbl5, hA5, hub5, K5⟩
  first | omega | (dsimp only; omega)
 have him : i = q.length := jo
 subst him
 have hfin : bP c q = a ++ [b] := by rw [hsp, List.drop_length]; simp [bP, jV]
 refine jX ?_
 refine qH (qH (qF ?_))
 refine jN (jv1 5 ?_)
 refine jS (jR (jm rfl (ja rfl (jO (jN (jv1 4 ?_))))))
 refine jT ?_
 refine qC rfl ?_
 rw [hfin]
 exact ⟨K, A, d, rfl, hA, hub⟩
end
section
open Go.RowKit Go.Sort
theorem qQn (x : UInt8) : ¬ gO x ↔ x.toNat < 33 ∨ 126 < x.toNat ∨ x.toNat = 40 ∨ x.toNat = 41 ∨ x.toNat = 123 ∨ x.toNat = 125 ∨ x.toNat = 37 ∨ x.toNat = 42 ∨ x.toNat = 34 ∨ x.toNat = 92 := by
 have e : ∀ k : UInt8, x = k ↔ x.toNat = k.toNat := fun k => ⟨fun h => by rw [h], fun h => UInt8.toNat_inj.1 h⟩
 unfold gO mX
 simp only [zv, zu, or_false, e]
 simp only [show (40 : UInt8).toNat = 40 from rfl, show (41 : UInt8).toNat = 41 from rfl, show (123 : UInt8).toNat = 123 from rfl, show (125 : UInt8).toNat = 125 from rfl, show (37 : UInt8).toNat = 37 from rfl, show (42 : UInt8).toNat = 42 from rfl, show (34 : UInt8).toNat = 34 from rfl, show (92 : UInt8).toNat = 92 from rfl]
 omega
def OkAt (q : Tx) (j : Nat) : Prop := ∀ x, q[j]? = some x → gO x ∧ ¬ (x.toNat = 47 ∧ (j = 0 ∨ j = q.length - 1 ∨ fJ q[j - 1]? = 47))
theorem n47 {x : UInt8} : x.toNat = 47 ↔ x = 47 := ⟨fun h => UInt8.toNat_inj.1 h, fun h => by rw [h]; rfl⟩
theorem lS (q : Tx) : isN q ↔ (∀ j, j < q.length → OkAt q j) ∧ 1 ≤ q.length ∧ q.length ≤ 60 := by
 unfold isN
 constructor
 ·
  rintro ⟨h1, h2, h3, h4, h5, h6⟩
  refine ⟨fun j hj x hx => ⟨h6 x (zby hx), ?_⟩, List.length_pos_iff.2 h1, h2⟩
  rintro ⟨h7, h8⟩
  rw [n47] at h7
  subst h7
  rcases h8 with rfl | rfl | h8
  · exact h3 hx
  · exact h4 hx
  rw [wQ] at h8
  rcases zch j with rfl | h9
  · exact h3 hx
  have := (rF q).2 ⟨j - 1, h8, by rw [show j - 1 + 1 = j by omega]; exact hx⟩
  rw [h5] at this
  cases this
 rintro ⟨h1, h2, h3⟩
 refine ⟨List.length_pos_iff.1 h2, h3, fun h => ((h1 0 jo) 47 h).2 ⟨rfl, .inl rfl⟩, fun h => ((h1 (q.length - 1) jo) 47 h).2 ⟨rfl, .inr (.inl rfl)⟩, ?_, fun c hc => ?_⟩
 ·
  cases hd : kJ q with
  | false => rfl
  | true =>
   obtain ⟨i, h4, h5⟩ := (rF q).1 hd
   have hi : i + 1 < q.length := (List.getElem?_eq_some_iff.1 h5).1
   exact absurd ⟨rfl, .inr (.inr (by rw [show i + 1 - 1 = i by omega, h4]; rfl))⟩ ((h1 (i + 1) hi) 47 h5).2
 obtain ⟨j, hj, rfl⟩ := zaf hc
 exact ((h1 j hj) _ (zc hj)).1
theorem jW (q : Tx) (w : World) (hq : q.length ≤ 1000000) : Calls Tryz.prog 50 #[encStr q] w fun e w' => e = .returned (.bool (decide (isN q))) ∧ w = w' := by
 refine VC.calls (nt := 80) (res := #[.tmp 2]) Tryz.func50 rfl Tryz.ntmps50 Tryz.results50 rfl ?_
 refine jS (jR (ja rfl (jO (jN (jv1 0 ?_)))))
 refine jS (jS (jR (jz 0 (jO (jN (jB ?_))))))
 refine VC.loop (σ := Nat) (fun s => [(0, encStr q), (3, .int .i64 ((s : Nat) : Int))]) (fun s wr => s ≤ q.length ∧ (∀ j, j < s → OkAt q j) ∧ w = wr) (fun s => q.length - s) 0 (js2 rfl rfl) ⟨zam _, fun _ h => jo, rfl⟩ ?_
 rintro i _ ⟨hi, hd, rfl⟩
 refine jS (jS (jR (jm rfl (jm rfl (je (Run.lenT rfl zl) (jb rfl rfl (Bin.lssN _ _) (jO (jN (jv3 0 3 8 ?_)))))))))
 refine jD rfl (fun hc1 => ?_) fun hc1 => ?_
 ·
  obtain ⟨x, hx⟩ := fO hc1
  have hsn := qQn x
  refine jQ (jN (jv2 0 3 ?_))
  refine jS (jB (jS (jR (jm rfl (jm rfl (je (Run.indexT _ rfl rfl zl hx) (ja rfl (jO (jN (jv3 0 3 4 ?_))))))))))
  refine jS (jS ?_)
  refine VC.split1 [(0, _), (3, _), (4, _)] (js3 rfl rfl rfl) 51 (.bool (decide (x.toNat < 33 ∨ 126 < x.toNat ∨ x.toNat = 40 ∨ x.toNat = 41 ∨ x.toNat = 123 ∨ x.toNat = 125 ∨ x.toNat = 37 ∨ x.toNat = 42 ∨ x.toNat = 34 ∨ x.toNat = 92))) ?_ ?_
  ·
   refine jR ?_
   refine jm rfl (jb rfl rfl (Bin.lssN _ 33) ?_)
   by_cases hs15 : x.toNat < 33
   ·
    refine jM ?_
    refine jU ?_
    refine jU ?_
    refine je (Run.pickT rfl rfl au) (jM ?_)
    refine jU ?_
    refine jU ?_
    refine je (Run.pickT rfl rfl au) (jM ?_)
    refine jU ?_
    refine jU ?_
    refine je (Run.pickT rfl rfl au) (jM ?_)
    refine jU ?_
    refine jU ?_
    refine je (Run.pickT rfl rfl au) (jM ?_)
    refine jU ?_
    refine jU ?_
    refine je (Run.pickT rfl rfl au) (jM ?_)
    refine jU ?_
    refine jU ?_
    refine je (Run.pickT rfl rfl au) (jM ?_)
    refine jU ?_
    refine jU ?_
    refine je (Run.pickT rfl rfl au) (jM ?_)
    refine jU ?_
    refine jU ?_
    refine je (Run.pickT rfl rfl au) (jM ?_)
    refine jU ?_
    refine jU ?_
    refine je (Run.pickT rfl rfl au) (jO ?_)
    refine jN ⟨(js4 (jC (by clear hsn; simp [*])) rfl rfl rfl), rfl⟩
   refine jM ?_
   refine jG ?_
   refine jk (Run.bin rfl rfl (Bin.gtrN _ 126)) ?_
   by_cases hs18 : 126 < x.toNat
   ·
    refine je (Run.pickF rfl rfl au) (jM ?_)
    refine jU ?_
    refine jU ?_
    refine je (Run.pickT rfl rfl au) (jM ?_)
    refine jU ?_
    refine jU ?_
    refine je (Run.pickT rfl rfl au) (jM ?_)
    refine jU ?_
    refine jU ?_
    refine je (Run.pickT rfl rfl au) (jM ?_)
    refine jU ?_
    refine jU ?_
    refine je (Run.pickT rfl rfl au) (jM ?_)
    refine jU ?_
    refine jU ?_
    refine je (Run.pickT rfl rfl au) (jM ?_)
    refine jU ?_
    refine jU ?_
    refine je (Run.pickT rfl rfl au) (jM ?_)
    refine jU ?_
    refine jU ?_
    refine je (Run.pickT rfl rfl au) (jM ?_)
    refine jU ?_
    refine jU ?_
    refine je (Run.pickT rfl rfl au) (jO ?_)
    refine jN ⟨(js4 (jC (by clear hsn; simp [*])) rfl rfl rfl), rfl⟩
   refine je (Run.pickF rfl rfl au) (jM ?_)
   refine jG ?_
   refine jk (Run.bin rfl rfl (Bin.eqlN _ 40)) ?_
   by_cases hs22 : x.toNat = 40
   ·
    refine je (Run.pickF rfl rfl au) (jM ?_)
    refine jU ?_
    refine jU ?_
    refine je (Run.pickT rfl rfl au) (jM ?_)
    refine jU ?_
    refine jU ?_
    refine je (Run.pickT rfl rfl au) (jM ?_)
    refine jU ?_
    refine jU ?_
    refine je (Run.pickT rfl rfl au) (jM ?_)
    refine jU ?_
    refine jU ?_
    refine je (Run.pickT rfl rfl au) (jM ?_)
    refine jU ?_
    refine jU ?_
    refine je (Run.pickT rfl rfl au) (jM ?_)
    refine jU ?_
    refine jU ?_
    refine je (Run.pickT rfl rfl au) (jM ?_)
    refine jU ?_
    refine jU ?_
    refine je (Run.pickT rfl rfl au) (jO ?_)
    refine jN ⟨(js4 (jC (by clear hsn; simp [*])) rfl rfl rfl), rfl⟩
   refine je (Run.pickF rfl rfl au) (jM ?_)
   refine jG ?_
   refine jk (Run.bin rfl rfl (Bin.eqlN _ 41)) ?_
   by_cases hs26 : x.toNat = 41
   ·
    refine je (Run.pickF rfl rfl au) (jM ?_)
    refine jU ?_
    refine jU ?_
    refine je (Run.pickT rfl rfl au) (jM ?_)
    refine jU ?_
    refine jU ?_
    refine je (Run.pickT rfl rfl au) (jM ?_)
    refine jU ?_
    refine jU ?_
    refine je (Run.pickT rfl rfl au) (jM ?_)
    refine jU ?_
    refine jU ?_
    refine je (Run.pickT rfl rfl au) (jM ?_)
    refine jU ?_
    refine jU ?_
    refine je (Run.pickT rfl rfl au) (jM ?_)
    refine jU ?_
    refine jU ?_
    refine je (Run.pickT rfl rfl au) (jO ?_)
    refine jN ⟨(js4 (jC (by clear hsn; simp [*])) rfl rfl rfl), rfl⟩
   refine je (Run.pickF rfl rfl au) (jM ?_)
   refine jG ?_
   refine jk (Run.bin rfl rfl (Bin.eqlN _ 123)) ?_
   by_cases hs30 : x.toNat = 123
   ·
    refine je (Run.pickF rfl rfl au) (jM ?_)
    refine jU ?_
    refine jU ?_
    refine je (Run.pickT rfl rfl au) (jM ?_)
    refine jU ?_
    refine jU ?_
    refine je (Run.pickT rfl rfl au) (jM ?_)
    refine jU ?_
    refine jU ?_
    refine je (Run.pickT rfl rfl au) (jM ?_)
    refine jU ?_
    refine jU ?_
    refine je (Run.pickT rfl rfl au) (jM ?_)
    refine jU ?_
    refine jU ?_
    refine je (Run.pickT rfl rfl au) (jO ?_)
    refine jN ⟨(js4 (jC (by clear hsn; simp [*])) rfl rfl rfl), rfl⟩
   refine je (Run.pickF rfl rfl au) (jM ?_)
   refine jG ?_
   refine jk (Run.bin rfl rfl (Bin.eqlN _ 125)) ?_
   by_cases hs34 : x.toNat = 125
   ·
    refine je (Run.pickF rfl rfl au) (jM ?_)
    refine jU ?_
    refine jU ?_
    refine je (Run.pickT rfl rfl au) (jM ?_)
    refine jU ?_
    refine jU ?_
    refine je (Run.pickT rfl rfl au) (jM ?_)
    refine jU ?_
    refine jU ?_
    refine je (Run.pickT rfl rfl au) (jM ?_)
    refine jU ?_
    refine jU ?_
    refine je (Run.pickT rfl rfl au) (jO ?_)
    refine jN ⟨(js4 (jC (by clear hsn; simp [*])) rfl rfl rfl), rfl⟩
   refine je (Run.pickF rfl rfl au) (jM ?_)
   refine jG ?_
   refine jk (Run.bin rfl rfl (Bin.eqlN _ 37)) ?_
   by_cases hs38 : x.toNat = 37
   ·
    refine je (Run.pickF rfl rfl au) (jM ?_)
    refine jU ?_
    refine jU ?_
    refine je (Run.pickT rfl rfl au) (jM ?_)
    refine jU ?_
    refine jU ?_
    refine je (Run.pickT rfl rfl au) (jM ?_)
    refine jU ?_
    refine jU ?_
    refine je (Run.pickT rfl rfl au) (jO ?_)
    refine jN ⟨(js4 (jC (by clear hsn; simp [*])) rfl rfl rfl), rfl⟩
   refine je (Run.pickF rfl rfl au) (jM ?_)
   refine jG ?_
   refine jk (Run.bin rfl rfl (Bin.eqlN _ 42)) ?_
   by_cases hs42 : x.toNat = 42
   ·
    refine je (Run.pickF rfl rfl au) (jM ?_)
    refine jU ?_
    refine jU ?_
    refine je (Run.pickT rfl rfl au) (jM ?_)
    refine jU ?_
    refine jU ?_
    refine je (Run.pickT rfl rfl au) (jO ?_)
    refine jN ⟨(js4 (jC (by clear hsn; simp [*])) rfl rfl rfl), rfl⟩
   refine je (Run.pickF rfl rfl au) (jM ?_)
   refine jG ?_
   refine jk (Run.bin rfl rfl (Bin.eqlN _ 34)) ?_
   by_cases hs46 : x.toNat = 34
   ·
    refine je (Run.pickF rfl rfl au) (jM ?_)
    refine jU ?_
    refine jU ?_
    refine je (Run.pickT rfl rfl au) (jO ?_)
    refine jN ⟨(js4 (jC (by clear hsn; simp [*])) rfl rfl rfl), rfl⟩
   refine je (Run.pickF rfl rfl au) (jM ?_)
   refine jG ?_
   refine jk (Run.bin rfl rfl (Bin.eqlN _ 92)) ?_
   refine je (Run.pickF rfl rfl au) (jO ?_)
   refine jN ⟨(js4 (jC (by clear hsn; simp [*])) rfl rfl rfl), rfl⟩
  intro Γ hΓ
  refine jN (VC.sub _ hΓ ?_)
  refine jD rfl (fun hc2 => ?_) fun hc2 => ?_
  ·
   have hbad : ¬ isN q := fun h => (hsn.2 hc2) ((((lS q).1 h).1 i hc1) x hx).1
   refine jS (jR (ja rfl (jO (jN (jv1 2 ?_)))))
   refine jT ?_
   refine qQ (qN (qQ (qQ (qN (qQ (qC rfl ?_))))))
   exact ⟨by rw [decide_eq_false hbad], rfl⟩
  refine jQ (jN (jv3 0 3 4 ?_))
  refine jS ?_
  refine VC.split1 [(0, _), (3, _)] (js2 rfl rfl) 71 (.bool (decide (x.toNat = 47 ∧ (i = 0 ∨ i = q.length - 1 ∨ fJ q[i - 1]? = 47)))) ?_ ?_
  ·
   refine jR ?_
   refine jm rfl (jb rfl rfl (Bin.eqlN _ 47) ?_)
   by_cases hs53 : x.toNat = 47
   ·
    refine jM ?_
    refine jG ?_
    refine jk (Run.bin rfl rfl (Bin.eqlN _ 0)) ?_
    by_cases hs56 : i = 0
    ·
     refine jG ?_
     refine jU ?_
     refine jU ?_
     refine jU ?_
     refine jU ?_
     refine jU ?_
     refine jk (Run.pickT rfl rfl au) ?_
     refine jG ?_
     refine jU ?_
     refine jU ?_
     refine jU ?_
     refine jU ?_
     refine jU ?_
     refine jk (Run.pickT rfl rfl au) ?_
     refine je (Run.pickT rfl rfl au) (jO ?_)
     refine jN ⟨(js3 (jC (by clear hsn hc2; simp [fJ, *])) rfl rfl), rfl⟩
    obtain ⟨y, hy⟩ := fO (jo : i - 1 < q.length)
    refine jG ?_
    refine jG ?_
    refine jG ?_
    refine jk (Run.lenT rfl zl) ?_
    refine jk (Run.bin rfl rfl (Bin.sub_i64 _ 1 jo jo)) ?_
    refine jk (Run.bin rfl rfl (Bin.eqlN _ _)) ?_
    by_cases hs62 : i = q.length - 1
    ·
     refine jk (Run.pickF rfl rfl au) ?_
     refine jG ?_
     refine jU ?_
     refine jU ?_
     refine jU ?_
     refine jU ?_
     refine jU ?_
     refine jk (Run.pickT rfl rfl au) ?_
     refine je (Run.pickT rfl rfl au) (jO ?_)
     refine jN ⟨(js3 (jC (by clear hsn hc2; simp [fJ, *])) rfl rfl), rfl⟩
    refine jk (Run.pickF rfl rfl au) ?_
    refine jG ?_
    refine jG ?_
    refine jG ?_
    refine jk (Run.bin rfl rfl (Bin.sub_i64 _ 1 jo jo)) ?_
    refine jk (Run.indexT _ rfl rfl zl hy) ?_
    refine jk (Run.bin rfl rfl (Bin.eqlN _ 47)) ?_
    refine jk (Run.pickF rfl rfl au) ?_
    refine je (Run.pickT rfl rfl au) (jO ?_)
    refine jN ⟨(js3 (jC (by clear hsn hc2; simp [fJ, *])) rfl rfl), rfl⟩
   refine jM ?_
   refine jU ?_
   refine jU ?_
   refine jU ?_
   refine Ops.skU rfl rfl ?_
   refine Ops.skU rfl rfl ?_
   refine Ops.skU rfl rfl ?_
   refine Ops.skU rfl rfl ?_
   refine Ops.skU rfl rfl ?_
   refine jU ?_
   refine jU ?_
   refine Ops.skU rfl rfl ?_
   refine Ops.skU rfl rfl ?_
   refine Ops.skU rfl rfl ?_
   refine Ops.skU rfl rfl ?_
   refine Ops.skU rfl rfl ?_
   refine jU ?_
   refine je (Run.pickF rfl rfl au) (jO ?_)
   refine jN ⟨(js3 (jC (by clear hsn hc2; simp [fJ, *])) rfl rfl), rfl⟩
  intro Γ hΓ
  refine jN (VC.sub _ hΓ ?_)
  refine jD rfl (fun hc3 => ?_) fun hc3 => ?_
  ·
   have hbad : ¬ isN q := fun h => ((((lS q).1 h).1 i hc1) x hx).2 hc3
   refine jS (jR (ja rfl (jO (jN (jv1 2 ?_)))))
   refine jT ?_
   refine qN (qQ (qQ (qN (qQ (qC rfl ?_)))))
   exact ⟨by rw [decide_eq_false hbad], rfl⟩
  refine jQ ?_
  refine qT (jN ?_)
  refine jv2 0 3 ?_
  refine jR (jm rfl (jb rfl rfl (Bin.add_i64 _ 1 jo) (ja rfl (jO ?_))))
  refine jN ⟨(i + 1), (js2 rfl rfl), ?_, ?_⟩
  ·
   refine ⟨hc1, fun j hj => ?_, rfl⟩
   by_cases e : j = i
   ·
    subst e
    intro y hy
    rw [hx] at hy
    cases hy
    exact ⟨Classical.not_not.1 (fun h => hc2 (hsn.1 h)), hc3⟩
   exact hd j jo
  first | omega | (dsimp only; omega)
 refine jX ?_
 refine qH (qH (qF ?_))
 refine jN (jv1 0 ?_)
 refine jS ?_
 refine VC.split1 [] .nil 2 (.bool (decide (1 ≤ q.length ∧ q.length ≤ 60))) ?_ ?_
 ·
  refine jR ?_
  refine jm rfl (je (Run.lenT rfl zl) (jb rfl rfl (Bin.leqN 1 _) ?_))
  by_cases hs74 : 1 ≤ q.length
  ·
   refine jM ?_
   refine jG ?_
   refine jk (Run.lenT rfl zl) ?_
   refine jk (Run.bin rfl rfl (Bin.leqN _ 60)) ?_
   refine je (Run.pickT rfl rfl au) (ja rfl (jO ?_))
   refine jN ⟨(js1 (jC (by simp [*]))), rfl⟩
  refine jM ?_
  refine jU ?_
  refine jU ?_
  refine jU ?_
  refine je (Run.pickF rfl rfl au) (ja rfl (jO ?_))
  refine jN ⟨(js1 (jC (by simp [*]))), rfl⟩
 intro Γ hΓ
 refine jN (VC.sub _ hΓ ?_)
 refine jT ?_
 refine qC rfl ?_
 obtain rfl : i = q.length := jo
 exact ⟨by rw [decide_eq_decide.2 (show isN q ↔ 1 ≤ q.length ∧ q.length ≤ 60 from ⟨fun h => ((lS q).1 h).2, fun h => (lS q).2 ⟨hd, h⟩⟩)], rfl⟩
theorem qZd : ∀ L ∈ bX, ∀ c : UInt8, low c = low L ↔ upC c = L := by
 have e : ∀ a b : UInt8, a = b ↔ a.toNat = b.toNat := fun a b => ⟨fun h => by rw [h], fun h => UInt8.toNat_inj.1 h⟩
 intro L hL c
 rw [e, e, dA, dA, pM]
 simp only [bX, zv, zu, or_false] at hL
 rcases hL with rfl | rfl | rfl | rfl | rfl
 · simp only [show (73 : UInt8).toNat = 73 from rfl]; (repeat' split) <;> omega
 · simp only [show (78 : UInt8).toNat = 78 from rfl]; (repeat' split) <;> omega
 · simp only [show (66 : UInt8).toNat = 66 from rfl]; (repeat' split) <;> omega
 · simp only [show (79 : UInt8).toNat = 79 from rfl]; (repeat' split) <;> omega
 simp only [show (88 : UInt8).toNat = 88 from rfl]; (repeat' split) <;> omega
theorem sC : ∀ (l : Tx), (∀ L ∈ l, ∀ c : UInt8, low c = low L ↔ upC c = L) → ∀ a : Tx, qD a = qD l ↔ upT a = l
 | [], _, a => by
  unfold qD upT
  rw [zbo, List.map_eq_nil_iff, List.map_eq_nil_iff]
 | L :: l, h, a => by
  have ih := sC l (fun x hx => h x (.tail _ hx))
  cases a with
  | nil => simp [qD, upT]
  | cons c a =>
   have h1 := h L (.head _) c
   have h2 := ih a
   unfold qD upT at *
   rw [zal, zal, zal, List.cons.injEq, List.cons.injEq, h1, h2]
theorem oL (c : UInt8) : ∀ s : Tx, ∃ r, bP c s = cJ c s :: r
 | [] => ⟨[], rfl⟩
 | x :: s => by
  obtain ⟨r, hr⟩ := oL c s
  unfold bP cJ
  split
  · exact ⟨_, rfl⟩
  rw [hr]; exact ⟨r, rfl⟩
theorem uF (c : UInt8) : ∀ s : Tx, (cJ c s).length ≤ s.length
 | [] => zaj _
 | x :: s => by
  unfold cJ
  split
  · simp
  rw [zbe, zbe]; have := uF c s; omega
theorem tA (q : Tx) (w : World) (hq : q.length ≤ 1000000) : Calls Tryz.prog 111 #[encStr q] w fun e w' => e = .returned (encStr (fX q)) ∧ Frm [] w w' := by
 obtain ⟨r, hr⟩ := oL 47 q
 have hbl := uF 47 q
 have hsu := sC bX qZd (cJ 47 q)
 refine VC.calls (nt := 14) (res := #[.tmp 2]) Tryz.func111 rfl Tryz.ntmps111 Tryz.results111 rfl ?_
 refine jS (jR (ja rfl (jO (jN (jv1 0 ?_)))))
 refine jS (jR (jM ?_))
 refine Ops.cl (jE2 Tryz.call138) (yB q 47 _ hq) rfl ?_
 rintro e w1 ⟨hf1, A, d, rfl, ho, _⟩
 refine ⟨_, rfl, ?_⟩
 have K := hf1
 rw [hr] at ho ⊢
 obtain ⟨ad, rfl, hel⟩ := ho.rd.elem (k := 0) jp
 refine je (Run.indexS 0 rfl rfl zh zp jp) (jl rfl zab (hel 0 (encStr (cJ 47 q)) (by simp [SB])) (ja rfl (jO (jN (jv2 0 3 ?_)))))
 refine jS (jS (jR (jM ?_)))
 refine Ops.cl (jE2 Tryz.call139) (oB (cJ 47 q) bX _ jo jd) rfl ?_
 rintro e w2 ⟨rfl, hd⟩
 refine ⟨_, rfl, ?_⟩
 have K := K.drawn hd
 refine jO (jN (jv2 0 9 ?_))
 refine VC.condB rfl (fun hc1 => ?_) (fun hc1 => ?_)
 ·
  have hc1 := hsu.1 (of_decide_eq_true hc1)
  have h5 : 5 ≤ q.length := by
   have := congrArg List.length hc1
   rw [kR] at this
   have h6 : bX.length = 5 := rfl
   omega
  refine jS (jR (jm rfl (je (Run.sliceT 5 q.length rfl zl (evB.some_ rfl) evB.none_ h5 (zaj _)) ?_)))
  rw [zw (by rw [zai]; omega)]
  have hdl : (q.drop 5).length = q.length - 5 := zai
  have h5l : ([73, 78, 66, 79, 88] : Tx).length = 5 := rfl
  refine je (Run.addT rfl rfl jo) (ja rfl (jO (jN (jv1 2 ?_))))
  refine jT ?_
  refine qQ (qC rfl ?_)
  refine ⟨?_, K⟩
  unfold fX
  rw [if_pos hc1]
  rfl
 have hc1 : ¬ upT (cJ 47 q) = bX := fun h => of_decide_eq_false hc1 (hsu.2 h)
 refine jQ (jN (jv1 0 ?_))
 refine jS (jR (jm rfl (ja rfl (jO (jN (jv1 2 ?_))))))
 refine jT ?_
 refine qC rfl ?_
 refine ⟨?_, K⟩
 unfold fX
 rw [if_neg hc1]
theorem kH (q : Tx) (w : World) (hq : q.length ≤ 1000000) : Calls Tryz.prog 60 #[encStr q] w fun e w' => e = .returned (encStr (qV q)) ∧ Frm [] w w' := by
 refine VC.calls (nt := 8) (res := #[.tmp 2]) Tryz.func60 rfl Tryz.ntmps60 Tryz.results60 rfl ?_
 refine jS (jR (ja rfl (jO (jN (jv1 0 ?_)))))
 refine jS (jS (jR (jM ?_)))
 refine Ops.cl (jE1 Tryz.call50) (jW q _ hq) rfl ?_
 rintro e _ ⟨rfl, rfl⟩
 refine ⟨_, rfl, ?_⟩
 refine jO (jN (jv2 0 4 ?_))
 refine VC.condB rfl (fun hc1 => ?_) (fun hc1 => ?_)
 ·
  refine jS (jR (jM ?_))
  refine Ops.cl (jE1 Tryz.call111) (tA q _ hq) rfl ?_
  rintro e w1 ⟨rfl, hf1⟩
  refine ⟨_, rfl, ?_⟩
  refine ja rfl (jO (jN (jv1 2 ?_)))
  refine jT ?_
  refine qQ (qC rfl ?_)
  exact ⟨by unfold qV; rw [if_pos (of_decide_eq_true hc1)], hf1⟩
 refine jQ (jN (jv1 0 ?_))
 refine jS (jR (jm rfl (ja rfl (jO (jN (jv1 2 ?_))))))
 refine jT ?_
 refine qC rfl ?_
 exact ⟨by unfold qV; rw [if_neg (of_decide_eq_false hc1)], Frm.refl _ _⟩
end
section
open Go.RowKit Go.Sort
theorem qXt (a b c d : Int) (w : World) : (Op.eqFields 9999 #[.int .i64 a, .int .i64 b] #[.int .i64 c, .int .i64 d] (Tryz.prog.fieldsOf 58).toList).run Tryz.prog w = .ok (decide (a = c ∧ b = d)) w := by
 obtain ⟨f0, f1, hf, ⟨n0, t0, o0⟩, n1, t1, o1⟩ := zV
 rw [hf]
 have h := uK (P := Tryz.prog) (w := w) (d := 9998) (xs := #[.int .i64 a, .int .i64 b]) (ys := #[.int .i64 c, .int .i64 d]) (f := f0) (fs := [f1]) (k := .i64) (k' := .i64) (a := a) (b := c) (by rw [n0]; decide) (by rw [t0]; exact zej) (by rw [t0]; exact Tryz.underlying2) (by rw [o0]; rfl) (by rw [o0]; rfl)
  (uK (k := .i64) (k' := .i64) (a := b) (b := d) (by rw [n1]; decide) (by rw [t1]; exact zn) (by rw [t1]; exact zan) (by rw [o1]; rfl) (by rw [o1]; rfl) qQ7)
 have e : decide (a = c ∧ b = d) = (decide (a = c) && (decide (b = d) && true)) := by
  rw [zcp]
  simp
 rw [e]
 exact h
theorem qZe (x y : MsgP) : x = y ↔ (x.uid = y.uid ∧ (x.sec = y.sec ∧ x.zone = y.zone) ∧ x.size = y.size ∧ x.blob = y.blob ∧ x.flags = y.flags) := by
 cases x; cases y
 simp [and_assoc]
end
section
open Go.RowKit Go.Sort
theorem fQ (x : Mc) (w : World) (hx : x.At w) : Calls Tryz.prog 124 #[.agg x.cells.toArray] w fun e w' => e = .returned (.bool (decide (bO x.m))) ∧ Frm [] w w' := by
 refine VC.calls (nt := 29) (res := #[.tmp 2]) Tryz.func124 rfl Tryz.ntmps124 Tryz.results124 rfl ?_
 refine jS (jR ?_)
 refine Ops.m (qJ.box rfl) rfl ?_
 rintro _ w1 ⟨rfl, hF1⟩
 have hb1 := hF1.blk
 have hf1 := hF1.frm
 have hs1 : w.heap.size ≤ w.heap.size := zaj _
 generalize hg1 : w.heap.size = g1 at hb1 ⊢
 refine ja rfl (jO (jN (jv1 1 ?_)))
 refine jS (jR (jf rfl zac rfl zdf (je (Run.loadA rfl Tryz.isAgg58 zdf (hb1.sub 1 [.int .i64 x.m.sec, .int .i64 x.m.zone] rfl) (by first | rfl | (simp; done))) ?_)))
 refine Ops.cl (jE1 Tryz.call156) (vA x.m.sec x.m.zone _) rfl ?_
 rintro e w2 ⟨rfl, hf2⟩
 refine ⟨_, rfl, ?_⟩
 have hfr2 := hf1.trans hf2 jp
 have hb1 := hb1.frm hf2 jp
 have hck := zU x.m.sec x.m.zone
 rw [hck]
 refine jm rfl (je (Run.extract rfl rfl) (je (Run.extract rfl rfl) (je (Run.extract rfl rfl) (ja rfl (ja rfl (ja rfl (jO (jN (jv2 1 5 ?_)))))))))
 refine jS ?_
 refine VC.splitR [] (Frm [] w) 2 (.bool (decide (bO x.m))) ?_ ?_
 ·
  refine jR (jM ?_)
  by_cases hs13 : dG x.m.sec x.m.zone
  ·
   refine jM ?_
   refine jk (Run.fieldAddr rfl zac rfl zi jd) ?_
   refine jk (Run.load rfl zn (hb1.cell 3)) ?_
   refine jk (Run.bin rfl rfl (Bin.geq _ 0)) ?_
   by_cases hs17 : 0 ≤ x.m.size
   ·
    refine je (Run.pickT rfl rfl au) (jM ?_)
    refine jk (Run.fieldAddr rfl zac rfl zct jd) ?_
    refine jk (Run.load rfl zec (hb1.cell 4)) ?_
    refine jk (Run.bin rfl rfl (Bin.gtrN _ 0)) ?_
    by_cases hs22 : 0 < x.m.blob
    ·
     refine je (Run.pickT rfl rfl au) (jM ?_)
     refine jk (Run.fieldAddr rfl zac rfl zae jd) ?_
     refine jk (Run.load rfl zas (hb1.cell 5)) ?_
     refine Ops.clg rfl au (jE1 Tryz.call157) (tM x.A x.c x.m.flags _ (by have := hx.n; omega) hx.q (hx.frm hfr2 jp).rd) rfl ?_
     rintro e w3 ⟨rfl, hf3⟩
     refine ⟨_, rfl, ?_⟩
     have hfr3 := hfr2.trans hf3 jp
     by_cases hs27 : cC x.m.flags
     ·
      refine je (Run.pickT rfl rfl au) (ja rfl (jO ?_))
      refine jN ⟨(js1 (jC (Eq.symm (by unfold bO; first | exact decide_eq_true ⟨by assumption, by assumption, jo, by assumption⟩ | exact decide_eq_false (fun h => by first | exact absurd h.1 (by assumption) | exact absurd h.2.1 (by assumption) | (have := h.2.2.1; omega) | exact absurd h.2.2.2 (by assumption)) | exact decide_eq_decide.2 ⟨fun h => h.2.2.2, fun h => ⟨by assumption, by assumption, jo, h⟩⟩)))), (by first | exact hfr3 | exact hfr2)⟩
     refine je (Run.pickT rfl rfl au) (ja rfl (jO ?_))
     refine jN ⟨(js1 (jC (Eq.symm (by unfold bO; first | exact decide_eq_true ⟨by assumption, by assumption, jo, by assumption⟩ | exact decide_eq_false (fun h => by first | exact absurd h.1 (by assumption) | exact absurd h.2.1 (by assumption) | (have := h.2.2.1; omega) | exact absurd h.2.2.2 (by assumption)) | exact decide_eq_decide.2 ⟨fun h => h.2.2.2, fun h => ⟨by assumption, by assumption, jo, h⟩⟩)))), (by first | exact hfr3 | exact hfr2)⟩
    refine je (Run.pickT rfl rfl au) (jM ?_)
    refine jU ?_
    refine jU ?_
    refine jU ?_
    refine je (Run.pickF rfl rfl au) (ja rfl (jO ?_))
    refine jN ⟨(js1 (jC (Eq.symm (by unfold bO; first | exact decide_eq_true ⟨by assumption, by assumption, jo, by assumption⟩ | exact decide_eq_false (fun h => by first | exact absurd h.1 (by assumption) | exact absurd h.2.1 (by assumption) | (have := h.2.2.1; omega) | exact absurd h.2.2.2 (by assumption)) | exact decide_eq_decide.2 ⟨fun h => h.2.2.2, fun h => ⟨by assumption, by assumption, jo, h⟩⟩)))), (by first | exact hfr3 | exact hfr2)⟩
   refine je (Run.pickT rfl rfl au) (jM ?_)
   refine jU ?_
   refine jU ?_
   refine jU ?_
   refine je (Run.pickF rfl rfl au) (jM ?_)
   refine jU ?_
   refine jU ?_
   refine jU ?_
   refine je (Run.pickF rfl rfl au) (ja rfl (jO ?_))
   refine jN ⟨(js1 (jC (Eq.symm (by unfold bO; first | exact decide_eq_true ⟨by assumption, by assumption, jo, by assumption⟩ | exact decide_eq_false (fun h => by first | exact absurd h.1 (by assumption) | exact absurd h.2.1 (by assumption) | (have := h.2.2.1; omega) | exact absurd h.2.2.2 (by assumption)) | exact decide_eq_decide.2 ⟨fun h => h.2.2.2, fun h => ⟨by assumption, by assumption, jo, h⟩⟩)))), (by first | exact hfr3 | exact hfr2)⟩
  refine jM ?_
  refine jU ?_
  refine jU ?_
  refine jU ?_
  refine je (Run.pickF rfl rfl au) (jM ?_)
  refine jU ?_
  refine jU ?_
  refine jU ?_
  refine je (Run.pickF rfl rfl au) (jM ?_)
  refine jU ?_
  refine jU ?_
  refine jU ?_
  refine je (Run.pickF rfl rfl au) (ja rfl (jO ?_))
  refine jN ⟨(js1 (jC (Eq.symm (by unfold bO; first | exact decide_eq_true ⟨by assumption, by assumption, jo, by assumption⟩ | exact decide_eq_false (fun h => by first | exact absurd h.1 (by assumption) | exact absurd h.2.1 (by assumption) | (have := h.2.2.1; omega) | exact absurd h.2.2.2 (by assumption)) | exact decide_eq_decide.2 ⟨fun h => h.2.2.2, fun h => ⟨by assumption, by assumption, jo, h⟩⟩)))), (by first | exact hfr3 | exact hfr2)⟩
 intro Γ wR hΓ hR
 refine jN (VC.sub _ hΓ ?_)
 refine jT ?_
 refine qC rfl ?_
 exact ⟨rfl, hR⟩
theorem nH {n : Int} {l : List Mc} : ∀ {i : Nat}, i ≤ l.length → (∀ j (hj : j < l.length), j < i → cZ n (Ms l) j (l[j]).m) → 0 ≤ gU (Ms l) i ∧ (0 < i → 1 ≤ gU (Ms l) i)
 | 0, _, _ => ⟨Int.le_refl _, fun h => absurd h (Nat.lt_irrefl 0)⟩
 | i + 1, hi, h => by
  have ih := nH (i := i) jo (fun j hj hji => h j hj jo)
  have h1 := (h i jo jo).1
  have h2 := mG (l := l) (i := i) jo
  rw [h2]
  omega
theorem kZ (v n : Int) (A : Option Addr) (c : Nat) (l : List Mc) (w : World) (hl : RdM w A l) (hn : l.length ≤ 1000000) : Calls Tryz.prog 78 #[.agg #[.int .i64 v, .int .i64 n, .slice A l.length c]] w fun e w' => e = .returned (.bool (decide (bT ⟨v, n, Ms l⟩))) ∧ Frm [] w w' := by
 refine VC.calls (nt := 74) (res := #[.tmp 2]) Tryz.func78 rfl Tryz.ntmps78 Tryz.results78 rfl ?_
 refine jS (jR ?_)
 refine Ops.m (qJ.box rfl) rfl ?_
 rintro _ w1 ⟨rfl, hF1⟩
 have hb1 := hF1.blk
 have hf1 := hF1.frm
 have hs1 : w.heap.size ≤ w.heap.size := zaj _
 generalize hg1 : w.heap.size = g1 at hb1 ⊢
 refine ja rfl (jO (jN (jv1 1 ?_)))
 refine jS (jS (jR (jz 0 (jO (jN (jB ?_))))))
 refine VC.loop (σ := Nat) (fun s => [(1, .pointer (some ⟨g1, 0, none⟩)), (3, .int .i64 ((s : Nat) : Int))]) (fun s wr => s ≤ l.length ∧ Frm [] w wr ∧ Blk wr g1 43 #[.int .i64 v, .int .i64 n, .slice A l.length c] ∧ ∀ j (hj : j < l.length), j < s → cZ n (Ms l) j (l[j]).m) (fun s => l.length - s) 0 (js2 rfl rfl) ⟨jo, hf1, hb1, jp⟩ ?_
 rintro i wr ⟨hi, hfr, hb1, hg⟩
 refine jS (jS (jR (jm rfl (jf rfl zj rfl zaa (jl rfl zao (hb1.cell 2) (je (Run.lenS rfl zk) (jb rfl rfl (Bin.lssN _ _) (jO (jN (jv3 1 3 9 ?_))))))))))
 refine jD rfl (fun hc1 => ?_) fun hc1 => ?_
 ·
  have hR := hl.frm hfr
  have hAe : ∃ ad, A = some ad := (hR.elem hc1).elim fun ad h => ⟨ad, h.1⟩
  obtain ⟨ad, rfl⟩ := hAe
  have hcell : ∀ k (hk : k < l.length) j v, (l[k]).cells[j]? = some v → wr.cell? ((ad.add (k * 6)).add j) = some v := fun k hk => by
   obtain ⟨ad', hA, h⟩ := hR.elem hk
   injection hA with hA
   subst hA
   exact h
  have hxa := hR.fl (l[i]) (zr hc1)
  have hcx := hcell i hc1
  have hpz : i = 0 → gU (Ms l) i = 0 := fun h => by subst h; rfl
  have hps : ∀ (h : 0 < i), gU (Ms l) i = (l[i - 1]'jo).m.uid := fun h => by
   have := mG (l := l) (i := i - 1) jo
   rwa [show i - 1 + 1 = i by omega] at this
  have hpge := nH hi hg
  generalize hx : l[i] = x at *
  refine jQ (jN (jv2 1 3 ?_))
  refine jS (jB (jS (jR (jf rfl zj rfl zaa (jl rfl zao (hb1.cell 2) (jm rfl (je (Run.indexS i rfl rfl zk zt hc1) (jf rfl zac rfl zi (jl rfl zn (hcx 0 _ rfl) (ja rfl (jO (jN (jv3 1 3 4 ?_)))))))))))))
  refine jS ?_
  refine VC.splitR [(1, .pointer (some ⟨g1, 0, none⟩)), (3, .int .i64 ((i : Nat) : Int))] (Frm [] wr) 49 (.bool (decide (¬ cZ n (Ms l) i x.m))) ?_ ?_
  ·
   refine jR ?_
   refine jm rfl (jb rfl rfl (Bin.lss _ 1) ?_)
   by_cases hs19 : x.m.uid < 1
   ·
    refine jM ?_
    refine jU ?_
    refine jU ?_
    refine jU ?_
    refine jU ?_
    refine je (Run.pickT rfl rfl au) (jM ?_)
    refine jU ?_
    refine jU ?_
    refine jU ?_
    refine Ops.skU rfl rfl ?_
    refine Ops.skU rfl rfl ?_
    refine Ops.skU rfl rfl ?_
    refine Ops.skU rfl rfl ?_
    refine Ops.skU rfl rfl ?_
    refine Ops.skU rfl rfl ?_
    refine Ops.skU rfl rfl ?_
    refine Ops.skU rfl rfl ?_
    refine Ops.skU rfl rfl ?_
    refine jU ?_
    refine je (Run.pickT rfl rfl au) (jM ?_)
    refine jU ?_
    refine jU ?_
    refine jU ?_
    refine jU ?_
    refine jU ?_
    refine jU ?_
    refine jU ?_
    refine je (Run.pickT rfl rfl au) (jO ?_)
    refine jN ⟨(js3 (jC (Eq.symm (by first | exact decide_eq_true (fun h => by have h1 := h.1; have h2 := h.2.1; first | omega | (have := hps (by assumption); omega) | (have := hpz jo; omega)) | (rw [← decide_not]; exact decide_eq_decide.2 ⟨fun h hm => h ⟨by first | (have := hps (by assumption); omega) | (have := hpz jo; omega), jo, hm⟩, fun h hg => h hg.2.2⟩) | exact decide_eq_decide.2 ⟨fun _ => jo, fun _ h => by have h1 := h.1; have := hps (by assumption); omega⟩))) rfl rfl), (by first | exact hf4 | exact Frm.refl _ _)⟩
   refine jM ?_
   refine jG ?_
   refine jk (Run.fieldAddr rfl zj rfl zi jd) ?_
   refine jk (Run.load rfl zn (hb1.cell 1)) ?_
   refine jk (Run.bin rfl rfl (Bin.geq _ _)) ?_
   by_cases hs24 : n ≤ x.m.uid
   ·
    refine je (Run.pickF rfl rfl au) (jM ?_)
    refine jU ?_
    refine jU ?_
    refine jU ?_
    refine Ops.skU rfl rfl ?_
    refine Ops.skU rfl rfl ?_
    refine Ops.skU rfl rfl ?_
    refine Ops.skU rfl rfl ?_
    refine Ops.skU rfl rfl ?_
    refine Ops.skU rfl rfl ?_
    refine Ops.skU rfl rfl ?_
    refine Ops.skU rfl rfl ?_
    refine Ops.skU rfl rfl ?_
    refine jU ?_
    refine je (Run.pickT rfl rfl au) (jM ?_)
    refine jU ?_
    refine jU ?_
    refine jU ?_
    refine jU ?_
    refine jU ?_
    refine jU ?_
    refine jU ?_
    refine je (Run.pickT rfl rfl au) (jO ?_)
    refine jN ⟨(js3 (jC (Eq.symm (by first | exact decide_eq_true (fun h => by have h1 := h.1; have h2 := h.2.1; first | omega | (have := hps (by assumption); omega) | (have := hpz jo; omega)) | (rw [← decide_not]; exact decide_eq_decide.2 ⟨fun h hm => h ⟨by first | (have := hps (by assumption); omega) | (have := hpz jo; omega), jo, hm⟩, fun h hg => h hg.2.2⟩) | exact decide_eq_decide.2 ⟨fun _ => jo, fun _ h => by have h1 := h.1; have := hps (by assumption); omega⟩))) rfl rfl), (by first | exact hf4 | exact Frm.refl _ _)⟩
   refine je (Run.pickF rfl rfl au) (jM ?_)
   refine jG ?_
   refine jk (Run.bin rfl rfl (Bin.gtrN _ 0)) ?_
   by_cases hs28 : 0 < i
   ·
    refine jG ?_
    refine jk (Run.fieldAddr rfl zj rfl zaa jd) ?_
    refine jk (Run.load rfl zao (hb1.cell 2)) ?_
    refine jG ?_
    refine jk (Run.bin rfl rfl (Bin.sub_i64 _ 1 jo jo)) ?_
    refine jk (Run.indexS (i - 1) rfl rfl zk zt jo) ?_
    refine jk (Run.fieldAddr rfl zac rfl zi jd) ?_
    refine jk (Run.load rfl zn (hcell (i - 1) jo 0 _ rfl)) ?_
    refine jG ?_
    refine jk (Run.bin rfl rfl (Bin.geq _ _)) ?_
    by_cases hs38 : x.m.uid ≤ (l[i - 1]'jo).m.uid
    ·
     refine jk (Run.pickT rfl rfl au) ?_
     refine je (Run.pickF rfl rfl au) (jM ?_)
     refine jU ?_
     refine jU ?_
     refine jU ?_
     refine jU ?_
     refine jU ?_
     refine jU ?_
     refine jU ?_
     refine je (Run.pickT rfl rfl au) (jO ?_)
     refine jN ⟨(js3 (jC (Eq.symm (by first | exact decide_eq_true (fun h => by have h1 := h.1; have h2 := h.2.1; first | omega | (have := hps (by assumption); omega) | (have := hpz jo; omega)) | (rw [← decide_not]; exact decide_eq_decide.2 ⟨fun h hm => h ⟨by first | (have := hps (by assumption); omega) | (have := hpz jo; omega), jo, hm⟩, fun h hg => h hg.2.2⟩) | exact decide_eq_decide.2 ⟨fun _ => jo, fun _ h => by have h1 := h.1; have := hps (by assumption); omega⟩))) rfl rfl), (by first | exact hf4 | exact Frm.refl _ _)⟩
    refine jk (Run.pickT rfl rfl au) ?_
    refine je (Run.pickF rfl rfl au) (jM ?_)
    refine jk (Run.fieldAddr rfl zj rfl zaa jd) ?_
    refine jk (Run.load rfl zao (hb1.cell 2)) ?_
    refine jG ?_
    refine jk (Run.indexS i rfl rfl zk zt hc1) ?_
    refine jk (Run.loadA rfl zaz zt hcx (by first | rfl | (simp; done))) ?_
    refine Ops.clg rfl au (jE1 Tryz.call124) (fQ x _ hxa) rfl ?_
    rintro e w4 ⟨rfl, hf4⟩
    refine ⟨_, rfl, ?_⟩
    by_cases hs47 : bO x.m
    ·
     refine jk (Run.not rfl) ?_
     refine je (Run.pickF rfl rfl au) (jO ?_)
     refine jN ⟨(js3 (jC (Eq.symm (by first | exact decide_eq_true (fun h => by have h1 := h.1; have h2 := h.2.1; first | omega | (have := hps (by assumption); omega) | (have := hpz jo; omega)) | (rw [← decide_not]; exact decide_eq_decide.2 ⟨fun h hm => h ⟨by first | (have := hps (by assumption); omega) | (have := hpz jo; omega), jo, hm⟩, fun h hg => h hg.2.2⟩) | exact decide_eq_decide.2 ⟨fun _ => jo, fun _ h => by have h1 := h.1; have := hps (by assumption); omega⟩))) rfl rfl), (by first | exact hf4 | exact Frm.refl _ _)⟩
    refine jk (Run.not rfl) ?_
    refine je (Run.pickF rfl rfl au) (jO ?_)
    refine jN ⟨(js3 (jC (Eq.symm (by first | exact decide_eq_true (fun h => by have h1 := h.1; have h2 := h.2.1; first | omega | (have := hps (by assumption); omega) | (have := hpz jo; omega)) | (rw [← decide_not]; exact decide_eq_decide.2 ⟨fun h hm => h ⟨by first | (have := hps (by assumption); omega) | (have := hpz jo; omega), jo, hm⟩, fun h hg => h hg.2.2⟩) | exact decide_eq_decide.2 ⟨fun _ => jo, fun _ h => by have h1 := h.1; have := hps (by assumption); omega⟩))) rfl rfl), (by first | exact hf4 | exact Frm.refl _ _)⟩
   refine jG ?_
   refine jU ?_
   refine jU ?_
   refine jU ?_
   refine jU ?_
   refine jU ?_
   refine jU ?_
   refine jU ?_
   refine jU ?_
   refine jU ?_
   refine jk (Run.pickF rfl rfl au) ?_
   refine je (Run.pickF rfl rfl au) (jM ?_)
   refine jk (Run.fieldAddr rfl zj rfl zaa jd) ?_
   refine jk (Run.load rfl zao (hb1.cell 2)) ?_
   refine jG ?_
   refine jk (Run.indexS i rfl rfl zk zt hc1) ?_
   refine jk (Run.loadA rfl zaz zt hcx (by first | rfl | (simp; done))) ?_
   refine Ops.clg rfl au (jE1 Tryz.call124) (fQ x _ hxa) rfl ?_
   rintro e w4 ⟨rfl, hf4⟩
   refine ⟨_, rfl, ?_⟩
   by_cases hs47 : bO x.m
   ·
    refine jk (Run.not rfl) ?_
    refine je (Run.pickF rfl rfl au) (jO ?_)
    refine jN ⟨(js3 (jC (Eq.symm (by first | exact decide_eq_true (fun h => by have h1 := h.1; have h2 := h.2.1; first | omega | (have := hps (by assumption); omega) | (have := hpz jo; omega)) | (rw [← decide_not]; exact decide_eq_decide.2 ⟨fun h hm => h ⟨by first | (have := hps (by assumption); omega) | (have := hpz jo; omega), jo, hm⟩, fun h hg => h hg.2.2⟩) | exact decide_eq_decide.2 ⟨fun _ => jo, fun _ h => by have h1 := h.1; have := hps (by assumption); omega⟩))) rfl rfl), (by first | exact hf4 | exact Frm.refl _ _)⟩
   refine jk (Run.not rfl) ?_
   refine je (Run.pickF rfl rfl au) (jO ?_)
   refine jN ⟨(js3 (jC (Eq.symm (by first | exact decide_eq_true (fun h => by have h1 := h.1; have h2 := h.2.1; first | omega | (have := hps (by assumption); omega) | (have := hpz jo; omega)) | (rw [← decide_not]; exact decide_eq_decide.2 ⟨fun h hm => h ⟨by first | (have := hps (by assumption); omega) | (have := hpz jo; omega), jo, hm⟩, fun h hg => h hg.2.2⟩) | exact decide_eq_decide.2 ⟨fun _ => jo, fun _ h => by have h1 := h.1; have := hps (by assumption); omega⟩))) rfl rfl), (by first | exact hf4 | exact Frm.refl _ _)⟩
  intro Γ w4 hΓ hf4
  refine jN (VC.sub _ hΓ ?_)
  refine jD rfl (fun hc2 => ?_) fun hc2 => ?_
  ·
   have hng : ¬ cZ n (Ms l) i x.m := hc2
   refine jS (jR (ja rfl (jO (jN (jv1 2 ?_)))))
   refine jT ?_
   refine qN (qQ (qQ (qN (qQ (qC rfl ?_)))))
   refine ⟨?_, hfr.trans hf4 jp⟩
   rw [decide_eq_false]
   intro h
   have := (eI h).2 i hc1
   rw [hx] at this
   exact hng this
  have hgi : cZ n (Ms l) i x.m := Classical.not_not.1 hc2
  have hfr4 := hfr.trans hf4 jp
  refine jQ ?_
  refine qT (jN ?_)
  refine jv2 1 3 ?_
  refine jR (jm rfl (jb rfl rfl (Bin.add_i64 _ 1 jo) (ja rfl (jO ?_))))
  refine jN ⟨(i + 1), (js2 rfl rfl), ?_, ?_⟩
  ·
   refine ⟨hc1, hfr4, hb1.frm hf4 jp, fun j hj hji => ?_⟩
   rcases zck j i with h | h
   · exact hg j hj h
   obtain rfl : j = i := jo
   rw [hx]; exact hgi
  first | omega | (dsimp only; omega)
 refine jX ?_
 refine qH (qH (qF ?_))
 refine jN (jv1 1 ?_)
 refine jS ?_
 refine VC.split1 [] .nil 2 (.bool (decide (1 ≤ v ∧ v ≤ 2147483647 ∧ 1 ≤ n ∧ n ≤ 2147483648 ∧ l.length ≤ 128))) ?_ ?_
 ·
  refine jR (jf rfl zj rfl zi (jl rfl zn (hb1.cell 0) (jb rfl rfl (Bin.leq 1 _) ?_)))
  by_cases hs52 : 1 ≤ v
  ·
   refine jM ?_
   refine jk (Run.fieldAddr rfl zj rfl zi jd) ?_
   refine jk (Run.load rfl zn (hb1.cell 0)) ?_
   refine jk (Run.bin rfl rfl (Bin.leq _ 2147483647)) ?_
   by_cases hs56 : v ≤ 2147483647
   ·
    refine je (Run.pickT rfl rfl au) (jM ?_)
    refine jk (Run.fieldAddr rfl zj rfl zi jd) ?_
    refine jk (Run.load rfl zn (hb1.cell 1)) ?_
    refine jk (Run.bin rfl rfl (Bin.leq 1 _)) ?_
    by_cases hs61 : 1 ≤ n
    ·
     refine je (Run.pickT rfl rfl au) (jM ?_)
     refine jk (Run.fieldAddr rfl zj rfl zi jd) ?_
     refine jk (Run.load rfl zn (hb1.cell 1)) ?_
     refine jk (Run.bin rfl rfl (Bin.leq _ 2147483648)) ?_
     by_cases hs66 : n ≤ 2147483648
     ·
      refine je (Run.pickT rfl rfl au) (jM ?_)
      refine jk (Run.fieldAddr rfl zj rfl zaa jd) ?_
      refine jk (Run.load rfl zao (hb1.cell 2)) ?_
      refine jk (Run.lenS rfl zk) ?_
      refine jk (Run.bin rfl rfl (Bin.leqN _ 128)) ?_
      by_cases hs72 : l.length ≤ 128
      ·
       refine je (Run.pickT rfl rfl au) (ja rfl (jO ?_))
       refine jN ⟨(js1 (jC (Eq.symm (by simp [*])))), rfl⟩
      refine je (Run.pickT rfl rfl au) (ja rfl (jO ?_))
      refine jN ⟨(js1 (jC (Eq.symm (by simp [*])))), rfl⟩
     refine je (Run.pickT rfl rfl au) (jM ?_)
     refine jU ?_
     refine jU ?_
     refine jU ?_
     refine jU ?_
     refine je (Run.pickF rfl rfl au) (ja rfl (jO ?_))
     refine jN ⟨(js1 (jC (Eq.symm (by simp [*])))), rfl⟩
    refine je (Run.pickT rfl rfl au) (jM ?_)
    refine jU ?_
    refine jU ?_
    refine jU ?_
    refine je (Run.pickF rfl rfl au) (jM ?_)
    refine jU ?_
    refine jU ?_
    refine jU ?_
    refine jU ?_
    refine je (Run.pickF rfl rfl au) (ja rfl (jO ?_))
    refine jN ⟨(js1 (jC (Eq.symm (by simp [*])))), rfl⟩
   refine je (Run.pickT rfl rfl au) (jM ?_)
   refine jU ?_
   refine jU ?_
   refine jU ?_
   refine je (Run.pickF rfl rfl au) (jM ?_)
   refine jU ?_
   refine jU ?_
   refine jU ?_
   refine je (Run.pickF rfl rfl au) (jM ?_)
   refine jU ?_
   refine jU ?_
   refine jU ?_
   refine jU ?_
   refine je (Run.pickF rfl rfl au) (ja rfl (jO ?_))
   refine jN ⟨(js1 (jC (Eq.symm (by simp [*])))), rfl⟩
  refine jM ?_
  refine jU ?_
  refine jU ?_
  refine jU ?_
  refine je (Run.pickF rfl rfl au) (jM ?_)
  refine jU ?_
  refine jU ?_
  refine jU ?_
  refine je (Run.pickF rfl rfl au) (jM ?_)
  refine jU ?_
  refine jU ?_
  refine jU ?_
  refine je (Run.pickF rfl rfl au) (jM ?_)
  refine jU ?_
  refine jU ?_
  refine jU ?_
  refine jU ?_
  refine je (Run.pickF rfl rfl au) (ja rfl (jO ?_))
  refine jN ⟨(js1 (jC (Eq.symm (by simp [*])))), rfl⟩
 intro Γ hΓ
 refine jN (VC.sub _ hΓ ?_)
 refine jT ?_
 refine qC rfl ?_
 refine ⟨?_, hfr⟩
 congr 2
 rw [decide_eq_decide]
 exact ⟨fun h => uT h (fun j hj => hg j hj jo), fun h => (eI h).1⟩
end
section
open Go.RowKit Go.Sort
theorem sD (v n : Int) (A : Option Addr) (c : Nat) (l : List Mc) (x : Mc) (w : World) (hl : RdM w A l) (hn : l.length ≤ 900000) (hx : x.At w) : Calls Tryz.prog 87 #[.agg #[.int .i64 v, .int .i64 n, .slice A l.length c], .agg x.cells.toArray] w fun e w' =>
  Frm [] w w' ∧ ∃ v' n' B d l' k, e = .returned (.tuple #[.agg #[.int .i64 v', .int .i64 n', .slice B l'.length d], .int .i64 (if k = 0 then n else 0), .int .i64 ((k : Nat) : Int)]) ∧ dH w' (bG ⟨v, n, Ms l⟩ x.m) v' n' B d l' k := by
 refine VC.calls (nt := 43) (res := #[.cell 4 43, .tmp 5, .tmp 6]) Tryz.func87 rfl Tryz.ntmps87 Tryz.results87 rfl ?_
 refine jS (jR ?_)
 refine Ops.m (qJ.box rfl) rfl ?_
 rintro _ w1 ⟨rfl, hF2⟩
 have hb2 := hF2.blk
 have hf2 := hF2.frm
 have hs2 : w.heap.size ≤ w.heap.size := zaj _
 generalize hg2 : w.heap.size = g2 at hb2 ⊢
 refine Ops.m (qJ.box rfl) rfl ?_
 rintro _ w2 ⟨rfl, hF3⟩
 have hb3 := hF3.blk
 have hb2 := hb2.frm hF3.frm jp
 have hf3 := hf2.trans hF3.frm jp
 have hs3 : w.heap.size ≤ w1.heap.size := hf2.size
 generalize hg3 : w1.heap.size = g3 at hb3 hs3 ⊢
 have hn23 : g2 < g3 := by rw [← hg3, ← hg2]; have := hF2.size; omega
 refine Ops.m (qJ.alloc bH) rfl ?_
 rintro _ w4 ⟨rfl, hF4⟩
 have hb4 := hF4.blk
 have hb2 := hb2.frm hF4.frm jp
 have hb3 := hb3.frm hF4.frm jp
 have hf4 := hf3.trans hF4.frm jp
 have hs4 : w.heap.size ≤ w2.heap.size := hf3.size
 generalize hg4 : w2.heap.size = g4 at hb4 hs4 ⊢
 have hn34 : g3 < g4 := by rw [← hg4, ← hg3]; have := hF3.size; omega
 refine jz 0 (jz 0 (jO (jN (jv3 2 3 4 ?_))))
 refine jS (jS ?_)
 refine VC.splitR [(2, .pointer (some ⟨g2, 0, none⟩)), (3, .pointer (some ⟨g3, 0, none⟩)), (4, .pointer (some ⟨g4, 0, none⟩))] (Frm [] w4) 14 (.bool (decide (¬ bT ⟨v, n, Ms l⟩ ∨ ¬ bO x.m))) ?_ ?_
 ·
  refine jR (je (Run.loadA rfl zad zf (fun j v hj => hb2.cells j v hj) (by first | rfl | (simp; done))) ?_)
  refine Ops.cl (jE1 Tryz.call78) (kZ v n A c l _ (hl.frm hf4) jo) rfl ?_
  rintro e w5 ⟨rfl, hf5⟩
  refine ⟨_, rfl, ?_⟩
  by_cases hs8 : bT ⟨v, n, Ms l⟩
  ·
   refine je (Run.not rfl) (jM ?_)
   refine jk (Run.loadA rfl zaz zt (fun j v hj => (hb3.frm hf5 jp).cells j v hj) (by first | rfl | (simp; done))) ?_
   refine Ops.clg rfl au (jE1 Tryz.call124) (fQ x _ (hx.frm (hf4.trans hf5 jp) jp)) rfl ?_
   rintro e w6 ⟨rfl, hf6⟩
   refine ⟨_, rfl, ?_⟩
   by_cases hs12 : bO x.m
   ·
    refine jk (Run.not rfl) ?_
    refine je (Run.pickF rfl rfl au) (jO ?_)
    refine jN ⟨(js4 (jC (Eq.symm (by simp [*]))) rfl rfl rfl), (by first | exact hf5.trans hf6 jp | exact hf5)⟩
   refine jk (Run.not rfl) ?_
   refine je (Run.pickF rfl rfl au) (jO ?_)
   refine jN ⟨(js4 (jC (Eq.symm (by simp [*]))) rfl rfl rfl), (by first | exact hf5.trans hf6 jp | exact hf5)⟩
  refine je (Run.not rfl) (jM ?_)
  refine jU ?_
  refine jU ?_
  refine jU ?_
  refine je (Run.pickT rfl rfl au) (jO ?_)
  refine jN ⟨(js4 (jC (Eq.symm (by simp [*]))) rfl rfl rfl), (by first | exact hf5.trans hf6 jp | exact hf5)⟩
 intro Γ w7 hΓ hf7
 refine jN (VC.sub _ hΓ ?_)
 refine jD rfl (fun hc1 => ?_) fun hc1 => ?_
 ·
  have hb47 := hb4.frm hf7 jp
  have hfr7 := hf4.trans hf7 jp
  refine jS (jR (je (Run.build evs.nil bH (bV).choose_spec.1 (bV).choose_spec.2 rfl) ?_))
  refine Ops.st (qW.storeA rfl rfl zf hb47 rfl (bK 0 0 none 0 0)) ?_
  rintro w8 ⟨hbz, hfz, hsz⟩
  refine jz 0 (jz 1 (jO (jN (jv3 4 5 6 ?_))))
  refine jT ?_
  refine qQ (bZ ?_)
  refine qS rfl zad zf (fun j v hj => hbz.cells j v hj) (by first | rfl | (simp; done)) ?_
  refine qK rfl ?_
  refine qK rfl ?_
  refine qB ?_
  exact ⟨hfr7.own hfz (fun y hy => by simp at hy; omega), 0, 0, none, 0, [], 1, rfl, dH.err jd (by unfold bG; rw [if_pos hc1])⟩
 have hb47 := hb4.frm hf7 jp
 have hb27 := hb2.frm hf7 jp
 have hb37 := hb3.frm hf7 jp
 have hfr7 := hf4.trans hf7 jp
 have hmay : bT ⟨v, n, Ms l⟩ := Classical.not_not.1 fun h => hc1 (.inl h)
 have hl128 : l.length ≤ 128 := (eI hmay).1.2.2.2.2
 have hnx := (eI hmay).1
 refine jQ (jN (jv3 2 3 4 ?_))
 refine jS (jS (jR (jf rfl zj rfl zaa (jl rfl zao (hb27.cell 2) (je (Run.lenS rfl zk) (jb rfl rfl (Bin.geqN _ 128) (jO (jN (jv4 2 3 4 19 ?_)))))))))
 refine jD rfl (fun hc2 => ?_) fun hc2 => ?_
 ·
  refine jS (jR (je (Run.build evs.nil bH (bV).choose_spec.1 (bV).choose_spec.2 rfl) ?_))
  refine Ops.st (qW.storeA rfl rfl zf hb47 rfl (bK 0 0 none 0 0)) ?_
  rintro w8 ⟨hbz, hfz, hsz⟩
  refine jz 0 (jz 5 (jO (jN (jv3 4 5 6 ?_))))
  refine jT ?_
  refine qQ (bZ ?_)
  refine qS rfl zad zf (fun j v hj => hbz.cells j v hj) (by first | rfl | (simp; done)) ?_
  refine qK rfl ?_
  refine qK rfl ?_
  refine qB ?_
  refine ⟨hfr7.own hfz (fun y hy => by simp at hy; omega), 0, 0, none, 0, [], 5, rfl, dH.err jd ?_⟩
  unfold bG
  rw [if_neg hc1, if_pos (by simp [Ms]; omega)]
 refine jQ (jN (jv3 2 3 4 ?_))
 refine jS (jS (jR (jf rfl zj rfl zi (jl rfl zn (hb27.cell 1) (jb rfl rfl (Bin.gtr _ 2147483647) (jO (jN (jv4 2 3 4 23 ?_))))))))
 refine jD rfl (fun hc3 => ?_) fun hc3 => ?_
 ·
  refine jS (jR (je (Run.build evs.nil bH (bV).choose_spec.1 (bV).choose_spec.2 rfl) ?_))
  refine Ops.st (qW.storeA rfl rfl zf hb47 rfl (bK 0 0 none 0 0)) ?_
  rintro w8 ⟨hbz, hfz, hsz⟩
  refine jz 0 (jz 19 (jO (jN (jv3 4 5 6 ?_))))
  refine jT ?_
  refine qQ (bZ ?_)
  refine qS rfl zad zf (fun j v hj => hbz.cells j v hj) (by first | rfl | (simp; done)) ?_
  refine qK rfl ?_
  refine qK rfl ?_
  refine qB ?_
  refine ⟨hfr7.own hfz (fun y hy => by simp at hy; omega), 0, 0, none, 0, [], 19, rfl, dH.err jd ?_⟩
  unfold bG
  rw [if_neg hc1, if_neg (by simp [Ms]; omega), if_pos hc3]
 refine jQ (jN (jv3 2 3 4 ?_))
 refine jS (jR (jf rfl zj rfl zi (jl rfl zn (hb27.cell 1) (jf rfl zac rfl zi ?_))))
 refine Ops.st (qW.store rfl rfl zi hb37 rfl rfl) ?_
 rintro w8 ⟨hb38, hf8, hs8⟩
 have hb38 : Blk w8 g3 60 (⟨{ x.m with uid := n }, x.A, x.c⟩ : Mc).cells.toArray := hb38
 have hb28 := hb27.frm hf8 (by simp; omega)
 have hb48 := hb47.frm hf8 (by simp; omega)
 have hfr8 := hfr7.own hf8 (fun y hy => by simp at hy; omega)
 have hx8 : (⟨{ x.m with uid := n }, x.A, x.c⟩ : Mc).At w8 := ⟨(hx.frm hfr8 jp).rd, hx.n, hx.q⟩
 have hl8 := hl.frm hfr8
 refine jO (jN (jv3 2 3 4 ?_))
 refine jS ?_
 refine VC.meet (σ := Option Addr × Nat) (fun s => [(2, .pointer (some ⟨g2, 0, none⟩)), (3, .pointer (some ⟨g3, 0, none⟩)), (4, .pointer (some ⟨g4, 0, none⟩))]) (fun s wr => Blk wr g2 43 (BVc v n s.1 (0 + l.length + 1) s.2).toArray ∧ Blk wr g3 60 (⟨{ x.m with uid := n }, x.A, x.c⟩ : Mc).cells.toArray ∧ Blk wr g4 43 (BVc 0 0 none 0 0).toArray ∧ Own wr 60 6 s.1 (0 + l.length + 1) s.2 (MC (l ++ [⟨{ x.m with uid := n }, x.A, x.c⟩])) ∧ Frm [] w wr) ?_ ?_
 ·
  refine VC.heldL 8 (fun W => Frm [] w8 W) jK ?_
  have hS : Frm [] w8 w8.drew := (Frm.refl _ _).drew
  refine jH 1 rfl hS (fun w0 hw0 => Run.fieldAddr rfl zj rfl zaa jd) ?_
  refine jH 2 rfl hS (fun w0 hw0 => Run.load rfl zao ((hb28.frm hw0 jp).cell 2)) ?_
  refine jH 4 rfl hS (fun w0 hw0 => Run.loadA rfl zaz zt (fun j v hj => (hb38.frm hw0 jp).cells j v hj) (by first | rfl | (simp; done))) ?_
  refine qZ.or2 0 5 jK ?_ ?_
  ·
   refine cB.m rfl (qJ.buildS0 zk zt) trivial rfl rfl ?_
   rintro _ w9 ⟨rfl, hF9⟩
   have hgA := hS.size
   try have hlt33 := hr33.lt jo
   try have hr33 := hr33.frm hF9.frm jp
   have hS9 : Frm [] w8 w9 := hS.trans hF9.frm jp
   refine ⟨hS9, ?_⟩
   have hS := hS9
   have hA : Own w9 60 6 (some ⟨_, 0, none⟩) 0 0 [] := Own.of_blk (n := 0) hF9.blk rfl jd
   refine qZ.or2 3 5 jK ?_ ?_
   ·
    refine cB.m rfl (qJ.app rfl rfl zk (cO) rfl jd hA (hl8.frm hS).rd (bA Mc.cells Mc.cells_one _) jo jo) trivial rfl rfl ?_
    rintro _ w10 ⟨A10, c10, rfl, hown10, hf10, hob10⟩
    rw [zav] at hown10
    try have hr33 := hr33.frm hf10 (fun _ y hy hy2 => by simp only [ob, za] at hy hy2; first | (have := hlt33 y (by simp [ob, hy]); omega) | (have := hltA y (by simp [ob, hy2]); omega))
    have hge10 : ∀ b ∈ ob A10, w8.heap.size ≤ b := dP (by simp only [ob, za, forall_eq]; exact hgA) hob10 hS.size
    have hS10 : Frm [] w8 w10 := hS.own hf10 (by simp only [ob, za, forall_eq]; exact hgA)
    refine ⟨hS10, ?_⟩
    have hS := hS10
    have hA := hown10
    refine qZ.m 5 rfl jK (qJ.buildS1 rfl zk zt cP jd jd rfl rfl) trivial rfl rfl ?_
    try have hltA := hA.lt
    rintro _ w11 ⟨rfl, hF11⟩
    try have hA := hA.frm hF11.frm jp
    have hS11 := hS.trans hF11.frm jp
    refine ⟨hS11, ?_⟩
    have hS := hS11
    have hr33 := kV (x := ⟨{ x.m with uid := n }, x.A, x.c⟩) hF11
    refine qZ.m 6 rfl jK (qJ.app rfl rfl zk (cO) rfl jd hA hr33 (bA Mc.cells Mc.cells_one _) jo jo) trivial rfl rfl ?_
    rintro _ w12 ⟨A12, c12, rfl, hown12, hf12, hob12⟩
    rw [← dK] at hown12
    have hS12 := hS.own hf12 hge10
    refine ⟨hS12, ?_⟩
    have hS := hS12
    refine qZ.r1 7 rfl jK hS (Run.fieldAddr rfl zj rfl zaa jd) trivial rfl rfl ?_
    refine qZ.stL rfl jK (qW.store rfl rfl zaa (hb28.frm hS jp) rfl rfl) trivial rfl ?_
    rintro w13 ⟨hb13, hf13, hs13⟩
    have hb413 := (hb48.frm hS jp).frm hf13 (by simp; omega)
    have hb313 := (hb38.frm hS jp).frm hf13 (by simp; omega)
    have hown13 := hown12.frm hf13 (fun y hy => by have := hown12.ne_blk (hb28.frm hS jp) jd; simp; rintro rfl; exact this hy)
    have hfr13 := (hfr8.trans hS jp).own hf13 (fun y hy => by simp at hy; omega)
    have hb13 : Blk w13 g2 43 (BVc v n A12 (0 + l.length + 1) c12).toArray := hb13
    refine qZ.done jK ?_
    refine jN ⟨(A12, c12), (js3 rfl rfl rfl), ?_⟩
    exact ⟨hb13, hb313, hb413, hown13, hfr13⟩
   refine cB.m rfl (qJ.buildS1 rfl zk zt cP jd jd rfl rfl) trivial rfl rfl ?_
   try have hltA := hA.lt
   rintro _ w11 ⟨rfl, hF11⟩
   try have hA := hA.frm hF11.frm jp
   have hS11 := hS.trans hF11.frm jp
   refine ⟨hS11, ?_⟩
   have hS := hS11
   have hr33 := kV (x := ⟨{ x.m with uid := n }, x.A, x.c⟩) hF11
   refine qZ.m 3 rfl jK (qJ.app rfl rfl zk (cO) rfl jd hA (hl8.frm hS).rd (bA Mc.cells Mc.cells_one _) jo jo) trivial rfl rfl ?_
   rintro _ w10 ⟨A10, c10, rfl, hown10, hf10, hob10⟩
   rw [zav] at hown10
   try have hr33 := hr33.frm hf10 (fun _ y hy hy2 => by simp only [ob, za] at hy hy2; first | (have := hlt33 y (by simp [ob, hy]); omega) | (have := hltA y (by simp [ob, hy2]); omega))
   have hge10 : ∀ b ∈ ob A10, w8.heap.size ≤ b := dP (by simp only [ob, za, forall_eq]; exact hgA) hob10 hS.size
   have hS10 : Frm [] w8 w10 := hS.own hf10 (by simp only [ob, za, forall_eq]; exact hgA)
   refine ⟨hS10, ?_⟩
   have hS := hS10
   have hA := hown10
   refine qZ.m 6 rfl jK (qJ.app rfl rfl zk (cO) rfl jd hA hr33 (bA Mc.cells Mc.cells_one _) jo jo) trivial rfl rfl ?_
   rintro _ w12 ⟨A12, c12, rfl, hown12, hf12, hob12⟩
   rw [← dK] at hown12
   have hS12 := hS.own hf12 hge10
   refine ⟨hS12, ?_⟩
   have hS := hS12
   refine qZ.r1 7 rfl jK hS (Run.fieldAddr rfl zj rfl zaa jd) trivial rfl rfl ?_
   refine qZ.stL rfl jK (qW.store rfl rfl zaa (hb28.frm hS jp) rfl rfl) trivial rfl ?_
   rintro w13 ⟨hb13, hf13, hs13⟩
   have hb413 := (hb48.frm hS jp).frm hf13 (by simp; omega)
   have hb313 := (hb38.frm hS jp).frm hf13 (by simp; omega)
   have hown13 := hown12.frm hf13 (fun y hy => by have := hown12.ne_blk (hb28.frm hS jp) jd; simp; rintro rfl; exact this hy)
   have hfr13 := (hfr8.trans hS jp).own hf13 (fun y hy => by simp at hy; omega)
   have hb13 : Blk w13 g2 43 (BVc v n A12 (0 + l.length + 1) c12).toArray := hb13
   refine qZ.done jK ?_
   refine jN ⟨(A12, c12), (js3 rfl rfl rfl), ?_⟩
   exact ⟨hb13, hb313, hb413, hown13, hfr13⟩
  refine cB.m rfl (qJ.buildS1 rfl zk zt cP jd jd rfl rfl) trivial rfl rfl ?_
  try have hltA := hA.lt
  rintro _ w11 ⟨rfl, hF11⟩
  try have hA := hA.frm hF11.frm jp
  have hS11 := hS.trans hF11.frm jp
  refine ⟨hS11, ?_⟩
  have hS := hS11
  have hr33 := kV (x := ⟨{ x.m with uid := n }, x.A, x.c⟩) hF11
  refine qZ.m 0 rfl jK (qJ.buildS0 zk zt) trivial rfl rfl ?_
  rintro _ w9 ⟨rfl, hF9⟩
  have hgA := hS.size
  try have hlt33 := hr33.lt jo
  try have hr33 := hr33.frm hF9.frm jp
  have hS9 : Frm [] w8 w9 := hS.trans hF9.frm jp
  refine ⟨hS9, ?_⟩
  have hS := hS9
  have hA : Own w9 60 6 (some ⟨_, 0, none⟩) 0 0 [] := Own.of_blk (n := 0) hF9.blk rfl jd
  refine qZ.m 3 rfl jK (qJ.app rfl rfl zk (cO) rfl jd hA (hl8.frm hS).rd (bA Mc.cells Mc.cells_one _) jo jo) trivial rfl rfl ?_
  rintro _ w10 ⟨A10, c10, rfl, hown10, hf10, hob10⟩
  rw [zav] at hown10
  try have hr33 := hr33.frm hf10 (fun _ y hy hy2 => by simp only [ob, za] at hy hy2; first | (have := hlt33 y (by simp [ob, hy]); omega) | (have := hltA y (by simp [ob, hy2]); omega))
  have hge10 : ∀ b ∈ ob A10, w8.heap.size ≤ b := dP (by simp only [ob, za, forall_eq]; exact hgA) hob10 hS.size
  have hS10 : Frm [] w8 w10 := hS.own hf10 (by simp only [ob, za, forall_eq]; exact hgA)
  refine ⟨hS10, ?_⟩
  have hS := hS10
  have hA := hown10
  refine qZ.m 6 rfl jK (qJ.app rfl rfl zk (cO) rfl jd hA hr33 (bA Mc.cells Mc.cells_one _) jo jo) trivial rfl rfl ?_
  rintro _ w12 ⟨A12, c12, rfl, hown12, hf12, hob12⟩
  rw [← dK] at hown12
  have hS12 := hS.own hf12 hge10
  refine ⟨hS12, ?_⟩
  have hS := hS12
  refine qZ.r1 7 rfl jK hS (Run.fieldAddr rfl zj rfl zaa jd) trivial rfl rfl ?_
  refine qZ.stL rfl jK (qW.store rfl rfl zaa (hb28.frm hS jp) rfl rfl) trivial rfl ?_
  rintro w13 ⟨hb13, hf13, hs13⟩
  have hb413 := (hb48.frm hS jp).frm hf13 (by simp; omega)
  have hb313 := (hb38.frm hS jp).frm hf13 (by simp; omega)
  have hown13 := hown12.frm hf13 (fun y hy => by have := hown12.ne_blk (hb28.frm hS jp) jd; simp; rintro rfl; exact this hy)
  have hfr13 := (hfr8.trans hS jp).own hf13 (fun y hy => by simp at hy; omega)
  have hb13 : Blk w13 g2 43 (BVc v n A12 (0 + l.length + 1) c12).toArray := hb13
  refine qZ.done jK ?_
  refine jN ⟨(A12, c12), (js3 rfl rfl rfl), ?_⟩
  exact ⟨hb13, hb313, hb413, hown13, hfr13⟩
 rintro ⟨A12, c12⟩ w13 ⟨hb13, hb313, hb413, hown13, hfr13⟩ Γ hΓ
 dsimp only at hb13 hown13
 refine jN (VC.sub _ hΓ (jS (jR (jf rfl zj rfl zi (jl rfl zn (hb13.cell 1) (jb rfl rfl (Bin.addZ _ 1 jo jo) (jf rfl zj rfl zi ?_)))))))
 refine Ops.st (qW.store rfl rfl zi hb13 rfl rfl) ?_
 rintro w14 ⟨hb14, hf14, hs14⟩
 have hb414 := hb413.frm hf14 (by simp; omega)
 have hb314 := hb313.frm hf14 (by simp; omega)
 have hown14 := hown13.frm hf14 (fun y hy => by have := hown13.ne_blk hb13 jd; simp; rintro rfl; exact this hy)
 have hfr14 := hfr13.own hf14 (fun y hy => by simp at hy; omega)
 have hb14 : Blk w14 g2 43 (BVc v (n + 1) A12 (0 + l.length + 1) c12).toArray := hb14
 refine jO (jN (jv3 2 3 4 ?_))
 refine jS ?_
 refine VC.held (fun W => Frm [g4] w14 W) jK ?_
 have hS : Frm [g4] w14 w14.drew := (Frm.refl _ _).drew
 refine jH 0 rfl hS (fun w0 hw0 => Run.loadA rfl zad zf (fun j v hj => (hb14.frm hw0 (by simp; omega)).cells j v hj) (by first | rfl | (simp; done))) ?_
 refine jH 1 rfl hS (fun w0 hw0 => Run.fieldAddr rfl zac rfl zi jd) ?_
 refine jH 2 rfl hS (fun w0 hw0 => Run.load rfl zn ((hb314.frm hw0 (by simp; omega)).cell 0)) ?_
 refine qZ.st 3 rfl jK (qW.storeA rfl rfl zf (hb414.drawn (qO.drew _)) rfl (bK _ _ _ _ _)) trivial rfl ?_
 rintro w15 ⟨hb15, hf15, hs15⟩
 have hS15 : Frm [g4] w14 w15 := hS.trans hf15 jp
 refine ⟨hS15, ?_⟩
 have hS := hS15
 have hown15 := (hown14.drawn (qO.drew _)).frm hf15 (fun y hy => by have := (hown14.drawn (qO.drew _)).ne_blk (hb414.drawn (qO.drew _)) jd; simp; rintro rfl; exact this hy)
 have hfr15 := (hfr14.drawn (qO.drew _)).own hf15 (fun y hy => by simp at hy; omega)
 refine jH 4 rfl hS (fun w0 hw0 => Run.asg rfl) ?_
 refine qZ.take (v := .int .i64 ((0 : Nat) : Int)) 5 rfl jK jK jK hS (fun w0 hw0 => Run.asg rfl) trivial rfl rfl ?_
 refine qZ.done jK ?_
 refine jN (jv3 4 5 6 ?_)
 refine jT ?_
 refine bZ ?_
 refine qS rfl zad zf (fun j v hj => hb15.cells j v hj) (by first | rfl | (simp; done)) ?_
 refine qK rfl ?_
 refine qK rfl ?_
 refine qB ?_
 have hln : (l ++ [(⟨{ x.m with uid := n }, x.A, x.c⟩ : Mc)]).length = 0 + l.length + 1 := by rw [zm, zdu]; rfl
 refine ⟨hfr15, v, n + 1, A12, c12, l ++ [⟨{ x.m with uid := n }, x.A, x.c⟩], 0, by rw [hln]; rfl, ⟨by rw [hln]; exact hown15.rd, fun y hy => ?_⟩, .inl ⟨rfl, ?_⟩⟩
 ·
  rcases zeq.1 hy with h | h
  · exact (hl.frm hfr15).fl y h
  simp only [za] at h
  subst h
  exact ⟨(hx.frm hfr15 jp).rd, hx.n, hx.q⟩
 unfold bG
 rw [if_neg hc1, if_neg (by simp [Ms]; omega), if_neg hc3]
 simp only [Ms, zaw, zal, zbo]
end
section
open Go.RowKit Go.Sort
theorem tI (v n v2 n2 : Int) (A B : Option Addr) (c d : Nat) (l l2 : List Mc) (w : World) (hl : RdM w A l) (hl2 : RdM w B l2) (hn : l.length ≤ 1000000) (hn2 : l2.length ≤ 1000000) :
  Calls Tryz.prog 22 #[.agg #[.int .i64 v, .int .i64 n, .slice A l.length c], .agg #[.int .i64 v2, .int .i64 n2, .slice B l2.length d]] w fun e w' => e = .returned (.bool (decide (v = v2 ∧ n = n2 ∧ Ms l = Ms l2))) ∧ Frm [] w w' := by
 refine VC.calls (nt := 80) (res := #[.tmp 4]) Tryz.func22 rfl Tryz.ntmps22 Tryz.results22 rfl ?_
 refine jS (jR ?_)
 refine Ops.m (qJ.box rfl) rfl ?_
 rintro _ w1 ⟨rfl, hF2⟩
 have hb2 := hF2.blk
 have hf2 := hF2.frm
 have hs2 : w.heap.size ≤ w.heap.size := zaj _
 generalize hg2 : w.heap.size = g2 at hb2 ⊢
 refine Ops.m (qJ.box rfl) rfl ?_
 rintro _ w2 ⟨rfl, hF3⟩
 have hb3 := hF3.blk
 have hb2 := hb2.frm hF3.frm jp
 have hf3 := hf2.trans hF3.frm jp
 have hs3 : w.heap.size ≤ w1.heap.size := hf2.size
 generalize hg3 : w1.heap.size = g3 at hb3 hs3 ⊢
 refine ja rfl (jO (jN (jv2 2 3 ?_)))
 refine jS (jS ?_)
 refine VC.split1 [(2, _), (3, _)] (js2 rfl rfl) 28 (.bool (decide (v ≠ v2 ∨ n ≠ n2 ∨ l.length ≠ l2.length))) ?_ ?_
 ·
  refine jR (jf rfl zj rfl zi (jl rfl zn (hb2.cell 0) (jf rfl zj rfl zi (jl rfl zn (hb3.cell 0) (jb rfl rfl (Bin.neq _ _) ?_)))))
  by_cases hs12 : v ≠ v2
  ·
   refine jM ?_
   refine jU ?_
   refine jU ?_
   refine jU ?_
   refine jU ?_
   refine jU ?_
   refine je (Run.pickT rfl rfl au) (jM ?_)
   refine jU ?_
   refine jU ?_
   refine jU ?_
   refine jU ?_
   refine jU ?_
   refine jU ?_
   refine jU ?_
   refine je (Run.pickT rfl rfl au) (jO ?_)
   refine jN ⟨(js3 (jC (Eq.symm (by simp [*]))) rfl rfl), rfl⟩
  refine jM ?_
  refine jk (Run.fieldAddr rfl zj rfl zi jd) ?_
  refine jk (Run.load rfl zn (hb2.cell 1)) ?_
  refine jk (Run.fieldAddr rfl zj rfl zi jd) ?_
  refine jk (Run.load rfl zn (hb3.cell 1)) ?_
  refine jk (Run.bin rfl rfl (Bin.neq _ _)) ?_
  by_cases hs18 : n ≠ n2
  ·
   refine je (Run.pickF rfl rfl au) (jM ?_)
   refine jU ?_
   refine jU ?_
   refine jU ?_
   refine jU ?_
   refine jU ?_
   refine jU ?_
   refine jU ?_
   refine je (Run.pickT rfl rfl au) (jO ?_)
   refine jN ⟨(js3 (jC (Eq.symm (by simp [*]))) rfl rfl), rfl⟩
  refine je (Run.pickF rfl rfl au) (jM ?_)
  refine jk (Run.fieldAddr rfl zj rfl zaa jd) ?_
  refine jk (Run.load rfl zao (hb2.cell 2)) ?_
  refine jk (Run.lenS rfl zk) ?_
  refine jk (Run.fieldAddr rfl zj rfl zaa jd) ?_
  refine jk (Run.load rfl zao (hb3.cell 2)) ?_
  refine jk (Run.lenS rfl zk) ?_
  refine jk (Run.bin rfl rfl (Bin.neqN _ _)) ?_
  by_cases hs27 : l.length ≠ l2.length
  ·
   refine je (Run.pickF rfl rfl au) (jO ?_)
   refine jN ⟨(js3 (jC (Eq.symm (by simp [*]))) rfl rfl), rfl⟩
  refine je (Run.pickF rfl rfl au) (jO ?_)
  refine jN ⟨(js3 (jC (Eq.symm (by simp [*]))) rfl rfl), rfl⟩
 intro Γ hΓ
 refine jN (VC.sub _ hΓ ?_)
 refine jD rfl (fun hc1 => ?_) fun hc1 => ?_
 ·
  refine jS (jR (ja rfl (jO (jN (jv1 4 ?_)))))
  refine jT ?_
  refine qQ (qC rfl ?_)
  refine ⟨?_, hf3⟩
  rw [decide_eq_false]
  rintro ⟨h1, h2, h3⟩
  have h4 := congrArg List.length h3
  simp only [Ms, zba] at h4
  rcases hc1 with h | h | h
  · exact h h1
  · exact h h2
  exact h h4
 obtain ⟨hvv, hnn, hll⟩ : v = v2 ∧ n = n2 ∧ l.length = l2.length := jo
 refine jQ (jN (jv2 2 3 ?_))
 refine jS (jS (jR (jz 0 (jO (jN (jB ?_))))))
 refine VC.loop (σ := Nat) (fun s => [(2, .pointer (some ⟨g2, 0, none⟩)), (3, .pointer (some ⟨g3, 0, none⟩)), (5, .int .i64 ((s : Nat) : Int))]) (fun s wr => s ≤ l.length ∧ Frm [] w wr ∧ Blk wr g2 43 #[.int .i64 v, .int .i64 n, .slice A l.length c] ∧ Blk wr g3 43 #[.int .i64 v2, .int .i64 n2, .slice B l2.length d] ∧ Ms (l.take s) = Ms (l2.take s)) (fun s => l.length - s) 0 (js3 rfl rfl rfl) ⟨jo, hf3, hb2, hb3, jp⟩ ?_
 rintro i wr ⟨hi, hfr, hb2, hb3, hsm⟩
 refine jS (jS (jR (jm rfl (jf rfl zj rfl zaa (jl rfl zao (hb2.cell 2) (je (Run.lenS rfl zk) (jb rfl rfl (Bin.lssN _ _) (jO (jN (jv4 2 3 5 33 ?_))))))))))
 refine jD rfl (fun hc2 => ?_) fun hc2 => ?_
 ·
  obtain ⟨ad, hAe, hcell⟩ : ∃ ad, A = some ad ∧ ∀ W, Frm [] w W → ∀ j v, (l[i]).cells[j]? = some v → W.cell? ((ad.add (i * 6)).add j) = some v := by
   obtain ⟨ad, hA, _⟩ := hl.elem hc2
   refine ⟨ad, hA, fun W hW => ?_⟩
   obtain ⟨ad', hA', h⟩ := (hl.frm hW).elem hc2
   rw [hA] at hA'
   injection hA' with hA'
   subst hA'
   exact h
  have hc2' : i < l2.length := jo
  obtain ⟨ad2, hBe, hcell2⟩ : ∃ ad, B = some ad ∧ ∀ W, Frm [] w W → ∀ j v, (l2[i]).cells[j]? = some v → W.cell? ((ad.add (i * 6)).add j) = some v := by
   obtain ⟨ad, hA, _⟩ := hl2.elem hc2'
   refine ⟨ad, hA, fun W hW => ?_⟩
   obtain ⟨ad', hA', h⟩ := (hl2.frm hW).elem hc2'
   rw [hA] at hA'
   injection hA' with hA'
   subst hA'
   exact h
  subst hAe hBe
  have hxa := (hl.frm hfr).fl (l[i]) (zr hc2)
  have hya := (hl2.frm hfr).fl (l2[i]) (zr hc2')
  have hms := mD hc2
  have hms2 := mD hc2'
  generalize hx : l[i] = x at *
  generalize hy : l2[i] = y at *
  have hme := qZe x.m y.m
  refine jQ (jN (jv3 2 3 5 ?_))
  refine jS (jB (jS ?_))
  refine VC.meet (σ := Nat × Nat) (fun s => [(2, .pointer (some ⟨g2, 0, none⟩)), (3, .pointer (some ⟨g3, 0, none⟩)), (5, .int .i64 ((i : Nat) : Int)), (6, .pointer (some ⟨s.1, 0, none⟩)), (7, .pointer (some ⟨s.2, 0, none⟩))]) (fun s wm => Blk wm s.1 60 x.cells.toArray ∧ Blk wm s.2 60 y.cells.toArray ∧ Frm [] wr wm) ?_ ?_
  ·
   refine VC.held (fun W => Frm [] wr W) jK ?_
   have hS : Frm [] wr wr.drew := (Frm.refl _ _).drew
   refine jH 0 rfl hS (fun w0 hw0 => Run.fieldAddr rfl zj rfl zaa jd) ?_
   refine jH 1 rfl hS (fun w0 hw0 => Run.load rfl zao ((hb2.frm hw0 jp).cell 2)) ?_
   refine jH 2 rfl hS (fun w0 hw0 => Run.mv rfl) ?_
   refine jH 3 rfl hS (fun w0 hw0 => Run.indexS i rfl rfl zk zt hc2) ?_
   refine jH 4 rfl hS (fun w0 hw0 => Run.loadA rfl zaz zt (hcell _ (hfr.trans hw0 jp)) (by first | rfl | (simp; done))) ?_
   refine jH 5 rfl hS (fun w0 hw0 => Run.fieldAddr rfl zj rfl zaa jd) ?_
   refine jH 6 rfl hS (fun w0 hw0 => Run.load rfl zao ((hb3.frm hw0 jp).cell 2)) ?_
   refine jH 7 rfl hS (fun w0 hw0 => Run.mv rfl) ?_
   refine jH 8 rfl hS (fun w0 hw0 => Run.indexS i rfl rfl zk zt hc2') ?_
   refine jH 9 rfl hS (fun w0 hw0 => Run.loadA rfl zaz zt (hcell2 _ (hfr.trans hw0 jp)) (by first | rfl | (simp; done))) ?_
   refine qZ.or2 10 11 jK ?_ ?_
   ·
    refine cB.m rfl (qJ.alloc cP) trivial rfl rfl ?_
    rintro _ w6 ⟨rfl, hF6⟩
    have hge6 := hS.size
    try have hne := hb7.lt
    try have hb7 := hb7.frm hF6.frm jp
    have hS6 : Frm [] wr w6 := hS.trans hF6.frm jp
    refine ⟨hS6, ?_⟩
    have hS := hS6
    have hb6 := hF6.blk
    refine qZ.m 11 rfl jK (qJ.alloc cP) trivial rfl rfl ?_
    rintro _ w7 ⟨rfl, hF7⟩
    have hge7 := hS.size
    try have hne := hb6.lt
    try have hb6 := hb6.frm hF7.frm jp
    have hS7 : Frm [] wr w7 := hS.trans hF7.frm jp
    refine ⟨hS7, ?_⟩
    have hS := hS7
    have hb7 := hF7.blk
    refine qZ.st 12 rfl jK (qW.storeA rfl rfl zt hb6 rfl x.cells_one) trivial rfl ?_
    rintro w8 ⟨hb68, hf8, hs8⟩
    have hS8 : Frm [] wr w8 := hS.own hf8 (fun y hy => by simp only [za] at hy; subst hy; exact hge6)
    refine ⟨hS8, ?_⟩
    have hS := hS8
    have hb78 := hb7.frm hf8 (by simp only [za]; omega)
    refine qZ.st 13 rfl jK (qW.storeA rfl rfl zt hb78 rfl y.cells_one) trivial rfl ?_
    rintro w9 ⟨hb79, hf9, hs9⟩
    have hS9 : Frm [] wr w9 := hS.own hf9 (fun y hy => by simp only [za] at hy; subst hy; exact hge7)
    refine ⟨hS9, ?_⟩
    have hS := hS9
    have hb69 := hb68.frm hf9 (by simp only [za]; omega)
    refine qZ.done jK ?_
    refine jN ⟨(_, _), (js5 rfl rfl rfl rfl rfl), ?_⟩
    exact ⟨hb69, hb79, hS⟩
   refine cB.m rfl (qJ.alloc cP) trivial rfl rfl ?_
   rintro _ w7 ⟨rfl, hF7⟩
   have hge7 := hS.size
   try have hne := hb6.lt
   try have hb6 := hb6.frm hF7.frm jp
   have hS7 : Frm [] wr w7 := hS.trans hF7.frm jp
   refine ⟨hS7, ?_⟩
   have hS := hS7
   have hb7 := hF7.blk
   refine qZ.m 10 rfl jK (qJ.alloc cP) trivial rfl rfl ?_
   rintro _ w6 ⟨rfl, hF6⟩
   have hge6 := hS.size
   try have hne := hb7.lt
   try have hb7 := hb7.frm hF6.frm jp
   have hS6 : Frm [] wr w6 := hS.trans hF6.frm jp
   refine ⟨hS6, ?_⟩
   have hS := hS6
   have hb6 := hF6.blk
   refine qZ.st 12 rfl jK (qW.storeA rfl rfl zt hb6 rfl x.cells_one) trivial rfl ?_
   rintro w8 ⟨hb68, hf8, hs8⟩
   have hS8 : Frm [] wr w8 := hS.own hf8 (fun y hy => by simp only [za] at hy; subst hy; exact hge6)
   refine ⟨hS8, ?_⟩
   have hS := hS8
   have hb78 := hb7.frm hf8 (by simp only [za]; omega)
   refine qZ.st 13 rfl jK (qW.storeA rfl rfl zt hb78 rfl y.cells_one) trivial rfl ?_
   rintro w9 ⟨hb79, hf9, hs9⟩
   have hS9 : Frm [] wr w9 := hS.own hf9 (fun y hy => by simp only [za] at hy; subst hy; exact hge7)
   refine ⟨hS9, ?_⟩
   have hS := hS9
   have hb69 := hb68.frm hf9 (by simp only [za]; omega)
   refine qZ.done jK ?_
   refine jN ⟨(_, _), (js5 rfl rfl rfl rfl rfl), ?_⟩
   exact ⟨hb69, hb79, hS⟩
  rintro ⟨g6, g7⟩ w5 ⟨hb6, hb7, hf5⟩ Γ hΓ
  dsimp only at hb6 hb7
  refine jN (VC.sub _ hΓ (jS ?_))
  refine VC.splitR [(2, .pointer (some ⟨g2, 0, none⟩)), (3, .pointer (some ⟨g3, 0, none⟩)), (5, .int .i64 ((i : Nat) : Int))] (Frm [] w5) 79 (.bool (decide (¬ x.m = y.m))) ?_ ?_
  ·
   refine jR (jf rfl zac rfl zi (jl rfl zn (hb6.cell 0) (jf rfl zac rfl zi (jl rfl zn (hb7.cell 0) (jb rfl rfl (Bin.neq _ _) ?_)))))
   by_cases hs50 : x.m.uid ≠ y.m.uid
   ·
    refine jM ?_
    refine jU ?_
    refine jU ?_
    refine jU ?_
    refine jU ?_
    refine jU ?_
    refine je (Run.pickT rfl rfl au) (jM ?_)
    refine jU ?_
    refine jU ?_
    refine jU ?_
    refine jU ?_
    refine jU ?_
    refine je (Run.pickT rfl rfl au) (jM ?_)
    refine jU ?_
    refine jU ?_
    refine jU ?_
    refine jU ?_
    refine jU ?_
    refine je (Run.pickT rfl rfl au) (jM ?_)
    refine jU ?_
    refine jU ?_
    refine jU ?_
    refine jU ?_
    refine jU ?_
    refine jU ?_
    refine je (Run.pickT rfl rfl au) (jO ?_)
    refine jN ⟨(js4 (jC (Eq.symm (by simp_all))) rfl rfl rfl), (by first | exact hd6.frm | exact Frm.refl _ _)⟩
   refine jM ?_
   refine jk (Run.fieldAddr rfl zac rfl zdf jd) ?_
   refine jk (Run.loadA rfl Tryz.isAgg58 zdf (hb6.sub 1 [.int .i64 x.m.sec, .int .i64 x.m.zone] rfl) (by first | rfl | (simp; done))) ?_
   refine jk (Run.fieldAddr rfl zac rfl zdf jd) ?_
   refine jk (Run.loadA rfl Tryz.isAgg58 zdf (hb7.sub 1 [.int .i64 y.m.sec, .int .i64 y.m.zone] rfl) (by first | rfl | (simp; done))) ?_
   refine jk (Run.neqAgg rfl rfl jK jK jK (qXt _ _ _ _ _)) ?_
   by_cases hs56 : ¬ (x.m.sec = y.m.sec ∧ x.m.zone = y.m.zone)
   ·
    refine je (Run.pickF rfl rfl au) (jM ?_)
    refine jU ?_
    refine jU ?_
    refine jU ?_
    refine jU ?_
    refine jU ?_
    refine je (Run.pickT rfl rfl au) (jM ?_)
    refine jU ?_
    refine jU ?_
    refine jU ?_
    refine jU ?_
    refine jU ?_
    refine je (Run.pickT rfl rfl au) (jM ?_)
    refine jU ?_
    refine jU ?_
    refine jU ?_
    refine jU ?_
    refine jU ?_
    refine jU ?_
    refine je (Run.pickT rfl rfl au) (jO ?_)
    refine jN ⟨(js4 (jC (Eq.symm (by simp_all))) rfl rfl rfl), (by first | exact hd6.frm | exact Frm.refl _ _)⟩
   refine je (Run.pickF rfl rfl au) (jM ?_)
   refine jk (Run.fieldAddr rfl zac rfl zi jd) ?_
   refine jk (Run.load rfl zn (hb6.cell 3)) ?_
   refine jk (Run.fieldAddr rfl zac rfl zi jd) ?_
   refine jk (Run.load rfl zn (hb7.cell 3)) ?_
   refine jk (Run.bin rfl rfl (Bin.neq _ _)) ?_
   by_cases hs63 : x.m.size ≠ y.m.size
   ·
    refine je (Run.pickF rfl rfl au) (jM ?_)
    refine jU ?_
    refine jU ?_
    refine jU ?_
    refine jU ?_
    refine jU ?_
    refine je (Run.pickT rfl rfl au) (jM ?_)
    refine jU ?_
    refine jU ?_
    refine jU ?_
    refine jU ?_
    refine jU ?_
    refine jU ?_
    refine je (Run.pickT rfl rfl au) (jO ?_)
    refine jN ⟨(js4 (jC (Eq.symm (by simp_all))) rfl rfl rfl), (by first | exact hd6.frm | exact Frm.refl _ _)⟩
   refine je (Run.pickF rfl rfl au) (jM ?_)
   refine jk (Run.fieldAddr rfl zac rfl zct jd) ?_
   refine jk (Run.load rfl zec (hb6.cell 4)) ?_
   refine jk (Run.fieldAddr rfl zac rfl zct jd) ?_
   refine jk (Run.load rfl zec (hb7.cell 4)) ?_
   refine jk (Run.bin rfl rfl (Bin.neqN _ _)) ?_
   by_cases hs70 : x.m.blob ≠ y.m.blob
   ·
    refine je (Run.pickF rfl rfl au) (jM ?_)
    refine jU ?_
    refine jU ?_
    refine jU ?_
    refine jU ?_
    refine jU ?_
    refine jU ?_
    refine je (Run.pickT rfl rfl au) (jO ?_)
    refine jN ⟨(js4 (jC (Eq.symm (by simp_all))) rfl rfl rfl), (by first | exact hd6.frm | exact Frm.refl _ _)⟩
   refine je (Run.pickF rfl rfl au) (jM ?_)
   refine jk (Run.fieldAddr rfl zac rfl zae jd) ?_
   refine jk (Run.load rfl zas (hb6.cell 5)) ?_
   refine jk (Run.fieldAddr rfl zac rfl zae jd) ?_
   refine jk (Run.load rfl zas (hb7.cell 5)) ?_
   refine Ops.clg rfl au (jE2 Tryz.call71) (oC x.A y.A x.c y.c x.m.flags y.m.flags _ (by have := hxa.n; omega) (by have := hya.n; omega) (hxa.frm hf5 jp).rd (hya.frm hf5 jp).rd) rfl ?_
   rintro e w6 ⟨rfl, hd6⟩
   refine ⟨_, rfl, ?_⟩
   by_cases hs77 : x.m.flags = y.m.flags
   ·
    refine jk (Run.not rfl) ?_
    refine je (Run.pickF rfl rfl au) (jO ?_)
    refine jN ⟨(js4 (jC (Eq.symm (by simp_all))) rfl rfl rfl), (by first | exact hd6.frm | exact Frm.refl _ _)⟩
   refine jk (Run.not rfl) ?_
   refine je (Run.pickF rfl rfl au) (jO ?_)
   refine jN ⟨(js4 (jC (Eq.symm (by simp_all))) rfl rfl rfl), (by first | exact hd6.frm | exact Frm.refl _ _)⟩
  intro Γ w6 hΓ hf6
  refine jN (VC.sub _ hΓ ?_)
  refine jD rfl (fun hc3 => ?_) fun hc3 => ?_
  ·
   refine jS (jR (ja rfl (jO (jN (jv1 4 ?_)))))
   refine jT ?_
   refine qN (qQ (qQ (qN (qQ (qC rfl ?_)))))
   refine ⟨?_, (hfr.trans hf5 jp).trans hf6 jp⟩
   rw [decide_eq_false]
   rintro ⟨_, _, h⟩
   have h1 := congrArg (fun z => z[i]?) h
   simp only [Ms, zcv, zc hc2, zc hc2', zcq, Option.some.injEq] at h1
   rw [hx, hy] at h1
   exact hc3 h1
  refine jQ ?_
  refine qT (jN ?_)
  refine jv3 2 3 5 ?_
  refine jR (jm rfl (jb rfl rfl (Bin.add_i64 _ 1 jo) (ja rfl (jO ?_))))
  refine jN ⟨(i + 1), (js3 rfl rfl rfl), ?_, ?_⟩
  ·
   have hxy : x.m = y.m := Classical.not_not.1 hc3
   have hf56 := hf5.trans hf6 jp
   exact ⟨hc2, hfr.trans hf56 jp, hb2.frm hf56 jp, hb3.frm hf56 jp, by rw [hms, hms2, hsm, hxy]⟩
  first | omega | (dsimp only; omega)
 refine jX ?_
 refine qH (qH (qF ?_))
 refine jN ?_
 refine VC.sub [] .nil ?_
 refine jS (jR (ja rfl (jO (jN (jT ?_)))))
 refine qC rfl ?_
 refine ⟨?_, hfr⟩
 have hil : i = l.length := jo
 subst hil
 rw [zak, hll, zak] at hsm
 rw [decide_eq_true ⟨hvv, hnn, hsm⟩]
end
section
open Go.RowKit Go.Sort
theorem gK (q : Tx) (w : World) : Calls Tryz.prog 12 #[encStr q] w fun e w' => e = .returned (encStr (q.take 70)) ∧ w = w' := by
 refine VC.calls (nt := 9) (res := #[.tmp 2]) Tryz.func12 rfl Tryz.ntmps12 Tryz.results12 rfl ?_
 refine jS (jR (ja rfl (jO (jN (jv1 0 ?_)))))
 refine jS (jS (jR (jm rfl (je (Run.lenT rfl zl) (jb rfl rfl (Bin.gtrN _ 70) (jO (jN (jv2 0 5 ?_))))))))
 refine jD rfl (fun hc1 => ?_) fun hc1 => ?_
 ·
  refine jS (jR (jm rfl (je (Run.sliceT 0 70 rfl zl evB.none_ (evB.some_ rfl) jo jo) ?_)))
  rw [zcd, zbu]
  refine ja rfl (jO (jN (jv1 2 ?_)))
  refine jT ?_
  refine qQ (qC rfl ?_)
  exact ⟨rfl, rfl⟩
 refine jQ (jN (jv1 0 ?_))
 refine jS (jR (jm rfl (ja rfl (jO (jN (jv1 2 ?_))))))
 refine jT ?_
 refine qC rfl ?_
 exact ⟨by rw [zw jo], rfl⟩
theorem mS (q : Tx) (w : World) (hq : q.length ≤ 1000000) : Calls Tryz.prog 77 #[encStr q] w fun e w' => e = .returned (.bool (decide (dI q))) ∧ Frm [] w w' := by
 have K := Frm.refl [] w
 refine VC.calls (nt := 11) (res := #[.tmp 2]) Tryz.func77 rfl Tryz.ntmps77 Tryz.results77 rfl ?_
 refine jS (jR (ja rfl (jO (jN (jv1 0 ?_)))))
 refine jS ?_
 refine VC.splitR [] (fun wz => Frm [] w wz) 2 (.bool (decide (dI q))) ?_ ?_
 ·
  refine jR (jM ?_)
  refine Ops.cl (jE1 Tryz.call50) (jW q _ hq) rfl ?_
  rintro e _ ⟨rfl, rfl⟩
  refine ⟨_, rfl, ?_⟩
  by_cases hs4 : isN q
  ·
   refine jM ?_
   refine jG ?_
   refine Ops.clg rfl au (jE1 Tryz.call60) (kH q _ hq) rfl ?_
   rintro e w2 ⟨rfl, hf2⟩
   refine ⟨_, rfl, ?_⟩
   have K := K.trans hf2 jp
   refine jG ?_
   refine jk (Run.eqlT rfl rfl) ?_
   refine je (Run.pickT rfl rfl au) (ja rfl (jO ?_))
   refine jN ⟨(js1 (jC (by simp [dI, *]))), (K)⟩
  refine jM ?_
  refine jU ?_
  refine jU ?_
  refine jU ?_
  refine jU ?_
  refine je (Run.pickF rfl rfl au) (ja rfl (jO ?_))
  refine jN ⟨(js1 (jC (by simp [dI, *]))), (K)⟩
 intro Γ wz hΓ K
 refine jN (VC.sub _ hΓ ?_)
 refine jT ?_
 refine qC rfl ?_
 exact ⟨rfl, K⟩
set_option maxHeartbeats 1000000 in
theorem dD (m1 m2 : MlC) (w : World) (hm1 : RdL w m1) (hm2 : RdL w m2) : Calls Tryz.prog 15 #[m1.val, m2.val] w fun e w' => e = .returned (.bool (decide (m1.p = m2.p))) ∧ Frm [] w w' := by
 have hn1 := hm1.ln
 have hn2 := hm2.ln
 have hs1 := hm1.sn
 have hs2 := hm2.sn
 have hext : m1.p = m2.p ↔ m1.v = m2.v ∧ m1.b = m2.b ∧ Ns m1.l = Ns m2.l ∧ m1.ss = m2.ss := by
  constructor
  ·
   intro h
   injection h with h1 h2 h3 h4
   exact ⟨h3, h4, h1, h2⟩
  rintro ⟨h1, h2, h3, h4⟩
  show MailP.mk _ _ _ _ = MailP.mk _ _ _ _
  rw [h1, h2, h3, h4]
 refine VC.calls (nt := 91) (res := #[.tmp 4]) Tryz.func15 rfl Tryz.ntmps15 Tryz.results15 rfl ?_
 refine jS (jR ?_)
 refine Ops.m (qJ.box rfl) rfl ?_
 rintro _ w1 ⟨rfl, hF_w1⟩
 have hb1 : Blk w1 w.heap.size 25 m1.cells.toArray := hF_w1.blk
 have K := hF_w1.frm
 generalize w.heap.size = g1 at hb1 ⊢
 refine Ops.m (qJ.box rfl) rfl ?_
 rintro _ w2 ⟨rfl, hF_w2⟩
 have hb2 : Blk w2 w1.heap.size 25 m2.cells.toArray := hF_w2.blk
 have hb1 := hb1.frm hF_w2.frm jp
 have K := K.trans hF_w2.frm jp
 generalize w1.heap.size = g2 at hb2 ⊢
 refine ja rfl (jO (jN (jv2 2 3 ?_)))
 refine jS (jS ?_)
 refine VC.split1 [(2, _), (3, _)] (js2 rfl rfl) 36 (.bool (decide (m1.v ≠ m2.v ∨ m1.b ≠ m2.b ∨ m1.l.length ≠ m2.l.length ∨ m1.ss.length ≠ m2.ss.length))) ?_ ?_
 ·
  refine jR (jf rfl zd rfl zi (jl rfl zn (hb1.cell 2) (jf rfl zd rfl zi (jl rfl zn (hb2.cell 2) (jb rfl rfl (Bin.neq _ _) ?_)))))
  by_cases hs11 : m1.v ≠ m2.v
  ·
   refine jM ?_
   refine jU ?_
   refine jU ?_
   refine jU ?_
   refine jU ?_
   refine jU ?_
   refine je (Run.pickT rfl rfl au) (jM ?_)
   refine jU ?_
   refine jU ?_
   refine jU ?_
   refine jU ?_
   refine jU ?_
   refine jU ?_
   refine jU ?_
   refine je (Run.pickT rfl rfl au) (jM ?_)
   refine jU ?_
   refine jU ?_
   refine jU ?_
   refine jU ?_
   refine jU ?_
   refine jU ?_
   refine jU ?_
   refine je (Run.pickT rfl rfl au) (jO ?_)
   refine jN ⟨(js3 (jC (by clear hext; simp [*])) rfl rfl), rfl⟩
  refine jM ?_
  refine jk (Run.fieldAddr rfl zd rfl zi jd) ?_
  refine jk (Run.load rfl zn (hb1.cell 3)) ?_
  refine jk (Run.fieldAddr rfl zd rfl zi jd) ?_
  refine jk (Run.load rfl zn (hb2.cell 3)) ?_
  refine jk (Run.bin rfl rfl (Bin.neq _ _)) ?_
  by_cases hs17 : m1.b ≠ m2.b
  ·
   refine je (Run.pickF rfl rfl au) (jM ?_)
   refine jU ?_
   refine jU ?_
   refine jU ?_
   refine jU ?_
   refine jU ?_
   refine jU ?_
   refine jU ?_
   refine je (Run.pickT rfl rfl au) (jM ?_)
   refine jU ?_
   refine jU ?_
   refine jU ?_
   refine jU ?_
   refine jU ?_
   refine jU ?_
   refine jU ?_
   refine je (Run.pickT rfl rfl au) (jO ?_)
   refine jN ⟨(js3 (jC (by clear hext; simp [*])) rfl rfl), rfl⟩
  refine je (Run.pickF rfl rfl au) (jM ?_)
  refine jk (Run.fieldAddr rfl zd rfl zx jd) ?_
  refine jk (Run.load rfl zah (hb1.cell 0)) ?_
  refine jk (Run.lenS rfl ze) ?_
  refine jk (Run.fieldAddr rfl zd rfl zx jd) ?_
  refine jk (Run.load rfl zah (hb2.cell 0)) ?_
  refine jk (Run.lenS rfl ze) ?_
  refine jk (Run.bin rfl rfl (Bin.neqN _ _)) ?_
  by_cases hs26 : m1.l.length ≠ m2.l.length
  ·
   refine je (Run.pickF rfl rfl au) (jM ?_)
   refine jU ?_
   refine jU ?_
   refine jU ?_
   refine jU ?_
   refine jU ?_
   refine jU ?_
   refine jU ?_
   refine je (Run.pickT rfl rfl au) (jO ?_)
   refine jN ⟨(js3 (jC (by clear hext; simp [*])) rfl rfl), rfl⟩
  refine je (Run.pickF rfl rfl au) (jM ?_)
  refine jk (Run.fieldAddr rfl zd rfl zae jd) ?_
  refine jk (Run.load rfl zas (hb1.cell 1)) ?_
  refine jk (Run.lenS rfl zh) ?_
  refine jk (Run.fieldAddr rfl zd rfl zae jd) ?_
  refine jk (Run.load rfl zas (hb2.cell 1)) ?_
  refine jk (Run.lenS rfl zh) ?_
  refine jk (Run.bin rfl rfl (Bin.neqN _ _)) ?_
  refine je (Run.pickF rfl rfl au) (jO ?_)
  refine jN ⟨(js3 (jC (by clear hext; simp [*])) rfl rfl), rfl⟩
 intro Γ hΓ
 refine jN (VC.sub _ hΓ ?_)
 refine jD rfl (fun hc1 => ?_) fun hc1 => ?_
 ·
  have hbad : ¬ m1.p = m2.p := fun h => by
   obtain ⟨h1, h2, h3, h4⟩ := hext.1 h
   have h5 := congrArg List.length h3
   rw [bC, bC] at h5
   rw [h4] at hc1
   omega
  refine jS (jR (ja rfl (jO (jN (jv1 4 ?_)))))
  refine jT ?_
  refine qQ (qC rfl ?_)
  exact ⟨by rw [decide_eq_false hbad], K⟩
 obtain ⟨hvv, hbb, hll, hss⟩ : m1.v = m2.v ∧ m1.b = m2.b ∧ m1.l.length = m2.l.length ∧ m1.ss.length = m2.ss.length := by omega
 refine jQ (jN (jv2 2 3 ?_))
 refine jS (jS (jR (jz 0 (jO (jN (jB ?_))))))
 refine VC.loop (σ := Nat) (fun s => [(2, .pointer (some ⟨g1, 0, none⟩)), (3, .pointer (some ⟨g2, 0, none⟩)), (5, .int .i64 ((s : Nat) : Int))]) (fun s wr => s ≤ m1.l.length ∧ (∀ j (h1 : j < m1.l.length) (h2 : j < m2.l.length), j < s → (m1.l[j]).p = (m2.l[j]).p) ∧ Blk wr g1 25 m1.cells.toArray ∧ Blk wr g2 25 m2.cells.toArray ∧ Frm [] w wr) (fun s => m1.l.length - s) 0 (js3 rfl rfl rfl) ⟨zam _, fun _ _ _ h => jo, hb1, hb2, K⟩ ?_
 rintro i wr ⟨hi, hd, hb1, hb2, K⟩
 refine jS (jS (jR (jm rfl (jf rfl zd rfl zx (jl rfl zah (hb1.cell 0) (je (Run.lenS rfl ze) (jb rfl rfl (Bin.lssN _ _) (jO (jN (jv4 2 3 5 41 ?_))))))))))
 refine jD rfl (fun hc2 => ?_) fun hc2 => ?_
 ·
  obtain ⟨ad1, had1, helad1⟩ : ∃ ad, m1.A = some ad ∧ ∀ W, Frm [] wr W → ∀ j v, (m1.l[i]).cells[j]? = some v → W.cell? ((ad.add (i * 4)).add j) = some v := by
   have hi' : i < m1.l.length := by omega
   obtain ⟨ad, hA, _⟩ := (hm1.frm K).l.elem hi'
   refine ⟨ad, hA, fun W hW => ?_⟩
   obtain ⟨ad', hA', h⟩ := (hm1.frm (K.trans hW jp)).l.elem hi'
   rw [hA] at hA'
   cases hA'
   exact h
  obtain ⟨ad2, had2, helad2⟩ : ∃ ad, m2.A = some ad ∧ ∀ W, Frm [] wr W → ∀ j v, (m2.l[i]).cells[j]? = some v → W.cell? ((ad.add (i * 4)).add j) = some v := by
   have hi' : i < m2.l.length := by omega
   obtain ⟨ad, hA, _⟩ := (hm2.frm K).l.elem hi'
   refine ⟨ad, hA, fun W hW => ?_⟩
   obtain ⟨ad', hA', h⟩ := (hm2.frm (K.trans hW jp)).l.elem hi'
   rw [hA] at hA'
   cases hA'
   exact h
  have hxa := (hm1.frm K).l.el _ (zr hc2)
  have hya := (hm2.frm K).l.el _ (zr (jo : i < m2.l.length))
  generalize hx : m1.l[i] = x at *
  generalize hy : m2.l[i] = y at *
  have hpe : x.p = y.p ↔ x.nm = y.nm ∧ x.v = y.v ∧ x.n = y.n ∧ Ms x.l = Ms y.l := by
   unfold Nc.p
   constructor
   ·
    intro h
    injection h with h1 h2
    injection h2 with h2 h3 h4
    exact ⟨h1, h2, h3, h4⟩
   rintro ⟨h1, h2, h3, h4⟩
   rw [h1, h2, h3, h4]
  refine jQ (jN (jv3 2 3 5 ?_))
  refine jS (jB (jS ?_))
  refine VC.meet (σ := Unit) (fun s => [(2, .pointer (some ⟨g1, 0, none⟩)), (3, .pointer (some ⟨g2, 0, none⟩)), (5, .int .i64 ((i : Nat) : Int)), (72, .bool (decide (x.p ≠ y.p)))]) (fun s wz => Frm [] wr wz) ?_ ?_
  ·
   refine VC.held (fun W => Frm [] wr W) jK ?_
   have hS : Frm [] wr wr.drew := (Frm.refl _ _).drew
   refine jH 0 rfl hS (fun w0 hw0 => Run.fieldAddr rfl zd rfl zx jd) ?_
   refine jH 1 rfl hS (fun w0 hw0 => Run.load rfl zah ((hb1.frm hw0 jp).cell 0)) ?_
   refine jH 2 rfl hS (fun w0 hw0 => Run.mv rfl) ?_
   refine jH 3 rfl hS (fun w0 hw0 => Run.indexS i (show _ = some (Value.slice (some ad1) m1.l.length m1.c) by rw [← had1]; rfl) rfl ze zo jo) ?_
   refine jH 4 rfl hS (fun w0 hw0 => Run.fieldAddr rfl zy rfl zp jd) ?_
   refine jH 5 rfl hS (fun w0 hw0 => Run.load rfl zab (helad1 _ hw0 0 (encStr x.nm) rfl)) ?_
   refine jH 6 rfl hS (fun w0 hw0 => Run.fieldAddr rfl zd rfl zx jd) ?_
   refine jH 7 rfl hS (fun w0 hw0 => Run.load rfl zah ((hb2.frm hw0 jp).cell 0)) ?_
   refine jH 8 rfl hS (fun w0 hw0 => Run.mv rfl) ?_
   refine jH 9 rfl hS (fun w0 hw0 => Run.indexS i (show _ = some (Value.slice (some ad2) m2.l.length m2.c) by rw [← had2]; rfl) rfl ze zo jo) ?_
   refine jH 10 rfl hS (fun w0 hw0 => Run.fieldAddr rfl zy rfl zp jd) ?_
   refine jH 11 rfl hS (fun w0 hw0 => Run.load rfl zab (helad2 _ hw0 0 (encStr y.nm) rfl)) ?_
   refine jH 12 rfl hS (fun w0 hw0 => Run.neqT rfl rfl) ?_
   refine jH 13 rfl hS (fun w0 hw0 => Run.mv rfl) ?_
   by_cases hs57 : x.nm ≠ y.nm
   ·
    refine qZ.skip 14 rfl jK jK jK hS rfl rfl (decide_eq_true hs57) rfl rfl ?_
    refine qZ.skip 15 rfl jK jK jK hS rfl rfl (decide_eq_true hs57) rfl rfl ?_
    refine qZ.skip 16 rfl jK jK jK hS rfl rfl (decide_eq_true hs57) rfl rfl ?_
    refine qZ.skip 17 rfl jK jK jK hS rfl rfl (decide_eq_true hs57) rfl rfl ?_
    refine qZ.skip 18 rfl jK jK jK hS rfl rfl (decide_eq_true hs57) rfl rfl ?_
    refine qZ.skip 19 rfl jK jK jK hS rfl rfl (decide_eq_true hs57) rfl rfl ?_
    refine qZ.skip 20 rfl jK jK jK hS rfl rfl (decide_eq_true hs57) rfl rfl ?_
    refine qZ.skip 21 rfl jK jK jK hS rfl rfl (decide_eq_true hs57) rfl rfl ?_
    refine qZ.skip 22 rfl jK jK jK hS rfl rfl (decide_eq_true hs57) rfl rfl ?_
    refine qZ.skip 23 rfl jK jK jK hS rfl rfl (decide_eq_true hs57) rfl rfl ?_
    refine qZ.skip 24 rfl jK jK jK hS rfl rfl (decide_eq_true hs57) rfl rfl ?_
    refine qZ.skip 25 rfl jK jK jK hS rfl rfl (decide_eq_true hs57) rfl rfl ?_
    refine qZ.skip 26 rfl jK jK jK hS rfl rfl (decide_eq_true hs57) rfl rfl ?_
    refine qZ.skip 27 rfl jK jK jK hS rfl rfl (decide_eq_true hs57) rfl rfl ?_
    refine jH 28 rfl hS (fun w0 hw0 => Run.pickT rfl rfl (decide_eq_true hs57)) ?_
    refine qZ.done jK ?_
    refine jN ⟨(), (js4 rfl rfl rfl (by rw [show decide (x.p ≠ y.p) = true from decide_eq_true (fun h => hs57 (hpe.1 h).1)]; rfl)), ?_⟩
    exact hS
   refine qZ.take 14 rfl jK jK jK hS (fun w0 hw0 => Run.fieldAddr rfl zd rfl zx jd) (Up.g rfl ((decide_eq_false hs57))) rfl rfl ?_
   refine qZ.take 15 rfl jK jK jK hS (fun w0 hw0 => Run.load rfl zah ((hb1.frm hw0 jp).cell 0)) (Up.g rfl ((decide_eq_false hs57))) rfl rfl ?_
   refine qZ.take 16 rfl jK jK jK hS (fun w0 hw0 => Run.mv rfl) (Up.g rfl ((decide_eq_false hs57))) rfl rfl ?_
   refine qZ.take 17 rfl jK jK jK hS (fun w0 hw0 => Run.indexS i (show _ = some (Value.slice (some ad1) m1.l.length m1.c) by rw [← had1]; rfl) rfl ze zo jo) (Up.g rfl ((decide_eq_false hs57))) rfl rfl ?_
   refine qZ.take 18 rfl jK jK jK hS (fun w0 hw0 => Run.fieldAddr rfl zy rfl zf jd) (Up.g rfl ((decide_eq_false hs57))) rfl rfl ?_
   refine qZ.take 19 rfl jK jK jK hS (fun w0 hw0 => Run.loadA rfl zad zf (cs := BVc x.v x.n x.A x.l.length x.c) (fun j v hj => by rw [Go.Proofs.YtgmbmfpfhcekiaaGreat.add_add]; exact helad1 _ hw0 (1 + j) v (by rw [zdb]; exact hj)) (by first | rfl | (simp; done))) (Up.g rfl ((decide_eq_false hs57))) rfl rfl ?_
   refine qZ.take 20 rfl jK jK jK hS (fun w0 hw0 => Run.fieldAddr rfl zd rfl zx jd) (Up.g rfl ((decide_eq_false hs57))) rfl rfl ?_
   refine qZ.take 21 rfl jK jK jK hS (fun w0 hw0 => Run.load rfl zah ((hb2.frm hw0 jp).cell 0)) (Up.g rfl ((decide_eq_false hs57))) rfl rfl ?_
   refine qZ.take 22 rfl jK jK jK hS (fun w0 hw0 => Run.mv rfl) (Up.g rfl ((decide_eq_false hs57))) rfl rfl ?_
   refine qZ.take 23 rfl jK jK jK hS (fun w0 hw0 => Run.indexS i (show _ = some (Value.slice (some ad2) m2.l.length m2.c) by rw [← had2]; rfl) rfl ze zo jo) (Up.g rfl ((decide_eq_false hs57))) rfl rfl ?_
   refine qZ.take 24 rfl jK jK jK hS (fun w0 hw0 => Run.fieldAddr rfl zy rfl zf jd) (Up.g rfl ((decide_eq_false hs57))) rfl rfl ?_
   refine qZ.take 25 rfl jK jK jK hS (fun w0 hw0 => Run.loadA rfl zad zf (cs := BVc y.v y.n y.A y.l.length y.c) (fun j v hj => by rw [Go.Proofs.YtgmbmfpfhcekiaaGreat.add_add]; exact helad2 _ hw0 (1 + j) v (by rw [zdb]; exact hj)) (by first | rfl | (simp; done))) (Up.g rfl ((decide_eq_false hs57))) rfl rfl ?_
   refine qZ.cl 26 rfl jK (jE2 Tryz.call22) (tI x.v x.n y.v y.n x.A y.A x.c y.c x.l y.l _ (hxa.rd.frm hS) (hya.rd.frm hS) (by have := hxa.n; omega) (by have := hya.n; omega)) (Up.g rfl ((decide_eq_false hs57))) rfl rfl ?_
   rintro e wA ⟨rfl, hfA⟩
   have hSA := hS.trans hfA jp
   refine ⟨_, rfl, hSA, ?_⟩
   have hS := hSA
   refine qZ.take 27 rfl jK jK jK hS (fun w0 hw0 => Run.not rfl) (Up.g rfl ((decide_eq_false hs57))) rfl rfl ?_
   refine jH 28 rfl hS (fun w0 hw0 => Run.pickF rfl rfl (decide_eq_false hs57)) ?_
   refine qZ.done jK ?_
   refine jN ⟨(), (js4 rfl rfl rfl (by rw [show decide (x.p ≠ y.p) = !decide (x.v = y.v ∧ x.n = y.n ∧ Ms x.l = Ms y.l) from by rw [← decide_not, decide_eq_decide]; exact not_congr (hpe.trans ⟨fun h => h.2, fun h => ⟨Classical.not_not.1 hs57, h⟩⟩)]; rfl)), ?_⟩
   exact hS
  rintro _ wz hfz Γ hΓ
  have hb1 := hb1.frm hfz jp
  have hb2 := hb2.frm hfz jp
  have K := K.trans hfz jp
  refine jN (VC.sub _ hΓ ?_)
  refine VC.condB rfl (fun hc3 => ?_) (fun hc3 => ?_)
  ·
   have hbad : ¬ m1.p = m2.p := fun h => by
    have h3 := (hext.1 h).2.2.1
    have h4 := congrArg (fun l => l[i]?) h3
    simp only [Ns, zcv, zc hc2, zc (jo : i < m2.l.length), hx, hy, zcq, Option.some.injEq] at h4
    exact (of_decide_eq_true hc3) h4
   refine jS (jR (ja rfl (jO (jN (jv1 4 ?_)))))
   refine jT ?_
   refine qN (qQ (qQ (qN (qQ (qC rfl ?_)))))
   exact ⟨by rw [decide_eq_false hbad], K⟩
  have hc3 : x.p = y.p := Classical.not_not.1 (of_decide_eq_false hc3)
  refine jQ ?_
  refine qT (jN ?_)
  refine jv3 2 3 5 ?_
  refine jR (jm rfl (jb rfl rfl (Bin.add_i64 _ 1 jo) (ja rfl (jO ?_))))
  refine jN ⟨(i + 1), (js3 rfl rfl rfl), ?_, ?_⟩
  ·
   refine ⟨hc2, fun j h1 h2 hj => ?_, hb1, hb2, K⟩
   by_cases e : j = i
   ·
    subst e
    rw [hx, hy]
    exact hc3
   exact hd j h1 h2 jo
  first | omega | (dsimp only; omega)
 obtain rfl : i = m1.l.length := by omega
 have hNs : Ns m1.l = Ns m2.l := List.ext_getElem (by rw [bC, bC]; exact hll) (fun j h1 h2 => by
  rw [bC] at h1 h2
  rw [show (Ns m1.l)[j] = (m1.l[j]).p from zbf _, show (Ns m2.l)[j] = (m2.l[j]).p from zbf _]
  exact hd j h1 h2 h1)
 refine jX ?_
 refine qH (qH (qF ?_))
 refine jN (jv2 2 3 ?_)
 refine jS (jS (jR (jz 0 (jO (jN (jB ?_))))))
 refine VC.loop (σ := Nat) (fun s => [(2, .pointer (some ⟨g1, 0, none⟩)), (3, .pointer (some ⟨g2, 0, none⟩)), (6, .int .i64 ((s : Nat) : Int))]) (fun s wr => s ≤ m1.ss.length ∧ (∀ j, j < s → m1.ss[j]? = m2.ss[j]?) ∧ Blk wr g1 25 m1.cells.toArray ∧ Blk wr g2 25 m2.cells.toArray ∧ Frm [] w wr) (fun s => m1.ss.length - s) 0 (js3 rfl rfl rfl) ⟨zam _, fun _ h => jo, hb1, hb2, K⟩ ?_
 rintro k wr ⟨hk, hd2, hb1, hb2, K⟩
 refine jS (jS (jR (jm rfl (jf rfl zd rfl zae (jl rfl zas (hb1.cell 1) (je (Run.lenS rfl zh) (jb rfl rfl (Bin.lssN _ _) (jO (jN (jv4 2 3 6 77 ?_))))))))))
 refine jD rfl (fun hc4 => ?_) fun hc4 => ?_
 ·
  have hdw := qO.drew wr
  have hb1 := hb1.drawn hdw
  have hb2 := hb2.drawn hdw
  have K := K.drawn hdw
  have hk2 : k < m2.ss.length := by omega
  obtain ⟨ad1, had1, hel1⟩ := (hm1.s.frm K jp).elem hc4
  obtain ⟨ad2, had2, hel2⟩ := (hm2.s.frm K jp).elem hk2
  have hg1 : m1.ss[k]? = some m1.ss[k] := zc hc4
  have hg2 : m2.ss[k]? = some m2.ss[k] := zc hk2
  refine jQ (jN (jv3 2 3 6 ?_))
  refine jS (jB (jS ?_))
  refine VC.still jK jK ?_
  refine qE (Run.fieldAddr rfl zd rfl zae jd) ?_
  refine qE (Run.load rfl zas (hb1.cell 1)) ?_
  refine qM ?_
  refine qE (Run.indexS k (show _ = some (Value.slice (some ad1) m1.ss.length m1.d) by rw [← had1]; rfl) rfl zh zp hc4) ?_
  refine qE (Run.load rfl zab (hel1 0 (encStr m1.ss[k]) (by simp [SB, hc4]))) ?_
  refine qE (Run.fieldAddr rfl zd rfl zae jd) ?_
  refine qE (Run.load rfl zas (hb2.cell 1)) ?_
  refine qM ?_
  refine qE (Run.indexS k (show _ = some (Value.slice (some ad2) m2.ss.length m2.d) by rw [← had2]; rfl) rfl zh zp hk2) ?_
  refine qE (Run.load rfl zab (hel2 0 (encStr m2.ss[k]) (by simp [SB, hk2]))) ?_
  refine qE (Run.neqT rfl rfl) ?_
  refine bJ.nil ?_
  refine jN (jv4 2 3 6 90 ?_)
  refine jD rfl (fun hc5 => ?_) fun hc5 => ?_
  ·
   have hbad : ¬ m1.p = m2.p := fun h => by
    have h3 := congrArg (fun l => l[k]?) (hext.1 h).2.2.2
    simp only [hg1, hg2, Option.some.injEq] at h3
    exact hc5 h3
   refine jS (jR (ja rfl (jO (jN (jv1 4 ?_)))))
   refine jT ?_
   refine qN (qQ (qQ (qN (qQ (qC rfl ?_)))))
   exact ⟨by rw [decide_eq_false hbad], K⟩
  have hc5 : m1.ss[k] = m2.ss[k] := Classical.not_not.1 hc5
  refine jQ ?_
  refine qT (jN ?_)
  refine jv3 2 3 6 ?_
  refine jR (jm rfl (jb rfl rfl (Bin.add_i64 _ 1 jo) (ja rfl (jO ?_))))
  refine jN ⟨(k + 1), (js3 rfl rfl rfl), ?_, ?_⟩
  ·
   refine ⟨hc4, fun j hj => ?_, hb1, hb2, K⟩
   by_cases e : j = k
   ·
    subst e
    rw [hg1, hg2, hc5]
   exact hd2 j jo
  first | omega | (dsimp only; omega)
 refine jX ?_
 refine qH (qH (qF ?_))
 refine jN ?_
 refine VC.sub [] .nil ?_
 refine jS (jR (ja rfl (jO (jN (jT ?_)))))
 refine qC rfl ?_
 obtain rfl : k = m1.ss.length := by omega
 have hse : m1.ss = m2.ss := zcm (fun j => by
  rcases zck j m1.ss.length with h | h
  · exact hd2 j h
  rw [zbg h, zbg jo])
 exact ⟨by rw [decide_eq_true (hext.2 ⟨hvv, hbb, hNs, hse⟩)], K⟩
def atR (l : List NmP) (t : Tx) : Int := match l.findIdx? (fun x => decide (x.1 = t)) with | some i => (i : Int) | none => -1
theorem kD {l : List NmP} {t : Tx} : atR l t < 0 ↔ t ∉ l.map Prod.fst := by
 unfold atR
 cases h : l.findIdx? (fun x => decide (x.1 = t)) with
 | none =>
  rw [List.findIdx?_eq_none_iff] at h
  refine ⟨fun _ hm => ?_, fun _ => jd⟩
  obtain ⟨x, hx, rfl⟩ := List.mem_map.1 hm
  have := h x hx
  simp at this
 | some i =>
  rw [zds] at h
  obtain ⟨h1, h2, _⟩ := h
  refine ⟨fun h3 => by dsimp only at h3; omega, fun h3 => absurd ?_ h3⟩
  rw [← of_decide_eq_true h2]
  exact zbv (zr h1)
theorem fV (A : Option Addr) (c : Nat) (l : List Nc) (q : Tx) (w : World) (hl : RdN w A l) (hln : l.length ≤ 1000000) (hq : q.length ≤ 1000000) : Calls Tryz.prog 30 #[.slice A l.length c, encStr q] w fun e w' => e = .returned (.int .i64 (atR (Ns l) (qV q))) ∧ Frm [] w w' := by
 have K := Frm.refl [] w
 refine VC.calls (nt := 21) (res := #[.tmp 4]) Tryz.func30 rfl Tryz.ntmps30 Tryz.results30 rfl ?_
 refine jS (jR (jz 0 (jO (jN (jv2 0 1 ?_)))))
 refine jS (jS (jR (jz 0 (jO (jN (jB ?_))))))
 refine VC.loop (σ := Nat) (fun s => [(0, .slice A l.length c), (1, encStr q), (5, .int .i64 ((s : Nat) : Int))]) (fun s wr => s ≤ l.length ∧ (∀ j (h : j < l.length), j < s → (l[j]).nm ≠ qV q) ∧ Frm [] w wr) (fun s => l.length - s) 0 (js3 rfl rfl rfl) ⟨zam _, fun _ _ h => jo, K⟩ ?_
 rintro i wr ⟨hi, hd, K⟩
 refine jS (jS (jR (jm rfl (jm rfl (je (Run.lenS rfl ze) (jb rfl rfl (Bin.lssN _ _) (jO (jN (jv4 0 1 5 9 ?_)))))))))
 refine jD rfl (fun hc1 => ?_) fun hc1 => ?_
 ·
  obtain ⟨ad, hA, _⟩ := (hl.frm K).elem hc1
  have hel : ∀ W, Frm [] wr W → ∀ j v, (l[i]).cells[j]? = some v → W.cell? ((ad.add (i * 4)).add j) = some v := fun W hW => by
   obtain ⟨ad', hA', h⟩ := (hl.frm (K.trans hW jp)).elem hc1
   rw [hA] at hA'
   cases hA'
   exact h
  obtain ⟨x, hx⟩ : ∃ x, x = l[i] := ⟨_, rfl⟩
  rw [← hx] at hel
  refine jQ (jN (jv3 0 1 5 ?_))
  refine jS (jB (jS ?_))
  refine VC.held (fun W => Frm [] wr W) jK ?_
  have hS : Frm [] wr wr.drew := (Frm.refl _ _).drew
  refine jH 0 rfl hS (fun w0 hw0 => Run.mv rfl) ?_
  refine jH 1 rfl hS (fun w0 hw0 => Run.mv rfl) ?_
  refine jH 2 rfl hS (fun w0 hw0 => Run.indexS i (show _ = some (Value.slice (some ad) l.length c) by rw [← hA]; rfl) rfl ze zo hc1) ?_
  refine jH 3 rfl hS (fun w0 hw0 => Run.fieldAddr rfl zy rfl zp jd) ?_
  refine jH 4 rfl hS (fun w0 hw0 => Run.load rfl zab (hel _ hw0 0 (encStr x.nm) rfl)) ?_
  refine jH 5 rfl hS (fun w0 hw0 => Run.mv rfl) ?_
  refine qZ.cl 6 rfl jK (jE1 Tryz.call60) (kH q _ hq) trivial rfl rfl ?_
  rintro e wA ⟨rfl, hfA⟩
  have hSA := hS.trans hfA jp
  refine ⟨_, rfl, hSA, ?_⟩
  have hS := hSA
  have K := K.trans hS jp
  refine jH 7 rfl hS (fun w0 hw0 => Run.eqlT rfl rfl) ?_
  refine qZ.done jK ?_
  refine jN (jv4 0 1 5 19 ?_)
  refine jD rfl (fun hc2 => ?_) fun hc2 => ?_
  ·
   refine jS (jR (jm rfl (ja rfl (jO (jN (jv1 4 ?_))))))
   refine jT ?_
   refine qN (qQ (qQ (qN (qQ (qC rfl ?_)))))
   have hc2 : (l[i]).nm = qV q := by
    rw [← hx]
    first | exact hc2 | exact of_decide_eq_true hc2
   refine ⟨?_, K⟩
   have e : (Ns l).findIdx? (fun x => decide (x.1 = qV q)) = some i := by
    rw [zds]
    refine ⟨by rw [bC]; exact hc1, ?_, fun j hj => ?_⟩
    ·
     rw [show (Ns l)[i]'(by rw [bC]; exact hc1) = (l[i]).p from zbf _]
     exact decide_eq_true hc2
    rw [show (Ns l)[j]'(by rw [bC]; omega) = (l[j]).p from zbf _]
    simp only [decide_eq_true_eq]
    exact hd j jo hj
   unfold atR
   rw [e]
  refine jQ ?_
  refine qT (jN ?_)
  refine jv3 0 1 5 ?_
  refine jR (jm rfl (jb rfl rfl (Bin.add_i64 _ 1 jo) (ja rfl (jO ?_))))
  refine jN ⟨(i + 1), (js3 rfl rfl rfl), ?_, ?_⟩
  ·
   refine ⟨hc1, fun j h hj => ?_, K⟩
   by_cases e : j = i
   ·
    subst e
    rw [← hx]
    first | exact hc2 | exact of_decide_eq_false hc2
   exact hd j h jo
  first | omega | (dsimp only; omega)
 refine jX ?_
 refine qH (qH (qF ?_))
 refine jN ?_
 refine VC.sub [] .nil ?_
 refine jS (jR ?_)
 refine Ops.r (v := .int .i64 (-1)) (Run.asg rfl) rfl ?_
 refine jO (jN (jT ?_))
 refine qC rfl ?_
 refine ⟨?_, K⟩
 have e : (Ns l).findIdx? (fun x => decide (x.1 = qV q)) = none := by
  rw [List.findIdx?_eq_none_iff]
  intro x hx
  obtain ⟨y, hy, rfl⟩ := List.mem_map.1 hx
  obtain ⟨j, hj, rfl⟩ := zaf hy
  exact decide_eq_false (hd j hj jo)
 unfold atR
 rw [e]
end
section
open Go.RowKit Go.Sort
def NmC (m : MlC) (i : Nat) (x : Nc) : Prop := bY (qL m.p) i x.nm ∧ bT x.p.2 ∧ x.v ≤ m.v
instance (m : MlC) (i : Nat) (x : Nc) : Decidable (NmC m i x) := by unfold NmC; infer_instance
theorem rJ (m : MlC) {i : Nat} (h : i < m.l.length) : (qL m.p)[i]? = some (m.l[i]).nm := by
 simp [qL, MlC.p, Ns, Nc.p, zc h]
theorem oO (m : MlC) {i : Nat} (h : i < m.l.length) {h2 : i < (qL m.p).length} : (qL m.p)[i] = (m.l[i]).nm := Option.some.inj ((zc h2).symm.trans (rJ m h))
theorem qQo (m : MlC) : bW m.p ↔ ((∀ i (h : i < m.l.length), NmC m i m.l[i] ∧ (m.l[i]).v ∉ (m.l.take i).map Nc.v ∧ ∀ y ∈ (m.l[i]).l, (y.m.blob : Int) ≤ m.b) ∧ (∀ i (h : i < m.ss.length), bY m.ss i m.ss[i])) ∧ bX ∈ m.l.map Nc.nm ∧ m.l.length ≤ 24 ∧ m.ss.length ≤ 24 ∧ 1 ≤ m.v ∧ m.v ≤ 2147483647 ∧ 0 ≤ m.b ∧ m.b ≤ 2147483647 := by
 have en : qL m.p = m.l.map Nc.nm := by simp [qL, MlC.p, Ns, Nc.p]
 have el := gW m
 rw [uC]
 constructor
 ·
  rintro ⟨⟨⟨h1, h2⟩, ⟨h3, h4⟩, h5, h6, h7, h8, h9⟩, hb⟩
  refine ⟨⟨fun i h => ?_, h4⟩, by rw [← en]; exact h9, jo, h3, h5, h6, h7, h8⟩
  have h2i := h2 i jo
  rw [oO m h] at h2i
  obtain ⟨⟨k1, k2, k3⟩, k4⟩ := hb i h
  exact ⟨⟨h2i, k1, k2⟩, k3, k4⟩
 rintro ⟨⟨h, h4⟩, h9, h1, h3, h5, h6, h7, h8⟩
 refine ⟨⟨⟨jo, fun i hi => ?_⟩, ⟨h3, h4⟩, h5, h6, h7, h8, by rw [en]; exact h9⟩, fun i hi => ?_⟩
 ·
  have hi' : i < m.l.length := jo
  rw [oO m hi']
  exact (h i hi').1.1
 obtain ⟨⟨_, k1, k2⟩, k3, k4⟩ := h i hi
 exact ⟨⟨k1, k2, k3⟩, k4⟩
set_option maxHeartbeats 1000000 in
theorem gB (m : MlC) (w : World) (hm : RdL w m) (hbb : m.b ≤ 9223372036854775807) : Calls Tryz.prog 26 #[m.val] w fun e w' => e = .returned (.bool (decide (bW m.p))) ∧ Frm [] w w' := by
 have hln := hm.ln
 have hsn := hm.sn
 have hMi := qQo m
 refine VC.calls (nt := 166) (res := #[.tmp 2]) Tryz.func26 rfl Tryz.ntmps26 Tryz.results26 rfl ?_
 refine jS (jR ?_)
 refine Ops.m (qJ.box rfl) rfl ?_
 rintro _ w1 ⟨rfl, hF_w1⟩
 have hb1 : Blk w1 w.heap.size 25 #[.slice m.A m.l.length m.c, .slice m.S m.ss.length m.d, .int .i64 m.v, .int .i64 m.b] := hF_w1.blk
 have K := hF_w1.frm
 generalize w.heap.size = g1 at hb1 ⊢
 refine ja rfl (jO (jN (jv1 1 ?_)))
 refine jS (jR (ja rfl (jO (jN (jS (jS (jR (jz 0 (jO (jN (jB ?_)))))))))))
 refine VC.loop (σ := Nat) (fun s => [(1, .pointer (some ⟨g1, 0, none⟩)), (3, .bool (decide (bX ∈ (m.l.take s).map Nc.nm))), (4, .int .i64 ((s : Nat) : Int))]) (fun s wr => s ≤ m.l.length ∧ Blk wr g1 25 #[.slice m.A m.l.length m.c, .slice m.S m.ss.length m.d, .int .i64 m.v, .int .i64 m.b] ∧ (∀ j (h : j < m.l.length), j < s → NmC m j m.l[j] ∧ (m.l[j]).v ∉ (m.l.take j).map Nc.v ∧ ∀ y ∈ (m.l[j]).l, (y.m.blob : Int) ≤ m.b) ∧ Frm [] w wr) (fun s => m.l.length - s) 0 (js3 rfl rfl rfl) ⟨zam _, hb1, fun _ _ h => jo, K⟩ ?_
 rintro i wr ⟨hi, hb1, hd, K⟩
 refine jS (jS (jR (jm rfl (jf rfl zd rfl zx (jl rfl zah (hb1.cell 0) (je (Run.lenS rfl ze) (jb rfl rfl (Bin.lssN _ _) (jO (jN (jv4 1 3 4 13 ?_))))))))))
 refine jD rfl (fun hc1 => ?_) fun hc1 => ?_
 ·
  obtain ⟨ad, had, hel⟩ := (hm.frm K).l.elem hc1
  have hxa := (hm.frm K).l.el _ (zr hc1)
  have hts : (m.l.take (i + 1)).map Nc.nm = (m.l.take i).map Nc.nm ++ [(m.l[i]).nm] := by rw [zar, zc hc1, zaw]; rfl
  have hnm : NmC m i m.l[i] ↔ (dI (m.l[i]).nm ∧ (0 < i → ((qL m.p)[i - 1]?).getD [] < (m.l[i]).nm)) ∧ bT (m.l[i]).p.2 ∧ (m.l[i]).v ≤ m.v := Iff.rfl
  have hnp : ∀ (h0 : 0 < i), (m.l[i - 1]).nm = ((qL m.p)[i - 1]?).getD [] := fun h0 => by rw [rJ m jo]; rfl
  generalize hpvd : ((qL m.p)[i - 1]?).getD [] = pv at hnm hnp
  have hxn := hxa.n
  have hxq := hxa.q
  generalize hx : m.l[i] = x at *
  refine jQ (jN (jv3 1 3 4 ?_))
  refine jS (jB (jS (jR (jf rfl zd rfl zx (jl rfl zah (hb1.cell 0) (jm rfl (je (Run.indexS i (show _ = some (Value.slice (some ad) m.l.length m.c) by rw [← had]; rfl) rfl ze zo hc1) (je (Run.loadA rfl zdc zo hel (by first | rfl | (simp; done))) ?_))))))))
  refine Ops.m (qJ.alloc cN) rfl ?_
  rintro _ w2 ⟨rfl, hF2⟩
  refine Ops.st (qW.storeA rfl rfl zo hF2.blk rfl x.cells_one) ?_
  rintro w3 ⟨hb5, hf3, hs3⟩
  have hb5 : Blk w3 wr.heap.size 45 #[encStr x.nm, .int .i64 x.v, .int .i64 x.n, .slice x.A x.l.length x.c] := hb5
  have K3 : Frm [] wr w3 := hF2.frm.trans hf3 jp
  have hg5 : w.heap.size ≤ wr.heap.size := K.size
  have K := K.trans K3 jp
  have hb1 := hb1.frm K3 jp
  have hxa := hxa.frm K3
  generalize hgg5 : wr.heap.size = g5 at hb5 hg5 ⊢
  refine jO (jN (jv4 1 3 4 5 ?_))
  refine jS ?_
  refine VC.split1 [(1, _), (4, _), (5, _)] (js3 rfl rfl rfl) 3 (.bool (decide ((bX ∈ (m.l.take i).map Nc.nm) ∨ (x.nm = bX)))) ?_ ?_
  ·
   by_cases hs0 : bX ∈ (m.l.take i).map Nc.nm
   ·
    refine jR (jm rfl (jM ?_))
    refine jU ?_
    refine jU ?_
    refine jU ?_
    refine je (Run.pickT rfl rfl au) (ja rfl (jO ?_))
    refine jN ⟨(js4 (by rw [dor1 hs0]; rfl) rfl rfl rfl), rfl⟩
   refine jR (jm rfl (jM ?_))
   refine jk (Run.fieldAddr rfl zy rfl zp jd) ?_
   refine jk (Run.load rfl zab (hb5.cell 0)) ?_
   refine jk (Run.eqlT rfl rfl) ?_
   refine je (Run.pickF rfl rfl au) (ja rfl (jO ?_))
   refine jN ⟨(js4 (by rw [dor0 hs0]; rfl) rfl rfl rfl), rfl⟩
  intro Γ hΓ
  refine jN (VC.sub _ hΓ (jS (jS ?_)))
  refine VC.meet (σ := Unit) (fun s => [(1, .pointer (some ⟨g1, 0, none⟩)), (3, .bool (decide (bX ∈ (m.l.take i).map Nc.nm ∨ x.nm = bX))), (4, .int .i64 ((i : Nat) : Int)), (5, .pointer (some ⟨g5, 0, none⟩)), (60, .bool (decide (¬ ((dI x.nm ∧ (0 < i → pv < x.nm)) ∧ bT ⟨x.v, x.n, Ms x.l⟩ ∧ x.v ≤ m.v))))]) (fun s wz => Frm [] w3 wz) ?_ ?_
  ·
   refine VC.held (fun W => Frm [] w3 W) jK ?_
   have hS : Frm [] w3 w3.drew := (Frm.refl _ _).drew
   refine jH 0 rfl hS (fun w0 hw0 => Run.fieldAddr rfl zy rfl zp jd) ?_
   refine jH 1 rfl hS (fun w0 hw0 => Run.load rfl zab ((hb5.frm hw0 jp).cell 0)) ?_
   refine qZ.cl 2 rfl jK (jE1 Tryz.call77) (mS x.nm _ jo) trivial rfl rfl ?_
   rintro e wA ⟨rfl, hfwA⟩
   have hSwA := hS.trans hfwA jp
   refine ⟨_, rfl, hSwA, ?_⟩
   have hS := hSwA
   by_cases hs29 : dI x.nm
   ·
    refine jH 3 rfl hS (fun w0 hw0 => Run.not rfl) ?_
    refine jH 4 rfl hS (fun w0 hw0 => Run.mv rfl) ?_
    refine qZ.take 5 rfl jK jK jK hS (fun w0 hw0 => Run.mv rfl) (Up.g rfl (by first | rfl | exact decide_eq_true hs29 | (simp [hs29]; done))) rfl rfl ?_
    refine qZ.take 6 rfl jK jK jK hS (fun w0 hw0 => Run.bin rfl rfl (Bin.gtrN _ 0)) (Up.g rfl (by first | rfl | exact decide_eq_true hs29 | (simp [hs29]; done))) rfl rfl ?_
    by_cases hs33 : 0 < i
    ·
     obtain ⟨ad2, had2, hel2⟩ : ∃ ad, m.A = some ad ∧ ∀ W, Frm [] w3 W → W.cell? ((ad.add ((i - 1) * 4)).add 0) = some (encStr pv) := by
      obtain ⟨ad, hA, _⟩ := (hm.frm K).l.elem (jo : i - 1 < m.l.length)
      refine ⟨ad, hA, fun W hW => ?_⟩
      obtain ⟨ad', hA', h⟩ := (hm.frm (K.trans hW jp)).l.elem (jo : i - 1 < m.l.length)
      rw [hA] at hA'
      cases hA'
      exact h 0 _ (by rw [← hnp hs33]; rfl)
     refine qZ.take 7 rfl jK jK jK hS (fun w0 hw0 => Run.mv rfl) (Up.g rfl (by first | rfl | exact decide_eq_true hs29 | exact decide_eq_true hs33 | (simp [hs29]; done) | (simp [hs33]; done))) rfl rfl ?_
     refine qZ.take 8 rfl jK jK jK hS (fun w0 hw0 => Run.fieldAddr rfl zd rfl zx jd) (Up.g rfl (by first | rfl | exact decide_eq_true hs29 | exact decide_eq_true hs33 | (simp [hs29]; done) | (simp [hs33]; done))) rfl rfl ?_
     refine qZ.take 9 rfl jK jK jK hS (fun w0 hw0 => Run.load rfl zah ((hb1.frm hw0 jp).cell 0)) (Up.g rfl (by first | rfl | exact decide_eq_true hs29 | exact decide_eq_true hs33 | (simp [hs29]; done) | (simp [hs33]; done))) rfl rfl ?_
     refine qZ.take 10 rfl jK jK jK hS (fun w0 hw0 => Run.mv rfl) (Up.g rfl (by first | rfl | exact decide_eq_true hs29 | exact decide_eq_true hs33 | (simp [hs29]; done) | (simp [hs33]; done))) rfl rfl ?_
     refine qZ.take 11 rfl jK jK jK hS (fun w0 hw0 => Run.bin rfl rfl (Bin.sub_i64 _ 1 jo jo)) (Up.g rfl (by first | rfl | exact decide_eq_true hs29 | exact decide_eq_true hs33 | (simp [hs29]; done) | (simp [hs33]; done))) rfl rfl ?_
     refine qZ.take 12 rfl jK jK jK hS (fun w0 hw0 => Run.indexS (i - 1) (show _ = some (Value.slice (some ad2) m.l.length m.c) by rw [← had2]; rfl) rfl ze zo jo) (Up.g rfl (by first | rfl | exact decide_eq_true hs29 | exact decide_eq_true hs33 | (simp [hs29]; done) | (simp [hs33]; done))) rfl rfl ?_
     refine qZ.take 13 rfl jK jK jK hS (fun w0 hw0 => Run.fieldAddr rfl zy rfl zp jd) (Up.g rfl (by first | rfl | exact decide_eq_true hs29 | exact decide_eq_true hs33 | (simp [hs29]; done) | (simp [hs33]; done))) rfl rfl ?_
     refine qZ.take 14 rfl jK jK jK hS (fun w0 hw0 => Run.load rfl zab (hel2 _ hw0)) (Up.g rfl (by first | rfl | exact decide_eq_true hs29 | exact decide_eq_true hs33 | (simp [hs29]; done) | (simp [hs33]; done))) rfl rfl ?_
     refine qZ.take 15 rfl jK jK jK hS (fun w0 hw0 => Run.fieldAddr rfl zy rfl zp jd) (Up.g rfl (by first | rfl | exact decide_eq_true hs29 | exact decide_eq_true hs33 | (simp [hs29]; done) | (simp [hs33]; done))) rfl rfl ?_
     refine qZ.take 16 rfl jK jK jK hS (fun w0 hw0 => Run.load rfl zab ((hb5.frm hw0 jp).cell 0)) (Up.g rfl (by first | rfl | exact decide_eq_true hs29 | exact decide_eq_true hs33 | (simp [hs29]; done) | (simp [hs33]; done))) rfl rfl ?_
     refine qZ.take 17 rfl jK jK jK hS (fun w0 hw0 => Run.geqT rfl rfl) (Up.g rfl (by first | rfl | exact decide_eq_true hs29 | exact decide_eq_true hs33 | (simp [hs29]; done) | (simp [hs33]; done))) rfl rfl ?_
     by_cases hs44 : pv < x.nm
     ·
      refine qZ.take 18 rfl jK jK jK hS (fun w0 hw0 => Run.pickT rfl rfl (by first | rfl | exact decide_eq_true hs29 | exact decide_eq_true hs33 | exact decide_eq_false hs44 | (simp [hs29]; done) | (simp [hs33]; done) | (simp [hs44]; done))) (Up.g rfl (by first | rfl | exact decide_eq_true hs29 | exact decide_eq_true hs33 | exact decide_eq_false hs44 | (simp [hs29]; done) | (simp [hs33]; done) | (simp [hs44]; done))) rfl rfl ?_
      refine jH 19 rfl hS (fun w0 hw0 => Run.pickF rfl rfl (by first | rfl | exact decide_eq_true hs29 | exact decide_eq_true hs33 | exact decide_eq_false hs44 | (simp [hs29]; done) | (simp [hs33]; done) | (simp [hs44]; done))) ?_
      refine jH 20 rfl hS (fun w0 hw0 => Run.mv rfl) ?_
      refine qZ.take 21 rfl jK jK jK hS (fun w0 hw0 => Run.fieldAddr rfl zy rfl zf jd) (Up.g rfl (by first | rfl | exact decide_eq_true hs29 | exact decide_eq_true hs33 | exact decide_eq_false hs44 | (simp [hs29]; done) | (simp [hs33]; done) | (simp [hs44]; done))) rfl rfl ?_
      refine qZ.take 22 rfl jK jK jK hS (fun w0 hw0 => Run.loadA rfl zad zf ((hb5.frm hw0 jp).sub 1 (BVc x.v x.n x.A x.l.length x.c) rfl) (by first | rfl | (simp; done))) (Up.g rfl (by first | rfl | exact decide_eq_true hs29 | exact decide_eq_true hs33 | exact decide_eq_false hs44 | (simp [hs29]; done) | (simp [hs33]; done) | (simp [hs44]; done))) rfl rfl ?_
      refine qZ.cl 23 rfl jK (jE1 Tryz.call78) (kZ x.v x.n x.A x.c x.l _ (hxa.rd.frm hS) jo) (Up.g rfl (by first | rfl | exact decide_eq_true hs29 | exact decide_eq_true hs33 | exact decide_eq_false hs44 | (simp [hs29]; done) | (simp [hs33]; done) | (simp [hs44]; done))) rfl rfl ?_
      rintro e wB ⟨rfl, hfwB⟩
      have hSwB := hS.trans hfwB jp
      refine ⟨_, rfl, hSwB, ?_⟩
      have hS := hSwB
      by_cases hs50 : bT ⟨x.v, x.n, Ms x.l⟩
      ·
       refine qZ.take 24 rfl jK jK jK hS (fun w0 hw0 => Run.not rfl) (Up.g rfl (by first | rfl | exact decide_eq_true hs29 | exact decide_eq_true hs33 | exact decide_eq_false hs44 | exact decide_eq_true hs50 | (simp [hs29]; done) | (simp [hs33]; done) | (simp [hs44]; done) | (simp [hs50]; done))) rfl rfl ?_
       refine jH 25 rfl hS (fun w0 hw0 => Run.pickF rfl rfl (by first | rfl | exact decide_eq_true hs29 | exact decide_eq_true hs33 | exact decide_eq_false hs44 | exact decide_eq_true hs50 | (simp [hs29]; done) | (simp [hs33]; done) | (simp [hs44]; done) | (simp [hs50]; done))) ?_
       refine jH 26 rfl hS (fun w0 hw0 => Run.mv rfl) ?_
       refine qZ.take 27 rfl jK jK jK hS (fun w0 hw0 => Run.fieldAddr rfl zy rfl zf jd) (Up.g rfl (by first | rfl | exact decide_eq_true hs29 | exact decide_eq_true hs33 | exact decide_eq_false hs44 | exact decide_eq_true hs50 | (simp [hs29]; done) | (simp [hs33]; done) | (simp [hs44]; done) | (simp [hs50]; done))) rfl rfl ?_
       refine qZ.take 28 rfl jK jK jK hS (fun w0 hw0 => Run.fieldAddr rfl zj rfl zi jd) (Up.g rfl (by first | rfl | exact decide_eq_true hs29 | exact decide_eq_true hs33 | exact decide_eq_false hs44 | exact decide_eq_true hs50 | (simp [hs29]; done) | (simp [hs33]; done) | (simp [hs44]; done) | (simp [hs50]; done))) rfl rfl ?_
       refine qZ.take 29 rfl jK jK jK hS (fun w0 hw0 => Run.load rfl zn ((hb5.frm hw0 jp).cell 1)) (Up.g rfl (by first | rfl | exact decide_eq_true hs29 | exact decide_eq_true hs33 | exact decide_eq_false hs44 | exact decide_eq_true hs50 | (simp [hs29]; done) | (simp [hs33]; done) | (simp [hs44]; done) | (simp [hs50]; done))) rfl rfl ?_
       refine qZ.take 30 rfl jK jK jK hS (fun w0 hw0 => Run.fieldAddr rfl zd rfl zi jd) (Up.g rfl (by first | rfl | exact decide_eq_true hs29 | exact decide_eq_true hs33 | exact decide_eq_false hs44 | exact decide_eq_true hs50 | (simp [hs29]; done) | (simp [hs33]; done) | (simp [hs44]; done) | (simp [hs50]; done))) rfl rfl ?_
       refine qZ.take 31 rfl jK jK jK hS (fun w0 hw0 => Run.load rfl zn ((hb1.frm hw0 jp).cell 2)) (Up.g rfl (by first | rfl | exact decide_eq_true hs29 | exact decide_eq_true hs33 | exact decide_eq_false hs44 | exact decide_eq_true hs50 | (simp [hs29]; done) | (simp [hs33]; done) | (simp [hs44]; done) | (simp [hs50]; done))) rfl rfl ?_
       refine qZ.take 32 rfl jK jK jK hS (fun w0 hw0 => Run.bin rfl rfl (Bin.gtr _ _)) (Up.g rfl (by first | rfl | exact decide_eq_true hs29 | exact decide_eq_true hs33 | exact decide_eq_false hs44 | exact decide_eq_true hs50 | (simp [hs29]; done) | (simp [hs33]; done) | (simp [hs44]; done) | (simp [hs50]; done))) rfl rfl ?_
       by_cases hs59 : m.v < x.v
       ·
        refine jH 33 rfl hS (fun w0 hw0 => Run.pickF rfl rfl (by first | rfl | exact decide_eq_true hs29 | exact decide_eq_true hs33 | exact decide_eq_false hs44 | exact decide_eq_true hs50 | exact decide_eq_true hs59 | (simp [hs29]; done) | (simp [hs33]; done) | (simp [hs44]; done) | (simp [hs50]; done) | (simp [hs59]; done))) ?_
        refine qZ.done jK ?_
        refine jN ⟨(), (js5 rfl rfl rfl rfl (jC (by clear hMi hd hel hm; grind))), ?_⟩
        exact hS
       refine jH 33 rfl hS (fun w0 hw0 => Run.pickF rfl rfl (by first | rfl | exact decide_eq_true hs29 | exact decide_eq_true hs33 | exact decide_eq_false hs44 | exact decide_eq_true hs50 | exact decide_eq_false hs59 | (simp [hs29]; done) | (simp [hs33]; done) | (simp [hs44]; done) | (simp [hs50]; done) | (simp [hs59]; done))) ?_
       refine qZ.done jK ?_
       refine jN ⟨(), (js5 rfl rfl rfl rfl (jC (by clear hMi hd hel hm; grind))), ?_⟩
       exact hS
      refine qZ.take 24 rfl jK jK jK hS (fun w0 hw0 => Run.not rfl) (Up.g rfl (by first | rfl | exact decide_eq_true hs29 | exact decide_eq_true hs33 | exact decide_eq_false hs44 | exact decide_eq_false hs50 | (simp [hs29]; done) | (simp [hs33]; done) | (simp [hs44]; done) | (simp [hs50]; done))) rfl rfl ?_
      refine jH 25 rfl hS (fun w0 hw0 => Run.pickF rfl rfl (by first | rfl | exact decide_eq_true hs29 | exact decide_eq_true hs33 | exact decide_eq_false hs44 | exact decide_eq_false hs50 | (simp [hs29]; done) | (simp [hs33]; done) | (simp [hs44]; done) | (simp [hs50]; done))) ?_
      refine jH 26 rfl hS (fun w0 hw0 => Run.mv rfl) ?_
      refine qZ.skip 27 rfl jK jK jK hS rfl rfl (by first | rfl | exact decide_eq_true hs29 | exact decide_eq_true hs33 | exact decide_eq_false hs44 | exact decide_eq_false hs50 | (simp [hs29]; done) | (simp [hs33]; done) | (simp [hs44]; done) | (simp [hs50]; done)) rfl rfl ?_
      refine qZ.skip 28 rfl jK jK jK hS rfl rfl (by first | rfl | exact decide_eq_true hs29 | exact decide_eq_true hs33 | exact decide_eq_false hs44 | exact decide_eq_false hs50 | (simp [hs29]; done) | (simp [hs33]; done) | (simp [hs44]; done) | (simp [hs50]; done)) rfl rfl ?_
      refine qZ.skip 29 rfl jK jK jK hS rfl rfl (by first | rfl | exact decide_eq_true hs29 | exact decide_eq_true hs33 | exact decide_eq_false hs44 | exact decide_eq_false hs50 | (simp [hs29]; done) | (simp [hs33]; done) | (simp [hs44]; done) | (simp [hs50]; done)) rfl rfl ?_
      refine qZ.skip 30 rfl jK jK jK hS rfl rfl (by first | rfl | exact decide_eq_true hs29 | exact decide_eq_true hs33 | exact decide_eq_false hs44 | exact decide_eq_false hs50 | (simp [hs29]; done) | (simp [hs33]; done) | (simp [hs44]; done) | (simp [hs50]; done)) rfl rfl ?_
      refine qZ.skip 31 rfl jK jK jK hS rfl rfl (by first | rfl | exact decide_eq_true hs29 | exact decide_eq_true hs33 | exact decide_eq_false hs44 | exact decide_eq_false hs50 | (simp [hs29]; done) | (simp [hs33]; done) | (simp [hs44]; done) | (simp [hs50]; done)) rfl rfl ?_
      refine qZ.skip 32 rfl jK jK jK hS rfl rfl (by first | rfl | exact decide_eq_true hs29 | exact decide_eq_true hs33 | exact decide_eq_false hs44 | exact decide_eq_false hs50 | (simp [hs29]; done) | (simp [hs33]; done) | (simp [hs44]; done) | (simp [hs50]; done)) rfl rfl ?_
      refine jH 33 rfl hS (fun w0 hw0 => Run.pickT rfl rfl (by first | rfl | exact decide_eq_true hs29 | exact decide_eq_true hs33 | exact decide_eq_false hs44 | exact decide_eq_false hs50 | (simp [hs29]; done) | (simp [hs33]; done) | (simp [hs44]; done) | (simp [hs50]; done))) ?_
      refine qZ.done jK ?_
      refine jN ⟨(), (js5 rfl rfl rfl rfl (jC (by clear hMi hd hel hm; grind))), ?_⟩
      exact hS
     refine qZ.take 18 rfl jK jK jK hS (fun w0 hw0 => Run.pickT rfl rfl (by first | rfl | exact decide_eq_true hs29 | exact decide_eq_true hs33 | exact decide_eq_true hs44 | (simp [hs29]; done) | (simp [hs33]; done) | (simp [hs44]; done))) (Up.g rfl (by first | rfl | exact decide_eq_true hs29 | exact decide_eq_true hs33 | exact decide_eq_true hs44 | (simp [hs29]; done) | (simp [hs33]; done) | (simp [hs44]; done))) rfl rfl ?_
     refine jH 19 rfl hS (fun w0 hw0 => Run.pickF rfl rfl (by first | rfl | exact decide_eq_true hs29 | exact decide_eq_true hs33 | exact decide_eq_true hs44 | (simp [hs29]; done) | (simp [hs33]; done) | (simp [hs44]; done))) ?_
     refine jH 20 rfl hS (fun w0 hw0 => Run.mv rfl) ?_
     refine qZ.skip 21 rfl jK jK jK hS rfl rfl (by first | rfl | exact decide_eq_true hs29 | exact decide_eq_true hs33 | exact decide_eq_true hs44 | (simp [hs29]; done) | (simp [hs33]; done) | (simp [hs44]; done)) rfl rfl ?_
     refine qZ.skip 22 rfl jK jK jK hS rfl rfl (by first | rfl | exact decide_eq_true hs29 | exact decide_eq_true hs33 | exact decide_eq_true hs44 | (simp [hs29]; done) | (simp [hs33]; done) | (simp [hs44]; done)) rfl rfl ?_
     refine qZ.skip 23 rfl jK jK jK hS rfl rfl (by first | rfl | exact decide_eq_true hs29 | exact decide_eq_true hs33 | exact decide_eq_true hs44 | (simp [hs29]; done) | (simp [hs33]; done) | (simp [hs44]; done)) rfl rfl ?_
     refine qZ.skip 24 rfl jK jK jK hS rfl rfl (by first | rfl | exact decide_eq_true hs29 | exact decide_eq_true hs33 | exact decide_eq_true hs44 | (simp [hs29]; done) | (simp [hs33]; done) | (simp [hs44]; done)) rfl rfl ?_
     refine jH 25 rfl hS (fun w0 hw0 => Run.pickT rfl rfl (by first | rfl | exact decide_eq_true hs29 | exact decide_eq_true hs33 | exact decide_eq_true hs44 | (simp [hs29]; done) | (simp [hs33]; done) | (simp [hs44]; done))) ?_
     refine jH 26 rfl hS (fun w0 hw0 => Run.mv rfl) ?_
     refine qZ.skip 27 rfl jK jK jK hS rfl rfl (by first | rfl | exact decide_eq_true hs29 | exact decide_eq_true hs33 | exact decide_eq_true hs44 | (simp [hs29]; done) | (simp [hs33]; done) | (simp [hs44]; done)) rfl rfl ?_
     refine qZ.skip 28 rfl jK jK jK hS rfl rfl (by first | rfl | exact decide_eq_true hs29 | exact decide_eq_true hs33 | exact decide_eq_true hs44 | (simp [hs29]; done) | (simp [hs33]; done) | (simp [hs44]; done)) rfl rfl ?_
     refine qZ.skip 29 rfl jK jK jK hS rfl rfl (by first | rfl | exact decide_eq_true hs29 | exact decide_eq_true hs33 | exact decide_eq_true hs44 | (simp [hs29]; done) | (simp [hs33]; done) | (simp [hs44]; done)) rfl rfl ?_
     refine qZ.skip 30 rfl jK jK jK hS rfl rfl (by first | rfl | exact decide_eq_true hs29 | exact decide_eq_true hs33 | exact decide_eq_true hs44 | (simp [hs29]; done) | (simp [hs33]; done) | (simp [hs44]; done)) rfl rfl ?_
     refine qZ.skip 31 rfl jK jK jK hS rfl rfl (by first | rfl | exact decide_eq_true hs29 | exact decide_eq_true hs33 | exact decide_eq_true hs44 | (simp [hs29]; done) | (simp [hs33]; done) | (simp [hs44]; done)) rfl rfl ?_
     refine qZ.skip 32 rfl jK jK jK hS rfl rfl (by first | rfl | exact decide_eq_true hs29 | exact decide_eq_true hs33 | exact decide_eq_true hs44 | (simp [hs29]; done) | (simp [hs33]; done) | (simp [hs44]; done)) rfl rfl ?_
     refine jH 33 rfl hS (fun w0 hw0 => Run.pickT rfl rfl (by first | rfl | exact decide_eq_true hs29 | exact decide_eq_true hs33 | exact decide_eq_true hs44 | (simp [hs29]; done) | (simp [hs33]; done) | (simp [hs44]; done))) ?_
     refine qZ.done jK ?_
     refine jN ⟨(), (js5 rfl rfl rfl rfl (jC (by clear hMi hd hel hm; grind))), ?_⟩
     exact hS
    refine qZ.take 7 rfl jK jK jK hS (fun w0 hw0 => Run.mv rfl) (Up.g rfl (by first | rfl | exact decide_eq_true hs29 | exact decide_eq_false hs33 | (simp [hs29]; done) | (simp [hs33]; done))) rfl rfl ?_
    refine qZ.skip 8 rfl jK jK jK hS rfl rfl (by first | rfl | exact decide_eq_true hs29 | exact decide_eq_false hs33 | (simp [hs29]; done) | (simp [hs33]; done)) rfl rfl ?_
    refine qZ.skip 9 rfl jK jK jK hS rfl rfl (by first | rfl | exact decide_eq_true hs29 | exact decide_eq_false hs33 | (simp [hs29]; done) | (simp [hs33]; done)) rfl rfl ?_
    refine qZ.skip 10 rfl jK jK jK hS rfl rfl (by first | rfl | exact decide_eq_true hs29 | exact decide_eq_false hs33 | (simp [hs29]; done) | (simp [hs33]; done)) rfl rfl ?_
    refine qZ.skip 11 rfl jK jK jK hS rfl rfl (by first | rfl | exact decide_eq_true hs29 | exact decide_eq_false hs33 | (simp [hs29]; done) | (simp [hs33]; done)) rfl rfl ?_
    refine qZ.skip 12 rfl jK jK jK hS rfl rfl (by first | rfl | exact decide_eq_true hs29 | exact decide_eq_false hs33 | (simp [hs29]; done) | (simp [hs33]; done)) rfl rfl ?_
    refine qZ.skip 13 rfl jK jK jK hS rfl rfl (by first | rfl | exact decide_eq_true hs29 | exact decide_eq_false hs33 | (simp [hs29]; done) | (simp [hs33]; done)) rfl rfl ?_
    refine qZ.skip 14 rfl jK jK jK hS rfl rfl (by first | rfl | exact decide_eq_true hs29 | exact decide_eq_false hs33 | (simp [hs29]; done) | (simp [hs33]; done)) rfl rfl ?_
    refine qZ.skip 15 rfl jK jK jK hS rfl rfl (by first | rfl | exact decide_eq_true hs29 | exact decide_eq_false hs33 | (simp [hs29]; done) | (simp [hs33]; done)) rfl rfl ?_
    refine qZ.skip 16 rfl jK jK jK hS rfl rfl (by first | rfl | exact decide_eq_true hs29 | exact decide_eq_false hs33 | (simp [hs29]; done) | (simp [hs33]; done)) rfl rfl ?_
    refine qZ.skip 17 rfl jK jK jK hS rfl rfl (by first | rfl | exact decide_eq_true hs29 | exact decide_eq_false hs33 | (simp [hs29]; done) | (simp [hs33]; done)) rfl rfl ?_
    refine qZ.take 18 rfl jK jK jK hS (fun w0 hw0 => Run.pickF rfl rfl (by first | rfl | exact decide_eq_true hs29 | exact decide_eq_false hs33 | (simp [hs29]; done) | (simp [hs33]; done))) (Up.g rfl (by first | rfl | exact decide_eq_true hs29 | exact decide_eq_false hs33 | (simp [hs29]; done) | (simp [hs33]; done))) rfl rfl ?_
    refine jH 19 rfl hS (fun w0 hw0 => Run.pickF rfl rfl (by first | rfl | exact decide_eq_true hs29 | exact decide_eq_false hs33 | (simp [hs29]; done) | (simp [hs33]; done))) ?_
    refine jH 20 rfl hS (fun w0 hw0 => Run.mv rfl) ?_
    refine qZ.take 21 rfl jK jK jK hS (fun w0 hw0 => Run.fieldAddr rfl zy rfl zf jd) (Up.g rfl (by first | rfl | exact decide_eq_true hs29 | exact decide_eq_false hs33 | (simp [hs29]; done) | (simp [hs33]; done))) rfl rfl ?_
    refine qZ.take 22 rfl jK jK jK hS (fun w0 hw0 => Run.loadA rfl zad zf ((hb5.frm hw0 jp).sub 1 (BVc x.v x.n x.A x.l.length x.c) rfl) (by first | rfl | (simp; done))) (Up.g rfl (by first | rfl | exact decide_eq_true hs29 | exact decide_eq_false hs33 | (simp [hs29]; done) | (simp [hs33]; done))) rfl rfl ?_
    refine qZ.cl 23 rfl jK (jE1 Tryz.call78) (kZ x.v x.n x.A x.c x.l _ (hxa.rd.frm hS) jo) (Up.g rfl (by first | rfl | exact decide_eq_true hs29 | exact decide_eq_false hs33 | (simp [hs29]; done) | (simp [hs33]; done))) rfl rfl ?_
    rintro e wB ⟨rfl, hfwB⟩
    have hSwB := hS.trans hfwB jp
    refine ⟨_, rfl, hSwB, ?_⟩
    have hS := hSwB
    by_cases hs50 : bT ⟨x.v, x.n, Ms x.l⟩
    ·
     refine qZ.take 24 rfl jK jK jK hS (fun w0 hw0 => Run.not rfl) (Up.g rfl (by first | rfl | exact decide_eq_true hs29 | exact decide_eq_false hs33 | exact decide_eq_true hs50 | (simp [hs29]; done) | (simp [hs33]; done) | (simp [hs50]; done))) rfl rfl ?_
     refine jH 25 rfl hS (fun w0 hw0 => Run.pickF rfl rfl (by first | rfl | exact decide_eq_true hs29 | exact decide_eq_false hs33 | exact decide_eq_true hs50 | (simp [hs29]; done) | (simp [hs33]; done) | (simp [hs50]; done))) ?_
     refine jH 26 rfl hS (fun w0 hw0 => Run.mv rfl) ?_
     refine qZ.take 27 rfl jK jK jK hS (fun w0 hw0 => Run.fieldAddr rfl zy rfl zf jd) (Up.g rfl (by first | rfl | exact decide_eq_true hs29 | exact decide_eq_false hs33 | exact decide_eq_true hs50 | (simp [hs29]; done) | (simp [hs33]; done) | (simp [hs50]; done))) rfl rfl ?_
     refine qZ.take 28 rfl jK jK jK hS (fun w0 hw0 => Run.fieldAddr rfl zj rfl zi jd) (Up.g rfl (by first | rfl | exact decide_eq_true hs29 | exact decide_eq_false hs33 | exact decide_eq_true hs50 | (simp [hs29]; done) | (simp [hs33]; done) | (simp [hs50]; done))) rfl rfl ?_
     refine qZ.take 29 rfl jK jK jK hS (fun w0 hw0 => Run.load rfl zn ((hb5.frm hw0 jp).cell 1)) (Up.g rfl (by first | rfl | exact decide_eq_true hs29 | exact decide_eq_false hs33 | exact decide_eq_true hs50 | (simp [hs29]; done) | (simp [hs33]; done) | (simp [hs50]; done))) rfl rfl ?_
     refine qZ.take 30 rfl jK jK jK hS (fun w0 hw0 => Run.fieldAddr rfl zd rfl zi jd) (Up.g rfl (by first | rfl | exact decide_eq_true hs29 | exact decide_eq_false hs33 | exact decide_eq_true hs50 | (simp [hs29]; done) | (simp [hs33]; done) | (simp [hs50]; done))) rfl rfl ?_
     refine qZ.take 31 rfl jK jK jK hS (fun w0 hw0 => Run.load rfl zn ((hb1.frm hw0 jp).cell 2)) (Up.g rfl (by first | rfl | exact decide_eq_true hs29 | exact decide_eq_false hs33 | exact decide_eq_true hs50 | (simp [hs29]; done) | (simp [hs33]; done) | (simp [hs50]; done))) rfl rfl ?_
     refine qZ.take 32 rfl jK jK jK hS (fun w0 hw0 => Run.bin rfl rfl (Bin.gtr _ _)) (Up.g rfl (by first | rfl | exact decide_eq_true hs29 | exact decide_eq_false hs33 | exact decide_eq_true hs50 | (simp [hs29]; done) | (simp [hs33]; done) | (simp [hs50]; done))) rfl rfl ?_
     by_cases hs59 : m.v < x.v
     ·
      refine jH 33 rfl hS (fun w0 hw0 => Run.pickF rfl rfl (by first | rfl | exact decide_eq_true hs29 | exact decide_eq_false hs33 | exact decide_eq_true hs50 | exact decide_eq_true hs59 | (simp [hs29]; done) | (simp [hs33]; done) | (simp [hs50]; done) | (simp [hs59]; done))) ?_
      refine qZ.done jK ?_
      refine jN ⟨(), (js5 rfl rfl rfl rfl (jC (by clear hMi hd hel hm; grind))), ?_⟩
      exact hS
     refine jH 33 rfl hS (fun w0 hw0 => Run.pickF rfl rfl (by first | rfl | exact decide_eq_true hs29 | exact decide_eq_false hs33 | exact decide_eq_true hs50 | exact decide_eq_false hs59 | (simp [hs29]; done) | (simp [hs33]; done) | (simp [hs50]; done) | (simp [hs59]; done))) ?_
     refine qZ.done jK ?_
     refine jN ⟨(), (js5 rfl rfl rfl rfl (jC (by clear hMi hd hel hm; grind))), ?_⟩
     exact hS
    refine qZ.take 24 rfl jK jK jK hS (fun w0 hw0 => Run.not rfl) (Up.g rfl (by first | rfl | exact decide_eq_true hs29 | exact decide_eq_false hs33 | exact decide_eq_false hs50 | (simp [hs29]; done) | (simp [hs33]; done) | (simp [hs50]; done))) rfl rfl ?_
    refine jH 25 rfl hS (fun w0 hw0 => Run.pickF rfl rfl (by first | rfl | exact decide_eq_true hs29 | exact decide_eq_false hs33 | exact decide_eq_false hs50 | (simp [hs29]; done) | (simp [hs33]; done) | (simp [hs50]; done))) ?_
    refine jH 26 rfl hS (fun w0 hw0 => Run.mv rfl) ?_
    refine qZ.skip 27 rfl jK jK jK hS rfl rfl (by first | rfl | exact decide_eq_true hs29 | exact decide_eq_false hs33 | exact decide_eq_false hs50 | (simp [hs29]; done) | (simp [hs33]; done) | (simp [hs50]; done)) rfl rfl ?_
    refine qZ.skip 28 rfl jK jK jK hS rfl rfl (by first | rfl | exact decide_eq_true hs29 | exact decide_eq_false hs33 | exact decide_eq_false hs50 | (simp [hs29]; done) | (simp [hs33]; done) | (simp [hs50]; done)) rfl rfl ?_
    refine qZ.skip 29 rfl jK jK jK hS rfl rfl (by first | rfl | exact decide_eq_true hs29 | exact decide_eq_false hs33 | exact decide_eq_false hs50 | (simp [hs29]; done) | (simp [hs33]; done) | (simp [hs50]; done)) rfl rfl ?_
    refine qZ.skip 30 rfl jK jK jK hS rfl rfl (by first | rfl | exact decide_eq_true hs29 | exact decide_eq_false hs33 | exact decide_eq_false hs50 | (simp [hs29]; done) | (simp [hs33]; done) | (simp [hs50]; done)) rfl rfl ?_
    refine qZ.skip 31 rfl jK jK jK hS rfl rfl (by first | rfl | exact decide_eq_true hs29 | exact decide_eq_false hs33 | exact decide_eq_false hs50 | (simp [hs29]; done) | (simp [hs33]; done) | (simp [hs50]; done)) rfl rfl ?_
    refine qZ.skip 32 rfl jK jK jK hS rfl rfl (by first | rfl | exact decide_eq_true hs29 | exact decide_eq_false hs33 | exact decide_eq_false hs50 | (simp [hs29]; done) | (simp [hs33]; done) | (simp [hs50]; done)) rfl rfl ?_
    refine jH 33 rfl hS (fun w0 hw0 => Run.pickT rfl rfl (by first | rfl | exact decide_eq_true hs29 | exact decide_eq_false hs33 | exact decide_eq_false hs50 | (simp [hs29]; done) | (simp [hs33]; done) | (simp [hs50]; done))) ?_
    refine qZ.done jK ?_
    refine jN ⟨(), (js5 rfl rfl rfl rfl (jC (by clear hMi hd hel hm; grind))), ?_⟩
    exact hS
   refine jH 3 rfl hS (fun w0 hw0 => Run.not rfl) ?_
   refine jH 4 rfl hS (fun w0 hw0 => Run.mv rfl) ?_
   refine qZ.skip 5 rfl jK jK jK hS rfl rfl (by first | rfl | exact decide_eq_false hs29 | (simp [hs29]; done)) rfl rfl ?_
   refine qZ.skip 6 rfl jK jK jK hS rfl rfl (by first | rfl | exact decide_eq_false hs29 | (simp [hs29]; done)) rfl rfl ?_
   refine qZ.skip 7 rfl jK jK jK hS rfl rfl (by first | rfl | exact decide_eq_false hs29 | (simp [hs29]; done)) rfl rfl ?_
   refine qZ.skU 8 rfl jK jK jK hS rfl rfl rfl rfl ?_
   refine qZ.skU 9 rfl jK jK jK hS rfl rfl rfl rfl ?_
   refine qZ.skU 10 rfl jK jK jK hS rfl rfl rfl rfl ?_
   refine qZ.skU 11 rfl jK jK jK hS rfl rfl rfl rfl ?_
   refine qZ.skU 12 rfl jK jK jK hS rfl rfl rfl rfl ?_
   refine qZ.skU 13 rfl jK jK jK hS rfl rfl rfl rfl ?_
   refine qZ.skU 14 rfl jK jK jK hS rfl rfl rfl rfl ?_
   refine qZ.skU 15 rfl jK jK jK hS rfl rfl rfl rfl ?_
   refine qZ.skU 16 rfl jK jK jK hS rfl rfl rfl rfl ?_
   refine qZ.skU 17 rfl jK jK jK hS rfl rfl rfl rfl ?_
   refine qZ.skip 18 rfl jK jK jK hS rfl rfl (by first | rfl | exact decide_eq_false hs29 | (simp [hs29]; done)) rfl rfl ?_
   refine jH 19 rfl hS (fun w0 hw0 => Run.pickT rfl rfl (by first | rfl | exact decide_eq_false hs29 | (simp [hs29]; done))) ?_
   refine jH 20 rfl hS (fun w0 hw0 => Run.mv rfl) ?_
   refine qZ.skip 21 rfl jK jK jK hS rfl rfl (by first | rfl | exact decide_eq_false hs29 | (simp [hs29]; done)) rfl rfl ?_
   refine qZ.skip 22 rfl jK jK jK hS rfl rfl (by first | rfl | exact decide_eq_false hs29 | (simp [hs29]; done)) rfl rfl ?_
   refine qZ.skip 23 rfl jK jK jK hS rfl rfl (by first | rfl | exact decide_eq_false hs29 | (simp [hs29]; done)) rfl rfl ?_
   refine qZ.skip 24 rfl jK jK jK hS rfl rfl (by first | rfl | exact decide_eq_false hs29 | (simp [hs29]; done)) rfl rfl ?_
   refine jH 25 rfl hS (fun w0 hw0 => Run.pickT rfl rfl (by first | rfl | exact decide_eq_false hs29 | (simp [hs29]; done))) ?_
   refine jH 26 rfl hS (fun w0 hw0 => Run.mv rfl) ?_
   refine qZ.skip 27 rfl jK jK jK hS rfl rfl (by first | rfl | exact decide_eq_false hs29 | (simp [hs29]; done)) rfl rfl ?_
   refine qZ.skip 28 rfl jK jK jK hS rfl rfl (by first | rfl | exact decide_eq_false hs29 | (simp [hs29]; done)) rfl rfl ?_
   refine qZ.skip 29 rfl jK jK jK hS rfl rfl (by first | rfl | exact decide_eq_false hs29 | (simp [hs29]; done)) rfl rfl ?_
   refine qZ.skip 30 rfl jK jK jK hS rfl rfl (by first | rfl | exact decide_eq_false hs29 | (simp [hs29]; done)) rfl rfl ?_
   refine qZ.skip 31 rfl jK jK jK hS rfl rfl (by first | rfl | exact decide_eq_false hs29 | (simp [hs29]; done)) rfl rfl ?_
   refine qZ.skip 32 rfl jK jK jK hS rfl rfl (by first | rfl | exact decide_eq_false hs29 | (simp [hs29]; done)) rfl rfl ?_
   refine jH 33 rfl hS (fun w0 hw0 => Run.pickT rfl rfl (by first | rfl | exact decide_eq_false hs29 | (simp [hs29]; done))) ?_
   refine qZ.done jK ?_
   refine jN ⟨(), (js5 rfl rfl rfl rfl (jC (by clear hMi hd hel hm; grind))), ?_⟩
   exact hS
  rintro _ wz hfz Γ hΓ
  have hb1 := hb1.frm hfz jp
  have hb5 := hb5.frm hfz jp
  have hxa := hxa.frm hfz
  have K := K.trans hfz jp
  refine jN (VC.sub _ hΓ ?_)
  refine jD rfl (fun hc2 => ?_) fun hc2 => ?_
  ·
   have hbad : ¬ bW m.p := fun h => by
    have h2 := ((hMi.1 h).1.1 i hc1).1
    rw [hx] at h2
    exact hc2 (hnm.1 h2)
   refine jS (jR (ja rfl (jO (jN (jv1 2 ?_)))))
   refine jT ?_
   refine qQ (qN (qQ (qQ (qN (qQ (qC rfl ?_))))))
   exact ⟨by rw [decide_eq_false hbad], K⟩
  have hc2 := hnm.2 (Classical.not_not.1 hc2)
  refine jQ (jN (jv4 1 3 4 5 ?_))
  refine jS (jS (jR (jz 0 (jO (jN (jB ?_))))))
  refine VC.loop (σ := Nat) (fun s => [(1, .pointer (some ⟨g1, 0, none⟩)), (3, .bool (decide (bX ∈ (m.l.take i).map Nc.nm ∨ x.nm = bX))), (4, .int .i64 ((i : Nat) : Int)), (5, .pointer (some ⟨g5, 0, none⟩)), (6, .int .i64 ((s : Nat) : Int))]) (fun s wr => s ≤ i ∧ (∀ j (h : j < m.l.length), j < s → (m.l[j]).v ≠ x.v) ∧ Blk wr g1 25 #[.slice m.A m.l.length m.c, .slice m.S m.ss.length m.d, .int .i64 m.v, .int .i64 m.b] ∧ Blk wr g5 45 #[encStr x.nm, .int .i64 x.v, .int .i64 x.n, .slice x.A x.l.length x.c] ∧ x.At wr ∧ Frm [] w wr) (fun s => i - s) 0 (js5 rfl rfl rfl rfl rfl) ⟨zam _, fun _ _ h => jo, hb1, hb5, hxa, K⟩ ?_
  rintro k wr ⟨hk, hd2, hb1, hb5, hxa, K⟩
  refine jS (jS (jR (jm rfl (jm rfl (jb rfl rfl (Bin.lssN _ _) (jO (jN (jv6 1 3 4 5 6 63 ?_))))))))
  refine jD rfl (fun hc3 => ?_) fun hc3 => ?_
  ·
   have hk1 : k < m.l.length := jo
   obtain ⟨adk, hadk, helk⟩ := (hm.frm K.drew).l.elem hk1
   have hdw := qO.drew wr
   have hb1 := hb1.drawn hdw
   have hb5 := hb5.drawn hdw
   have hxa := hxa.frm hdw.frm
   have K := K.drawn hdw
   have hvk : (m.l[k]).v ∈ (m.l.take i).map Nc.v := List.mem_map.2 ⟨m.l[k], List.mem_iff_getElem.2 ⟨k, by rw [zq]; omega, zcw⟩, rfl⟩
   refine jQ (jN (jv5 1 3 4 5 6 ?_))
   refine jS (jB (jS ?_))
   refine VC.still jK jK ?_
   refine qE (Run.fieldAddr rfl zd rfl zx jd) ?_
   refine qE (Run.load rfl zah (hb1.cell 0)) ?_
   refine qM ?_
   refine qE (Run.indexS k (show _ = some (Value.slice (some adk) m.l.length m.c) by rw [← hadk]; rfl) rfl ze zo hk1) ?_
   refine qE (Run.fieldAddr rfl zy rfl zf jd) ?_
   refine qE (Run.fieldAddr rfl zj rfl zi jd) ?_
   refine qE (Run.load rfl zn (helk 1 (.int .i64 (m.l[k]).v) rfl)) ?_
   refine qE (Run.fieldAddr rfl zy rfl zf jd) ?_
   refine qE (Run.fieldAddr rfl zj rfl zi jd) ?_
   refine qE (Run.load rfl zn (hb5.cell 1)) ?_
   refine qE (Run.bin rfl rfl (Bin.eql _ _)) ?_
   refine bJ.nil ?_
   refine jN (jv6 1 3 4 5 6 76 ?_)
   refine jD rfl (fun hc4 => ?_) fun hc4 => ?_
   ·
    have hbad : ¬ bW m.p := fun h => by
     have h2 := ((hMi.1 h).1.1 i hc1).2.1
     rw [hx, ← hc4] at h2
     exact h2 hvk
    refine jS (jR (ja rfl (jO (jN (jv1 2 ?_)))))
    refine jT ?_
    refine qN (qQ (qQ (qN (qQ (qN (qQ (qQ (qN (qQ (qC rfl ?_))))))))))
    exact ⟨by rw [decide_eq_false hbad], K⟩
   refine jQ ?_
   refine qT (jN ?_)
   refine jv5 1 3 4 5 6 ?_
   refine jR (jm rfl (jb rfl rfl (Bin.add_i64 _ 1 jo) (ja rfl (jO ?_))))
   refine jN ⟨(k + 1), (js5 rfl rfl rfl rfl rfl), ?_, ?_⟩
   ·
    refine ⟨hc3, fun j h1 hj => ?_, hb1, hb5, hxa, K⟩
    by_cases e : j = k
    ·
     subst e
     exact hc4
    exact hd2 j h1 jo
   first | omega | (dsimp only; omega)
  refine jX ?_
  refine qH (qH (qF ?_))
  refine jN (jv4 1 3 4 5 ?_)
  refine jS (jR (jz 0 (jO (jN (jB ?_)))))
  have hvn : x.v ∉ (m.l.take i).map Nc.v := fun h => by
   obtain ⟨y, hy, e⟩ := List.mem_map.1 h
   obtain ⟨j, hj, rfl⟩ := zaf hy
   rw [zq] at hj
   rw [zcw] at e
   exact hd2 j jo jo e
  refine VC.loop (σ := Nat) (fun s => [(1, .pointer (some ⟨g1, 0, none⟩)), (3, .bool (decide (bX ∈ (m.l.take i).map Nc.nm ∨ x.nm = bX))), (4, .int .i64 ((i : Nat) : Int)), (5, .pointer (some ⟨g5, 0, none⟩)), (7, .int .i64 ((s : Nat) : Int))]) (fun s wr => s ≤ x.l.length ∧ (∀ j (h : j < x.l.length), j < s → ((x.l[j]).m.blob : Int) ≤ m.b) ∧ Blk wr g1 25 #[.slice m.A m.l.length m.c, .slice m.S m.ss.length m.d, .int .i64 m.v, .int .i64 m.b] ∧ Blk wr g5 45 #[encStr x.nm, .int .i64 x.v, .int .i64 x.n, .slice x.A x.l.length x.c] ∧ x.At wr ∧ Frm [] w wr) (fun s => x.l.length - s) 0 (js5 rfl rfl rfl rfl rfl) ⟨zam _, fun _ _ h => jo, hb1, hb5, hxa, K⟩ ?_
  rintro k3 wr ⟨hk3, hd3, hb1, hb5, hxa, K⟩
  refine jS (jS (jR (jm rfl (jf rfl zy rfl zf (jf rfl zj rfl zaa (jl rfl zao (hb5.cell 3) (je (Run.lenS rfl zk) (jb rfl rfl (Bin.lssN _ _) (jO (jN (jv6 1 3 4 5 7 82 ?_)))))))))))
  refine jD rfl (fun hc5 => ?_) fun hc5 => ?_
  ·
   have hdw := qO.drew wr
   have hb1 := hb1.drawn hdw
   have hb5 := hb5.drawn hdw
   have hxa := hxa.frm hdw.frm
   have K := K.drawn hdw
   obtain ⟨ady, hady, hely⟩ := hxa.rd.elem hc5
   have hym := zr hc5
   generalize hy : x.l[k3] = y at *
   refine jQ (jN (jv5 1 3 4 5 7 ?_))
   refine jS (jB (jS ?_))
   refine VC.splitR [(1, .pointer (some ⟨g1, 0, none⟩)), (3, .bool (decide (bX ∈ (m.l.take i).map Nc.nm ∨ x.nm = bX))), (4, .int .i64 ((i : Nat) : Int)), (5, .pointer (some ⟨g5, 0, none⟩)), (7, .int .i64 ((k3 : Nat) : Int))] (fun wz => Frm [] w wz ∧ Blk wz g1 25 #[.slice m.A m.l.length m.c, .slice m.S m.ss.length m.d, .int .i64 m.v, .int .i64 m.b] ∧ Blk wz g5 45 #[encStr x.nm, .int .i64 x.v, .int .i64 x.n, .slice x.A x.l.length x.c] ∧ x.At wz) 100 (.bool (decide (m.b < 0 ∨ m.b < ((y.m.blob : Nat) : Int)))) ?_ ?_
   ·
    refine VC.still jK jK ?_
    refine qE (Run.fieldAddr rfl zd rfl zi jd) ?_
    refine qE (Run.load rfl zn (hb1.cell 3)) ?_
    refine qE (Run.bin rfl rfl (Bin.lss _ 0)) ?_
    by_cases hs87 : m.b < 0
    ·
     refine qM ?_
     refine qU ?_
     refine qU ?_
     refine qU ?_
     refine qU ?_
     refine qU ?_
     refine qU ?_
     refine qU ?_
     refine qU ?_
     refine qU ?_
     refine qU ?_
     refine qU ?_
     refine qE (Run.pickT rfl rfl au) ?_
     refine bJ.nil ?_
     refine jN ⟨(js6 (jC (by first | exact (decide_eq_true (p := m.b < 0 ∨ m.b < ((y.m.blob : Nat) : Int)) (.inl hs87)).symm | exact decide_eq_decide.2 ⟨.inr, fun h => h.resolve_left hs87⟩)) rfl rfl rfl rfl rfl), (⟨K, hb1, hb5, hxa⟩)⟩
    obtain ⟨nb, hnb⟩ : ∃ nb : Nat, m.b = (nb : Int) := ⟨m.b.toNat, jo⟩
    refine qM ?_
    refine qG (Run.fieldAddr rfl zy rfl zf jd) ?_
    refine qG (Run.fieldAddr rfl zj rfl zaa jd) ?_
    refine qG (Run.load rfl zao (hb5.cell 3)) ?_
    refine qG (Run.mv rfl) ?_
    refine qG (Run.indexS k3 (show _ = some (Value.slice (some ady) x.l.length x.c) by rw [← hady]; rfl) rfl zk zt hc5) ?_
    refine qG (Run.fieldAddr rfl zac rfl zct jd) ?_
    refine qG (Run.load rfl zec (hely 4 (.int .u64 ((y.m.blob : Nat) : Int)) rfl)) ?_
    refine qG (Run.fieldAddr rfl zd rfl zi jd) ?_
    refine qG (Run.load rfl zn (hb1.cell 3)) ?_
    refine qG (Run.conv rfl zan zdl m.b (by rw [hnb]; exact fE _ _ (by simp only [bmax]; omega))) ?_
    refine qG (Run.bin rfl rfl (Bin.gtr _ _)) ?_
    refine qE (Run.pickF rfl rfl au) ?_
    refine bJ.nil ?_
    refine jN ⟨(js6 (jC (by first | exact (decide_eq_true (p := m.b < 0 ∨ m.b < ((y.m.blob : Nat) : Int)) (.inl hs87)).symm | exact decide_eq_decide.2 ⟨.inr, fun h => h.resolve_left hs87⟩)) rfl rfl rfl rfl rfl), (⟨K, hb1, hb5, hxa⟩)⟩
   intro Γ wz hΓ ⟨K, hb1, hb5, hxa⟩
   refine jN (VC.sub _ hΓ ?_)
   refine jD rfl (fun hc6 => ?_) fun hc6 => ?_
   ·
    have hbad : ¬ bW m.p := fun h => by
     have h2 := ((hMi.1 h).1.1 i hc1).2.2
     rw [hx] at h2
     have h3 := h2 _ hym
     omega
    refine jS (jR (ja rfl (jO (jN (jv1 2 ?_)))))
    refine jT ?_
    refine qN (qQ (qQ (qN (qN (qQ (qQ (qN (qQ (qC rfl ?_)))))))))
    exact ⟨by rw [decide_eq_false hbad], K⟩
   refine jQ ?_
   refine qT (jN ?_)
   refine jv5 1 3 4 5 7 ?_
   refine jR (jm rfl (jb rfl rfl (Bin.add_i64 _ 1 jo) (ja rfl (jO ?_))))
   refine jN ⟨(k3 + 1), (js5 rfl rfl rfl rfl rfl), ?_, ?_⟩
   ·
    refine ⟨hc5, fun j h1 hj => ?_, hb1, hb5, hxa, K⟩
    by_cases e : j = k3
    ·
     subst e
     rw [hy]; omega
    exact hd3 j h1 jo
   first | omega | (dsimp only; omega)
  refine jX ?_
  refine qH (qH (qF ?_))
  refine qT (jN ?_)
  refine jv3 1 3 4 ?_
  refine jR (jm rfl (jb rfl rfl (Bin.add_i64 _ 1 jo) (ja rfl (jO ?_))))
  refine jN ⟨(i + 1), (js3 rfl (by rw [hts, show decide (bX ∈ (m.l.take i).map Nc.nm ++ [x.nm]) = decide (bX ∈ (m.l.take i).map Nc.nm ∨ x.nm = bX) from decide_eq_decide.2 (by rw [zeq, za, eq_comm (a := x.nm)])]; rfl) rfl), ?_, ?_⟩
  ·
   refine ⟨hc1, hb1, fun j h1 hj => ?_, K⟩
   by_cases e : j = i
   ·
    subst e
    rw [hx]
    refine ⟨hc2, hvn, fun y hy => ?_⟩
    obtain ⟨q, hq, rfl⟩ := zaf hy
    exact hd3 q hq jo
   exact hd j h1 jo
  first | omega | (dsimp only; omega)
 refine jX ?_
 refine qH (qH (qF ?_))
 refine jN (jv2 1 3 ?_)
 refine jS (jS (jR (jz 0 (jO (jN (jB ?_))))))
 obtain rfl : i = m.l.length := jo
 refine VC.loop (σ := Nat) (fun s => [(1, .pointer (some ⟨g1, 0, none⟩)), (3, .bool (decide (bX ∈ (m.l.take m.l.length).map Nc.nm))), (8, .int .i64 ((s : Nat) : Int))]) (fun s wr => s ≤ m.ss.length ∧ (∀ j (h : j < m.ss.length), j < s → bY m.ss j m.ss[j]) ∧ Blk wr g1 25 #[.slice m.A m.l.length m.c, .slice m.S m.ss.length m.d, .int .i64 m.v, .int .i64 m.b] ∧ Frm [] w wr) (fun s => m.ss.length - s) 0 (js3 rfl rfl rfl) ⟨zam _, fun _ _ h => jo, hb1, K⟩ ?_
 rintro k4 wr ⟨hk4, hd4, hb1, K⟩
 refine jS (jS (jR (jm rfl (jf rfl zd rfl zae (jl rfl zas (hb1.cell 1) (je (Run.lenS rfl zh) (jb rfl rfl (Bin.lssN _ _) (jO (jN (jv4 1 3 8 105 ?_))))))))))
 refine jD rfl (fun hc7 => ?_) fun hc7 => ?_
 ·
  have hSat : ∀ k, k < m.ss.length → ∃ ad, m.S = some ad ∧ ∀ W, Frm [] wr W → W.cell? ((ad.add (k * 1)).add 0) = some (encStr (m.ss[k]?.getD [])) := by
   intro k hk
   obtain ⟨ad, hA, _⟩ := (hm.s.frm K jp).elem hk
   refine ⟨ad, hA, fun W hW => ?_⟩
   obtain ⟨ad', hA', h⟩ := (hm.s.frm (K.trans hW jp) jp).elem hk
   rw [hA] at hA'
   cases hA'
   exact h 0 _ (by simp [SB, zc hk])
  obtain ⟨ad, had, hel⟩ := hSat k4 hc7
  have hqq := hm.sq _ (zr hc7)
  have hnm : bY m.ss k4 m.ss[k4] ↔ dI m.ss[k4] ∧ (0 < k4 → (m.ss[k4 - 1]?).getD [] < m.ss[k4]) := Iff.rfl
  rw [zc hc7, zdv] at hel
  generalize hx : m.ss[k4] = q at *
  generalize hpvd : (m.ss[k4 - 1]?).getD [] = pv at hnm
  refine jQ (jN (jv3 1 3 8 ?_))
  refine jS (jB (jS ?_))
  refine VC.meet (σ := Unit) (fun s => [(1, .pointer (some ⟨g1, 0, none⟩)), (3, .bool (decide (bX ∈ (m.l.take m.l.length).map Nc.nm))), (8, .int .i64 ((k4 : Nat) : Int)), (132, .bool (decide (¬ (dI q ∧ (0 < k4 → pv < q)))))]) (fun s wz => Frm [] wr wz) ?_ ?_
  ·
   refine VC.held (fun W => Frm [] wr W) jK ?_
   have hS : Frm [] wr wr.drew := (Frm.refl _ _).drew
   refine jH 0 rfl hS (fun w0 hw0 => Run.fieldAddr rfl zd rfl zae jd) ?_
   refine jH 1 rfl hS (fun w0 hw0 => Run.load rfl zas ((hb1.frm hw0 jp).cell 1)) ?_
   refine jH 2 rfl hS (fun w0 hw0 => Run.mv rfl) ?_
   refine jH 3 rfl hS (fun w0 hw0 => Run.indexS k4 (show _ = some (Value.slice (some ad) m.ss.length m.d) by rw [← had]; rfl) rfl zh zp hc7) ?_
   refine jH 4 rfl hS (fun w0 hw0 => Run.load rfl zab (hel _ hw0)) ?_
   refine qZ.cl 5 rfl jK (jE1 Tryz.call77) (mS q _ jo) trivial rfl rfl ?_
   rintro e wC ⟨rfl, hfwC⟩
   have hSwC := hS.trans hfwC jp
   refine ⟨_, rfl, hSwC, ?_⟩
   have hS := hSwC
   by_cases hs113 : dI q
   ·
    refine jH 6 rfl hS (fun w0 hw0 => Run.not rfl) ?_
    refine jH 7 rfl hS (fun w0 hw0 => Run.mv rfl) ?_
    refine qZ.take 8 rfl jK jK jK hS (fun w0 hw0 => Run.mv rfl) (Up.g rfl (by first | rfl | exact decide_eq_true hs113 | (simp [hs113]; done))) rfl rfl ?_
    refine qZ.take 9 rfl jK jK jK hS (fun w0 hw0 => Run.bin rfl rfl (Bin.gtrN _ 0)) (Up.g rfl (by first | rfl | exact decide_eq_true hs113 | (simp [hs113]; done))) rfl rfl ?_
    by_cases hs117 : 0 < k4
    ·
     obtain ⟨ad2, had2, hel2⟩ := hSat (k4 - 1) jo
     rw [hpvd] at hel2
     refine qZ.take 10 rfl jK jK jK hS (fun w0 hw0 => Run.mv rfl) (Up.g rfl (by first | rfl | exact decide_eq_true hs113 | exact decide_eq_true hs117 | (simp [hs113]; done) | (simp [hs117]; done))) rfl rfl ?_
     refine qZ.take 11 rfl jK jK jK hS (fun w0 hw0 => Run.fieldAddr rfl zd rfl zae jd) (Up.g rfl (by first | rfl | exact decide_eq_true hs113 | exact decide_eq_true hs117 | (simp [hs113]; done) | (simp [hs117]; done))) rfl rfl ?_
     refine qZ.take 12 rfl jK jK jK hS (fun w0 hw0 => Run.load rfl zas ((hb1.frm hw0 jp).cell 1)) (Up.g rfl (by first | rfl | exact decide_eq_true hs113 | exact decide_eq_true hs117 | (simp [hs113]; done) | (simp [hs117]; done))) rfl rfl ?_
     refine qZ.take 13 rfl jK jK jK hS (fun w0 hw0 => Run.mv rfl) (Up.g rfl (by first | rfl | exact decide_eq_true hs113 | exact decide_eq_true hs117 | (simp [hs113]; done) | (simp [hs117]; done))) rfl rfl ?_
     refine qZ.take 14 rfl jK jK jK hS (fun w0 hw0 => Run.bin rfl rfl (Bin.sub_i64 _ 1 jo jo)) (Up.g rfl (by first | rfl | exact decide_eq_true hs113 | exact decide_eq_true hs117 | (simp [hs113]; done) | (simp [hs117]; done))) rfl rfl ?_
     refine qZ.take 15 rfl jK jK jK hS (fun w0 hw0 => Run.indexS (k4 - 1) (show _ = some (Value.slice (some ad2) m.ss.length m.d) by rw [← had2]; rfl) rfl zh zp jo) (Up.g rfl (by first | rfl | exact decide_eq_true hs113 | exact decide_eq_true hs117 | (simp [hs113]; done) | (simp [hs117]; done))) rfl rfl ?_
     refine qZ.take 16 rfl jK jK jK hS (fun w0 hw0 => Run.load rfl zab (hel2 _ hw0)) (Up.g rfl (by first | rfl | exact decide_eq_true hs113 | exact decide_eq_true hs117 | (simp [hs113]; done) | (simp [hs117]; done))) rfl rfl ?_
     refine qZ.take 17 rfl jK jK jK hS (fun w0 hw0 => Run.fieldAddr rfl zd rfl zae jd) (Up.g rfl (by first | rfl | exact decide_eq_true hs113 | exact decide_eq_true hs117 | (simp [hs113]; done) | (simp [hs117]; done))) rfl rfl ?_
     refine qZ.take 18 rfl jK jK jK hS (fun w0 hw0 => Run.load rfl zas ((hb1.frm hw0 jp).cell 1)) (Up.g rfl (by first | rfl | exact decide_eq_true hs113 | exact decide_eq_true hs117 | (simp [hs113]; done) | (simp [hs117]; done))) rfl rfl ?_
     refine qZ.take 19 rfl jK jK jK hS (fun w0 hw0 => Run.mv rfl) (Up.g rfl (by first | rfl | exact decide_eq_true hs113 | exact decide_eq_true hs117 | (simp [hs113]; done) | (simp [hs117]; done))) rfl rfl ?_
     refine qZ.take 20 rfl jK jK jK hS (fun w0 hw0 => Run.indexS k4 (show _ = some (Value.slice (some ad) m.ss.length m.d) by rw [← had]; rfl) rfl zh zp hc7) (Up.g rfl (by first | rfl | exact decide_eq_true hs113 | exact decide_eq_true hs117 | (simp [hs113]; done) | (simp [hs117]; done))) rfl rfl ?_
     refine qZ.take 21 rfl jK jK jK hS (fun w0 hw0 => Run.load rfl zab (hel _ hw0)) (Up.g rfl (by first | rfl | exact decide_eq_true hs113 | exact decide_eq_true hs117 | (simp [hs113]; done) | (simp [hs117]; done))) rfl rfl ?_
     refine qZ.take 22 rfl jK jK jK hS (fun w0 hw0 => Run.geqT rfl rfl) (Up.g rfl (by first | rfl | exact decide_eq_true hs113 | exact decide_eq_true hs117 | (simp [hs113]; done) | (simp [hs117]; done))) rfl rfl ?_
     by_cases hs130 : pv < q
     ·
      refine qZ.take 23 rfl jK jK jK hS (fun w0 hw0 => Run.pickT rfl rfl (by first | rfl | exact decide_eq_true hs113 | exact decide_eq_true hs117 | exact decide_eq_false hs130 | (simp [hs113]; done) | (simp [hs117]; done) | (simp [hs130]; done))) (Up.g rfl (by first | rfl | exact decide_eq_true hs113 | exact decide_eq_true hs117 | exact decide_eq_false hs130 | (simp [hs113]; done) | (simp [hs117]; done) | (simp [hs130]; done))) rfl rfl ?_
      refine jH 24 rfl hS (fun w0 hw0 => Run.pickF rfl rfl (by first | rfl | exact decide_eq_true hs113 | exact decide_eq_true hs117 | exact decide_eq_false hs130 | (simp [hs113]; done) | (simp [hs117]; done) | (simp [hs130]; done))) ?_
      refine qZ.done jK ?_
      refine jN ⟨(), (js4 rfl rfl rfl (jC (by clear hMi hd hel hm hd4 hSat; grind))), ?_⟩
      exact hS
     refine qZ.take 23 rfl jK jK jK hS (fun w0 hw0 => Run.pickT rfl rfl (by first | rfl | exact decide_eq_true hs113 | exact decide_eq_true hs117 | exact decide_eq_true hs130 | (simp [hs113]; done) | (simp [hs117]; done) | (simp [hs130]; done))) (Up.g rfl (by first | rfl | exact decide_eq_true hs113 | exact decide_eq_true hs117 | exact decide_eq_true hs130 | (simp [hs113]; done) | (simp [hs117]; done) | (simp [hs130]; done))) rfl rfl ?_
     refine jH 24 rfl hS (fun w0 hw0 => Run.pickF rfl rfl (by first | rfl | exact decide_eq_true hs113 | exact decide_eq_true hs117 | exact decide_eq_true hs130 | (simp [hs113]; done) | (simp [hs117]; done) | (simp [hs130]; done))) ?_
     refine qZ.done jK ?_
     refine jN ⟨(), (js4 rfl rfl rfl (jC (by clear hMi hd hel hm hd4 hSat; grind))), ?_⟩
     exact hS
    refine qZ.take 10 rfl jK jK jK hS (fun w0 hw0 => Run.mv rfl) (Up.g rfl (by first | rfl | exact decide_eq_true hs113 | exact decide_eq_false hs117 | (simp [hs113]; done) | (simp [hs117]; done))) rfl rfl ?_
    refine qZ.skip 11 rfl jK jK jK hS rfl rfl (by first | rfl | exact decide_eq_true hs113 | exact decide_eq_false hs117 | (simp [hs113]; done) | (simp [hs117]; done)) rfl rfl ?_
    refine qZ.skip 12 rfl jK jK jK hS rfl rfl (by first | rfl | exact decide_eq_true hs113 | exact decide_eq_false hs117 | (simp [hs113]; done) | (simp [hs117]; done)) rfl rfl ?_
    refine qZ.skip 13 rfl jK jK jK hS rfl rfl (by first | rfl | exact decide_eq_true hs113 | exact decide_eq_false hs117 | (simp [hs113]; done) | (simp [hs117]; done)) rfl rfl ?_
    refine qZ.skip 14 rfl jK jK jK hS rfl rfl (by first | rfl | exact decide_eq_true hs113 | exact decide_eq_false hs117 | (simp [hs113]; done) | (simp [hs117]; done)) rfl rfl ?_
    refine qZ.skip 15 rfl jK jK jK hS rfl rfl (by first | rfl | exact decide_eq_true hs113 | exact decide_eq_false hs117 | (simp [hs113]; done) | (simp [hs117]; done)) rfl rfl ?_
    refine qZ.skip 16 rfl jK jK jK hS rfl rfl (by first | rfl | exact decide_eq_true hs113 | exact decide_eq_false hs117 | (simp [hs113]; done) | (simp [hs117]; done)) rfl rfl ?_
    refine qZ.skip 17 rfl jK jK jK hS rfl rfl (by first | rfl | exact decide_eq_true hs113 | exact decide_eq_false hs117 | (simp [hs113]; done) | (simp [hs117]; done)) rfl rfl ?_
    refine qZ.skip 18 rfl jK jK jK hS rfl rfl (by first | rfl | exact decide_eq_true hs113 | exact decide_eq_false hs117 | (simp [hs113]; done) | (simp [hs117]; done)) rfl rfl ?_
    refine qZ.skip 19 rfl jK jK jK hS rfl rfl (by first | rfl | exact decide_eq_true hs113 | exact decide_eq_false hs117 | (simp [hs113]; done) | (simp [hs117]; done)) rfl rfl ?_
    refine qZ.skip 20 rfl jK jK jK hS rfl rfl (by first | rfl | exact decide_eq_true hs113 | exact decide_eq_false hs117 | (simp [hs113]; done) | (simp [hs117]; done)) rfl rfl ?_
    refine qZ.skip 21 rfl jK jK jK hS rfl rfl (by first | rfl | exact decide_eq_true hs113 | exact decide_eq_false hs117 | (simp [hs113]; done) | (simp [hs117]; done)) rfl rfl ?_
    refine qZ.skip 22 rfl jK jK jK hS rfl rfl (by first | rfl | exact decide_eq_true hs113 | exact decide_eq_false hs117 | (simp [hs113]; done) | (simp [hs117]; done)) rfl rfl ?_
    refine qZ.take 23 rfl jK jK jK hS (fun w0 hw0 => Run.pickF rfl rfl (by first | rfl | exact decide_eq_true hs113 | exact decide_eq_false hs117 | (simp [hs113]; done) | (simp [hs117]; done))) (Up.g rfl (by first | rfl | exact decide_eq_true hs113 | exact decide_eq_false hs117 | (simp [hs113]; done) | (simp [hs117]; done))) rfl rfl ?_
    refine jH 24 rfl hS (fun w0 hw0 => Run.pickF rfl rfl (by first | rfl | exact decide_eq_true hs113 | exact decide_eq_false hs117 | (simp [hs113]; done) | (simp [hs117]; done))) ?_
    refine qZ.done jK ?_
    refine jN ⟨(), (js4 rfl rfl rfl (jC (by clear hMi hd hel hm hd4 hSat; grind))), ?_⟩
    exact hS
   refine jH 6 rfl hS (fun w0 hw0 => Run.not rfl) ?_
   refine jH 7 rfl hS (fun w0 hw0 => Run.mv rfl) ?_
   refine qZ.skip 8 rfl jK jK jK hS rfl rfl (by first | rfl | exact decide_eq_false hs113 | (simp [hs113]; done)) rfl rfl ?_
   refine qZ.skip 9 rfl jK jK jK hS rfl rfl (by first | rfl | exact decide_eq_false hs113 | (simp [hs113]; done)) rfl rfl ?_
   refine qZ.skip 10 rfl jK jK jK hS rfl rfl (by first | rfl | exact decide_eq_false hs113 | (simp [hs113]; done)) rfl rfl ?_
   refine qZ.skU 11 rfl jK jK jK hS rfl rfl rfl rfl ?_
   refine qZ.skU 12 rfl jK jK jK hS rfl rfl rfl rfl ?_
   refine qZ.skU 13 rfl jK jK jK hS rfl rfl rfl rfl ?_
   refine qZ.skU 14 rfl jK jK jK hS rfl rfl rfl rfl ?_
   refine qZ.skU 15 rfl jK jK jK hS rfl rfl rfl rfl ?_
   refine qZ.skU 16 rfl jK jK jK hS rfl rfl rfl rfl ?_
   refine qZ.skU 17 rfl jK jK jK hS rfl rfl rfl rfl ?_
   refine qZ.skU 18 rfl jK jK jK hS rfl rfl rfl rfl ?_
   refine qZ.skU 19 rfl jK jK jK hS rfl rfl rfl rfl ?_
   refine qZ.skU 20 rfl jK jK jK hS rfl rfl rfl rfl ?_
   refine qZ.skU 21 rfl jK jK jK hS rfl rfl rfl rfl ?_
   refine qZ.skU 22 rfl jK jK jK hS rfl rfl rfl rfl ?_
   refine qZ.skip 23 rfl jK jK jK hS rfl rfl (by first | rfl | exact decide_eq_false hs113 | (simp [hs113]; done)) rfl rfl ?_
   refine jH 24 rfl hS (fun w0 hw0 => Run.pickT rfl rfl (by first | rfl | exact decide_eq_false hs113 | (simp [hs113]; done))) ?_
   refine qZ.done jK ?_
   refine jN ⟨(), (js4 rfl rfl rfl (jC (by clear hMi hd hel hm hd4 hSat; grind))), ?_⟩
   exact hS
  rintro _ wz hfz Γ hΓ
  have hb1 := hb1.frm hfz jp
  have K := K.trans hfz jp
  refine jN (VC.sub _ hΓ ?_)
  refine jD rfl (fun hc8 => ?_) fun hc8 => ?_
  ·
   have hbad : ¬ bW m.p := fun h => by
    have h2 := (hMi.1 h).1.2 k4 hc7
    rw [hx] at h2
    exact hc8 (hnm.1 h2)
   refine jS (jR (ja rfl (jO (jN (jv1 2 ?_)))))
   refine jT ?_
   refine qN (qQ (qQ (qN (qQ (qC rfl ?_)))))
   exact ⟨by rw [decide_eq_false hbad], K⟩
  have hc8 := hnm.2 (Classical.not_not.1 hc8)
  refine jQ ?_
  refine qT (jN ?_)
  refine jv3 1 3 8 ?_
  refine jR (jm rfl (jb rfl rfl (Bin.add_i64 _ 1 jo) (ja rfl (jO ?_))))
  refine jN ⟨(k4 + 1), (js3 rfl rfl rfl), ?_, ?_⟩
  ·
   refine ⟨hc7, fun j h1 hj => ?_, hb1, K⟩
   by_cases e : j = k4
   ·
    subst e
    rw [hx]
    exact hc8
   exact hd4 j h1 jo
  first | omega | (dsimp only; omega)
 obtain rfl : k4 = m.ss.length := jo
 rw [zak]
 refine jX ?_
 refine qH (qH (qF ?_))
 refine jN (jv2 1 3 ?_)
 refine jS ?_
 refine VC.split1 [] .nil 2 (.bool (decide (bX ∈ m.l.map Nc.nm ∧ m.l.length ≤ 24 ∧ m.ss.length ≤ 24 ∧ 1 ≤ m.v ∧ m.v ≤ 2147483647 ∧ 0 ≤ m.b ∧ m.b ≤ 2147483647))) ?_ ?_
 ·
  refine jR (jM ?_)
  by_cases hs133 : bX ∈ m.l.map Nc.nm
  ·
   refine jM ?_
   refine jk (Run.fieldAddr rfl zd rfl zx jd) ?_
   refine jk (Run.load rfl zah (hb1.cell 0)) ?_
   refine jk (Run.lenS rfl ze) ?_
   refine jk (Run.bin rfl rfl (Bin.leqN _ 24)) ?_
   by_cases hs138 : m.l.length ≤ 24
   ·
    refine je (Run.pickT rfl rfl au) (jM ?_)
    refine jk (Run.fieldAddr rfl zd rfl zae jd) ?_
    refine jk (Run.load rfl zas (hb1.cell 1)) ?_
    refine jk (Run.lenS rfl zh) ?_
    refine jk (Run.bin rfl rfl (Bin.leqN _ 24)) ?_
    by_cases hs144 : m.ss.length ≤ 24
    ·
     refine je (Run.pickT rfl rfl au) (jM ?_)
     refine jk (Run.fieldAddr rfl zd rfl zi jd) ?_
     refine jk (Run.load rfl zn (hb1.cell 2)) ?_
     refine jk (Run.bin rfl rfl (Bin.leq 1 _)) ?_
     by_cases hs149 : 1 ≤ m.v
     ·
      refine je (Run.pickT rfl rfl au) (jM ?_)
      refine jk (Run.fieldAddr rfl zd rfl zi jd) ?_
      refine jk (Run.load rfl zn (hb1.cell 2)) ?_
      refine jk (Run.bin rfl rfl (Bin.leq _ 2147483647)) ?_
      by_cases hs154 : m.v ≤ 2147483647
      ·
       refine je (Run.pickT rfl rfl au) (jM ?_)
       refine jk (Run.fieldAddr rfl zd rfl zi jd) ?_
       refine jk (Run.load rfl zn (hb1.cell 3)) ?_
       refine jk (Run.bin rfl rfl (Bin.leq 0 _)) ?_
       by_cases hs159 : 0 ≤ m.b
       ·
        refine je (Run.pickT rfl rfl au) (jM ?_)
        refine jk (Run.fieldAddr rfl zd rfl zi jd) ?_
        refine jk (Run.load rfl zn (hb1.cell 3)) ?_
        refine jk (Run.bin rfl rfl (Bin.leq _ 2147483647)) ?_
        refine je (Run.pickT rfl rfl au) (ja rfl (jO ?_))
        refine jN ⟨(js1 (jC (by clear hMi hd hd4 hm; grind))), rfl⟩
       refine je (Run.pickT rfl rfl au) (jM ?_)
       refine jU ?_
       refine jU ?_
       refine jU ?_
       refine je (Run.pickF rfl rfl au) (ja rfl (jO ?_))
       refine jN ⟨(js1 (jC (by clear hMi hd hd4 hm; grind))), rfl⟩
      refine je (Run.pickT rfl rfl au) (jM ?_)
      refine jU ?_
      refine jU ?_
      refine jU ?_
      refine je (Run.pickF rfl rfl au) (jM ?_)
      refine jU ?_
      refine jU ?_
      refine jU ?_
      refine je (Run.pickF rfl rfl au) (ja rfl (jO ?_))
      refine jN ⟨(js1 (jC (by clear hMi hd hd4 hm; grind))), rfl⟩
     refine je (Run.pickT rfl rfl au) (jM ?_)
     refine jU ?_
     refine jU ?_
     refine jU ?_
     refine je (Run.pickF rfl rfl au) (jM ?_)
     refine jU ?_
     refine jU ?_
     refine jU ?_
     refine je (Run.pickF rfl rfl au) (jM ?_)
     refine jU ?_
     refine jU ?_
     refine jU ?_
     refine je (Run.pickF rfl rfl au) (ja rfl (jO ?_))
     refine jN ⟨(js1 (jC (by clear hMi hd hd4 hm; grind))), rfl⟩
    refine je (Run.pickT rfl rfl au) (jM ?_)
    refine jU ?_
    refine jU ?_
    refine jU ?_
    refine je (Run.pickF rfl rfl au) (jM ?_)
    refine jU ?_
    refine jU ?_
    refine jU ?_
    refine je (Run.pickF rfl rfl au) (jM ?_)
    refine jU ?_
    refine jU ?_
    refine jU ?_
    refine je (Run.pickF rfl rfl au) (jM ?_)
    refine jU ?_
    refine jU ?_
    refine jU ?_
    refine je (Run.pickF rfl rfl au) (ja rfl (jO ?_))
    refine jN ⟨(js1 (jC (by clear hMi hd hd4 hm; grind))), rfl⟩
   refine je (Run.pickT rfl rfl au) (jM ?_)
   refine jU ?_
   refine jU ?_
   refine jU ?_
   refine jU ?_
   refine je (Run.pickF rfl rfl au) (jM ?_)
   refine jU ?_
   refine jU ?_
   refine jU ?_
   refine je (Run.pickF rfl rfl au) (jM ?_)
   refine jU ?_
   refine jU ?_
   refine jU ?_
   refine je (Run.pickF rfl rfl au) (jM ?_)
   refine jU ?_
   refine jU ?_
   refine jU ?_
   refine je (Run.pickF rfl rfl au) (jM ?_)
   refine jU ?_
   refine jU ?_
   refine jU ?_
   refine je (Run.pickF rfl rfl au) (ja rfl (jO ?_))
   refine jN ⟨(js1 (jC (by clear hMi hd hd4 hm; grind))), rfl⟩
  refine jM ?_
  refine jU ?_
  refine jU ?_
  refine jU ?_
  refine jU ?_
  refine je (Run.pickF rfl rfl au) (jM ?_)
  refine jU ?_
  refine jU ?_
  refine jU ?_
  refine jU ?_
  refine je (Run.pickF rfl rfl au) (jM ?_)
  refine jU ?_
  refine jU ?_
  refine jU ?_
  refine je (Run.pickF rfl rfl au) (jM ?_)
  refine jU ?_
  refine jU ?_
  refine jU ?_
  refine je (Run.pickF rfl rfl au) (jM ?_)
  refine jU ?_
  refine jU ?_
  refine jU ?_
  refine je (Run.pickF rfl rfl au) (jM ?_)
  refine jU ?_
  refine jU ?_
  refine jU ?_
  refine je (Run.pickF rfl rfl au) (ja rfl (jO ?_))
  refine jN ⟨(js1 (jC (by clear hMi hd hd4 hm; grind))), rfl⟩
 intro Γ hΓ
 refine jN (VC.sub _ hΓ ?_)
 refine jT ?_
 refine qC rfl ?_
 refine ⟨?_, K⟩
 rw [decide_eq_decide.2 (show bW m.p ↔ _ from hMi.trans ⟨fun h => h.2, fun h => ⟨⟨fun j h1 => hd j h1 h1, fun j h1 => hd4 j h1 h1⟩, h⟩⟩)]
end
section
open Go.RowKit Go.Sort
theorem qZf {H : Type} {enc : TypeId × Value → H} {P : Program} {w : World} {base : Nat} {spare : Nat → Bool} {held : Bool} {t e : TypeId} {fuel len cap : Nat} {a : Option Addr} {x : DataW H × List MemPlace} (ht : P.underlying t = some (.slice e)) (he : P.underlying e = some .string) (hc : P.cellsOf e = 1)
  (h : DataW.trod enc P w base spare held fuel t [.slice a len cap] = some x) : ∃ l : List Tx, l.length = len ∧ len ≤ cap ∧ cap ≤ 9223372036854775807 ∧ Rd w 1 a len (SB l) := by
 obtain ⟨ls, h1, h2, h3, h4, _⟩ := uV ht he hc h
 refine ⟨ls.map (·.data.toList), by simpa using h1, h2, h3, ?_⟩
 have : SB (ls.map (·.data.toList)) = ls.map Value.string := by simp only [SB, zcl]; rfl
 rw [this]
 exact h4
theorem qZg {w : World} {A : Option Addr} {c : Nat} {l : List Tx} (m : Nat) (h : Rd w 1 A l.length (SB l)) (hc : l.length ≤ c) (hm : m ≤ l.length) : Rd w 1 (dB A c 0 1) (l.take m).length (SB (l.take m)) := by
 have e := h.cut (l := 0) (r := m) (cap := c) jo jo hc
 have e1 : (l.take m).length = m := by simp; omega
 have e2 : SB (l.take m) = ((SB l).drop (0 * 1)).take ((m - 0) * 1) := by simp [SB, zdg]
 rw [e1, e2]
 exact e
def cX (l : List Tx) : List Tx := (l.take 24).map fun x => x.take 30
theorem lT (l : List Tx) : (cX l).length ≤ 24 ∧ ∀ q ∈ cX l, q.length ≤ 30 := by
 unfold cX
 refine ⟨by simp; omega, fun q hq => ?_⟩
 obtain ⟨x, _, rfl⟩ := List.mem_map.1 hq
 simp
 omega
theorem pQ (A : Option Addr) (c0 : Nat) (l : List Tx) (w : World) (hc : l.length ≤ c0) (hr : Rd w 1 A l.length (SB l)) :
  Calls Tryz.prog 34 #[.slice A l.length c0] w fun e w' => Frm [] w w' ∧ ∃ B d, e = .returned (.slice B (cX l).length d) ∧ Own w' 9 1 B (cX l).length d (SB (cX l)) ∧ (∀ x ∈ ob B, w.heap.size ≤ x) := by
 refine VC.calls (nt := 31) (res := #[.tmp 2]) Tryz.func34 rfl Tryz.ntmps34 Tryz.results34 rfl ?_
 refine jS (jR (ja rfl (jO (jN (jv1 0 ?_)))))
 refine jS (jS (jR (jm rfl (je (Run.lenS rfl zh) (jb rfl rfl (Bin.gtrN _ 24) (jO (jN (jv2 0 8 ?_))))))))
 refine VC.meet (σ := Option Addr × Nat) (fun s => [(0, .slice s.1 (l.take 24).length s.2)]) (fun s wm => w = wm ∧ Rd w 1 s.1 (l.take 24).length (SB (l.take 24))) ?_ ?_
 ·
  refine jD rfl (fun hc1 => ?_) fun hc1 => ?_
  ·
   refine jR (jm rfl (je (Run.sliceS 0 24 rfl zh zp evB.none_ (evB.some_ rfl) jo jo) (ja rfl (jO ?_))))
   refine jN ⟨(dB A c0 0 1, c0 - 0), (js1 (by rw [show (l.take 24).length = 24 - 0 by simp; omega]; rfl)), ?_⟩
   exact ⟨rfl, qZg 24 hr hc jo⟩
  refine jQ ?_
  refine jN ⟨(A, c0), (js1 (by rw [zw jo]; rfl)), ?_⟩
  rw [zw jo]
  exact ⟨rfl, hr⟩
 rintro ⟨A2, c2⟩ _ ⟨rfl, hr2⟩ Γ hΓ
 have hl24 : (l.take 24).length ≤ 24 := by simp; omega
 generalize hm : l.take 24 = m at *
 refine jN (VC.sub _ hΓ (jS (jR (ja rfl (jO (jN (jS (jS (jR (jz 0 (jO (jN (jB ?_)))))))))))))
 refine VC.loop (σ := Nat × Option Addr × Nat) (fun s => [(0, .slice A2 m.length c2), (3, .slice s.2.1 ((m.take s.1).map fun x => x.take 30).length s.2.2), (4, .int .i64 ((s.1 : Nat) : Int))]) (fun s wr => s.1 ≤ m.length ∧ Own wr 9 1 s.2.1 ((m.take s.1).map fun x => x.take 30).length s.2.2 (SB ((m.take s.1).map fun x => x.take 30)) ∧ (∀ x ∈ ob s.2.1, w.heap.size ≤ x) ∧ Frm [] w wr) (fun s => m.length - s.1) (0, none, 0) (js3 rfl rfl rfl) ⟨jo, Own.nil _ _ _, by simp [ob], Frm.refl _ _⟩ ?_
 rintro ⟨i, B, d⟩ wr ⟨hi, hown, hge, hfr⟩
 dsimp only at hi hown hge ⊢
 have hil : ((m.take i).map fun x : Tx => x.take 30).length = i := by simp; omega
 refine jS (jS (jR (jm rfl (jm rfl (je (Run.lenS rfl zh) (jb rfl rfl (Bin.lssN _ _) (jO (jN (jv4 0 3 4 14 ?_)))))))))
 refine jD rfl (fun hc2 => ?_) fun hc2 => ?_
 ·
  obtain ⟨ad, rfl, hcell⟩ := eR (hr2.frm hfr jp) hc2
  have hts : ((m.take (i + 1)).map fun x : Tx => x.take 30) = ((m.take i).map fun x : Tx => x.take 30) ++ [m[i].take 30] := by rw [dJ hc2]; simp only [zaw, zal, zbo]
  generalize m[i] = x at *
  refine jQ (jN (jv3 0 3 4 ?_))
  refine jS (jB (jS (jR (jm rfl (jm rfl (je (Run.index1 i rfl rfl zh zp hc2) (jl rfl zab hcell (ja rfl (jO (jN (jv4 0 3 4 5 ?_)))))))))))
  refine jS (jS (jR (jm rfl (je (Run.lenT rfl zl) (jb rfl rfl (Bin.gtrN _ 30) (jO (jN (jv5 0 3 4 5 23 ?_))))))))
  refine VC.meet (σ := Unit) (fun s => [(0, .slice (some ad) m.length c2), (3, .slice B ((m.take i).map fun x => x.take 30).length d), (4, .int .i64 ((i : Nat) : Int)), (5, encStr (x.take 30))]) (fun s wm => wr = wm) ?_ ?_
  ·
   refine jD rfl (fun hc3 => ?_) fun hc3 => ?_
   ·
    refine jR (jm rfl (je (Run.sliceT 0 30 rfl zl evB.none_ (evB.some_ rfl) jo jo) (ja rfl (jO ?_))))
    refine jN ⟨(), (js4 rfl rfl rfl rfl), ?_⟩
    rfl
   refine jQ ?_
   refine jN ⟨(), (js4 rfl rfl rfl (by rw [zw (l := x) (i := 30) jo]; rfl)), ?_⟩
   rfl
  rintro _ _ rfl Γ hΓ
  refine jN (VC.sub _ hΓ (jR (jm rfl (jM ?_))))
  refine Ops.m (qJ.buildS1 rfl zh zp eL jd jd rfl rfl) rfl ?_
  rintro _ w4 ⟨rfl, hF4⟩
  have hfr4 := hfr.trans hF4.frm jp
  refine Ops.m (qJ.app rfl rfl zh (gS) rfl jd (hown.frm hF4.frm jp) (sX hF4) (eA _) jo jo) rfl ?_
  rintro _ w5 ⟨A5, c5, rfl, hown5, hfr5, hob5⟩
  rw [← cU] at hown5
  have hge5 := dP hge hob5 hfr4.size
  have hfr5' := hfr4.own hfr5 hge
  refine ja rfl (jO ?_)
  refine qT (jN ?_)
  refine jv3 0 3 4 ?_
  refine jR (jm rfl (jb rfl rfl (Bin.add_i64 _ 1 jo) (ja rfl (jO ?_))))
  refine jN ⟨(i + 1, A5, c5), (js3 rfl (by rw [hts, zm]; rfl) rfl), ?_, ?_⟩
  ·
   rw [hts]
   exact ⟨hc2, by rw [zm]; exact hown5, hge5, hfr5'⟩
  first | omega | (dsimp only; omega)
 refine jX ?_
 refine qH (qH (qF ?_))
 refine jN (jv1 3 ?_)
 refine jS (jR (jm rfl (ja rfl (jO (jN (jv1 2 ?_))))))
 refine jT ?_
 refine qC rfl ?_
 have him : i = m.length := jo
 subst him
 rw [zak] at hown ⊢
 have e : (m.map fun x : Tx => x.take 30) = cX l := by rw [← hm]; rfl
 rw [e] at hown ⊢
 exact ⟨hfr, B, d, rfl, hown, hge⟩
theorem IsN.ok {w0 w' : World} {e : Ending} {F : Except Nat (List Tx)} {B : Option Addr} {d : Nat} {r x : List Tx} {k : Nat} (h : IsN w0 w' e F B d r k) (hF : F = .ok x) : k = 0 ∧ r = x := by
 rcases h.2.2.2 with ⟨h1, h2⟩ | ⟨_, _, h2⟩
 · rw [hF] at h2; injection h2 with h2; exact ⟨h1, h2.symm⟩
 rw [hF] at h2; cases h2
end
section
open Go.RowKit Go.Sort
structure RawM (w : World) (A : Option Addr) (l : List Mc) : Prop where
 rd : Rd w 6 A l.length (MC l)
 fl : ∀ x ∈ l, Rd w 1 x.A x.m.flags.length (SB x.m.flags) ∧ x.m.flags.length ≤ x.c
theorem RawM.frm {w w' : World} {A : Option Addr} {l : List Mc} (h : RawM w A l) (k : Frm [] w w') : RawM w' A l :=
 ⟨h.rd.frm k jp, fun x hx => ⟨(h.fl x hx).1.frm k jp, (h.fl x hx).2⟩⟩
theorem OwM.raw {w : World} {A : Option Addr} {d : Nat} {l : List Mc} (h : OwM w A d l) : RawM w A l :=
 ⟨h.own.rd, fun x hx => ⟨(h.fl x hx).rd, (h.fl x hx).le⟩⟩
theorem qXu (l : List Mc) (m : Nat) (hm : m ≤ l.length) : (MC l).take (m * 6) = MC (l.take m) := by
 have e1 : MC l = MC (l.take m) ++ MC (l.drop m) := by rw [← dK, zbd]
 have e2 : (MC (l.take m)).length = m * 6 := by rw [mV, zq]; congr 1; omega
 rw [e1, zbc jo, zw jo]
theorem RawM.take {w : World} {A : Option Addr} {l : List Mc} (h : RawM w A l) (m : Nat) : RawM w A (l.take m) := by
 refine ⟨?_, fun x hx => h.fl x (zdn hx)⟩
 rcases Nat.le_total m l.length with hm | hm
 ·
  have h1 := h.rd.cut (cap := l.length) (zam m) hm (zaj _)
  rw [fT, zbu, Nat.zero_mul, zcd, qXu l m hm] at h1
  rw [zq, zaq hm]
  exact h1
 rw [zw hm]
 exact h.rd
theorem RawM.elem {w : World} {A : Option Addr} {l : List Mc} {k : Nat} (h : RawM w A l) (hk : k < l.length) : ∃ ad, A = some ad ∧ ∀ j v, (l[k]).cells[j]? = some v → w.cell? ((ad.add (k * 6)).add j) = some v := by
 obtain ⟨ad, rfl, hc⟩ := h.rd.elem hk
 refine ⟨ad, rfl, fun j v hj => hc j v ?_⟩
 rw [fF Mc.cells 6 Mc.cells_len l k hk]
 exact hj
def gM (l : List MsgP) : List MsgP := (l.take 129).map fun m => { m with flags := cX m.flags }
theorem yC {l : List Mc} {i : Nat} (h : i < (l.take 129).length) : (Ms ((l.take 129).take (i + 1))).map (fun m => { m with flags := cX m.flags }) = (Ms ((l.take 129).take i)).map (fun m => { m with flags := cX m.flags }) ++ [{ ((l.take 129)[i]).m with flags := cX ((l.take 129)[i]).m.flags }] := by
 rw [mD h, zaw]
 rfl
theorem wT (v n : Int) (A : Option Addr) (c : Nat) (l : List Mc) (w : World) (hl : RawM w A l) (hc : l.length ≤ c) : Calls Tryz.prog 44 #[.agg #[.int .i64 v, .int .i64 n, .slice A l.length c]] w fun e w' => Frm [] w w' ∧ ∃ B d l', e = .returned (.agg #[.int .i64 v, .int .i64 n, .slice B l'.length d]) ∧ OwM w' B d l' ∧ Ms l' = gM (Ms l) ∧ l'.length ≤ 129 ∧ ∀ b ∈ ob B, w.heap.size ≤ b := by
 refine VC.calls (nt := 37) (res := #[.cell 2 43]) Tryz.func44 rfl Tryz.ntmps44 Tryz.results44 rfl ?_
 refine jS (jR ?_)
 refine Ops.m (qJ.box rfl) rfl ?_
 rintro _ w1 ⟨rfl, hF1⟩
 have hb1 := hF1.blk
 have hf1 := hF1.frm
 have hs1 : w.heap.size ≤ w.heap.size := zaj _
 generalize hg1 : w.heap.size = g1 at hb1 ⊢
 refine Ops.m (qJ.alloc bH) rfl ?_
 rintro _ w2 ⟨rfl, hF2⟩
 have hb2 := hF2.blk
 have hb1 := hb1.frm hF2.frm jp
 have hf2 := hf1.trans hF2.frm jp
 have hs2 : w.heap.size ≤ w1.heap.size := hf1.size
 generalize hg2 : w1.heap.size = g2 at hb2 hs2 ⊢
 have hn12 : g1 < g2 := by rw [← hg2, ← hg1]; have := hF1.size; omega
 refine jO (jN (jv2 1 2 ?_))
 refine jS (jS (jR (jf rfl zj rfl zaa (jl rfl zao (hb1.cell 2) (je (Run.lenS rfl zk) (jb rfl rfl (Bin.gtrN _ 129) (jO (jN (jv3 1 2 9 ?_)))))))))
 refine VC.meet (σ := Unit) (fun s => [(1, .pointer (some ⟨g1, 0, none⟩)), (2, .pointer (some ⟨g2, 0, none⟩))]) (fun s wm => Blk wm g1 43 (BVc v n A (l.take 129).length c).toArray ∧ Blk wm g2 43 (BVc 0 0 none 0 0).toArray ∧ Frm [] w wm) ?_ ?_
 ·
  refine jD rfl (fun hc1 => ?_) fun hc1 => ?_
  ·
   refine jR (jf rfl zj rfl zaa (jl rfl zao (hb1.cell 2) (je (Run.sliceS 0 129 rfl zk zt evB.none_ (evB.some_ rfl) jo jo) (jf rfl zj rfl zaa ?_))))
   refine Ops.st (qW.store rfl rfl zaa hb1 rfl rfl) ?_
   rintro w3 ⟨hb13, hf3, hs3⟩
   have hlt : (l.take 129).length = 129 := by rw [zq]; omega
   have hb13 : Blk w3 g1 43 (BVc v n (dB A c 0 6) (129 - 0) (c - 0)).toArray := hb13
   rw [fT, zbu, zbu] at hb13
   have hb23 := hb2.frm hf3 (by simp; omega)
   have hfr3 := hf2.own hf3 (fun y hy => by simp at hy; omega)
   refine jO ?_
   refine jN ⟨(), (js2 rfl rfl), ?_⟩
   exact ⟨by rw [hlt]; exact hb13, hb23, hfr3⟩
  refine jQ ?_
  refine jN ⟨(), (js2 rfl rfl), ?_⟩
  have hlt : (l.take 129).length = l.length := by rw [zq]; omega
  exact ⟨by rw [hlt]; exact hb1, hb2, hf2⟩
 rintro _ w3 ⟨hb1, hb2, hf3⟩ Γ hΓ
 have hlt := hl.take 129
 have hlt129 : (l.take 129).length ≤ 129 := by rw [zq]; omega
 refine jN (VC.sub _ hΓ (jS (jR (ja rfl (jO (jN (jS (jS (jR (jz 0 (jO (jN (jB ?_)))))))))))))
 refine VC.loop (σ := Nat × Option Addr × Nat × List Mc) (fun s => [(1, .pointer (some ⟨g1, 0, none⟩)), (2, .pointer (some ⟨g2, 0, none⟩)), (3, .slice s.2.1 s.2.2.2.length s.2.2.1), (4, .int .i64 ((s.1 : Nat) : Int))]) (fun s wr => s.1 ≤ (l.take 129).length ∧ OwM wr s.2.1 s.2.2.1 s.2.2.2 ∧ Ms s.2.2.2 = (Ms ((l.take 129).take s.1)).map (fun m => { m with flags := cX m.flags }) ∧ (∀ b ∈ ob s.2.1, w3.heap.size ≤ b) ∧ Frm [] w3 wr) (fun s => (l.take 129).length - s.1) (0, none, 0, []) (js4 rfl rfl rfl rfl) ⟨jo, OwM.nil _, rfl, by simp [ob], Frm.refl _ _⟩ ?_
 rintro ⟨i, B, d, l'⟩ wr ⟨hi, hown, hms, hge, hfr⟩
 dsimp only at hi hown hms hge ⊢
 have hll : l'.length = i := by
  have h := congrArg List.length hms
  simp only [Ms, zba, zq (i := i)] at h
  omega
 have hb1r := hb1.frm hfr jp
 refine jS (jS (jR (jm rfl (jf rfl zj rfl zaa (jl rfl zao (hb1r.cell 2) (je (Run.lenS rfl zk) (jb rfl rfl (Bin.lssN _ _) (jO (jN (jv5 1 2 3 4 18 ?_))))))))))
 refine jD rfl (fun hc2 => ?_) fun hc2 => ?_
 ·
  obtain ⟨ad, rfl, hcell⟩ := (hlt.frm (hf3.trans hfr jp)).elem hc2
  have hxa := (hlt.frm (hf3.trans hfr jp)).fl ((l.take 129)[i]) (zr hc2)
  have hmt := yC hc2
  generalize hx : (l.take 129)[i] = x at *
  refine jQ (jN (jv4 1 2 3 4 ?_))
  refine jS (jB (jS (jR (jf rfl zj rfl zaa (jl rfl zao (hb1r.cell 2) (jm rfl (je (Run.indexS i rfl rfl zk zt hc2) (je (Run.loadA rfl zaz zt hcell (by first | rfl | (simp; done))) ?_))))))))
  refine Ops.m (qJ.alloc cP) rfl ?_
  rintro _ w4 ⟨rfl, hF4⟩
  have hb4 := hF4.blk
  have hf4 := hF4.frm
  have hsz4 : wr.heap.size ≤ wr.heap.size := zaj _
  have hfs := hfr.size
  generalize hg4 : wr.heap.size = g4 at hb4 hsz4 hfs ⊢
  refine Ops.st (qW.storeA rfl rfl zt hb4 rfl x.cells_one) ?_
  rintro w5 ⟨hb5, hf5, hs5⟩
  have hfr5 : Frm [] wr w5 := hf4.own hf5 (fun y hy => by simp at hy; omega)
  refine jO (jN (jv5 1 2 3 4 5 ?_))
  refine jS (jR (jf rfl zac rfl zae (jl rfl zas (hb5.cell 5) ?_)))
  refine Ops.cl (jE1 Tryz.call34) (pQ x.A x.c x.m.flags _ hxa.2 (hxa.1.frm hfr5 jp)) rfl ?_
  rintro e w6 ⟨hf6, C, dC, rfl, hownC, hgeC⟩
  refine ⟨_, rfl, ?_⟩
  have hfr6 := hfr5.trans hf6 jp
  have hb56 := hb5.frm hf6 jp
  have hff := lT x.m.flags
  refine jf rfl zac rfl zae ?_
  refine Ops.st (qW.store rfl rfl zae hb56 rfl rfl) ?_
  rintro w7 ⟨hb7, hf7, hs7⟩
  have hb7 : Blk w7 g4 60 (⟨{ x.m with flags := cX x.m.flags }, C, dC⟩ : Mc).cells.toArray := hb7
  have hownC7 := hownC.frm hf7 (fun y hy => by have := hownC.ne_blk hb56 jd; simp; rintro rfl; exact this hy)
  have hfr7 : Frm [] wr w7 := hfr6.own hf7 (fun y hy => by simp at hy; omega)
  refine jO (jN (jv5 1 2 3 4 5 ?_))
  refine jR (jm rfl (je (Run.loadA rfl zaz zt (fun j v hj => hb7.cells j v hj) (by first | rfl | (simp; done))) ?_))
  refine Ops.m (qJ.buildS1 rfl zk zt cP jd jd rfl rfl) rfl ?_
  rintro _ w8 ⟨rfl, hF8⟩
  have hfr8 := hfr7.trans hF8.frm jp
  have hown8 := hown.frm hfr8
  have hownC8 := hownC7.frm hF8.frm jp
  refine Ops.m (qJ.app rfl rfl zk (cO) rfl jd hown8.own (kV (x := ⟨{ x.m with flags := cX x.m.flags }, C, dC⟩) hF8) (bA Mc.cells Mc.cells_one _) jo jo) rfl ?_
  rintro _ w9 ⟨A9, c9, rfl, hown9, hf9, hob9⟩
  rw [← dK] at hown9
  have hge9 := dP hge hob9 (zay hfr.size hfr8.size)
  have hfr9 := (hfr.trans hfr8 jp).own hf9 hge
  have hM9 := hown8.put (x := ⟨{ x.m with flags := cX x.m.flags }, C, dC⟩) (by simpa using hown9) hf9 hownC8 ⟨by have := hff.1; dsimp only; omega, fun q hq => by have := hff.2 q hq; omega⟩
  refine ja rfl (jO ?_)
  refine qT (jN ?_)
  refine jv4 1 2 3 4 ?_
  refine jR (jm rfl (jb rfl rfl (Bin.add_i64 _ 1 jo) (ja rfl (jO ?_))))
  refine jN ⟨(i + 1, A9, c9, l' ++ [⟨{ x.m with flags := cX x.m.flags }, C, dC⟩]), (js4 rfl rfl (by rw [zm]; rfl) rfl), ?_, ?_⟩
  · exact ⟨hc2, hM9, by rw [hmt, ← hms]; simp [Ms], hge9, hfr9⟩
  first | omega | (dsimp only; omega)
 refine jX ?_
 refine qH (qH (qF ?_))
 refine jN (jv3 1 2 3 ?_)
 refine jS (jR (jm rfl (jf rfl zj rfl zaa ?_)))
 refine Ops.st (qW.store rfl rfl zaa hb1r rfl rfl) ?_
 rintro w10 ⟨hb110, hf10, hs10⟩
 have hb110 : Blk w10 g1 43 (BVc v n B l'.length d).toArray := hb110
 have hb210 := (hb2.frm hfr jp).frm hf10 (by simp; omega)
 have hM10 := hown.blk hf10 hb1r jd jd
 have hfr10 := (hf3.trans hfr jp).own hf10 (fun y hy => by simp at hy; omega)
 refine jO (jN (jv2 1 2 ?_))
 refine jS (jR (je (Run.loadA rfl zad zf (fun j v hj => hb110.cells j v hj) (by first | rfl | (simp; done))) ?_))
 refine Ops.st (qW.storeA rfl rfl zf hb210 rfl (bK _ _ _ _ _)) ?_
 rintro w11 ⟨hb211, hf11, hs11⟩
 have hM11 := hM10.blk hf11 hb210 jd jd
 have hfr11 := hfr10.own hf11 (fun y hy => by simp at hy; omega)
 refine jO (jN (jv1 2 ?_))
 refine jT ?_
 refine bZ ?_
 refine qS rfl zad zf (fun j v hj => hb211.cells j v hj) (by first | rfl | (simp; done)) ?_
 refine qB ?_
 have hil : i = (l.take 129).length := jo
 rw [hil, zak] at hms
 refine ⟨hfr11, B, d, l', rfl, hM11, ?_, jo, fun b hb => by have := hge b hb; have := hf3.size; omega⟩
 rw [hms]
 unfold gM
 simp only [Ms, zdg]
end
section
open Go.RowKit
def m0 (b : Nat) : MsgP := ⟨0, 0, 0, 0, b, []⟩
def m1 (u : Int) (b : Nat) (f : List Tx) : MsgP := ⟨u, 0, 0, 0, b, f⟩
end
end Go.Proofs.YtgmbmfpfhcekiaaGreat
