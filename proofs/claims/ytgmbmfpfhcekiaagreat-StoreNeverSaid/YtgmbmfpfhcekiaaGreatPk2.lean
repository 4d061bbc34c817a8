/-
  Lemmas on the way, joined: StoB, StoC, BoxD, BoxS, StoD, BoxC, Eng22, StoE, StoF, StoG, StoH, StoI, StoJ, StoK, StoL, StoN, StoR, StoU, StoS, StoT, StoV, StoW, StoY, StoZ.
-/
import Derived.Test.YtgmbmfpfhcekiaaGreatPk1
set_option maxRecDepth 100000
set_option linter.unusedVariables false
set_option linter.unusedSimpArgs false
namespace Go.Proofs.YtgmbmfpfhcekiaaGreat
section
open Go.RowKit Go.Sort
theorem qXf {l : List Tx} {i : Nat} (h0 : 0 < i) (hi : i - 1 < l.length) : (l[i - 1]?).getD [] = l[i - 1] := by rw [ze hi]; rfl
theorem bG.iff1 {l : List Tx} {i : Nat} {q : Tx} : bG l i q ↔ (isN q ∧ qQ q = q) ∧ (0 < i → (l[i - 1]?).getD [] < q) := Iff.rfl
theorem nX (A : Option Addr) (c : Nat) (l : List Tx) (w : World) (hr : Rd w 1 A l.length (SB l)) (hn : l.length ≤ 1000000) (hq : ∀ q ∈ l, q.length ≤ 1000000) (hv : cX w) :
  Calls Tryz.prog 66 #[.slice A l.length c] w fun e w' => e = .returned (.bool (decide (cL l))) ∧ Frm [] w w' := by
 refine VC.calls (nt := 38) (res := #[.tmp 2]) Tryz.func66 rfl Tryz.ntmps66 Tryz.results66 rfl ?_
 refine jS (jR (ja rfl (jO (jN (jv1 0 ?_)))))
 refine jS (jS (jR (jm rfl (je (Run.lenS rfl zd) ?_))))
 refine jx .i64 0 ?_
 refine jO (jN (jB ?_))
 refine VC.loop (σ := Nat) (fun s => [(0, .slice A l.length c), (5, .slice A l.length c), (6, .int .i64 ((l.length : Nat) : Int)), (7, .int .i64 ((s : Nat) : Int))]) (fun s wr => s ≤ l.length ∧ (∀ j (h : j < l.length), j < s → bG l j l[j]) ∧ Frm [] w wr) (fun s => l.length - s) 0 (js4 rfl rfl rfl rfl) ⟨zal _, fun _ _ h => jo, Frm.refl _ _⟩ ?_
 rintro i wr ⟨hi, hd, K⟩
 refine jS (jR (jb rfl rfl (Bin.lssN _ _) (jO (jN (jS ?_)))))
 refine jD rfl (fun hc1 => ?_) fun hc1 => ?_
 ·
  obtain ⟨ad, rfl, hc⟩ := mR (hr.frm K jp) hc1
  have hql := hq _ (zm hc1)
  have hna := @bG.iff1 l i l[i]
  generalize hx : l[i] = q at *
  refine jQ (jN (jv4 0 5 6 7 ?_))
  refine jS (jB (jS (jR (jm rfl (je (Run.index1 _ rfl rfl zd zl jo) (jl rfl zab hc (ja rfl (ja rfl (jO (jN (jv6 0 3 4 5 6 7 ?_)))))))))))
  refine jS ?_
  refine VC.splitR [(0, .slice (some ad) l.length c), (5, .slice (some ad) l.length c), (6, .int .i64 ((l.length : Nat) : Int)), (7, .int .i64 ((i : Nat) : Int))] (Frm [] w) 33 (.bool (decide (¬ bG l i q))) ?_ ?_
  ·
   refine jR (jM ?_)
   refine Ops.cl (jE1 zbp) (bC q _ jo (hv.frm K)) rfl ?_
   rintro e _ ⟨rfl, rfl⟩
   refine ⟨_, rfl, ?_⟩
   by_cases hs13 : isN q
   ·
    refine je (Run.not rfl) (jM ?_)
    refine jG ?_
    refine Ops.clg rfl au (jE1 zbz) (bS q _ jo (hv.frm K)) rfl ?_
    rintro e w1 ⟨rfl, hf_w1⟩
    refine ⟨_, rfl, ?_⟩
    have K := K.trans hf_w1 jp
    refine jG ?_
    refine jk (Run.neqT rfl rfl) ?_
    by_cases hs19 : qQ q ≠ q
    ·
     refine je (Run.pickF rfl rfl au) (jM ?_)
     refine jU ?_
     refine jU ?_
     refine jU ?_
     refine Ops.skU rfl rfl ?_
     refine Ops.skU rfl rfl ?_
     refine Ops.skU rfl rfl ?_
     refine Ops.skU rfl rfl ?_
     refine Ops.skU rfl rfl ?_
     refine Ops.skU rfl rfl ?_
     refine Ops.skU rfl rfl ?_
     refine jU ?_
     refine je (Run.pickT rfl rfl au) (jO ?_)
     refine jN ⟨(js5 (jC (by first | exact (decide_eq_true (p := ¬ bG l i q) (fun h => hs13 (hna.1 h).1.1)).symm | exact (decide_eq_true (p := ¬ bG l i q) (fun h => hs19 (hna.1 h).1.2)).symm | (rw [decide_eq_false hs31]; exact (decide_eq_true (p := ¬ bG l i q) (fun h => hs31 ((hna.1 h).2 hs23))).symm) | (rw [decide_eq_true (Classical.not_not.1 hs31)]; exact (decide_eq_false (p := ¬ bG l i q) (fun h => h (hna.2 ⟨⟨hs13, Classical.not_not.1 hs19⟩, fun _ => Classical.not_not.1 hs31⟩))).symm) | exact (decide_eq_false (p := ¬ bG l i q) (fun h => h (hna.2 ⟨⟨hs13, Classical.not_not.1 hs19⟩, fun h0 => absurd h0 hs23⟩))).symm)) rfl rfl rfl rfl), (K)⟩
    refine je (Run.pickF rfl rfl au) (jM ?_)
    refine jG ?_
    refine jk (Run.bin rfl rfl (Bin.gtrN _ 0)) ?_
    by_cases hs23 : 0 < i
    ·
     obtain ⟨ad2, e2, hcp⟩ := mR (hr.frm K jp) (jo : i - 1 < l.length)
     cases e2
     rw [← qXf hs23 (jo : i - 1 < l.length)] at hcp
     refine jG ?_
     refine jG ?_
     refine jG ?_
     refine jG ?_
     refine jk (Run.bin rfl rfl (Bin.sub_i64 _ 1 jo jo)) ?_
     refine jk (Run.index1 _ rfl rfl zd zl jo) ?_
     refine jk (Run.load rfl zab hcp) ?_
     refine jk (Run.leqT rfl rfl) ?_
     by_cases hs31 : ¬ (l[i - 1]?).getD [] < q
     ·
      refine jk (Run.pickT rfl rfl au) ?_
      refine je (Run.pickF rfl rfl au) (jO ?_)
      refine jN ⟨(js5 (jC (by first | exact (decide_eq_true (p := ¬ bG l i q) (fun h => hs13 (hna.1 h).1.1)).symm | exact (decide_eq_true (p := ¬ bG l i q) (fun h => hs19 (hna.1 h).1.2)).symm | (rw [decide_eq_false hs31]; exact (decide_eq_true (p := ¬ bG l i q) (fun h => hs31 ((hna.1 h).2 hs23))).symm) | (rw [decide_eq_true (Classical.not_not.1 hs31)]; exact (decide_eq_false (p := ¬ bG l i q) (fun h => h (hna.2 ⟨⟨hs13, Classical.not_not.1 hs19⟩, fun _ => Classical.not_not.1 hs31⟩))).symm) | exact (decide_eq_false (p := ¬ bG l i q) (fun h => h (hna.2 ⟨⟨hs13, Classical.not_not.1 hs19⟩, fun h0 => absurd h0 hs23⟩))).symm)) rfl rfl rfl rfl), (K)⟩
     refine jk (Run.pickT rfl rfl au) ?_
     refine je (Run.pickF rfl rfl au) (jO ?_)
     refine jN ⟨(js5 (jC (by first | exact (decide_eq_true (p := ¬ bG l i q) (fun h => hs13 (hna.1 h).1.1)).symm | exact (decide_eq_true (p := ¬ bG l i q) (fun h => hs19 (hna.1 h).1.2)).symm | (rw [decide_eq_false hs31]; exact (decide_eq_true (p := ¬ bG l i q) (fun h => hs31 ((hna.1 h).2 hs23))).symm) | (rw [decide_eq_true (Classical.not_not.1 hs31)]; exact (decide_eq_false (p := ¬ bG l i q) (fun h => h (hna.2 ⟨⟨hs13, Classical.not_not.1 hs19⟩, fun _ => Classical.not_not.1 hs31⟩))).symm) | exact (decide_eq_false (p := ¬ bG l i q) (fun h => h (hna.2 ⟨⟨hs13, Classical.not_not.1 hs19⟩, fun h0 => absurd h0 hs23⟩))).symm)) rfl rfl rfl rfl), (K)⟩
    refine jG ?_
    refine jU ?_
    refine jU ?_
    refine jU ?_
    refine jU ?_
    refine jU ?_
    refine jU ?_
    refine jU ?_
    refine jk (Run.pickF rfl rfl au) ?_
    refine je (Run.pickF rfl rfl au) (jO ?_)
    refine jN ⟨(js5 (jC (by first | exact (decide_eq_true (p := ¬ bG l i q) (fun h => hs13 (hna.1 h).1.1)).symm | exact (decide_eq_true (p := ¬ bG l i q) (fun h => hs19 (hna.1 h).1.2)).symm | (rw [decide_eq_false hs31]; exact (decide_eq_true (p := ¬ bG l i q) (fun h => hs31 ((hna.1 h).2 hs23))).symm) | (rw [decide_eq_true (Classical.not_not.1 hs31)]; exact (decide_eq_false (p := ¬ bG l i q) (fun h => h (hna.2 ⟨⟨hs13, Classical.not_not.1 hs19⟩, fun _ => Classical.not_not.1 hs31⟩))).symm) | exact (decide_eq_false (p := ¬ bG l i q) (fun h => h (hna.2 ⟨⟨hs13, Classical.not_not.1 hs19⟩, fun h0 => absurd h0 hs23⟩))).symm)) rfl rfl rfl rfl), (K)⟩
   refine je (Run.not rfl) (jM ?_)
   refine jU ?_
   refine jU ?_
   refine jU ?_
   refine jU ?_
   refine je (Run.pickT rfl rfl au) (jM ?_)
   refine jU ?_
   refine jU ?_
   refine jU ?_
   refine Ops.skU rfl rfl ?_
   refine Ops.skU rfl rfl ?_
   refine Ops.skU rfl rfl ?_
   refine Ops.skU rfl rfl ?_
   refine Ops.skU rfl rfl ?_
   refine Ops.skU rfl rfl ?_
   refine Ops.skU rfl rfl ?_
   refine jU ?_
   refine je (Run.pickT rfl rfl au) (jO ?_)
   refine jN ⟨(js5 (jC (by first | exact (decide_eq_true (p := ¬ bG l i q) (fun h => hs13 (hna.1 h).1.1)).symm | exact (decide_eq_true (p := ¬ bG l i q) (fun h => hs19 (hna.1 h).1.2)).symm | (rw [decide_eq_false hs31]; exact (decide_eq_true (p := ¬ bG l i q) (fun h => hs31 ((hna.1 h).2 hs23))).symm) | (rw [decide_eq_true (Classical.not_not.1 hs31)]; exact (decide_eq_false (p := ¬ bG l i q) (fun h => h (hna.2 ⟨⟨hs13, Classical.not_not.1 hs19⟩, fun _ => Classical.not_not.1 hs31⟩))).symm) | exact (decide_eq_false (p := ¬ bG l i q) (fun h => h (hna.2 ⟨⟨hs13, Classical.not_not.1 hs19⟩, fun h0 => absurd h0 hs23⟩))).symm)) rfl rfl rfl rfl), (K)⟩
  intro Γ wz hΓ K
  refine jN (VC.sub _ hΓ ?_)
  refine jD rfl (fun hc2 => ?_) fun hc2 => ?_
  ·
   have hbad : ¬ cL l := fun h => by
    have := h.2 i hc1
    rw [hx] at this
    exact hc2 this
   refine jS (jR (ja rfl (jO (jN (jv1 2 ?_)))))
   refine jT ?_
   refine qC (qZ (qZ (qC (qZ (qL rfl ?_)))))
   exact ⟨by rw [decide_eq_false hbad], K⟩
  have hc2 := Classical.not_not.1 hc2
  refine jQ ?_
  refine qR (jN ?_)
  refine jv4 0 5 6 7 ?_
  refine jR (jb rfl rfl (Bin.add_i64 _ 1 jo) (jm rfl (jO ?_)))
  refine jN ⟨(i + 1), (js4 rfl rfl rfl rfl), ?_, ?_⟩
  ·
   refine ⟨hc1, fun j hj h => ?_, K⟩
   by_cases e : j = i
   · subst e; rw [hx]; exact hc2
   exact hd j hj jo
  first | omega | (dsimp only; omega)
 refine jX ?_
 refine qT (qT (bZ ?_))
 refine jN (jv1 0 ?_)
 refine jS (jR (jm rfl (je (Run.lenS rfl zd) (jb rfl rfl (Bin.leqN _ 24) (ja rfl (jO (jN (jv1 2 ?_))))))))
 refine jT ?_
 refine qL rfl ?_
 exact ⟨by rw [decide_eq_decide.2 (show cL l ↔ l.length ≤ 24 from ⟨fun h => h.1, fun h => ⟨h, fun j hj => hd j hj jo⟩⟩)], K⟩
theorem jJ (m : MlC) (w : World) (hm : RdL w m) :
  Calls Tryz.prog 55 #[m.val] w fun e w' => ∃ B d, e = .returned (.slice B m.l.length d) ∧ Own w' 9 1 B m.l.length d (SB (qB m.p)) ∧ (∀ b ∈ ob B, w.heap.size ≤ b) ∧ Frm [] w w' := by
 have hln := hm.ln
 refine VC.calls (nt := 20) (res := #[.tmp 2]) Tryz.func55 rfl Tryz.ntmps55 Tryz.results55 rfl ?_
 refine jS (jR ?_)
 refine Ops.m (qJ.box rfl) rfl ?_
 rintro _ w1 ⟨rfl, hF1⟩
 have hb1 : Blk w1 w.heap.size 25 m.cells.toArray := hF1.blk
 have K := hF1.frm
 refine ja rfl (jO (jN (jv1 1 ?_)))
 refine jS (jR (ja rfl (jO (jN (jS (jS (jR (jf rfl zh rfl zad (jl rfl zaz (hb1.cell 0) (je (Run.lenS rfl zf) ?_))))))))))
 refine jx .i64 0 ?_
 refine jO (jN (jv4 3 7 8 9 ?_))
 refine jB ?_
 refine VC.loop (σ := Nat × Option Addr × Nat) (fun s => [(3, .slice s.2.1 s.1 s.2.2), (7, .slice m.A m.l.length m.c), (8, .int .i64 ((m.l.length : Nat) : Int)), (9, .int .i64 ((s.1 : Nat) : Int))]) (fun s wr => s.1 ≤ m.l.length ∧ Own wr 9 1 s.2.1 s.1 s.2.2 (SB ((m.l.take s.1).map Nc.nm)) ∧ (∀ b ∈ ob s.2.1, w.heap.size ≤ b) ∧ Frm [] w wr) (fun s => m.l.length - s.1) (0, none, 0) (js4 rfl rfl rfl rfl) ⟨zal _, Own.nil _ _ _, by simp [ob], K⟩ ?_
 rintro ⟨i, B, d⟩ wr ⟨hi, ho, hob, K⟩
 dsimp only at *
 refine jS (jR (jb rfl rfl (Bin.lssN _ _) (jO (jN (jS ?_)))))
 refine jD rfl (fun hc1 => ?_) fun hc1 => ?_
 ·
  obtain ⟨ad, hA, hel⟩ := (hm.l.frm K).elem hc1
  rw [hA]
  have hts : (m.l.take (i + 1)).map Nc.nm = (m.l.take i).map Nc.nm ++ [(m.l[i]).nm] := by rw [zas, ze hc1, zbi]; rfl
  generalize hx : m.l[i] = x at *
  refine jQ (jN (jv4 3 7 8 9 ?_))
  refine jS (jB (jS (jR (je (Run.indexS i rfl rfl zf zt hc1) (je (Run.loadA rfl zef zt hel (by first | rfl | (simp; done))) ?_)))))
  refine Ops.m (qJ.alloc dV) rfl ?_
  rintro _ w2 ⟨rfl, hF2⟩
  refine Ops.st (qK.storeA rfl rfl zt hF2.blk rfl x.cells_one) ?_
  rintro w3 ⟨hb3, hf3, hs3⟩
  have hb3 : Blk w3 wr.heap.size 45 x.cells.toArray := hb3
  have K3 : Frm [] wr w3 := hF2.frm.trans hf3 jp
  refine jO (jN (jv5 3 5 7 8 9 ?_))
  refine jR (jm rfl (jf rfl zag rfl zl (jl rfl zab (hb3.cell 0) ?_)))
  refine Ops.m (qJ.buildS1 rfl zd zl hG jd jd rfl rfl) rfl ?_
  rintro _ w4 ⟨rfl, hF4⟩
  have hr4 : Rd w4 1 (some ⟨w3.heap.size, 0, none⟩) 1 (SB [x.nm]) := Rd.of_blk (n := 1) (size := 1) hF4.blk rfl
  have K4 := K3.trans hF4.frm jp
  have ho4 := ho.frm K4 jp
  refine Ops.m (qJ.app rfl rfl zd (kE) rfl jd ho4 hr4 (dB _) jo jo) rfl ?_
  rintro _ w5 ⟨B5, d5, rfl, ho5, hf5, hob5⟩
  rw [← dK, ← hts] at ho5
  have hks := (K.trans K4 jp).size
  have K5 := (K.trans K4 jp).own hf5 hob
  have hob6 : ∀ b ∈ ob B5, w.heap.size ≤ b := fun b hb => by
   rcases hob5 with h | h
   · rw [h] at hb; exact hob b hb
   rw [h, za] at hb; omega
  refine ja rfl (jO ?_)
  refine qR (jN ?_)
  refine jv4 3 7 8 9 ?_
  refine jR (jb rfl rfl (Bin.add_i64 _ 1 jo) (jm rfl (jO ?_)))
  refine jN ⟨(i + 1, B5, d5), (js4 rfl rfl rfl rfl), ?_, ?_⟩
  · exact ⟨hc1, ho5, hob6, K5⟩
  first | omega | (dsimp only; omega)
 refine jX ?_
 refine qT (qT (bZ ?_))
 refine jN (jv1 3 ?_)
 refine jS (jR (jm rfl (ja rfl (jO (jN (jv1 2 ?_))))))
 refine jT ?_
 refine qL rfl ?_
 obtain rfl : i = m.l.length := jo
 rw [zay] at ho
 refine ⟨B, d, rfl, ?_, hob, K⟩
 have e : qB m.p = m.l.map Nc.nm := by simp [qB, MlC.p, Ns, Nc.p]
 rw [e]
 exact ho
end
section
open Go.RowKit Go.Sort
theorem tD (z : Int) (h : -9223372036854775808 ≤ z ∧ z ≤ 9223372036854775807) : keyOf Tryz.prog 3 (.int .i64 z) = some (.int .i64 z) := by
 have hw : (Lit.int .i64 z).wf = true := by
  simp [Lit.wf, IntKind.min, IntKind.max, IntKind.signed, IntKind.bits]
  omega
 simp [keyOf, mapKey, zac, hw]
abbrev nC : Int → Value := fun z => .int .i64 z
theorem zS : ∀ a b, nC a = nC b → a = b := fun a b h => by injection h
def MvF (vs : List Int) : Int → Option Value := fun y => if y ∈ vs then some (.bool true) else none
theorem qXg : (fun _ : Int => none) = MvF [] := by funext y; simp [MvF]
theorem zT (vs : List Int) (x : Int) : (fun y => if y = x then some (.bool true) else MvF vs y) = MvF (vs ++ [x]) := by
 funext y
 unfold MvF
 by_cases h : y = x <;> simp [h]
theorem qXh (vs : List Int) (x : Int) : (MvF vs x).getD (.bool false) = .bool (decide (x ∈ vs)) := by
 unfold MvF
 by_cases h : x ∈ vs <;> simp [h]
def rD (m : MlC) (i : Nat) (x : Nc) : Prop := (bR x.p.2 ∧ x.v ≤ m.v ∧ x.v ∉ (m.l.take i).map Nc.v) ∧ ∀ y ∈ x.l, (y.m.blob : Int) ≤ m.b
theorem qXi (m : MlC) : qI m.p ↔ cK m.p ∧ ∀ i (h : i < m.l.length), rD m i m.l[i] := by
 have key : ∀ i (h : i < m.l.length), oR m.p.valid m.p.blob m.p.l i (m.l[i]).p ↔ rD m i m.l[i] := by
  intro i h
  unfold oR rD
  have e1 : (∀ y ∈ m.p.l.take i, y.2.valid ≠ (m.l[i]).p.2.valid) ↔ (m.l[i]).v ∉ (m.l.take i).map Nc.v := by
   rw [show m.p.l.take i = (m.l.take i).map Nc.p from zdo.symm]
   constructor
   ·
    intro h1 h2
    obtain ⟨y, hy, e⟩ := List.mem_map.1 h2
    exact h1 y.p (zbo hy) e
   intro h1 y hy e
   obtain ⟨z, hz, rfl⟩ := List.mem_map.1 hy
   exact h1 (List.mem_map.2 ⟨z, hz, e⟩)
  have e2 : (∀ y ∈ (m.l[i]).p.2.l, (y.blob : Int) ≤ m.p.blob) ↔ ∀ y ∈ (m.l[i]).l, (y.m.blob : Int) ≤ m.b := by
   constructor
   · intro h1 y hy; exact h1 y.m (zbo hy)
   intro h1 y hy
   obtain ⟨z, hz, rfl⟩ := List.mem_map.1 hy
   exact h1 z hz
  rw [e1, e2]
  constructor
  · rintro ⟨h1, h2, h3, h4⟩; exact ⟨⟨h1, h2, h3⟩, h4⟩
  rintro ⟨⟨h1, h2, h3⟩, h4⟩; exact ⟨h1, h2, h3, h4⟩
 unfold qI
 constructor
 ·
  rintro ⟨h1, h2⟩
  refine ⟨h1, fun i h => (key i h).1 ?_⟩
  have := h2 i (by show i < (Ns m.l).length; rw [cR]; exact h)
  rw [show m.p.l[i]'(by show i < (Ns m.l).length; rw [cR]; exact h) = (m.l[i]).p from zbj _] at this
  exact this
 rintro ⟨h1, h2⟩
 refine ⟨h1, fun i h => ?_⟩
 have h' : i < m.l.length := by have : i < (Ns m.l).length := h; rwa [cR] at this
 have := (key i h').2 (h2 i h')
 rw [show m.p.l[i] = (m.l[i]).p from zbj _]
 exact this
theorem jV (m : MlC) : (qB m.p).length = m.l.length := by simp [qB, MlC.p]
theorem pJ {w : World} {m : MlC} (h : RdL w m) : ∀ q ∈ qB m.p, q.length ≤ 1000000 := by
 intro q hq
 obtain ⟨x, hx, rfl⟩ := List.mem_map.1 hq
 obtain ⟨y, hy, rfl⟩ := List.mem_map.1 hx
 exact (h.l.el y hy).q
theorem vV (x : Mc) (g nb : Nat) (m : MlC) (w : World) (hb : Blk w g 25 m.cells.toArray) (hm : m.b = (nb : Int)) (hn : nb ≤ 2147483647) :
  Calls Tryz.prog 70 #[.agg x.cells.toArray, .pointer (some ⟨g, 0, none⟩)] w fun e w' => e = .returned (.bool (decide ((nb : Int) < (x.m.blob : Int)))) ∧ Frm [] w w' := by
 refine VC.calls (nt := 10) (res := #[.tmp 3]) Tryz.func70 rfl Tryz.ntmps70 Tryz.results70 rfl ?_
 refine jS (jR ?_)
 refine Ops.m (qJ.box rfl) rfl ?_
 rintro _ w1 ⟨rfl, hF1⟩
 have hb1 : Blk w1 w.heap.size 60 x.cells.toArray := hF1.blk
 have hbm := hb.frm hF1.frm jp
 have e3 : m.cells.toArray[3]? = some (.int .i64 ((nb : Nat) : Int)) := by show some (Value.int .i64 m.b) = _; rw [hm]
 have hcm := (hbm.cell 3).trans e3
 refine ja rfl (jO (jN (jv2 1 2 ?_)))
 refine jS (jR (jf rfl zaw rfl zeg (jl rfl Tryz.isAgg40 (hb1.cell 4) (jf rfl zh rfl zk (jl rfl zu hcm (je (Run.convN nb rfl zac zet (by show nb ≤ 18446744073709551615; omega)) (jb rfl rfl (Bin.gtrN _ _) (ja rfl (jO (jN (jv1 3 ?_)))))))))))
 refine jT ?_
 refine qL rfl ?_
 exact ⟨by congr 2; exact decide_eq_decide.2 jo, hF1.frm⟩
theorem vW (f : FuncId) (us : List Value) (p : MsgP → Bool) (A : Option Addr) (c : Nat) (l : List Mc) (w : World) (hl : RdM w A l) (hn : l.length ≤ 1000000) (S : List Nat) (hp : qQy S w f us p) :
  Calls Tryz.prog 69 #[.slice A l.length c, .func (.func f) #[] us.toArray] w fun e w' => e = .returned (.bool (decide (∃ x ∈ l, p x.m = true))) ∧ Frm [] w w' := by
 refine VC.calls (nt := 9) (res := #[.tmp 4]) Tryz.func69 rfl Tryz.ntmps69 Tryz.results69 rfl ?_
 refine jS (jR (ja rfl (jO (jN (jv2 0 1 ?_)))))
 refine jS (jR (jm rfl (jM ?_)))
 refine Ops.cl (jE2 Tryz.call118) (sA f us p A c l _ hl hn S hp) rfl ?_
 rintro e w1 ⟨hf1, k, hk1, hk2⟩
 obtain ⟨z, rfl, hz⟩ : ∃ z : Int, e = .returned (.int .i64 z) ∧ (0 ≤ z ↔ ∃ x ∈ l, p x.m = true) := by
  rcases hk2 with ⟨h1, h2⟩ | ⟨h1, h2, h3⟩
  ·
   refine ⟨_, h2, ⟨fun h => jo, fun ⟨x, hx, hpx⟩ => ?_⟩⟩
   obtain ⟨j, hj, rfl⟩ := zo hx
   rw [hk1 j hj jo] at hpx
   cases hpx
  exact ⟨_, h3, ⟨fun _ => ⟨_, zm h1, h2⟩, fun _ => jo⟩⟩
 refine ⟨_, rfl, ?_⟩
 refine jb rfl rfl (Bin.geq _ 0) (ja rfl (jO (jN (jv1 4 ?_))))
 refine jT ?_
 refine qL rfl ?_
 exact ⟨by rw [decide_eq_decide.2 hz], hf1⟩
set_option maxHeartbeats 1000000 in
theorem cF (m : MlC) (w : World) (hm : RdL w m) (hv : cX w) :
  Calls Tryz.prog 21 #[m.val] w fun e w' => e = .returned (.bool (decide (qI m.p))) ∧ Frm [] w w' := by
 have hln := hm.ln
 have hH : cK m.p ↔ (cL (qB m.p) ∧ cL m.ss ∧ 1 ≤ m.v ∧ m.v ≤ 2147483647 ∧ 0 ≤ m.b ∧ m.b ≤ 2147483647 ∧ qF ∈ qB m.p) := Iff.rfl
 have hMi := qXi m
 have hnl := jV m
 have hnq := pJ hm
 refine VC.calls (nt := 79) (res := #[.tmp 2]) Tryz.func21 rfl Tryz.ntmps21 Tryz.results21 rfl ?_
 refine jS (jR ?_)
 refine Ops.m (qJ.box rfl) rfl ?_
 rintro _ w1 ⟨rfl, hF1⟩
 have hb1 : Blk w1 w.heap.size 25 #[.slice m.A m.l.length m.c, .slice m.S m.ss.length m.d, .int .i64 m.v, .int .i64 m.b] := hF1.blk
 have K := hF1.frm
 generalize hg1 : w.heap.size = g1 at hb1 ⊢
 refine ja rfl (jO (jN (jv1 1 ?_)))
 refine jS (jS ?_)
 refine VC.splitR [(1, .pointer (some ⟨g1, 0, none⟩))] (fun wz => Frm [] w wz ∧ Blk wz g1 25 #[.slice m.A m.l.length m.c, .slice m.S m.ss.length m.d, .int .i64 m.v, .int .i64 m.b]) 41 (.bool (decide (¬ cK m.p))) ?_ ?_
 ·
  refine jR (je (Run.loadA rfl zc zb hb1.cells (by first | rfl | (simp; done))) ?_)
  refine Ops.cl (jE1 Tryz.call55) (jJ m _ (hm.frm K)) rfl ?_
  rintro e w2 ⟨Bw2, dw2, rfl, how2, _, hfw2⟩
  refine ⟨_, rfl, ?_⟩
  have K := K.trans hfw2 jp
  have hb1 := hb1.frm hfw2 jp
  have hsn := nX Bw2 dw2 (qB m.p) _ (by rw [hnl]; exact how2.rd) jo hnq (hv.frm K)
  rw [hnl] at hsn
  refine Ops.cl (jE1 Tryz.call66) (hsn) rfl ?_
  rintro e w3 ⟨rfl, hf3⟩
  refine ⟨_, rfl, ?_⟩
  have K := K.trans hf3 jp
  have hb1 := hb1.frm hf3 jp
  by_cases hs8 : cL (qB m.p)
  ·
   refine je (Run.not rfl) (jM ?_)
   refine jk (Run.fieldAddr rfl zh rfl zae jd) ?_
   refine jk (Run.load rfl zbe (hb1.cell 1)) ?_
   refine Ops.clg rfl au (jE1 Tryz.call66) (nX m.S m.d m.ss _ (hm.s.frm K jp) hm.sn hm.sq (hv.frm K)) rfl ?_
   rintro e w4 ⟨rfl, hf4⟩
   refine ⟨_, rfl, ?_⟩
   have K := K.trans hf4 jp
   have hb1 := hb1.frm hf4 jp
   by_cases hs13 : cL m.ss
   ·
    refine jk (Run.not rfl) ?_
    refine je (Run.pickF rfl rfl au) (jM ?_)
    refine jk (Run.fieldAddr rfl zh rfl zk jd) ?_
    refine jk (Run.load rfl zu (hb1.cell 2)) ?_
    refine jk (Run.bin rfl rfl (Bin.lss _ 1)) ?_
    by_cases hs19 : m.v < 1
    ·
     refine je (Run.pickF rfl rfl au) (jM ?_)
     refine jU ?_
     refine jU ?_
     refine jU ?_
     refine je (Run.pickT rfl rfl au) (jM ?_)
     refine jU ?_
     refine jU ?_
     refine jU ?_
     refine je (Run.pickT rfl rfl au) (jM ?_)
     refine jU ?_
     refine jU ?_
     refine jU ?_
     refine je (Run.pickT rfl rfl au) (jM ?_)
     refine jU ?_
     refine jU ?_
     refine jU ?_
     refine jU ?_
     refine je (Run.pickT rfl rfl au) (jO ?_)
     refine jN ⟨(js2 (jC (by first | exact (decide_eq_true (p := ¬ cK m.p) (fun h => by obtain ⟨h1, h2, h3, h4, h5, h6, h7⟩ := hH.1 h; first | exact absurd h1 hs8 | exact absurd h2 hs13 | omega)).symm | (rw [decide_eq_false hs39]; exact (decide_eq_true (p := ¬ cK m.p) (fun h => hs39 (hH.1 h).2.2.2.2.2.2)).symm) | (rw [decide_eq_true hs39]; exact (decide_eq_false (p := ¬ cK m.p) (fun h => h (hH.2 ⟨hs8, hs13, jo, jo, jo, jo, hs39⟩))).symm))) rfl), (⟨K, hb1⟩)⟩
    refine je (Run.pickF rfl rfl au) (jM ?_)
    refine jk (Run.fieldAddr rfl zh rfl zk jd) ?_
    refine jk (Run.load rfl zu (hb1.cell 2)) ?_
    refine jk (Run.bin rfl rfl (Bin.gtr _ 2147483647)) ?_
    by_cases hs24 : 2147483647 < m.v
    ·
     refine je (Run.pickF rfl rfl au) (jM ?_)
     refine jU ?_
     refine jU ?_
     refine jU ?_
     refine je (Run.pickT rfl rfl au) (jM ?_)
     refine jU ?_
     refine jU ?_
     refine jU ?_
     refine je (Run.pickT rfl rfl au) (jM ?_)
     refine jU ?_
     refine jU ?_
     refine jU ?_
     refine jU ?_
     refine je (Run.pickT rfl rfl au) (jO ?_)
     refine jN ⟨(js2 (jC (by first | exact (decide_eq_true (p := ¬ cK m.p) (fun h => by obtain ⟨h1, h2, h3, h4, h5, h6, h7⟩ := hH.1 h; first | exact absurd h1 hs8 | exact absurd h2 hs13 | omega)).symm | (rw [decide_eq_false hs39]; exact (decide_eq_true (p := ¬ cK m.p) (fun h => hs39 (hH.1 h).2.2.2.2.2.2)).symm) | (rw [decide_eq_true hs39]; exact (decide_eq_false (p := ¬ cK m.p) (fun h => h (hH.2 ⟨hs8, hs13, jo, jo, jo, jo, hs39⟩))).symm))) rfl), (⟨K, hb1⟩)⟩
    refine je (Run.pickF rfl rfl au) (jM ?_)
    refine jk (Run.fieldAddr rfl zh rfl zk jd) ?_
    refine jk (Run.load rfl zu (hb1.cell 3)) ?_
    refine jk (Run.bin rfl rfl (Bin.lss _ 0)) ?_
    by_cases hs29 : m.b < 0
    ·
     refine je (Run.pickF rfl rfl au) (jM ?_)
     refine jU ?_
     refine jU ?_
     refine jU ?_
     refine je (Run.pickT rfl rfl au) (jM ?_)
     refine jU ?_
     refine jU ?_
     refine jU ?_
     refine jU ?_
     refine je (Run.pickT rfl rfl au) (jO ?_)
     refine jN ⟨(js2 (jC (by first | exact (decide_eq_true (p := ¬ cK m.p) (fun h => by obtain ⟨h1, h2, h3, h4, h5, h6, h7⟩ := hH.1 h; first | exact absurd h1 hs8 | exact absurd h2 hs13 | omega)).symm | (rw [decide_eq_false hs39]; exact (decide_eq_true (p := ¬ cK m.p) (fun h => hs39 (hH.1 h).2.2.2.2.2.2)).symm) | (rw [decide_eq_true hs39]; exact (decide_eq_false (p := ¬ cK m.p) (fun h => h (hH.2 ⟨hs8, hs13, jo, jo, jo, jo, hs39⟩))).symm))) rfl), (⟨K, hb1⟩)⟩
    refine je (Run.pickF rfl rfl au) (jM ?_)
    refine jk (Run.fieldAddr rfl zh rfl zk jd) ?_
    refine jk (Run.load rfl zu (hb1.cell 3)) ?_
    refine jk (Run.bin rfl rfl (Bin.gtr _ 2147483647)) ?_
    by_cases hs34 : 2147483647 < m.b
    ·
     refine je (Run.pickF rfl rfl au) (jM ?_)
     refine jU ?_
     refine jU ?_
     refine jU ?_
     refine jU ?_
     refine je (Run.pickT rfl rfl au) (jO ?_)
     refine jN ⟨(js2 (jC (by first | exact (decide_eq_true (p := ¬ cK m.p) (fun h => by obtain ⟨h1, h2, h3, h4, h5, h6, h7⟩ := hH.1 h; first | exact absurd h1 hs8 | exact absurd h2 hs13 | omega)).symm | (rw [decide_eq_false hs39]; exact (decide_eq_true (p := ¬ cK m.p) (fun h => hs39 (hH.1 h).2.2.2.2.2.2)).symm) | (rw [decide_eq_true hs39]; exact (decide_eq_false (p := ¬ cK m.p) (fun h => h (hH.2 ⟨hs8, hs13, jo, jo, jo, jo, hs39⟩))).symm))) rfl), (⟨K, hb1⟩)⟩
    refine je (Run.pickF rfl rfl au) (jM ?_)
    refine jk (Run.loadA rfl zc zb hb1.cells (by first | rfl | (simp; done))) ?_
    refine Ops.clg rfl au (jE1 Tryz.call55) (jJ m _ (hm.frm K)) rfl ?_
    rintro e w5 ⟨Bw5, dw5, rfl, how5, _, hfw5⟩
    refine ⟨_, rfl, ?_⟩
    have K := K.trans hfw5 jp
    have hb1 := hb1.frm hfw5 jp
    have hct := pL Bw5 dw5 (qB m.p) qF _ (by rw [hnl]; exact how5.rd) jo
    rw [hnl] at hct
    refine Ops.clg rfl au (jE2 Tryz.call67) (hct) rfl ?_
    rintro e _ ⟨rfl, rfl⟩
    refine ⟨_, rfl, ?_⟩
    by_cases hs39 : qF ∈ qB m.p
    ·
     refine jk (Run.not rfl) ?_
     refine je (Run.pickF rfl rfl au) (jO ?_)
     refine jN ⟨(js2 (jC (by first | exact (decide_eq_true (p := ¬ cK m.p) (fun h => by obtain ⟨h1, h2, h3, h4, h5, h6, h7⟩ := hH.1 h; first | exact absurd h1 hs8 | exact absurd h2 hs13 | omega)).symm | (rw [decide_eq_false hs39]; exact (decide_eq_true (p := ¬ cK m.p) (fun h => hs39 (hH.1 h).2.2.2.2.2.2)).symm) | (rw [decide_eq_true hs39]; exact (decide_eq_false (p := ¬ cK m.p) (fun h => h (hH.2 ⟨hs8, hs13, jo, jo, jo, jo, hs39⟩))).symm))) rfl), (⟨K, hb1⟩)⟩
    refine jk (Run.not rfl) ?_
    refine je (Run.pickF rfl rfl au) (jO ?_)
    refine jN ⟨(js2 (jC (by first | exact (decide_eq_true (p := ¬ cK m.p) (fun h => by obtain ⟨h1, h2, h3, h4, h5, h6, h7⟩ := hH.1 h; first | exact absurd h1 hs8 | exact absurd h2 hs13 | omega)).symm | (rw [decide_eq_false hs39]; exact (decide_eq_true (p := ¬ cK m.p) (fun h => hs39 (hH.1 h).2.2.2.2.2.2)).symm) | (rw [decide_eq_true hs39]; exact (decide_eq_false (p := ¬ cK m.p) (fun h => h (hH.2 ⟨hs8, hs13, jo, jo, jo, jo, hs39⟩))).symm))) rfl), (⟨K, hb1⟩)⟩
   refine jk (Run.not rfl) ?_
   refine je (Run.pickF rfl rfl au) (jM ?_)
   refine jU ?_
   refine jU ?_
   refine jU ?_
   refine je (Run.pickT rfl rfl au) (jM ?_)
   refine jU ?_
   refine jU ?_
   refine jU ?_
   refine je (Run.pickT rfl rfl au) (jM ?_)
   refine jU ?_
   refine jU ?_
   refine jU ?_
   refine je (Run.pickT rfl rfl au) (jM ?_)
   refine jU ?_
   refine jU ?_
   refine jU ?_
   refine je (Run.pickT rfl rfl au) (jM ?_)
   refine jU ?_
   refine jU ?_
   refine jU ?_
   refine jU ?_
   refine je (Run.pickT rfl rfl au) (jO ?_)
   refine jN ⟨(js2 (jC (by first | exact (decide_eq_true (p := ¬ cK m.p) (fun h => by obtain ⟨h1, h2, h3, h4, h5, h6, h7⟩ := hH.1 h; first | exact absurd h1 hs8 | exact absurd h2 hs13 | omega)).symm | (rw [decide_eq_false hs39]; exact (decide_eq_true (p := ¬ cK m.p) (fun h => hs39 (hH.1 h).2.2.2.2.2.2)).symm) | (rw [decide_eq_true hs39]; exact (decide_eq_false (p := ¬ cK m.p) (fun h => h (hH.2 ⟨hs8, hs13, jo, jo, jo, jo, hs39⟩))).symm))) rfl), (⟨K, hb1⟩)⟩
  refine je (Run.not rfl) (jM ?_)
  refine jU ?_
  refine jU ?_
  refine jU ?_
  refine jU ?_
  refine je (Run.pickT rfl rfl au) (jM ?_)
  refine jU ?_
  refine jU ?_
  refine jU ?_
  refine je (Run.pickT rfl rfl au) (jM ?_)
  refine jU ?_
  refine jU ?_
  refine jU ?_
  refine je (Run.pickT rfl rfl au) (jM ?_)
  refine jU ?_
  refine jU ?_
  refine jU ?_
  refine je (Run.pickT rfl rfl au) (jM ?_)
  refine jU ?_
  refine jU ?_
  refine jU ?_
  refine je (Run.pickT rfl rfl au) (jM ?_)
  refine jU ?_
  refine jU ?_
  refine jU ?_
  refine jU ?_
  refine je (Run.pickT rfl rfl au) (jO ?_)
  refine jN ⟨(js2 (jC (by first | exact (decide_eq_true (p := ¬ cK m.p) (fun h => by obtain ⟨h1, h2, h3, h4, h5, h6, h7⟩ := hH.1 h; first | exact absurd h1 hs8 | exact absurd h2 hs13 | omega)).symm | (rw [decide_eq_false hs39]; exact (decide_eq_true (p := ¬ cK m.p) (fun h => hs39 (hH.1 h).2.2.2.2.2.2)).symm) | (rw [decide_eq_true hs39]; exact (decide_eq_false (p := ¬ cK m.p) (fun h => h (hH.2 ⟨hs8, hs13, jo, jo, jo, jo, hs39⟩))).symm))) rfl), (⟨K, hb1⟩)⟩
 intro Γ wz hΓ ⟨K, hb1⟩
 refine jN (VC.sub _ hΓ ?_)
 refine jD rfl (fun hc1 => ?_) fun hc1 => ?_
 ·
  refine jS (jR (ja rfl (jO (jN (jv1 2 ?_)))))
  refine jT ?_
  refine qZ (qL rfl ?_)
  exact ⟨by rw [decide_eq_false (fun h => hc1 (hMi.1 h).1)], K⟩
 have hc1 := Classical.not_not.1 hc1
 obtain ⟨_, _, hv1, hv2, hb0, hb2, _⟩ := hH.1 hc1
 obtain ⟨nb, hnb⟩ : ∃ nb : Nat, m.b = (nb : Int) := ⟨m.b.toNat, jo⟩
 refine jQ (jN (jv1 1 ?_))
 refine jS (jR ?_)
 refine Ops.m (qJ.makeMap (k := 3) (enc := nC)) rfl ?_
 rintro _ w6 ⟨rfl, hmp, hf6, hs6⟩
 have hmp : MpF Tryz.prog 3 nC w6 wz.heap.size (MvF ([])) := by rw [← qXg]; exact hmp
 have hgm : w.heap.size ≤ wz.heap.size := K.size
 have K := K.trans hf6 jp
 have hb1 := hb1.frm hf6 jp
 generalize hgg : wz.heap.size = gm at hmp hgm ⊢
 refine ja rfl (jO (jN (jv2 1 3 ?_)))
 refine jS (jS (jR (jf rfl zh rfl zad (jl rfl zaz (hb1.cell 0) (je (Run.lenS rfl zf) ?_)))))
 refine jx .i64 0 ?_
 refine jO (jN (jv5 1 3 44 45 46 ?_))
 refine jB ?_
 refine VC.loop (σ := Nat) (fun s => [(1, .pointer (some ⟨g1, 0, none⟩)), (3, .map (some gm)), (44, .slice m.A m.l.length m.c), (45, .int .i64 ((m.l.length : Nat) : Int)), (46, .int .i64 ((s : Nat) : Int))]) (fun s wr => s ≤ m.l.length ∧ Blk wr g1 25 #[.slice m.A m.l.length m.c, .slice m.S m.ss.length m.d, .int .i64 m.v, .int .i64 m.b] ∧ MpF Tryz.prog 3 nC wr gm (MvF ((m.l.take s).map Nc.v)) ∧ (∀ j (h : j < m.l.length), j < s → rD m j m.l[j]) ∧ Frm [] w wr) (fun s => m.l.length - s) 0 (js5 rfl rfl rfl rfl rfl) ⟨zal _, hb1, by simpa using hmp, fun _ _ h => jo, K⟩ ?_
 rintro i wr ⟨hi, hb1, hmp, hd, K⟩
 refine jS (jR (jb rfl rfl (Bin.lssN _ _) (jO (jN (jS ?_)))))
 refine jD rfl (fun hc2 => ?_) fun hc2 => ?_
 ·
  obtain ⟨ad, hA, hel⟩ := (hm.l.frm K).elem hc2
  have hxa := (hm.l.frm K).el _ (zm hc2)
  have hxm := zm hc2
  have hts : (m.l.take (i + 1)).map Nc.v = (m.l.take i).map Nc.v ++ [(m.l[i]).v] := by rw [zas, ze hc2, zbi]; rfl
  generalize hx : m.l[i] = x at *
  obtain ⟨vs, hvs⟩ : ∃ vs, vs = (m.l.take i).map Nc.v := ⟨_, rfl⟩
  rw [← hvs] at hmp hts
  have hBC : rD m i x ↔ ((bR ⟨x.v, x.n, Ms x.l⟩ ∧ x.v ≤ m.v ∧ x.v ∉ vs) ∧ ∀ y ∈ x.l, (y.m.blob : Int) ≤ m.b) := by rw [hvs]; exact Iff.rfl
  refine jQ (jN (jv5 1 3 44 45 46 ?_))
  refine jS (jB (jS (jR (je (Run.indexS i (show _ = some (Value.slice (some ad) m.l.length m.c) by rw [← hA]; rfl) rfl zf zt hc2) (je (Run.loadA rfl zef zt hel (by first | rfl | (simp; done))) ?_)))))
  refine Ops.m (qJ.alloc dV) rfl ?_
  rintro _ w2 ⟨rfl, hF2⟩
  have hg5 : w.heap.size ≤ wr.heap.size := K.size
  refine Ops.st (qK.storeA rfl rfl zt hF2.blk rfl x.cells_one) ?_
  rintro w3 ⟨hb5, hf3, hs3⟩
  have hb5 : Blk w3 wr.heap.size 45 #[encStr x.nm, .int .i64 x.v, .int .i64 x.n, .slice x.A x.l.length x.c] := hb5
  have K3 : Frm [] wr w3 := hF2.frm.trans hf3 jp
  have K := K.trans K3 jp
  have hb1 := hb1.frm K3 jp
  have hmp := hmp.frm K3 jp
  have hxa := hxa.frm K3
  generalize hgg5 : wr.heap.size = g5 at hb5 hg5 ⊢
  refine jO (jN (jv6 1 3 5 44 45 46 ?_))
  refine jS (jS ?_)
  refine VC.splitR [(1, .pointer (some ⟨g1, 0, none⟩)), (3, .map (some gm)), (5, .pointer (some ⟨g5, 0, none⟩)), (44, .slice m.A m.l.length m.c), (45, .int .i64 ((m.l.length : Nat) : Int)), (46, .int .i64 ((i : Nat) : Int))] (fun wz => Frm [] w wz ∧ Blk wz g1 25 #[.slice m.A m.l.length m.c, .slice m.S m.ss.length m.d, .int .i64 m.v, .int .i64 m.b] ∧ Blk wz g5 45 #[encStr x.nm, .int .i64 x.v, .int .i64 x.n, .slice x.A x.l.length x.c] ∧ MpF Tryz.prog 3 nC wz gm (MvF (vs)) ∧ x.At wz) 68 (.bool (decide (¬ (bR ⟨x.v, x.n, Ms x.l⟩ ∧ x.v ≤ m.v ∧ x.v ∉ vs)))) ?_ ?_
  ·
   refine jR (jf rfl zag rfl zj (je (Run.loadA rfl zai zj (hb5.sub 1 (BVc x.v x.n x.A x.l.length x.c) rfl) (by first | rfl | (simp; done))) ?_))
   refine Ops.cl (jE1 Tryz.call68) (nU x.v x.n x.A x.c x.l _ hxa.rd) rfl ?_
   rintro e w7 ⟨rfl, hf7⟩
   refine ⟨_, rfl, ?_⟩
   have K := K.trans hf7 jp
   have hb1 := hb1.frm hf7 jp
   have hb5 := hb5.frm hf7 jp
   have hmp := hmp.frm hf7 jp
   have hxa := hxa.frm hf7
   by_cases hs52 : bR ⟨x.v, x.n, Ms x.l⟩
   ·
    refine je (Run.not rfl) (jM ?_)
    refine jk (Run.fieldAddr rfl zag rfl zj jd) ?_
    refine jk (Run.fieldAddr rfl zr rfl zk jd) ?_
    refine jk (Run.load rfl zu (show _ = some (Value.int .i64 x.v) from hb5.cell 1)) ?_
    refine jk (Run.fieldAddr rfl zh rfl zk jd) ?_
    refine jk (Run.load rfl zu (show _ = some (Value.int .i64 m.v) from hb1.cell 2)) ?_
    refine jk (Run.bin rfl rfl (Bin.gtr _ _)) ?_
    by_cases hs60 : m.v < x.v
    ·
     refine je (Run.pickF rfl rfl au) (jM ?_)
     refine jU ?_
     refine jU ?_
     refine jU ?_
     refine jU ?_
     refine jU ?_
     refine je (Run.pickT rfl rfl au) (jO ?_)
     refine jN ⟨(js7 (jC (by first | exact (decide_eq_true (p := ¬ (bR ⟨x.v, x.n, Ms x.l⟩ ∧ x.v ≤ m.v ∧ x.v ∉ vs)) (fun h => by have h1 := h.1; have h2 := h.2.1; first | exact hs52 h1 | omega)).symm | (rw [decide_eq_true hs67]; exact (decide_eq_true (p := ¬ (bR ⟨x.v, x.n, Ms x.l⟩ ∧ x.v ≤ m.v ∧ x.v ∉ vs)) (fun h => h.2.2 hs67)).symm) | (rw [decide_eq_false hs67]; exact (decide_eq_false (p := ¬ (bR ⟨x.v, x.n, Ms x.l⟩ ∧ x.v ≤ m.v ∧ x.v ∉ vs)) (fun h => h ⟨hs52, jo, hs67⟩)).symm))) rfl rfl rfl rfl rfl rfl), (⟨K, hb1, hb5, hmp, hxa⟩)⟩
    refine je (Run.pickF rfl rfl au) (jM ?_)
    refine jG ?_
    refine jk (Run.fieldAddr rfl zag rfl zj jd) ?_
    refine jk (Run.fieldAddr rfl zr rfl zk jd) ?_
    refine jk (Run.load rfl zu (show _ = some (Value.int .i64 x.v) from hb5.cell 1)) ?_
    refine jk (Run.lookup (enc := nC) (x := x.v) rfl rfl hmp (Go.Maps.int_keyed zac) Tryz.underlying101 qZr (tD _ (by have := hs52.1; dsimp only at this; omega))) ?_
    rw [qXh]
    by_cases hs67 : x.v ∈ vs
    ·
     refine je (Run.pickF rfl rfl au) (jO ?_)
     refine jN ⟨(js7 (jC (by first | exact (decide_eq_true (p := ¬ (bR ⟨x.v, x.n, Ms x.l⟩ ∧ x.v ≤ m.v ∧ x.v ∉ vs)) (fun h => by have h1 := h.1; have h2 := h.2.1; first | exact hs52 h1 | omega)).symm | (rw [decide_eq_true hs67]; exact (decide_eq_true (p := ¬ (bR ⟨x.v, x.n, Ms x.l⟩ ∧ x.v ≤ m.v ∧ x.v ∉ vs)) (fun h => h.2.2 hs67)).symm) | (rw [decide_eq_false hs67]; exact (decide_eq_false (p := ¬ (bR ⟨x.v, x.n, Ms x.l⟩ ∧ x.v ≤ m.v ∧ x.v ∉ vs)) (fun h => h ⟨hs52, jo, hs67⟩)).symm))) rfl rfl rfl rfl rfl rfl), (⟨K, hb1, hb5, hmp, hxa⟩)⟩
    refine je (Run.pickF rfl rfl au) (jO ?_)
    refine jN ⟨(js7 (jC (by first | exact (decide_eq_true (p := ¬ (bR ⟨x.v, x.n, Ms x.l⟩ ∧ x.v ≤ m.v ∧ x.v ∉ vs)) (fun h => by have h1 := h.1; have h2 := h.2.1; first | exact hs52 h1 | omega)).symm | (rw [decide_eq_true hs67]; exact (decide_eq_true (p := ¬ (bR ⟨x.v, x.n, Ms x.l⟩ ∧ x.v ≤ m.v ∧ x.v ∉ vs)) (fun h => h.2.2 hs67)).symm) | (rw [decide_eq_false hs67]; exact (decide_eq_false (p := ¬ (bR ⟨x.v, x.n, Ms x.l⟩ ∧ x.v ≤ m.v ∧ x.v ∉ vs)) (fun h => h ⟨hs52, jo, hs67⟩)).symm))) rfl rfl rfl rfl rfl rfl), (⟨K, hb1, hb5, hmp, hxa⟩)⟩
   refine je (Run.not rfl) (jM ?_)
   refine jU ?_
   refine jU ?_
   refine jU ?_
   refine jU ?_
   refine jU ?_
   refine jU ?_
   refine je (Run.pickT rfl rfl au) (jM ?_)
   refine jU ?_
   refine jU ?_
   refine jU ?_
   refine jU ?_
   refine jU ?_
   refine je (Run.pickT rfl rfl au) (jO ?_)
   refine jN ⟨(js7 (jC (by first | exact (decide_eq_true (p := ¬ (bR ⟨x.v, x.n, Ms x.l⟩ ∧ x.v ≤ m.v ∧ x.v ∉ vs)) (fun h => by have h1 := h.1; have h2 := h.2.1; first | exact hs52 h1 | omega)).symm | (rw [decide_eq_true hs67]; exact (decide_eq_true (p := ¬ (bR ⟨x.v, x.n, Ms x.l⟩ ∧ x.v ≤ m.v ∧ x.v ∉ vs)) (fun h => h.2.2 hs67)).symm) | (rw [decide_eq_false hs67]; exact (decide_eq_false (p := ¬ (bR ⟨x.v, x.n, Ms x.l⟩ ∧ x.v ≤ m.v ∧ x.v ∉ vs)) (fun h => h ⟨hs52, jo, hs67⟩)).symm))) rfl rfl rfl rfl rfl rfl), (⟨K, hb1, hb5, hmp, hxa⟩)⟩
  intro Γ wz2 hΓ ⟨K, hb1, hb5, hmp, hxa⟩
  refine jN (VC.sub _ hΓ ?_)
  refine jD rfl (fun hc3 => ?_) fun hc3 => ?_
  ·
   have hbad : ¬ qI m.p := fun h => by
    have := (hMi.1 h).2 i hc2
    rw [hx] at this
    exact hc3 (hBC.1 this).1
   refine jS (jR (ja rfl (jO (jN (jv1 2 ?_)))))
   refine jT ?_
   refine qZ (qC (qZ (qZ (qC (qZ (qL rfl ?_))))))
   exact ⟨by rw [decide_eq_false hbad], K⟩
  have hc3 := Classical.not_not.1 hc3
  refine jQ (jN (jv6 1 3 5 44 45 46 ?_))
  refine jS (jR (jm rfl (jf rfl zag rfl zj (jf rfl zr rfl zk (jl rfl zu (show _ = some (Value.int .i64 x.v) from hb5.cell 1) ?_)))))
  have hne1 := hmp.ne_blk hb1
  have hne5 := hmp.ne_blk hb5
  refine Ops.st (qK.mapUpd (x := x.v) rfl rfl rfl hmp (Go.Maps.int_keyed zac) zS Tryz.underlying101 (tD _ (by have := hc3.1.1; dsimp only at this; omega))) ?_
  rintro w8 ⟨hmp8, hf8, hs8⟩
  rw [zT, ← hts] at hmp8
  have K := K.own hf8 (fun y hy => by rw [za] at hy; omega)
  have hb1 := hb1.frm hf8 (fun h => hne1 (za.1 h).symm)
  have hb5 := hb5.frm hf8 (fun h => hne5 (za.1 h).symm)
  have hxa := (hm.l.el x hxm).frm K
  refine jO (jN (jv6 1 3 5 44 45 46 ?_))
  refine jS (jR (jf rfl zag rfl zj (jf rfl zr rfl zam (jl rfl zbf (hb5.cell 3) (je (Run.mkFunc evs.nil (evs.cons rfl evs.nil)) ?_)))))
  refine Ops.cl (jE2 Tryz.call69) (vW 70 [.pointer (some ⟨g1, 0, none⟩)] (fun y => decide ((nb : Int) < (y.blob : Int))) x.A x.c x.l _ hxa.rd (by have := hxa.n; omega) [] ⟨Tryz.call70, fun W y hW hy => vV y g1 nb m W (hb1.frm hW jp) hnb jo⟩) rfl ?_
  rintro e w9 ⟨rfl, hf9⟩
  refine ⟨_, rfl, ?_⟩
  have K := K.trans hf9 jp
  have hb1 := hb1.frm hf9 jp
  have hmp8 := hmp8.frm hf9 jp
  refine jO (jN (jv6 1 3 44 45 46 77 ?_))
  refine VC.condB rfl (fun hc4 => ?_) (fun hc4 => ?_)
  ·
   have hbad : ¬ qI m.p := fun h => by
    have := (hMi.1 h).2 i hc2
    rw [hx] at this
    obtain ⟨y, hy, hpy⟩ := of_decide_eq_true hc4
    have := (hBC.1 this).2 y hy
    simp only [decide_eq_true_eq] at hpy
    omega
   refine jS (jR (ja rfl (jO (jN (jv1 2 ?_)))))
   refine jT ?_
   refine qC (qZ (qZ (qC (qZ (qL rfl ?_)))))
   exact ⟨by rw [decide_eq_false hbad], K⟩
  refine jQ ?_
  refine qR (jN ?_)
  refine jv5 1 3 44 45 46 ?_
  refine jR (jb rfl rfl (Bin.add_i64 _ 1 jo) (jm rfl (jO ?_)))
  refine jN ⟨(i + 1), (js5 rfl rfl rfl rfl rfl), ?_, ?_⟩
  ·
   refine ⟨hc2, hb1, hmp8, fun j hj h => ?_, K⟩
   by_cases e : j = i
   ·
    subst e
    rw [hx]
    refine hBC.2 ⟨hc3, fun y hy => ?_⟩
    rcases Int.lt_or_le m.b (y.m.blob : Int) with h2 | h2
    · exact absurd ⟨y, hy, decide_eq_true jo⟩ (of_decide_eq_false hc4)
    exact h2
   exact hd j hj jo
  first | omega | (dsimp only; omega)
 refine jX ?_
 refine qT (qT (bZ ?_))
 refine jN ?_
 refine VC.sub [] .nil ?_
 refine jS (jR (ja rfl (jO (jN (jT ?_)))))
 refine qL rfl ?_
 exact ⟨by rw [decide_eq_true (hMi.2 ⟨hc1, fun j hj => hd j hj jo⟩)], K⟩
end
section
open Go.RowKit Go.Sort
theorem OwM.set {w w' : World} {A : Option Addr} {d i : Nat} {l : List Mc} {x : Mc} (h : OwM w A d l) (ho : Own w' 60 6 A l.length d (MC (l.set i x))) (k : Frm (ob A) w w') (hx : Own w 9 1 x.A x.m.flags.length x.c (SB x.m.flags)) (hf : x.m.flags.length ≤ 500000 ∧ ∀ q ∈ x.m.flags, q.length ≤ 1000000) : OwM w' A d (l.set i x) := by
 refine ⟨by rw [zcd]; exact ho, fun y hy => ?_, fun y hy => ?_⟩
 ·
  rcases zel hy with h1 | h1
  · exact (h.fl y h1).frm k ((h.fl y h1).ne_own h.own jd)
  subst h1; exact hx.frm k (hx.ne_own h.own jd)
 rcases zel hy with h1 | h1
 · exact h.fit y h1
 subst h1; exact hf
end
section
open Go.RowKit Go.Sort
def qQz (w : World) (f : FuncId) (us : List Value) (n : Nat) (q : Nat → Bool) : Prop :=
 (∀ args w, (callFunc f args).run Tryz.prog w = .ok (.enter f args) w) ∧ ∀ W (i : Nat), Frm [] w W → i < n → Calls Tryz.prog f (Value.int .i64 ((i : Nat) : Int) :: us).toArray W fun e w' => e = .returned (.bool (q i)) ∧ Frm [] W w'
theorem sI (f : FuncId) (us : List Value) (n : Nat) (q : Nat → Bool) (w : World) (hn : n ≤ 1000000) (hp : qQz w f us n q) (hq : ∀ i j, i ≤ j → j < n → q i = true → q j = true) :
  Calls Tryz.prog 102 #[.int .i64 ((n : Nat) : Int), .func (.func f) #[] us.toArray] w fun e w' => Frm [] w w' ∧ ∃ k : Nat, e = .returned (.int .i64 ((k : Nat) : Int)) ∧ k ≤ n ∧ (∀ j, j < k → q j = false) ∧ ∀ j, k ≤ j → j < n → q j = true := by
 refine VC.calls (nt := 26) (res := #[.tmp 4]) Tryz.func102 rfl Tryz.ntmps102 Tryz.results102 rfl ?_
 refine jS (jR (jz 0 (jO (jN (jv2 0 1 ?_)))))
 refine jS (jR (jm rfl (jz 0 (ja rfl (jO (jN (jv3 1 5 6 ?_)))))))
 refine jS (jB ?_)
 refine VC.loop (σ := Nat × Nat) (fun s => [(1, .func (.func f) #[] us.toArray), (5, .int .i64 ((s.1 : Nat) : Int)), (6, .int .i64 ((s.2 : Nat) : Int))]) (fun s wr => s.1 ≤ s.2 ∧ s.2 ≤ n ∧ (∀ j, j < s.1 → q j = false) ∧ (∀ j, s.2 ≤ j → j < n → q j = true) ∧ Frm [] w wr) (fun s => s.2 - s.1) (0, n) (js3 rfl rfl rfl) ⟨by dsimp only; omega, by dsimp only; omega, jp, fun j h1 h2 => by dsimp only at h1; omega, Frm.refl _ _⟩ ?_
 rintro ⟨i, j⟩ wr ⟨hij, hjn, h1, h2, hfr⟩
 dsimp only at hij hjn h1 h2 ⊢
 refine jS (jS (jR (jm rfl (jm rfl (jb rfl rfl (Bin.lssN _ _) (jO (jN (jv4 1 5 6 11 ?_))))))))
 refine jD rfl (fun hc1 => ?_) fun hc1 => ?_
 ·
  refine jQ (jN (jv3 1 5 6 ?_))
  refine jB (jS (jR (jm rfl (jm rfl (jb rfl rfl (Bin.add_i64 _ _ jo) (je (Run.convN _ rfl zac zde (by simp only [bmax]; omega)) ?_))))))
  have hh : (i + j) / 2 ^ 1 = (i + j) / 2 := rfl
  have hmid : i ≤ (i + j) / 2 := jo
  refine jb rfl rfl (Bin.shr_u64 _ 1 jo) (je (Run.convN _ rfl zde zac (by simp only [bmax]; omega)) (ja rfl (jO (jN (jv4 1 5 6 7 ?_)))))
  refine jS (jR (jm rfl (jM ?_)))
  refine Ops.cl (bN.dyn rfl (evs.cons rfl evs.nil) hp.1) (hp.2 _ ((i + j) / 2) hfr jo) rfl ?_
  rintro e w2 ⟨rfl, hf2⟩
  refine ⟨_, rfl, ?_⟩
  have hfr2 := hfr.trans hf2 jp
  refine je (Run.not rfl) (jO (jN (jv5 1 5 6 7 21 ?_)))
  refine VC.condB rfl (fun hc2 => ?_) (fun hc2 => ?_)
  ·
   refine jR (jm rfl (jb rfl rfl (Bin.add_i64 _ 1 jo) (ja rfl (jO ?_))))
   refine qR (jN ⟨((i + j) / 2 + 1, j), (js3 rfl rfl rfl), ?_, ?_⟩)
   ·
    have hqf : q ((i + j) / 2) = false := by simpa using hc2
    refine ⟨by dsimp only; omega, hjn, fun k hk => ?_, h2, hfr2⟩
    cases hqk : q k with
    | false => rfl
    | true =>
     have := hq k ((i + j) / 2) (by dsimp only at hk; omega) jo hqk
     rw [hqf] at this; cases this
   first | omega | (dsimp only; omega)
  refine jR (jm rfl (ja rfl (jO ?_)))
  refine qR (jN ⟨(i, (i + j) / 2), (js3 rfl rfl rfl), ?_, ?_⟩)
  ·
   have hqt : q ((i + j) / 2) = true := by simpa using hc2
   exact ⟨by dsimp only; omega, by dsimp only; omega, h1, fun k hk1 hk2 => hq _ k hk1 hk2 hqt, hfr2⟩
  first | omega | (dsimp only; omega)
 refine jX ?_
 refine qT (qT (bZ ?_))
 refine jN (jv1 5 ?_)
 refine jS (jR (jm rfl (ja rfl (jO (jN (jv1 4 ?_))))))
 refine jT ?_
 refine qL rfl ?_
 have hij2 : i = j := jo
 subst hij2
 exact ⟨hfr, i, rfl, hjn, h1, h2⟩
theorem qZt {v n : Int} {l : List MsgP} (h : bR ⟨v, n, l⟩) : ∀ i j (hi : i < l.length) (hj : j < l.length), i < j → l[i].uid < l[j].uid := by
 intro i j
 induction j with
 | zero => intro _ _ h; omega
 | succ j ih =>
  intro hi hj hij
  have h1 := (h.2 (j + 1) hj).1
  have e : gV l (j + 1) = l[j].uid := by simp [gV, ze (jo : j < l.length)]
  have h2 : l[j].uid < l[j + 1].uid := by rw [← e]; exact h1
  rcases zcq i j with h3 | h3
  ·
   have := ih hi jo h3
   omega
  obtain rfl : i = j := jo
  exact h2
end
section
open Go.RowKit Go.Sort
theorem dZ (m : MlC) {i : Nat} (h : i < m.l.length) (h2 : i < m.p.l.length) : m.p.l[i] = (m.l[i]).p := zbj _
theorem dJ (m : MlC) : m.p.l.length = m.l.length := cR m.l
theorem sL (i g1 g2 : Nat) (t : Tx) (m : MlC) (w : World) (hi : i < m.l.length) (hb1 : Blk w g1 25 #[.slice m.A m.l.length m.c, .slice m.S m.ss.length m.d, .int .i64 m.v, .int .i64 m.b]) (hb2 : Blk w g2 9 #[encStr t]) (hl : RdN w m.A m.l) :
  Calls Tryz.prog 103 #[.int .i64 ((i : Nat) : Int), .pointer (some ⟨g1, 0, none⟩), .pointer (some ⟨g2, 0, none⟩)] w fun e w' => e = .returned (.bool (!decide ((m.l[i]).nm < t))) ∧ Frm [] w w' := by
 have hd := bJ.drew w
 have hb1 := hb1.drawn hd
 have hb2 := hb2.drawn hd
 obtain ⟨ad, hA, hel⟩ := (hl.frm hd.frm).elem hi
 generalize hx : m.l[i] = x at *
 refine VC.calls (nt := 13) (res := #[.tmp 4]) Tryz.func103 rfl Tryz.ntmps103 Tryz.results103 rfl ?_
 refine jS (jR (ja rfl (jO (jN (jv3 0 1 2 ?_)))))
 refine jS ?_
 refine VC.still jK jK ?_
 refine qE (Run.fieldAddr rfl zh rfl zad jd) ?_
 refine qE (Run.load rfl zaz (hb1.cell 0)) ?_
 refine qM ?_
 refine qE (Run.indexS i (show _ = some (Value.slice (some ad) m.l.length m.c) by rw [← hA]; rfl) rfl zf zt hi) ?_
 refine qE (Run.fieldAddr rfl zag rfl zl jd) ?_
 refine qE (Run.load rfl zab (hel 0 (encStr x.nm) rfl)) ?_
 refine qE (Run.load rfl zab (hb2.cell 0)) ?_
 refine qE (Run.geqT rfl rfl) ?_
 refine qA ?_
 refine bV.nil ?_
 refine jN (jv1 4 ?_)
 refine jT ?_
 refine qL rfl ?_
 exact ⟨rfl, hd.frm⟩
theorem bE (m : MlC) (s : Tx) (w : World) (hl : RdN w m.A m.l) (hln : m.l.length ≤ 1000000) (hs : s.length ≤ 1000000) (hr : bW m.p.l) (hv : cX w) :
  Calls Tryz.prog 46 #[m.val, encStr s] w fun e w' => ∃ k : Nat, e = .returned (.tuple #[.int .i64 ((k : Nat) : Int), .bool (decide (qQ s ∈ qB m.p))]) ∧ eG m.p.l (qQ s) k ∧ Frm [] w w' := by
 have hpl := dJ m
 refine VC.calls (nt := 30) (res := #[.tmp 4, .tmp 5]) Tryz.func46 rfl Tryz.ntmps46 Tryz.results46 rfl ?_
 refine jS (jR ?_)
 refine Ops.m (qJ.box rfl) rfl ?_
 rintro _ w1 ⟨rfl, hF_w1⟩
 have hb1 : Blk w1 w.heap.size 25 #[.slice m.A m.l.length m.c, .slice m.S m.ss.length m.d, .int .i64 m.v, .int .i64 m.b] := hF_w1.blk
 have K := hF_w1.frm
 generalize hg1 : w.heap.size = g1 at hb1 ⊢
 refine Ops.m (qJ.box rfl) rfl ?_
 rintro _ w2 ⟨rfl, hF2⟩
 have hb2 : Blk w2 w1.heap.size 9 #[encStr s] := hF2.blk
 have hb1 := hb1.frm hF2.frm jp
 have hg2 : w.heap.size ≤ w1.heap.size := K.size
 have hlt := hb1.lt
 have hne : g1 ≠ w1.heap.size := fun e => by have h1 := hF_w1.size; omega
 have K := K.trans hF2.frm jp
 generalize hgg2 : w1.heap.size = g2 at hb2 hg2 hne ⊢
 refine jz 0 (ja rfl (jO (jN (jv2 2 3 ?_))))
 refine jS (jR (jl rfl zab (hb2.cell 0) ?_))
 refine Ops.cl (jE1 zbz) (bS s _ hs (hv.frm K)) rfl ?_
 rintro e w3 ⟨rfl, hf3⟩
 refine ⟨_, rfl, ?_⟩
 have K := K.trans hf3 jp
 have hb1 := hb1.frm hf3 jp
 have hb2 := hb2.frm hf3 jp
 refine Ops.st (qK.store rfl rfl zl hb2 rfl rfl) ?_
 rintro w4 ⟨hb2, hf4, hs4⟩
 have hb2 : Blk w4 g2 9 #[encStr (qQ s)] := hb2
 have K := K.own hf4 (fun y hy => by rw [za] at hy; omega)
 have hb1 := hb1.frm hf4 (fun h => hne (za.1 h))
 generalize htt : qQ s = t at *
 have hTI : qQz w4 103 [.pointer (some ⟨g1, 0, none⟩), .pointer (some ⟨g2, 0, none⟩)] m.l.length (fun i => if h : i < m.l.length then !decide ((m.l[i]).nm < t) else true) := ⟨Tryz.call103, fun W i hW hi => by
  have h := sL i g1 g2 t m W hi (hb1.frm hW jp) (hb2.frm hW jp) (hl.frm (K.trans hW jp))
  simpa [hi] using h⟩
 have hmo : ∀ i j, i ≤ j → j < m.l.length → (fun i => if h : i < m.l.length then !decide ((m.l[i]).nm < t) else true) i = true → (fun i => if h : i < m.l.length then !decide ((m.l[i]).nm < t) else true) j = true := fun i j hij hj hi => by
  have hi' : i < m.l.length := jo
  simp only [hi', hj, dif_pos, zck, decide_eq_false_iff_not] at hi ⊢
  by_cases e : i = j
  · subst e; exact hi
  intro h2
  have h3 := eE hr (i := i) (j := j) jo jo jo
  rw [dZ m hi' jo, dZ m hj jo] at h3
  exact hi (cH h3 h2)
 refine jO (jN (jv2 2 3 ?_))
 refine jS (jR (jf rfl zh rfl zad (jl rfl zaz (hb1.cell 0) (je (Run.lenS rfl zf) (je (Run.mkFunc evs.nil (evs.cons rfl (evs.cons rfl evs.nil))) ?_)))))
 refine Ops.cl (jE2 Tryz.call102) (sI 103 [.pointer (some ⟨g1, 0, none⟩), .pointer (some ⟨g2, 0, none⟩)] m.l.length _ _ hln hTI hmo) rfl ?_
 rintro e w5 ⟨hf5, k, rfl, hk, h1, h2⟩
 refine ⟨_, rfl, ?_⟩
 have K0 := K.trans hf5 jp
 have hd := bJ.drew w5
 have hb1 := (hb1.frm hf5 jp).drawn hd
 have hb2 := (hb2.frm hf5 jp).drawn hd
 have K := K0.drawn hd
 have hpos : eG m.p.l t k := ⟨jo, fun j hj hjk => by
  have h3 := h1 j hjk
  have hj' : j < m.l.length := jo
  simp only [hj', dif_pos, Bool.not_eq_false', decide_eq_true_eq] at h3
  rw [dZ m hj' hj]; exact h3, fun j hj hkj => by
  have hj' : j < m.l.length := jo
  have h3 := h2 j hkj hj'
  simp only [hj', dif_pos, zck, decide_eq_false_iff_not] at h3
  rw [dZ m hj' hj]; exact h3⟩
 have hth := jZ hr hpos
 refine ja rfl (jO (jN (jv3 2 3 6 ?_)))
 refine jS ?_
 refine VC.splitR [(4, .int .i64 ((k : Nat) : Int))] (bJ w5) 5 (.bool (decide (t ∈ qB m.p))) ?_ ?_
 ·
  refine VC.still jK jK ?_
  refine qM ?_
  refine qM ?_
  refine qE (Run.fieldAddr rfl zh rfl zad jd) ?_
  refine qE (Run.load rfl zaz (hb1.cell 0)) ?_
  refine qE (Run.lenS rfl zf) ?_
  refine qE (Run.bin rfl rfl (Bin.lssN _ _)) ?_
  by_cases hs19 : k < m.l.length
  ·
   obtain ⟨ad, hA, hel⟩ := (hl.frm K).elem hs19
   refine qM ?_
   refine qG (Run.fieldAddr rfl zh rfl zad jd) ?_
   refine qG (Run.load rfl zaz (hb1.cell 0)) ?_
   refine qG (Run.mv rfl) ?_
   refine qG (Run.indexS k (show _ = some (Value.slice (some ad) m.l.length m.c) by rw [← hA]; rfl) rfl zf zt hs19) ?_
   refine qG (Run.fieldAddr rfl zag rfl zl jd) ?_
   refine qG (Run.load rfl zab (hel 0 (encStr (m.l[k]).nm) rfl)) ?_
   refine qG (Run.load rfl zab (hb2.cell 0)) ?_
   refine qG (Run.eqlT rfl rfl) ?_
   by_cases hs28 : (m.l[k]).nm = t
   ·
    refine qE (Run.pickT rfl rfl au) ?_
    refine qA ?_
    refine qA ?_
    refine bV.nil ?_
    refine jN ⟨(js2 (jC (by first | (rw [decide_eq_true hs28]; exact (decide_eq_true (hth.1 ⟨jo, by rw [dZ m hs19 jo]; exact hs28⟩)).symm) | (rw [decide_eq_false hs28]; exact (decide_eq_false (fun h => by obtain ⟨h3, h4⟩ := hth.2 h; rw [dZ m hs19 h3] at h4; exact hs28 h4)).symm) | exact (decide_eq_false (fun h => by obtain ⟨h3, h4⟩ := hth.2 h; omega)).symm)) rfl), (bJ.drew _)⟩
   refine qE (Run.pickT rfl rfl au) ?_
   refine qA ?_
   refine qA ?_
   refine bV.nil ?_
   refine jN ⟨(js2 (jC (by first | (rw [decide_eq_true hs28]; exact (decide_eq_true (hth.1 ⟨jo, by rw [dZ m hs19 jo]; exact hs28⟩)).symm) | (rw [decide_eq_false hs28]; exact (decide_eq_false (fun h => by obtain ⟨h3, h4⟩ := hth.2 h; rw [dZ m hs19 h3] at h4; exact hs28 h4)).symm) | exact (decide_eq_false (fun h => by obtain ⟨h3, h4⟩ := hth.2 h; omega)).symm)) rfl), (bJ.drew _)⟩
  refine qM ?_
  refine qU ?_
  refine qU ?_
  refine qU ?_
  refine qU ?_
  refine qU ?_
  refine qU ?_
  refine qU ?_
  refine qU ?_
  refine qE (Run.pickF rfl rfl au) ?_
  refine qA ?_
  refine qA ?_
  refine bV.nil ?_
  refine jN ⟨(js2 (jC (by first | (rw [decide_eq_true hs28]; exact (decide_eq_true (hth.1 ⟨jo, by rw [dZ m hs19 jo]; exact hs28⟩)).symm) | (rw [decide_eq_false hs28]; exact (decide_eq_false (fun h => by obtain ⟨h3, h4⟩ := hth.2 h; rw [dZ m hs19 h3] at h4; exact hs28 h4)).symm) | exact (decide_eq_false (fun h => by obtain ⟨h3, h4⟩ := hth.2 h; omega)).symm)) rfl), (bJ.drew _)⟩
 intro Γ w6 hΓ hd6
 refine jN (VC.sub _ hΓ ?_)
 refine jT ?_
 refine fJ rfl rfl ?_
 exact ⟨k, rfl, hpos, (K0.trans (by exact hd6.frm) jp)⟩
end
section
open Go.RowKit Go.Sort
theorem qXj (l : List Mc) (k : Nat) (hk : k < l.length) (C : Option Addr) (dC : Nat) (r : List Tx) : (MC l).set (k * 6 + 5) (.slice C r.length dC) = MC (l.set k ⟨{ (l[k]).m with flags := r }, C, dC⟩) := by
 apply zcz
 intro j
 have hidx := fun l' => gS Mc.cells 6 jo Mc.cells_len l' j
 have hlen := oP l
 rw [show MC (l.set k ⟨{ (l[k]).m with flags := r }, C, dC⟩) = (l.set k ⟨{ (l[k]).m with flags := r }, C, dC⟩).flatMap Mc.cells from rfl, hidx, zeu, zeu]
 have hdm : j = j / 6 * 6 + j % 6 := jo
 by_cases h2 : k * 6 + 5 = j
 ·
  have h1 : k = j / 6 := jo
  rw [if_pos h2, if_pos (by rw [hlen]; omega), if_pos h1, if_pos hk]
  have : j % 6 = 5 := jo
  rw [this]
  rfl
 rw [if_neg h2, show MC l = l.flatMap Mc.cells from rfl, hidx]
 by_cases h1 : k = j / 6
 ·
  rw [if_pos h1, if_pos hk, ← h1, ze hk]
  have : j % 6 = 0 ∨ j % 6 = 1 ∨ j % 6 = 2 ∨ j % 6 = 3 ∨ j % 6 = 4 := jo
  rcases this with h | h | h | h | h <;> rw [h] <;> rfl
 rw [if_neg h1]
theorem qX9 (l : List Mc) (k : Nat) (x : Mc) : Ms (l.set k x) = (Ms l).set k x.m := by simp [Ms, List.map_set]
theorem nD (v : Int) (w : World) : Calls Tryz.prog 82 #[.int .i64 v] w fun e w' => Frm [] w w' ∧ ((bR ⟨v, 1, []⟩ ∧ e = .returned (.tuple #[.agg #[.int .i64 v, .int .i64 1, .slice none 0 0], .int .i64 0])) ∨ (¬ bR ⟨v, 1, []⟩ ∧ e = .returned (.tuple #[.agg #[.int .i64 0, .int .i64 0, .slice none 0 0], .int .i64 1]))) := by
 refine VC.calls (nt := 12) (res := #[.cell 2 43, .tmp 3]) Tryz.func82 rfl Tryz.ntmps82 Tryz.results82 rfl ?_
 refine jS (jR ?_)
 refine Ops.m (qJ.alloc bL) rfl ?_
 rintro _ w1 ⟨rfl, hF2⟩
 have hb2 := hF2.blk
 have hf2 := hF2.frm
 have hs2 : w.heap.size ≤ w.heap.size := zw _
 generalize hg2 : w.heap.size = g2 at hb2 ⊢
 refine jz 0 (jO (jN (jv2 0 2 ?_)))
 refine jS (jR (jm rfl (je (Run.build (evs.cons rfl (evs.cons rfl evs.nil)) bL (cG).choose_spec.1 (cG).choose_spec.2 rfl) ?_)))
 refine Ops.m (qJ.alloc bL) rfl ?_
 rintro _ w2 ⟨rfl, hF4⟩
 have hb4 := hF4.blk
 have hb2 := hb2.frm hF4.frm jp
 have hf4 := hf2.trans hF4.frm jp
 have hs4 : w.heap.size ≤ w1.heap.size := hf2.size
 generalize hg4 : w1.heap.size = g4 at hb4 hs4 ⊢
 have hn24 : g2 < g4 := by rw [← hg4, ← hg2]; have := hF2.size; omega
 refine Ops.st (qK.storeA rfl rfl zj hb4 rfl (bU v 1 none 0 0)) ?_
 rintro w3 ⟨hb43, hf3, hs3⟩
 have hb23 := hb2.frm hf3 (by simp; omega)
 have hfr3 := hf4.own hf3 (fun y hy => by simp at hy; omega)
 refine jO (jN (jv2 2 4 ?_))
 refine jS (jS (jR (je (Run.loadA rfl zai zj (fun j v hj => hb43.cells j v hj) (by first | rfl | (simp; done))) ?_)))
 refine Ops.cl (jE1 Tryz.call68) (nU v 1 none 0 [] _ (RdM.nil _ _)) rfl ?_
 rintro e w4 ⟨rfl, hf5⟩
 refine ⟨_, rfl, ?_⟩
 have hfr5 := hfr3.trans hf5 jp
 have hb25 := hb23.frm hf5 jp
 have hb45 := hb43.frm hf5 jp
 refine je (Run.not rfl) (jO (jN (jv3 2 4 9 ?_)))
 refine VC.condB rfl (fun hc1 => ?_) (fun hc1 => ?_)
 ·
  have hm : ¬ bR ⟨v, 1, []⟩ := by simpa [Ms] using hc1
  refine jS (jR (je (Run.build evs.nil bL (cG).choose_spec.1 (cG).choose_spec.2 rfl) ?_))
  refine Ops.st (qK.storeA rfl rfl zj hb25 rfl (bU 0 0 none 0 0)) ?_
  rintro w6 ⟨hbz, hfz, hsz⟩
  refine jz 1 (jO (jN (jv2 2 3 ?_)))
  refine jT ?_
  refine qZ (bQ ?_)
  refine qH rfl zai zj (fun j v hj => hbz.cells j v hj) (by first | rfl | (simp; done)) ?_
  refine qN rfl ?_
  refine qP ?_
  exact ⟨hfr5.own hfz (fun y hy => by simp at hy; omega), .inr ⟨hm, rfl⟩⟩
 have hm : bR ⟨v, 1, []⟩ := by simpa [Ms] using hc1
 refine jQ (jN (jv2 2 4 ?_))
 refine jS (jR (je (Run.loadA rfl zai zj (fun j v hj => hb45.cells j v hj) (by first | rfl | (simp; done))) ?_))
 refine Ops.st (qK.storeA rfl rfl zj hb25 rfl (bU v 1 none 0 0)) ?_
 rintro w6 ⟨hbz, hfz, hsz⟩
 refine jz 0 (jO (jN (jv2 2 3 ?_)))
 refine jT ?_
 refine bQ ?_
 refine qH rfl zai zj (fun j v hj => hbz.cells j v hj) (by first | rfl | (simp; done)) ?_
 refine qN rfl ?_
 refine qP ?_
 exact ⟨hfr5.own hfz (fun y hy => by simp at hy; omega), .inl ⟨hm, rfl⟩⟩
end
section
open Go.RowKit
section
variable {P : Program} {w : World} {g : Nat} {e : TypeId} {Γ : Env} {dst : Option Tmp} {T : TypeId} {pos : String} {after : Array Edge} {gd : Option (Nat × Bool)}
theorem qK.storeSub {t : TypeId} {size N cap o : Nat} {x y : Operand} {xs : List Value} {vs : Array Value} (hx : ev? Γ x = some (.pointer (some ⟨g, o, none⟩))) (hy : ev? Γ y = some (.agg vs))
  (hz : ∀ w, (sizeOf t).run P w = .ok vs.size w) (ho : Own w e size (some ⟨g, 0, none⟩) N cap xs) (hle : o + vs.size ≤ xs.length) (h1 : ∀ v ∈ vs.toList, v.oneCell' = true) :
  qK P ⟨dst, .store t x y, T, pos, after, gd⟩ Γ w (fun w' => Own w' e size (some ⟨g, 0, none⟩) N cap (xs.take o ++ vs.toList ++ xs.drop (o + vs.size)) ∧ Frm [g] w w' ∧ w'.heap.size = w.heap.size) := fun ρ hρ => by
 obtain ⟨h2, h3, h4, h5⟩ := ho.write (P := P) (o := o) (ys := vs.toList) (by rw [zbn]; exact hle) h1
 rw [zbn] at h3
 refine ⟨w.setCells g o vs.toList, ?_, h3, h4, h5⟩
 simp only [execOp, Instr.storeAt, Instr.sureAddr, storeVar, hρ _ _ hx, hρ _ _ hy, Value.cells, Sem.run_bind, Sem.run_pure, Result.andThen_ok, hz, ne_eq, not_true_eq_false, if_false, Sem.run_ite, h2]
theorem qZu (g o n : Nat) : (⟨g, o, none⟩ : Addr).add n = ⟨g, o + n, none⟩ := by unfold Addr.add; split <;> simp_all
theorem qK.storeSubF {t : TypeId} {size N cap o j : Nat} {x y : Operand} {xs : List Value} {vs : Array Value} (hx : ev? Γ x = some (.pointer (some (((⟨g, 0, none⟩ : Addr).add o).add j)))) (hy : ev? Γ y = some (.agg vs))
  (hz : ∀ w, (sizeOf t).run P w = .ok vs.size w) (ho : Own w e size (some ⟨g, 0, none⟩) N cap xs) (hle : o + j + vs.size ≤ xs.length) (h1 : ∀ v ∈ vs.toList, v.oneCell' = true) :
  qK P ⟨dst, .store t x y, T, pos, after, gd⟩ Γ w (fun w' => Own w' e size (some ⟨g, 0, none⟩) N cap (xs.take (o + j) ++ vs.toList ++ xs.drop (o + j + vs.size)) ∧ Frm [g] w w' ∧ w'.heap.size = w.heap.size) := qK.storeSub (by rw [hx, kZ, qZu]) hy hz ho hle h1
end
end
section
open Go.RowKit Go.Sort
abbrev MlC.wl (m : MlC) (A : Option Addr) (c : Nat) (l : List Nc) : MlC := { m with A := A, c := c, l := l }
theorem qXk (l : List Nc) (i : Nat) (hi : i < l.length) (v n : Int) (B : Option Addr) (cb : Nat) (lm : List Mc) :
  (NDC l).take (i * 4 + 1) ++ BVc v n B lm.length cb ++ (NDC l).drop (i * 4 + 1 + 3) = NDC (l.set i ⟨(l[i]).nm, v, n, B, cb, lm⟩) := by
 have e1 : l = l.take i ++ l[i] :: l.drop (i + 1) := by
  have h2 := (zao i l).symm
  rw [zav hi] at h2
  exact h2
 have hx : NDC l = NDC (l.take i) ++ ((l[i]).cells ++ NDC (l.drop (i + 1))) := by
  conv => lhs; rw [e1]
  rw [cD]
  rfl
 have hl : (NDC (l.take i)).length = i * 4 := by rw [dP, zg, zaf jo]
 have e2 : (NDC l).take (i * 4 + 1) = NDC (l.take i) ++ [encStr (l[i]).nm] := by
  rw [hx, List.take_append, zq jo, hl, show i * 4 + 1 - i * 4 = 1 by omega]
  rfl
 have e3 : (NDC l).drop (i * 4 + 1 + 3) = NDC (l.drop (i + 1)) := by
  rw [show i * 4 + 1 + 3 = (i + 1) * 4 by omega, nB l (i + 1) jo]
 rw [e2, e3, zdx, if_pos hi, cD, show ∀ (x : Nc) (r : List Nc), NDC (x :: r) = x.cells ++ NDC r from fun _ _ => rfl]
 simp [BVc, Nc.cells]
theorem mK {w : World} {l : List Nc} {i : Nat} {x : Nc} (h : ∀ y ∈ l, y.At w) (hx : x.At w) : ∀ y ∈ l.set i x, y.At w := by
 intro y hy
 rcases zel hy with h1 | h1
 · exact h y h1
 rw [h1]; exact hx
theorem MlC.wl_val (m : MlC) (A : Option Addr) (c : Nat) (l : List Nc) {k : Nat} (h : l.length = k) : (m.wl A c l).val = .agg #[.slice A k c, .slice m.S m.ss.length m.d, .int .i64 m.v, .int .i64 m.b] := by
 subst h; rfl
def bA (w w' : World) (S : List Nat) (m m' : MlC) : Prop := (∀ y ∈ S, w.heap.size ≤ y) ∧ ∀ w'' T, Frm T w' w'' → (∀ y ∈ T, y ∉ S) → RdL w'' m → RdL w'' m'
theorem bA.refl (w : World) (m : MlC) : bA w w [] m m := ⟨jp, fun _ _ _ _ h => h⟩
theorem bA.zero (w w' : World) (m : MlC) : bA w w' [] m qV := ⟨jp, fun _ _ _ _ _ => RdL.zero _⟩
theorem bA.now {w w' : World} {S : List Nat} {m m' : MlC} (h : bA w w' S m m') (hm : RdL w' m) : RdL w' m' := h.2 w' [] (Frm.refl _ _) jp hm
theorem bA.frm {w w' w1 : World} {S T : List Nat} {m m' : MlC} (h : bA w w' S m m') (k : Frm T w' w1) (hT : ∀ y ∈ T, y ∉ S) : bA w w1 S m m' :=
 ⟨h.1, fun w'' T2 k2 h2 hm => h.2 w'' (T ++ T2) ((k.mono (fun y hy => .inl (zcx _ hy))).trans k2 (fun y hy => .inl (zcl _ hy))) (fun y hy => by rcases List.mem_append.1 hy with h3 | h3; exact hT y h3; exact h2 y h3) hm⟩
theorem bA.trans {w w1 w2 : World} {S S2 : List Nat} {m m1 m2 : MlC} (h : bA w w1 S m m1) (h2 : bA w1 w2 S2 m1 m2) (k : Frm [] w1 w2) (hs : w.heap.size ≤ w1.heap.size) : bA w w2 (S ++ S2) m m2 :=
 ⟨fun y hy => by rcases List.mem_append.1 hy with h3 | h3; exact h.1 y h3; exact zar hs (h2.1 y h3), fun w'' T kT hT hm => h2.2 w'' T kT (fun y hy h3 => hT y hy (zcl _ h3)) (h.2 w'' T ((k.mono jp).trans kT (fun y hy => .inl hy)) (fun y hy h3 => hT y hy (zcx _ h3)) hm)⟩
theorem bA.old {w0 w w' : World} {S : List Nat} {m m' : MlC} (h : bA w w' S m m') (hs : w0.heap.size ≤ w.heap.size) : bA w0 w' S m m' := ⟨fun y hy => zar hs (h.1 y hy), h.2⟩
def bF (w w' : World) (m : MlC) (F : Except Nat MailP) (m' : MlC) (k : Nat) : Prop := (∃ S, bA w w' S m m') ∧ ((k = 0 ∧ F = .ok m'.p) ∨ (k ≠ 0 ∧ F = .error k ∧ m' = qV))
theorem bF.err {w w' : World} {m : MlC} {F : Except Nat MailP} {k : Nat} (hk : k ≠ 0) (h : F = .error k) : bF w w' m F qV k := ⟨⟨[], bA.zero _ _ _⟩, .inr ⟨hk, h, rfl⟩⟩
theorem MlC.wl_p (m : MlC) (A : Option Addr) (c : Nat) (l : List Nc) : (m.wl A c l).p = { m.p with l := Ns l } := rfl
set_option maxHeartbeats 1000000 in
theorem jW (m : MlC) (i : Nat) (v n : Int) (B : Option Addr) (cb : Nat) (lm : List Mc) (w : World) (hm : RdL w m) (hi : i < m.l.length) (hb : RdM w B lm) (hbn : lm.length ≤ 900000) :
  Calls Tryz.prog 86 #[m.val, .int .i64 ((i : Nat) : Int), .agg (BVc v n B lm.length cb).toArray] w fun e w' => ∃ A' c', e = .returned (m.wl A' c' (m.l.set i ⟨(m.l[i]).nm, v, n, B, cb, lm⟩)).val ∧ Own w' 45 4 A' m.l.length c' (NDC (m.l.set i ⟨(m.l[i]).nm, v, n, B, cb, lm⟩)) ∧ (∀ b ∈ ob A', w.heap.size ≤ b) ∧ Frm [] w w' := by
 have hln := hm.ln
 have hcl := dP m.l
 refine VC.calls (nt := 18) (res := #[.cell 6 25]) Tryz.func86 rfl Tryz.ntmps86 Tryz.results86 rfl ?_
 refine jS (jR ?_)
 refine Ops.m (qJ.box rfl) rfl ?_
 rintro _ w1 ⟨rfl, hF_w1⟩
 have hb1 : Blk w1 w.heap.size 25 #[.slice m.A m.l.length m.c, .slice m.S m.ss.length m.d, .int .i64 m.v, .int .i64 m.b] := hF_w1.blk
 have K := hF_w1.frm
 generalize hg1 : w.heap.size = g1 at hb1 ⊢
 refine Ops.m (qJ.box rfl) rfl ?_
 rintro _ w2 ⟨rfl, hF2⟩
 have hb5 : Blk w2 w1.heap.size 43 #[.int .i64 v, .int .i64 n, .slice B lm.length cb] := hF2.blk
 have hb1 := hb1.frm hF2.frm jp
 have hlt := hb1.lt
 have K := K.trans hF2.frm jp
 generalize hg5 : w1.heap.size = g5 at hb5 ⊢
 refine Ops.m (qJ.alloc qD) rfl ?_
 rintro _ w3 ⟨rfl, hF3⟩
 have hb6 := hF3.blk
 have hg6 : w.heap.size ≤ w2.heap.size := K.size
 have hb1 := hb1.frm hF3.frm jp
 have hb5 := hb5.frm hF3.frm jp
 have hl1 := hb1.lt
 have hl5 := hb5.lt
 have hl6 := hb6.lt
 have K := K.trans hF3.frm jp
 have hne16 : g1 ≠ w2.heap.size := by have := hF_w1.size; omega
 have hne56 : g5 ≠ w2.heap.size := by have := hF2.size; omega
 have hg1s : w.heap.size ≤ g1 := jo
 generalize hg6' : w2.heap.size = g6 at hb6 hg6 hne16 hne56 hl6 ⊢
 refine jO (jN (jv4 1 3 5 6 ?_))
 refine jS (jR (jf rfl zh rfl zad (jl rfl zaz (hb1.cell 0) ?_)))
 refine Ops.cl (jE1 Tryz.call59) (jF m.A m.c m.l _ (hm.l.frm K) hln) rfl ?_
 rintro e w4 ⟨B4, d4, rfl, ho4, hob4, hf4⟩
 refine ⟨_, rfl, ?_⟩
 obtain ⟨gn, rfl⟩ : ∃ gn, B4 = some ⟨gn, 0, none⟩ := by
  rcases ho4.own.cases with ⟨_, h0, _⟩ | ⟨g, _, h0, _⟩
  · omega
  exact ⟨g, h0⟩
 have hgn : w3.heap.size ≤ gn := hob4 gn (by simp [ob])
 have hb1 := hb1.frm hf4 jp
 have hb5 := hb5.frm hf4 jp
 have hb6 := hb6.frm hf4 jp
 have K := K.trans hf4 jp
 have hs3 : g1 < w3.heap.size ∧ g5 < w3.heap.size ∧ g6 < w3.heap.size := ⟨hl1, hl5, hl6⟩
 have h15 : g1 ≠ g5 := by have := hF_w1.size; omega
 refine jf rfl zh rfl zad ?_
 refine Ops.st (qK.store rfl rfl zad hb1 rfl rfl) ?_
 rintro w5 ⟨hb1, hf5, hs5⟩
 have hb1 : Blk w5 g1 25 #[.slice (some ⟨gn, 0, none⟩) m.l.length d4, .slice m.S m.ss.length m.d, .int .i64 m.v, .int .i64 m.b] := hb1
 have hb5 := hb5.frm hf5 (by simp; omega)
 have hb6 := hb6.frm hf5 (by simp; omega)
 have K := K.own hf5 (fun y hy => by rw [za] at hy; omega)
 have ho5 := ho4.own.frm hf5 (by simp [ob]; omega)
 refine jO (jN (jv4 1 3 5 6 ?_))
 refine jS (jR (jf rfl zh rfl zad (jl rfl zaz (hb1.cell 0) (jm rfl (je (Run.loadA rfl zai zj hb5.cells (by first | rfl | (simp; done))) (je (Run.indexS i rfl rfl zf zt hi) (jf rfl zag rfl zj ?_)))))))
 refine Ops.st (qK.storeSubF (o := i * 4) (j := 1) rfl rfl zj ho5 (by rw [hcl]; show i * 4 + 1 + 3 ≤ _; omega) (fun u hu => by simp only [zy, zaa, or_false] at hu; rcases hu with rfl | rfl | rfl <;> rfl)) ?_
 rintro w6 ⟨ho6, hf6, hs6⟩
 rw [show (#[Value.int .i64 v, .int .i64 n, .slice B lm.length cb] : Array Value).toList = BVc v n B lm.length cb from rfl, show (#[Value.int .i64 v, .int .i64 n, .slice B lm.length cb] : Array Value).size = 3 from rfl, qXk m.l i hi v n B cb lm] at ho6
 have hb1 := hb1.frm hf6 (by simp; omega)
 have hb6 := hb6.frm hf6 (by simp; omega)
 have K := K.own hf6 (fun y hy => by rw [za] at hy; omega)
 refine jO (jN (jv2 3 6 ?_))
 refine jS (jR (je (Run.loadA rfl zc zb hb1.cells (by first | rfl | (simp; done))) ?_))
 refine Ops.st (qK.storeA rfl rfl zb hb6 rfl (MlC.cells_one (m.wl (some ⟨gn, 0, none⟩) d4 m.l))) ?_
 rintro w7 ⟨hb6, hf7, hs7⟩
 have ho7 := ho6.frm hf7 (by simp [ob]; omega)
 have K := K.own hf7 (fun y hy => by rw [za] at hy; omega)
 refine jO (jN (jv1 6 ?_))
 refine jT ?_
 refine bQ ?_
 refine qH rfl zc zb (hb6.cells) (by first | rfl | (simp; done)) ?_
 refine qP ?_
 refine ⟨some ⟨gn, 0, none⟩, d4, ?_, ho7, fun b hb => by simp only [ob, za] at hb; omega, K⟩
 rw [MlC.wl_val _ _ _ _ (zcd ..)]
 rfl
theorem mD (l : List Nc) (x : Nc) (i : Nat) (hi : i ≤ l.length) : (l.take i ++ x :: l.drop i).length = l.length + 1 := by
 rw [zi, zat, zg, zp]
 omega
theorem OwN.lt {w : World} {A : Option Addr} {d : Nat} {l : List Nc} (h : OwN w A d l) : ∀ b ∈ ob A, b < w.heap.size := by
 intro b hb
 rcases h.own.cases with ⟨h0, _⟩ | ⟨g, cur, h0, hbb, _⟩
 · rw [h0] at hb; simp [ob] at hb
 rw [h0] at hb
 simp only [ob, za] at hb
 rw [hb]
 exact hbb.lt
theorem Own.rdNk {w : World} {B : Option Addr} {n d : Nat} {l : List Nc} (h : Own w 45 4 B n d (NDC l)) (hn : l.length = n) : Rd w 4 B l.length (NDC l) := by subst hn; exact h.rd
theorem xP {w : World} {l : List Nc} {x : Nc} (i : Nat) (h : ∀ y ∈ l, y.At w) (hx : x.At w) : ∀ y ∈ l.take i ++ x :: l.drop i, y.At w := by
 intro y hy
 rcases List.mem_append.1 hy with h1 | h1
 · exact h y (zcp h1)
 rcases zy.1 h1 with rfl | h1
 · exact hx
 exact h y (zba h1)
set_option maxHeartbeats 1000000 in
theorem pT (m : MlC) (s : Tx) (v n : Int) (B : Option Addr) (cb : Nat) (lm : List Mc) (w : World) (hm : RdL w m) (hn : m.l.length + 1 ≤ 1000000) (hs : s.length ≤ 1000000) (hr : bW m.p.l) (hb : RdM w B lm) (hbn : lm.length ≤ 900000) (hv : cX w) :
  Calls Tryz.prog 113 #[m.val, encStr s, .agg (BVc v n B lm.length cb).toArray] w fun e w' => ∃ A' c' k, e = .returned (m.wl A' c' (m.l.take k ++ ⟨qQ s, v, n, B, cb, lm⟩ :: m.l.drop k)).val ∧ k ≤ m.l.length ∧ eG m.p.l (qQ s) k ∧ Own w' 45 4 A' (m.l.length + 1) c' (NDC (m.l.take k ++ ⟨qQ s, v, n, B, cb, lm⟩ :: m.l.drop k)) ∧ (∀ b ∈ ob A', w.heap.size ≤ b) ∧ Frm [] w w' := by
 have hln := hm.ln
 have hcl := dP m.l
 have hpl := dJ m
 refine VC.calls (nt := 27) (res := #[.cell 6 25]) Tryz.func113 rfl Tryz.ntmps113 Tryz.results113 rfl ?_
 refine jS (jR ?_)
 refine Ops.m (qJ.box rfl) rfl ?_
 rintro _ w1 ⟨rfl, hF_w1⟩
 have hb1 : Blk w1 w.heap.size 25 #[.slice m.A m.l.length m.c, .slice m.S m.ss.length m.d, .int .i64 m.v, .int .i64 m.b] := hF_w1.blk
 have K := hF_w1.frm
 generalize hg1 : w.heap.size = g1 at hb1 ⊢
 refine Ops.m (qJ.box rfl) rfl ?_
 rintro _ w2 ⟨rfl, hF2⟩
 have hb5 : Blk w2 w1.heap.size 43 #[.int .i64 v, .int .i64 n, .slice B lm.length cb] := hF2.blk
 have hb1 := hb1.frm hF2.frm jp
 have hlt := hb1.lt
 have K := K.trans hF2.frm jp
 generalize hg5 : w1.heap.size = g5 at hb5 ⊢
 refine Ops.m (qJ.alloc qD) rfl ?_
 rintro _ w3 ⟨rfl, hF3⟩
 have hb6 := hF3.blk
 have hg6 : w.heap.size ≤ w2.heap.size := K.size
 have hb1 := hb1.frm hF3.frm jp
 have hb5 := hb5.frm hF3.frm jp
 have hl1 := hb1.lt
 have hl5 := hb5.lt
 have hl6 := hb6.lt
 have K := K.trans hF3.frm jp
 have hne16 : g1 ≠ w2.heap.size := by have := hF_w1.size; omega
 have hne56 : g5 ≠ w2.heap.size := by have := hF2.size; omega
 have hg1s : w.heap.size ≤ g1 := jo
 generalize hg6' : w2.heap.size = g6 at hb6 hg6 hne16 hne56 hl6 ⊢
 refine jO (jN (jv4 1 3 5 6 ?_))
 refine jS (jR (je (Run.loadA rfl zc zb hb1.cells (by first | rfl | (simp; done))) (jM ?_)))
 refine Ops.cl (jE2 zcm) (bE m s _ (hm.frm K).l hln hs hr (hv.frm K)) rfl ?_
 rintro e w4 ⟨k, rfl, hpos, hf4⟩
 refine ⟨_, rfl, ?_⟩
 have hk : k ≤ m.l.length := by have := hpos.1; omega
 have hb1 := hb1.frm hf4 jp
 have hb5 := hb5.frm hf4 jp
 have hb6 := hb6.frm hf4 jp
 have K := K.trans hf4 jp
 have hs4 := hf4.size
 have h15 : g1 ≠ g5 := by have := hF_w1.size; omega
 refine jm rfl (je (Run.extract rfl rfl) (je (Run.extract rfl rfl) (ja rfl (ja rfl (jO (jN (jv5 1 3 5 6 7 ?_)))))))
 refine jS ?_
 refine VC.heldL 11 (fun W => Frm [] w4 W) jK ?_
 have hS : Frm [] w4 w4.drew := (Frm.refl _ _).drew
 refine jH 0 rfl hS (fun w0 hw0 => Run.fieldAddr rfl zh rfl zad jd) ?_
 refine jH 1 rfl hS (fun w0 hw0 => Run.load rfl zaz ((hb1.frm hw0 jp).cell 0)) ?_
 refine jH 3 rfl hS (fun w0 hw0 => Run.mv rfl) ?_
 refine jH 4 rfl hS (fun w0 hw0 => Run.mv rfl) ?_
 refine jH 6 rfl hS (fun w0 hw0 => Run.loadA rfl zai zj (fun j v hj => (hb5.frm hw0 jp).cells j v hj) (by first | rfl | (simp; done))) ?_
 refine qS.cl 2 rfl jK (jE1 Tryz.call59) (jF m.A m.c m.l _ (hm.l.frm (K.trans hS jp)) hln) trivial rfl rfl ?_
 rintro e w5 ⟨B5, d5, rfl, ho5, hob5, hf5⟩
 have hob5 : ∀ b ∈ ob B5, w4.heap.size ≤ b := fun b hb => zar (by exact (show Frm [] w4 w4.drew from (Frm.refl _ _).drew).size) (hob5 b hb)
 have hS5 := hS.trans hf5 jp
 refine ⟨_, rfl, hS5, ?_⟩
 have hS := hS5
 refine qS.cl 5 rfl jK (jE1 zbz) (bS s _ hs (hv.frm (K.trans hS jp))) trivial rfl rfl ?_
 rintro e w6 ⟨rfl, hf6⟩
 have hS6 := hS.trans hf6 jp
 refine ⟨_, rfl, hS6, ?_⟩
 have hS := hS6
 have ho5 := ho5.frm hf6
 refine qS.r1 7 rfl jK hS (Run.build (evs.cons rfl (evs.cons rfl evs.nil)) dV (fB).choose_spec.1 (fB).choose_spec.2 rfl) trivial rfl rfl ?_
 refine qS.m 8 rfl jK (qJ.buildS1 rfl zf zt dV jd jd rfl rfl) trivial rfl rfl ?_
 rintro _ w7 ⟨rfl, hF7⟩
 have hS7 := hS.trans hF7.frm jp
 refine ⟨hS7, ?_⟩
 have hS := hS7
 have hgv : w6.heap.size ∉ ob B5 := fun h => Nat.lt_irrefl _ (ho5.lt _ h)
 have ho5 := ho5.frm hF7.frm
 have hb7 : Blk w7 w6.heap.size 45 (⟨qQ s, v, n, B, cb, lm⟩ : Nc).cells.toArray := hF7.blk
 refine qS.cl 9 rfl jK (jE3 Tryz.call140) (rC B5 d5 k _ m.l ⟨qQ s, v, n, B, cb, lm⟩ _ ho5 hln hk hb7 hgv) trivial rfl rfl ?_
 rintro e w8 ⟨C8, d8, rfl, ho8, hf8, hob8⟩
 have hS8 := hS.own hf8 hob5
 refine ⟨_, rfl, hS8, ?_⟩
 have hS := hS8
 have hC8 : ∀ b ∈ ob C8, w4.heap.size ≤ b := fun b hb => by
  rcases hob8 b hb with h | h
  · exact hob5 b h
  have := hS7.size; omega
 refine qS.r1 10 rfl jK hS (Run.fieldAddr rfl zh rfl zad jd) trivial rfl rfl ?_
 refine qS.stL rfl jK (qK.store rfl rfl zad (hb1.frm hS jp) rfl rfl) trivial rfl ?_
 rintro w9 ⟨hb9, hf9, hs9⟩
 have hb9 : Blk w9 g1 25 #[.slice C8 (m.l.length + 1) d8, .slice m.S m.ss.length m.d, .int .i64 m.v, .int .i64 m.b] := hb9
 have hb6 := (hb6.frm hS jp).frm hf9 (by simp; omega)
 have K := (K.trans hS jp).own hf9 (fun y hy => by rw [za] at hy; omega)
 have ho9 := ho8.frm hf9 (fun y hy h => by rw [za] at h; have := hC8 y hy; omega)
 refine qS.done jK ?_
 refine jN (jv2 3 6 ?_)
 refine jS (jR (je (Run.loadA rfl zc zb hb9.cells (by first | rfl | (simp; done))) ?_))
 refine Ops.st (qK.storeA rfl rfl zb hb6 rfl (by intro u hu; simp only [zy, zaa, or_false] at hu; rcases hu with rfl | rfl | rfl | rfl <;> rfl)) ?_
 rintro w10 ⟨hb6, hf10, hs10⟩
 have ho10 := ho9.frm hf10 (fun y hy h => by rw [za] at h; have := hC8 y hy; omega)
 have K := K.own hf10 (fun y hy => by rw [za] at hy; omega)
 refine jO (jN (jv1 6 ?_))
 refine jT ?_
 refine bQ ?_
 refine qH rfl zc zb (hb6.cells) (by first | rfl | (simp; done)) ?_
 refine qP ?_
 have hll := mD m.l ⟨qQ s, v, n, B, cb, lm⟩ k hk
 refine ⟨C8, d8, k, ?_, hk, hpos, ho10, fun b hb => by have := hC8 b hb; omega, K⟩
 rw [MlC.wl_val _ _ _ _ hll]
 rfl
theorem zU {w w' : World} {m : MlC} {k : Nat} {x : Nc} {A : Option Addr} {c : Nat} (hk : k ≤ m.l.length) (hn : m.l.length + 1 ≤ 1000000) (ho : Own w' 45 4 A (m.l.length + 1) c (NDC (m.l.take k ++ x :: m.l.drop k))) (hf : ∀ b ∈ ob A, w.heap.size ≤ b)
  (hx : ∀ w'', RdL w'' m → x.At w'') : bA w w' (ob A) m (m.wl A c (m.l.take k ++ x :: m.l.drop k)) := by
 have hll := mD m.l x k hk
 refine ⟨hf, fun w'' T kT hT hm => ?_⟩
 have ho := ho.frm kT (fun y hy h => hT y h hy)
 exact ⟨⟨ho.rdNk hll, xP k hm.l.el (hx w'' hm)⟩, hm.s, by show List.length (_ ++ _) ≤ _; rw [hll]; exact ho.le, hm.sc, by show List.length (_ ++ _) ≤ _; rw [hll]; exact hn, hm.sn, hm.sq⟩
end
section
open Go.RowKit Go.Sort
theorem xR (l : List Nc) (x : Nc) (i : Nat) : Ns (l.take i ++ x :: l.drop i) = (Ns l).take i ++ x.p :: (Ns l).drop i := by
 simp [Ns, zdo, List.map_drop]
theorem rE (A : Option Addr) (c : Nat) (ss : List Tx) (w : World) (h : Own w 9 1 A ss.length c (SB ss)) (hs : ss.length ≤ 1000000) :
  Calls Tryz.prog 105 #[.slice A ss.length c] w fun e w' => e = .returned (.tuple #[]) ∧ Own w' 9 1 A ss.length c (SB ss.reverse) ∧ Frm (ob A) w w' := by
 cases A with
 | none =>
  have h0 : ss = [] := by
   rcases h.cases with ⟨_, h1, _⟩ | ⟨g, cur, h1, _⟩
   · exact zv h1
   cases h1
  subst h0
  refine (Tryz.slices_Reverse_string_empty none c w).mono fun e w' ⟨he, hw⟩ => ?_
  subst hw
  exact ⟨he, by simpa using h, Frm.refl _ _⟩
 | some ad =>
  obtain ⟨g, rfl⟩ : ∃ g, ad = ⟨g, 0, none⟩ := by
   rcases h.cases with ⟨h1, _⟩ | ⟨g, cur, h1, _⟩
   · cases h1
   cases h1; exact ⟨g, rfl⟩
  obtain ⟨h1, h2⟩ := h.holds
  refine (Tryz.slices_Reverse_string g 0 c ss w h1 jo).mono fun e w' ⟨he, m, hw⟩ => ?_
  subst hw
  obtain ⟨h3, h4⟩ := h.put (m := m) (os := #[]) (ts := ss.reverse) zej
  rw [Go.Sort.grow_empty] at h3 h4
  exact ⟨he, h3, h4⟩
theorem sO (m : MlC) (s : Tx) (w : World) (hm : RdL w m) (hn : m.l.length + 1 ≤ 1000000) (hs : s.length ≤ 1000000) (hr : bW m.p.l) (h0 : 0 ≤ m.v) (h1 : m.v + 1 ≤ 2147483647) (hnot : qQ s ∉ qB m.p) (hv : cX w) :
  Calls Tryz.prog 106 #[m.val, encStr s] w fun e w' => ∃ m' : MlC, e = .returned m'.val ∧ m'.p = bO m.p s ∧ (∃ S, bA w w' S m m') ∧ Frm [] w w' := by
 have hmb0 : bR ⟨m.v + 1, 1, []⟩ := ⟨⟨by dsimp only; omega, by dsimp only; omega, by dsimp only; omega, by dsimp only; omega, jp⟩, fun j h => absurd h jp⟩
 refine VC.calls (nt := 21) (res := #[.cell 4 25]) Tryz.func106 rfl Tryz.ntmps106 Tryz.results106 rfl ?_
 refine jS (jR ?_)
 refine Ops.m (qJ.box rfl) rfl ?_
 rintro _ w1 ⟨rfl, hF_w1⟩
 have hb1 : Blk w1 w.heap.size 25 #[.slice m.A m.l.length m.c, .slice m.S m.ss.length m.d, .int .i64 m.v, .int .i64 m.b] := hF_w1.blk
 have K := hF_w1.frm
 generalize hg1 : w.heap.size = g1 at hb1 ⊢
 refine Ops.m (qJ.alloc qD) rfl ?_
 rintro _ w2 ⟨rfl, hF2⟩
 have hb4 := hF2.blk
 have hg4 : w.heap.size ≤ w1.heap.size := K.size
 have hb1 := hb1.frm hF2.frm jp
 have hl1 := hb1.lt
 have hl4 := hb4.lt
 have K := K.trans hF2.frm jp
 have hne14 : g1 ≠ w1.heap.size := by have := hF_w1.size; omega
 have hg1s : w.heap.size ≤ g1 := jo
 generalize hg4' : w1.heap.size = g4 at hb4 hg4 hne14 hl4 ⊢
 refine jO (jN (jv3 1 2 4 ?_))
 refine jS (jR (jf rfl zh rfl zk (jl rfl zu (hb1.cell 2) (jb rfl rfl (Bin.addZ _ 1 jo jo) (jf rfl zh rfl zk ?_)))))
 refine Ops.st (qK.store rfl rfl zk hb1 rfl rfl) ?_
 rintro w3 ⟨hb1, (hf3 : Frm [g1] _ _), hs3⟩
 have hb1 : Blk w3 g1 25 #[.slice m.A m.l.length m.c, .slice m.S m.ss.length m.d, .int .i64 (m.v + 1), .int .i64 m.b] := hb1
 have hb4 := hb4.frm hf3 (by simp; omega)
 have K := K.own hf3 (fun y hy => by rw [za] at hy; omega)
 refine jO (jN (jv3 1 2 4 ?_))
 refine jS (jR (jf rfl zh rfl zk (jl rfl zu (hb1.cell 2) ?_)))
 refine Ops.cl (jE1 Tryz.call82) (nD (m.v + 1) _) rfl ?_
 rintro e w5 ⟨hf5, hc5⟩
 obtain rfl : e = .returned (.tuple #[.agg #[.int .i64 (m.v + 1), .int .i64 1, .slice none 0 0], .int .i64 0]) := by
  rcases hc5 with ⟨_, h⟩ | ⟨h, _⟩
  · exact h
  exact absurd hmb0 h
 refine ⟨_, rfl, ?_⟩
 have hb1 := hb1.frm hf5 jp
 have hb4 := hb4.frm hf5 jp
 have K := K.trans hf5 jp
 refine jm rfl (je (Run.extract rfl rfl) (je (Run.extract rfl rfl) ?_))
 refine Ops.m (qJ.alloc bL) rfl ?_
 rintro _ w6 ⟨rfl, hF6⟩
 have hb5 := hF6.blk
 have hg5 : w.heap.size ≤ w5.heap.size := K.size
 have hlt5 := hb1.lt
 have hlt54 := hb4.lt
 have hb1 := hb1.frm hF6.frm jp
 have hb4 := hb4.frm hF6.frm jp
 have K := K.trans hF6.frm jp
 generalize hg5' : w5.heap.size = g5 at hb5 hg5 hlt5 hlt54 ⊢
 refine Ops.st (qK.storeA rfl rfl zj hb5 rfl (bU _ _ none 0 0)) ?_
 rintro w7 ⟨hb5, hf7, hs7⟩
 have hb5 : Blk w7 g5 43 #[.int .i64 (m.v + 1), .int .i64 1, .slice none 0 0] := hb5
 have hb1 := hb1.frm hf7 (by simp; omega)
 have hb4 := hb4.frm hf7 (by simp; omega)
 have K := K.own hf7 (fun y hy => by rw [za] at hy; omega)
 have hmk : RdL w7 { m with v := m.v + 1 } := ⟨hm.l.frm K, hm.s.frm K jp, hm.lc, hm.sc, hm.ln, hm.sn, hm.sq⟩
 refine ja rfl (jO (jN (jv4 1 2 4 5 ?_)))
 refine jS (jR (je (Run.loadA rfl zc zb hb1.cells (by first | rfl | (simp; done))) (jm rfl (je (Run.loadA rfl zai zj hb5.cells (by first | rfl | (simp; done))) ?_))))
 refine Ops.cl (jE3 Tryz.call113) (pT { m with v := m.v + 1 } s (m.v + 1) 1 none 0 [] _ hmk hn hs hr (RdM.nil _ _) jp (hv.frm K)) rfl ?_
 rintro e w8 ⟨A8, c8, k, rfl, hk, hpos, ho8, hA8, hf8⟩
 refine ⟨_, rfl, ?_⟩
 have hl47 := hb4.lt
 have hK7 := K.size
 have hb4 := hb4.frm hf8 jp
 have K := K.trans hf8 jp
 refine Ops.st (qK.storeA rfl rfl zb hb4 rfl (MlC.cells_one _)) ?_
 rintro w9 ⟨hb4, hf9, hs9⟩
 have ho9 := ho8.frm hf9 (fun y hy h => by rw [za] at h; have := hA8 y hy; have := hs7; omega)
 refine jO (jN (jv1 4 ?_))
 refine jT ?_
 refine bQ ?_
 refine qH rfl zc zb (hb4.cells) (by first | rfl | (simp; done)) ?_
 refine qP ?_
 refine ⟨_, rfl, ?_, ⟨ob A8, ?_⟩, K.own hf9 (fun y hy => by rw [za] at hy; omega)⟩
 ·
  have e : Ns (m.l.take k ++ ⟨qQ s, m.v + 1, 1, none, 0, []⟩ :: m.l.drop k) = bK (Ns m.l) (qQ s) ⟨m.v + 1, 1, []⟩ := (xR m.l _ k).trans (zK (b := ⟨m.v + 1, 1, []⟩) hpos hnot).symm
  exact congrArg (fun z => MailP.mk z m.ss (m.v + 1) m.b) e
 have hk8 := zU (w := w) hk hn ho9 (fun b hb => by have := hA8 b hb; omega) (fun w'' h => ⟨RdM.nil _ _, jp, by show (qQ s).length ≤ _; rw [bD]; exact hs⟩)
 exact ⟨hk8.1, fun w'' T kT hT hm => hk8.2 w'' T kT hT ⟨hm.l, hm.s, hm.lc, hm.sc, hm.ln, hm.sn, hm.sq⟩⟩
end
section
open Go.RowKit Go.Sort
set_option maxHeartbeats 1000000 in
theorem eB (m : MlC) (q : Tx) (w : World) (hm : RdL w m) (hs : q.length ≤ 1000000) (hr : bW m.p.l) (hv : cX w) :
  Calls Tryz.prog 47 #[m.val, encStr q] w fun e w' => ∃ B d, e = .returned (.slice B (qO m.p.l q).length d) ∧ Own w' 9 1 B (qO m.p.l q).length d (SB (qO m.p.l q)) ∧ (∀ b ∈ ob B, w.heap.size ≤ b) ∧ Frm [] w w' := by
 have hln := hm.ln
 refine VC.calls (nt := 27) (res := #[.tmp 4]) Tryz.func47 rfl Tryz.ntmps47 Tryz.results47 rfl ?_
 refine jS (jR ?_)
 refine Ops.m (qJ.box rfl) rfl ?_
 rintro _ w1 ⟨rfl, hF_w1⟩
 have hb1 : Blk w1 w.heap.size 25 #[.slice m.A m.l.length m.c, .slice m.S m.ss.length m.d, .int .i64 m.v, .int .i64 m.b] := hF_w1.blk
 have K := hF_w1.frm
 generalize hg1 : w.heap.size = g1 at hb1 ⊢
 refine ja rfl (jO (jN (jv2 1 2 ?_)))
 refine jS (jR (ja rfl (jO (jN (jS (jB ?_))))))
 refine VC.loop (σ := Tx × List Tx × Option Addr × Nat) (fun s => [(1, encStr s.1), (2, .pointer (some ⟨g1, 0, none⟩)), (5, .slice s.2.2.1 s.2.1.length s.2.2.2)]) (fun s wr => s.1.length ≤ 1000000 ∧ Blk wr g1 25 #[.slice m.A m.l.length m.c, .slice m.S m.ss.length m.d, .int .i64 m.v, .int .i64 m.b] ∧ Own wr 9 1 s.2.2.1 s.2.1.length s.2.2.2 (SB s.2.1) ∧ (∀ b ∈ ob s.2.2.1, w.heap.size < b) ∧ (anc q).filter (fun x => decide (qQ x ∉ qB m.p)) = s.2.1 ++ (anc s.1).filter (fun x => decide (qQ x ∉ qB m.p)) ∧ s.2.1.length + s.1.length ≤ 1000000 ∧ Frm [] w wr) (fun s => s.1.length) (q, [], none, 0) (js3 rfl rfl rfl) ⟨hs, hb1, Own.nil _ _ _, by simp [ob], rfl, by simpa using hs, K⟩ ?_
 rintro ⟨r, out, B, d⟩ wr ⟨hr1, hb1, ho, hob, hfl, hol, K⟩
 dsimp only at *
 refine jS (jS (jR (jm rfl (je (Run.neqT rfl rfl) (jO (jN (jv4 1 2 5 9 ?_)))))))
 refine jD rfl (fun hc1 => ?_) fun hc1 => ?_
 ·
  have hup := eY hc1
  refine jQ (jN (jv3 1 2 5 ?_))
  refine jS (jB (jS (jR (je (Run.loadA rfl zc zb hb1.cells (by first | rfl | (simp; done))) (jM ?_)))))
  refine Ops.cl (jE2 zcm) (bE m r _ (hm.frm K).l hln hr1 hr (hv.frm K)) rfl ?_
  rintro e w2 ⟨k, rfl, hpos, hf2⟩
  refine ⟨_, rfl, ?_⟩
  have hb1 := hb1.frm hf2 jp
  have ho := ho.frm hf2 jp
  have hks := K.size
  have K := K.trans hf2 jp
  have hl2 := hb1.lt
  refine jm rfl (je (Run.extract rfl rfl) (je (Run.extract rfl rfl) (ja rfl (ja rfl (jO (jN (jv4 1 2 5 7 ?_)))))))
  refine jS (jR (jm rfl (je (Run.not rfl) (jO (jN (jv4 1 2 5 19 ?_))))))
  refine VC.condB rfl (fun hc2 => ?_) (fun hc2 => ?_)
  ·
   refine jR (jm rfl (jM ?_))
   refine Ops.m (qJ.buildS1 rfl zd zl hG jd jd rfl rfl) rfl ?_
   rintro _ w4 ⟨rfl, hF4⟩
   have hr4 : Rd w4 1 (some ⟨w2.heap.size, 0, none⟩) 1 (SB [r]) := Rd.of_blk (n := 1) (size := 1) hF4.blk rfl
   have K := K.trans hF4.frm jp
   have hb1 := hb1.frm hF4.frm jp
   have ho4 := ho.frm hF4.frm jp
   refine Ops.m (qJ.app rfl rfl zd (kE) rfl jd ho4 hr4 (dB _) jo jo) rfl ?_
   rintro _ w5 ⟨B5, d5, rfl, ho5, hf5, hob5⟩
   rw [← dK] at ho5
   have hf4s := hF4.size
   have hks5 := K.size
   have hob6 : ∀ b ∈ ob B5, w.heap.size < b := fun b hb => by
    rcases hob5 with h | h
    · rw [h] at hb; exact hob b hb
    rw [h, za] at hb; omega
   have K := K.own hf5 (fun b hb => Nat.le_of_lt (hob b hb))
   have hb1 := hb1.frm hf5 (fun h => by have := hob _ h; omega)
   refine ja rfl (jO ?_)
   refine qR (jN ?_)
   refine jv3 1 2 5 ?_
   refine jR (jM ?_)
   refine Ops.cl (jE1 Tryz.call104) (lZ r _ hr1 (hv.frm K)) rfl ?_
   rintro e w6 ⟨rfl, hf6⟩
   refine ⟨_, rfl, ?_⟩
   refine ja rfl (jO ?_)
   refine jN ⟨(upN r, out ++ [r], B5, d5), (js3 rfl rfl (by rw [zi]; rfl)), ?_, ?_⟩
   ·
    refine ⟨by dsimp only; omega, hb1.frm hf6 jp, by rw [zi]; exact ho5.frm hf6 jp, hob6, ?_, by dsimp only; rw [zi]; show out.length + 1 + _ ≤ _; omega, K.trans hf6 jp⟩
    rw [hfl, eZ hc1, zcg, if_pos (by simpa using hc2), zca]
    rfl
   first | omega | (dsimp only; omega)
  refine jQ ?_
  refine qR (jN ?_)
  refine jv3 1 2 5 ?_
  refine jR (jM ?_)
  refine Ops.cl (jE1 Tryz.call104) (lZ r _ hr1 (hv.frm K)) rfl ?_
  rintro e w6 ⟨rfl, hf6⟩
  refine ⟨_, rfl, ?_⟩
  refine ja rfl (jO ?_)
  refine jN ⟨(upN r, out, B, d), (js3 rfl rfl rfl), ?_, ?_⟩
  ·
   refine ⟨by dsimp only; omega, hb1.frm hf6 jp, ho.frm hf6 jp, hob, ?_, by dsimp only; omega, K.trans hf6 jp⟩
   rw [hfl, eZ hc1, zcg, if_neg (by simpa using hc2)]
  first | omega | (dsimp only; omega)
 refine jX ?_
 refine qT (qT (bZ ?_))
 refine jN (jv1 5 ?_)
 refine jS (jR (jM ?_))
 refine Ops.cl (jE1 Tryz.call105) (rE B d out _ ho jo) rfl ?_
 rintro e w7 ⟨rfl, ho7, hf7⟩
 refine ⟨_, rfl, ?_⟩
 refine jO (jN (jv1 5 ?_))
 refine jS (jR (jm rfl (ja rfl (jO (jN (jv1 4 ?_))))))
 refine jT ?_
 refine qL rfl ?_
 have hr0 : r = [] := Classical.not_not.1 hc1
 rw [hr0, anc_nil, List.filter_nil, zbh] at hfl
 have e : qO m.p.l q = out.reverse := by rw [← hfl]; rfl
 refine ⟨B, d, by rw [e, zej], by rw [e, zej]; exact ho7, fun b hb => by have := hob b hb; omega, K.own hf7 (fun b hb => by have := hob b hb; omega)⟩
end
section
open Go.RowKit Go.Sort
theorem zB (s : Tx) : (anc s).Pairwise (fun a b => b.length < a.length) ∧ ∀ x ∈ anc s, x.length ≤ s.length := by
 have key : ∀ n (s : Tx), s.length ≤ n → (anc s).Pairwise (fun a b => b.length < a.length) ∧ ∀ x ∈ anc s, x.length ≤ s.length := by
  intro n
  induction n with
  | zero =>
   intro s h
   obtain rfl : s = [] := zv jo
   rw [anc_nil]
   exact ⟨.nil, jp⟩
  | succ n ih =>
   intro s h
   by_cases h0 : s = []
   · subst h0; rw [anc_nil]; exact ⟨.nil, jp⟩
   have h1 := eY h0
   obtain ⟨h2, h3⟩ := ih (upN s) jo
   rw [eZ h0]
   refine ⟨List.pairwise_cons.2 ⟨fun y hy => by have := h3 y hy; omega, h2⟩, fun x hx => ?_⟩
   rcases zy.1 hx with rfl | hx
   · exact zw _
   have := h3 x hx; omega
 exact key _ s (zw _)
theorem xS (l : List NmP) (s : Tx) : (qO l s).Pairwise (fun a b => a.length < b.length) ∧ (∀ x ∈ qO l s, x.length ≤ s.length ∧ qQ x ∉ l.map Prod.fst) := by
 obtain ⟨h1, h2⟩ := zB s
 unfold qO
 refine ⟨List.pairwise_reverse.2 (h1.sublist zci), fun x hx => ?_⟩
 rw [List.mem_reverse, List.mem_filter] at hx
 exact ⟨h2 x hx.1, by simpa using hx.2⟩
theorem nE {α : Type} (p q : α → Bool) (h : ∀ x, p x = true → q x = false) : ∀ l : List α, (l.filter p).length + (l.filter q).length ≤ l.length
 | [] => jp
 | x :: l => by
  have ih := nE p q h l
  rw [zcg, zcg]
  cases h1 : p x with
  | true =>
   rw [h x h1]
   simp only [if_true, zat, zbk, if_false]
   omega
  | false =>
   cases h2 : q x <;> simp only [if_true, zat, zbk, if_false] <;> omega
theorem tQ (l : List NmP) (t : Tx) (b : BoxV) : (bK l t b).length ≤ l.length + 1 := by
 unfold bK
 rw [zi, zat]
 refine (jo : ∀ a b c : Nat, a + b ≤ c → a + (b + 1) ≤ c + 1) _ _ _ (nE _ _ (fun x h1 => ?_) l)
 simp only [decide_eq_true_eq, decide_eq_false_iff_not] at h1 ⊢
 exact fun h2 => bH _ (cH h1 h2)
theorem oT (p0 : MailP) (hr : bW p0.l) (xs : List Tx) : ∀ i, i ≤ xs.length →
  bW ((xs.take i).foldl bO p0).l ∧ (∀ x, x ∈ qB ((xs.take i).foldl bO p0) ↔ x ∈ qB p0 ∨ x ∈ (xs.take i).map qQ) ∧ ((xs.take i).foldl bO p0).l.length ≤ p0.l.length + i ∧ ((xs.take i).foldl bO p0).valid = p0.valid + i := by
 intro i
 induction i with
 | zero => intro _; exact ⟨by simpa using hr, jp, jp, jp⟩
 | succ i ih =>
  intro hi
  obtain ⟨h1, h2, h3, h4⟩ := ih jo
  have hlt : i < xs.length := hi
  clear ih
  rw [zas, ze hlt, zdm]
  generalize (xs.take i).foldl bO p0 = p at *
  show bW (bK _ _ _) ∧ (∀ x, x ∈ (bK _ _ _).map Prod.fst ↔ _) ∧ (bK _ _ _).length ≤ _ ∧ p.valid + 1 = _
  refine ⟨gW h1, fun x => ?_, ?_, by rw [h4]; omega⟩
  ·
   rw [gY, zbi, List.mem_append]
   have := h2 x
   simp only [Option.toList, zap, zct, za]
   constructor
   ·
    rintro (h | h)
    · exact .inr (.inr h)
    rcases this.1 h with h | h
    · exact .inl h
    exact .inr (.inl h)
   rintro (h | h | h)
   · exact .inr (this.2 (.inl h))
   · exact .inr (this.2 (.inr h))
   exact .inl h
  have := tQ p.l (qQ xs[i]) ⟨p.valid + 1, 1, []⟩
  omega
theorem xU (p0 : MailP) (xs : List Tx) (i : Nat) (hi : i < xs.length) : (xs.take (i + 1)).foldl bO p0 = bO ((xs.take i).foldl bO p0) xs[i] := by
 rw [zas, ze hi, zdm]
 rfl
theorem lK (m : MlC) (a b : Nat) (w : World) (hm : m.l.length ≤ 1000000) (ha : a ≤ 1000000) (hb : b ≤ 1000000) (h0 : 0 ≤ m.v) (h1 : m.v ≤ 2147483647) :
  Calls Tryz.prog 48 #[m.val, .int .i64 ((a : Nat) : Int), .int .i64 ((b : Nat) : Int)] w fun e w' => e = .returned (.int .i64 ((cP m.p a b : Nat) : Int)) ∧ Frm [] w w' := by
 have hpl := dJ m
 obtain ⟨v, hv⟩ : ∃ v : Nat, m.v = (v : Int) := ⟨m.v.toNat, jo⟩
 refine VC.calls (nt := 20) (res := #[.tmp 6]) Tryz.func48 rfl Tryz.ntmps48 Tryz.results48 rfl ?_
 refine jS (jR ?_)
 refine Ops.m (qJ.box rfl) rfl ?_
 rintro _ w1 ⟨rfl, hF_w1⟩
 have hb1 : Blk w1 w.heap.size 25 #[.slice m.A m.l.length m.c, .slice m.S m.ss.length m.d, .int .i64 m.v, .int .i64 m.b] := hF_w1.blk
 have K := hF_w1.frm
 generalize hg1 : w.heap.size = g1 at hb1 ⊢
 refine jz 0 (jO (jN (jv3 1 2 3 ?_)))
 refine jS (jB (jS (jR (jf rfl zh rfl zad (jl rfl zaz (hb1.cell 0) (je (Run.lenS rfl zf) (jm rfl (jb rfl rfl (Bin.add_i64 _ _ jo) (jb rfl rfl (Bin.gtrN _ 24) (ja rfl (jO (jN (jv3 2 3 7 ?_)))))))))))))
 refine jD rfl (fun hc1 => ?_) fun hc1 => ?_
 ·
  refine jS (jR (jz 5 (jO (jN (jv1 6 ?_)))))
  refine jT ?_
  refine qC (qZ (qL rfl ?_))
  refine ⟨?_, K⟩
  unfold cP
  rw [if_pos jo]
 refine jS (jR (jf rfl zh rfl zk (jl rfl zu (show _ = some (Value.int .i64 (v : Int)) by rw [← hv]; exact hb1.cell 2) (jm rfl (jb rfl rfl (Bin.add_i64 _ _ jo) (jb rfl rfl (Bin.gtrN _ 2147483647) (ja rfl (jO (jN (jv1 14 ?_))))))))))
 refine jD rfl (fun hc2 => ?_) fun hc2 => ?_
 ·
  refine jS (jR (jz 19 (jO (jN (jv1 6 ?_)))))
  refine jT ?_
  refine qC (qZ (qL rfl ?_))
  refine ⟨?_, K⟩
  unfold cP
  rw [if_neg jo, if_pos (by show _ < m.v + _; omega)]
 refine jQ ?_
 refine qR (jN ?_)
 refine VC.sub [] .nil ?_
 refine jS (jR (jz 0 (jO (jN (jT ?_)))))
 refine qL rfl ?_
 refine ⟨?_, K⟩
 unfold cP
 rw [if_neg jo, if_neg (by show ¬ _ < m.v + _; omega)]
set_option maxHeartbeats 1000000 in
theorem jI (m : MlC) (q : Tx) (w : World) (hm : RdL w m) (hs : q.length ≤ 900000) (hr : bW m.p.l) (hn : m.l.length + (qO m.p.l q).length ≤ 900000) (h0 : 0 ≤ m.v) (h1 : m.v + ((qO m.p.l q).length : Int) ≤ 2147483647) (hv : cX w) :
  Calls Tryz.prog 49 #[m.val, encStr q] w fun e w' => ∃ m' : MlC, e = .returned m'.val ∧ m'.p = bX m.p q ∧ (∃ S, bA w w' S m m') ∧ Frm [] w w' := by
 have hln := hm.ln
 have hml := xS m.p.l q
 have hfo := oT m.p hr (qO m.p.l q)
 have hpl := dJ m
 refine VC.calls (nt := 20) (res := #[.cell 4 25]) Tryz.func49 rfl Tryz.ntmps49 Tryz.results49 rfl ?_
 refine jS (jR ?_)
 refine Ops.m (qJ.box rfl) rfl ?_
 rintro _ w1 ⟨rfl, hF_w1⟩
 have hb1 : Blk w1 w.heap.size 25 #[.slice m.A m.l.length m.c, .slice m.S m.ss.length m.d, .int .i64 m.v, .int .i64 m.b] := hF_w1.blk
 have K := hF_w1.frm
 generalize hg1 : w.heap.size = g1 at hb1 ⊢
 refine Ops.m (qJ.alloc qD) rfl ?_
 rintro _ w2 ⟨rfl, hF2⟩
 have hb4 := hF2.blk
 have hg4 : w.heap.size ≤ w1.heap.size := K.size
 have hb1 := hb1.frm hF2.frm jp
 have hl1 := hb1.lt
 have hl4 := hb4.lt
 have K := K.trans hF2.frm jp
 have hne14 : g1 ≠ w1.heap.size := by have := hF_w1.size; omega
 have hg1s : w.heap.size ≤ g1 := jo
 generalize hg4' : w1.heap.size = g4 at hb4 hg4 hne14 hl4 ⊢
 refine jO (jN (jv3 1 2 4 ?_))
 refine jS (jS (jR (je (Run.loadA rfl zc zb hb1.cells (by first | rfl | (simp; done))) (jM ?_))))
 refine Ops.cl (jE2 Tryz.call47) (eB m q _ (hm.frm K) jo hr (hv.frm K)) rfl ?_
 rintro e w3 ⟨B, d, rfl, ho, hob, hf3⟩
 refine ⟨_, rfl, ?_⟩
 have hb1 := hb1.frm hf3 jp
 have hb4 := hb4.frm hf3 jp
 have K := K.trans hf3 jp
 have hs3 := hf3.size
 generalize hxs : qO m.p.l q = xs at *
 refine je (Run.lenS rfl zd) ?_
 refine jx .i64 0 ?_
 refine jO (jN (jv5 2 4 9 10 11 ?_))
 refine jB ?_
 refine VC.loop (σ := Nat × MlC) (fun s => [(2, .pointer (some ⟨g1, 0, none⟩)), (4, .pointer (some ⟨g4, 0, none⟩)), (9, .slice B xs.length d), (10, .int .i64 ((xs.length : Nat) : Int)), (11, .int .i64 ((s.1 : Nat) : Int))]) (fun s wr => s.1 ≤ xs.length ∧ Blk wr g1 25 s.2.cells.toArray ∧ Blk wr g4 25 qV.cells.toArray ∧ Own wr 9 1 B xs.length d (SB xs) ∧ s.2.p = (xs.take s.1).foldl bO m.p ∧ (∃ S, bA w wr S m s.2 ∧ g1 ∉ S ∧ g4 ∉ S) ∧ Frm [] w wr) (fun s => xs.length - s.1) (0, m) (js5 rfl rfl rfl rfl rfl) ⟨zal _, hb1, hb4, ho, rfl, ⟨[], (bA.refl w m).frm K jp, jp, jp⟩, K⟩ ?_
 rintro ⟨i, mi⟩ wr ⟨hi, hb1, hb4, ho, hmi, ⟨S, hkS, hg1S, hg4S⟩, K⟩
 dsimp only at *
 refine jS (jR (jb rfl rfl (Bin.lssN _ _) (jO (jN (jS ?_)))))
 refine jD rfl (fun hc1 => ?_) fun hc1 => ?_
 ·
  obtain ⟨ad, hA, hel⟩ := ho.rd.elem hc1
  obtain ⟨hf1, hf2, hf3, hf4⟩ := hfo i hi
  have hmx := hml.2 _ (zm hc1)
  have hx1 := (zbv.1 hml.1)
  have hsn := xU m.p xs i hc1
  rw [← hmi] at hf1 hf2 hf3 hf4 hsn
  have hnot : qQ xs[i] ∉ qB mi.p := fun h => by
   rcases (hf2 _).1 h with h | h
   · exact hmx.2 h
   obtain ⟨y, hy, he⟩ := List.mem_map.1 h
   obtain ⟨j, hj, rfl⟩ := zo hy
   rw [zg] at hj
   rw [zcb] at he
   have h3 := hx1 j i jo hc1 jo
   have h4 := congrArg List.length he
   rw [bD, bD] at h4
   omega
  have hmiR : RdL wr mi := hkS.now (hm.frm K)
  have hpi := dJ mi
  have hvi : mi.v = m.v + (i : Int) := hf4
  refine jQ (jN (jv5 2 4 9 10 11 ?_))
  refine jS (jB (jS (jR (je (Run.indexS i (show _ = some (Value.slice (some ad) xs.length d) by rw [← hA]; rfl) rfl zd zl hc1) (jl rfl zab (hel 0 (encStr xs[i]) (by simp [SB, hc1])) (ja rfl (jO (jN (jv6 2 4 6 9 10 11 ?_)))))))))
  refine jR (je (Run.loadA rfl zc zb hb1.cells (by first | rfl | (simp; done))) (jM ?_))
  refine Ops.cl (jE2 Tryz.call106) (sO mi xs[i] _ hmiR jo jo hf1 jo jo hnot (hv.frm K)) rfl ?_
  rintro e w4 ⟨m', rfl, hm'p, ⟨S2, hk2⟩, hf4⟩
  refine ⟨_, rfl, ?_⟩
  have hlr1 := hb1.lt
  have hlr4 := hb4.lt
  have hKs := K.size
  have hS2 : g1 ∉ S2 ∧ g4 ∉ S2 := ⟨fun h => by have := hk2.1 _ h; omega, fun h => by have := hk2.1 _ h; omega⟩
  have hb1 := hb1.frm hf4 jp
  have hb4 := hb4.frm hf4 jp
  have ho := ho.frm hf4 jp
  have K := K.trans hf4 jp
  have hkk := hkS.trans hk2 hf4 hKs
  refine Ops.st (qK.storeA rfl rfl zb hb1 rfl (MlC.cells_one m')) ?_
  rintro w5 ⟨hb1, (hf5 : Frm [g1] _ _), hs5⟩
  have hb1 : Blk w5 g1 25 m'.cells.toArray := hb1
  have hb4 := hb4.frm hf5 (by simp; omega)
  have ho := ho.frm hf5 (fun y hy h => by rw [za] at h; have := hob y hy; omega)
  have hkk := hkk.frm hf5 (fun y hy h => by rw [za] at hy; rw [hy] at h; rcases List.mem_append.1 h with h | h; exact hg1S h; exact hS2.1 h)
  have K := K.own hf5 (fun y hy => by rw [za] at hy; omega)
  refine jO ?_
  refine qR (jN ?_)
  refine jv5 2 4 9 10 11 ?_
  refine jR (jb rfl rfl (Bin.add_i64 _ 1 jo) (jm rfl (jO ?_)))
  refine jN ⟨(i + 1, m'), (js5 rfl rfl rfl rfl rfl), ?_, ?_⟩
  ·
   refine ⟨hc1, hb1, hb4, ho, by rw [hm'p, hsn], ⟨_, hkk, fun h => ?_, fun h => ?_⟩, K⟩
   · rcases List.mem_append.1 h with h | h; exact hg1S h; exact hS2.1 h
   rcases List.mem_append.1 h with h | h; exact hg4S h; exact hS2.2 h
  first | omega | (dsimp only; omega)
 refine jX ?_
 refine qT (qT (bZ ?_))
 refine jN (jv2 2 4 ?_)
 refine jS (jR (je (Run.loadA rfl zc zb hb1.cells (by first | rfl | (simp; done))) ?_))
 refine Ops.st (qK.storeA rfl rfl zb hb4 rfl (MlC.cells_one mi)) ?_
 rintro w6 ⟨hb4, (hf6 : Frm [g4] _ _), hs6⟩
 have hb4 : Blk w6 g4 25 mi.cells.toArray := hb4
 refine jO (jN (jv1 4 ?_))
 refine jT ?_
 refine bQ ?_
 refine qH rfl zc zb (hb4.cells) (by first | rfl | (simp; done)) ?_
 refine qP ?_
 obtain rfl : i = xs.length := jo
 rw [zay] at hmi
 refine ⟨mi, rfl, ?_, ⟨S, hkS.frm hf6 (fun y hy h => by rw [za] at hy; rw [hy] at h; exact hg4S h)⟩, K.own hf6 (fun y hy => by rw [za] at hy; omega)⟩
 rw [hmi]
 unfold bX
 rw [hxs]
end
section
open Go.RowKit Go.Sort
theorem cZ {m : MlC} (h : qI m.p) : m.l.length ≤ 24 ∧ 1 ≤ m.v ∧ m.v ≤ 2147483647 ∧ 0 ≤ m.b ∧ m.b ≤ 2147483647 ∧ bW m.p.l ∧ qF ∈ qB m.p := by
 obtain ⟨⟨h1, h2, h3, h4, h5, h6, h7⟩, h8⟩ := h
 have := h1.1
 rw [jV] at this
 exact ⟨this, h3, h4, h5, h6, eD ⟨⟨h1, h2, h3, h4, h5, h6, h7⟩, h8⟩, h7⟩
theorem fE {p : MailP} {a b : Nat} (h : cP p a b = 0) : p.l.length + a ≤ 24 ∧ p.valid + (b : Int) ≤ 2147483647 := by
 unfold cP at h
 split at h
 · cases h
 split at h
 · cases h
 omega
theorem nF (l : List NmP) (s : Tx) : (qO l s).length ≤ s.length := by
 unfold qO
 rw [zej]
 exact zar (zds _ _) (qXb s)
set_option maxHeartbeats 1000000 in
theorem gA (m : MlC) (q : Tx) (w : World) (hm : RdL w m) (hs : q.length ≤ 900000) (hv : cX w) :
  Calls Tryz.prog 13 #[m.val, encStr q] w fun e w' => ∃ (m' : MlC) (k : Nat), e = .returned (.tuple #[m'.val, .int .i64 ((k : Nat) : Int)]) ∧ bF w w' m (dM m.p q) m' k ∧ Frm [] w w' := by
 have hln := hm.ln
 have hml := nF m.p.l q
 have hpl := dJ m
 refine VC.calls (nt := 41) (res := #[.cell 4 25, .tmp 5]) Tryz.func13 rfl Tryz.ntmps13 Tryz.results13 rfl ?_
 refine jS (jR ?_)
 refine Ops.m (qJ.box rfl) rfl ?_
 rintro _ w1 ⟨rfl, hF_w1⟩
 have hb1 : Blk w1 w.heap.size 25 #[.slice m.A m.l.length m.c, .slice m.S m.ss.length m.d, .int .i64 m.v, .int .i64 m.b] := hF_w1.blk
 have K := hF_w1.frm
 generalize hg1 : w.heap.size = g1 at hb1 ⊢
 refine Ops.m (qJ.alloc qD) rfl ?_
 rintro _ w2 ⟨rfl, hF2⟩
 have hb4 := hF2.blk
 have hg4 : w.heap.size ≤ w1.heap.size := K.size
 have hb1 := hb1.frm hF2.frm jp
 have hl1 := hb1.lt
 have hl4 := hb4.lt
 have K := K.trans hF2.frm jp
 have hne14 : g1 ≠ w1.heap.size := by have := hF_w1.size; omega
 have hg1s : w.heap.size ≤ g1 := jo
 generalize hg4' : w1.heap.size = g4 at hb4 hg4 hne14 hl4 ⊢
 refine jz 0 (jO (jN (jv3 1 2 4 ?_)))
 refine jS (jS (jR (je (Run.loadA rfl zc zb hb1.cells (by first | rfl | (simp; done))) ?_)))
 refine Ops.cl (jE1 zdh) (cF m _ (hm.frm K) (hv.frm K)) rfl ?_
 rintro e w3 ⟨rfl, hf3⟩
 refine ⟨_, rfl, ?_⟩
 have hb1 := hb1.frm hf3 jp
 have hb4 := hb4.frm hf3 jp
 have hKs_hf3 := K.size
 have K := K.trans hf3 jp
 refine je (Run.not rfl) (jO (jN (jv4 1 2 4 12 ?_)))
 refine VC.condB rfl (fun hc1 => ?_) (fun hc1 => ?_)
 ·
  have hc1 : ¬ qI m.p := by simpa using hc1
  refine jS (jR (je (Run.build evs.nil qD (qW).choose_spec.1 (qW).choose_spec.2 rfl) ?_))
  refine Ops.st (qK.storeA rfl rfl zb hb4 rfl (MlC.cells_one qV)) ?_
  rintro w4 ⟨hb4, (hfw4 : Frm [g4] _ _), hsw4⟩
  have hb4 : Blk w4 g4 25 qV.cells.toArray := hb4
  have K := K.own hfw4 (fun y hy => by rw [za] at hy; omega)
  refine jz 1 (jO (jN (jv2 4 5 ?_)))
  refine jT ?_
  refine qZ (bQ ?_)
  refine qH rfl zc zb (hb4.cells) (by first | rfl | (simp; done)) ?_
  refine qN rfl ?_
  refine qP ?_
  exact ⟨qV, 1, rfl, bF.err jd (by unfold dM; rw [if_pos hc1]), K⟩
 have hc1 : qI m.p := by simpa using hc1
 obtain ⟨hm24, hv1, hv2, hb0, hb2, hr, hin⟩ := cZ hc1
 refine jQ (jN (jv3 1 2 4 ?_))
 refine jS (jS (jR (jM ?_)))
 refine Ops.cl (jE1 zbp) (bC q _ jo (hv.frm K)) rfl ?_
 rintro e _ ⟨rfl, rfl⟩
 refine ⟨_, rfl, ?_⟩
 refine je (Run.not rfl) (jO (jN (jv4 1 2 4 16 ?_)))
 refine VC.condB rfl (fun hc2 => ?_) (fun hc2 => ?_)
 ·
  have hc2 : ¬ isN q := by simpa using hc2
  refine jS (jR (je (Run.build evs.nil qD (qW).choose_spec.1 (qW).choose_spec.2 rfl) ?_))
  refine Ops.st (qK.storeA rfl rfl zb hb4 rfl (MlC.cells_one qV)) ?_
  rintro w4 ⟨hb4, (hfw4 : Frm [g4] _ _), hsw4⟩
  have hb4 : Blk w4 g4 25 qV.cells.toArray := hb4
  have K := K.own hfw4 (fun y hy => by rw [za] at hy; omega)
  refine jz 18 (jO (jN (jv2 4 5 ?_)))
  refine jT ?_
  refine qZ (bQ ?_)
  refine qH rfl zc zb (hb4.cells) (by first | rfl | (simp; done)) ?_
  refine qN rfl ?_
  refine qP ?_
  exact ⟨qV, 18, rfl, bF.err jd (by unfold dM; rw [if_neg (not_not_intro hc1), if_pos hc2]), K⟩
 have hc2 : isN q := by simpa using hc2
 refine jQ (jN (jv3 1 2 4 ?_))
 refine jS (jS (jR (je (Run.loadA rfl zc zb hb1.cells (by first | rfl | (simp; done))) (jM ?_))))
 refine Ops.cl (jE2 zcm) (bE m q _ (hm.frm K).l hln jo hr (hv.frm K)) rfl ?_
 rintro e w4 ⟨kf, rfl, hpos, hf4⟩
 refine ⟨_, rfl, ?_⟩
 have hb1 := hb1.frm hf4 jp
 have hb4 := hb4.frm hf4 jp
 have hKs_hf4 := K.size
 have K := K.trans hf4 jp
 refine jm rfl (je (Run.extract rfl rfl) (je (Run.extract rfl rfl) (ja rfl (ja rfl (jO (jN (jv4 1 2 4 7 ?_)))))))
 refine jS (jR (jm rfl (jO (jN (jv4 1 2 4 24 ?_)))))
 refine VC.condB rfl (fun hc3 => ?_) (fun hc3 => ?_)
 ·
  have hc3 : qQ q ∈ qB m.p := by simpa using hc3
  refine jS (jR (je (Run.build evs.nil qD (qW).choose_spec.1 (qW).choose_spec.2 rfl) ?_))
  refine Ops.st (qK.storeA rfl rfl zb hb4 rfl (MlC.cells_one qV)) ?_
  rintro w5 ⟨hb4, (hfw5 : Frm [g4] _ _), hsw5⟩
  have hb4 : Blk w5 g4 25 qV.cells.toArray := hb4
  have K := K.own hfw5 (fun y hy => by rw [za] at hy; omega)
  refine jz 15 (jO (jN (jv2 4 5 ?_)))
  refine jT ?_
  refine qZ (bQ ?_)
  refine qH rfl zc zb (hb4.cells) (by first | rfl | (simp; done)) ?_
  refine qN rfl ?_
  refine qP ?_
  exact ⟨qV, 15, rfl, bF.err jd (by unfold dM; rw [if_neg (not_not_intro hc1), if_neg (not_not_intro hc2), if_pos hc3]), K⟩
 have hc3 : qQ q ∉ qB m.p := by simpa using hc3
 refine jQ (jN (jv3 1 2 4 ?_))
 refine jS (jR (je (Run.loadA rfl zc zb hb1.cells (by first | rfl | (simp; done))) (jM ?_)))
 refine Ops.cl (jE2 Tryz.call47) (eB m q _ (hm.frm K) jo hr (hv.frm K)) rfl ?_
 rintro e w5 ⟨B, d, rfl, ho, hob, hf5⟩
 refine ⟨_, rfl, ?_⟩
 have hb1 := hb1.frm hf5 jp
 have hb4 := hb4.frm hf5 jp
 have hKs_hf5 := K.size
 have K := K.trans hf5 jp
 refine je (Run.lenS rfl zd) (ja rfl (jO (jN (jv4 1 2 4 8 ?_))))
 refine jS (jS (jR (je (Run.loadA rfl zc zb hb1.cells (by first | rfl | (simp; done))) (jm rfl (jM ?_)))))
 refine Ops.cl (jE3 Tryz.call48) (lK m _ _ _ hln jo jo jo jo) rfl ?_
 rintro e w6 ⟨rfl, hf6⟩
 refine ⟨_, rfl, ?_⟩
 have hb1 := hb1.frm hf6 jp
 have hb4 := hb4.frm hf6 jp
 have hKs_hf6 := K.size
 have K := K.trans hf6 jp
 refine ja rfl (jO (jN (jv4 1 2 4 9 ?_)))
 refine jS (jR (jm rfl (jb rfl rfl (Bin.neqN _ 0) (jO (jN (jv5 1 2 4 9 35 ?_))))))
 refine jD rfl (fun hc4 => ?_) fun hc4 => ?_
 ·
  refine jS (jR (je (Run.build evs.nil qD (qW).choose_spec.1 (qW).choose_spec.2 rfl) (jM ?_)))
  refine Ops.st (qK.storeA rfl rfl zb hb4 rfl (MlC.cells_one qV)) ?_
  rintro w7 ⟨hb4, (hfw7 : Frm [g4] _ _), hsw7⟩
  have hb4 : Blk w7 g4 25 qV.cells.toArray := hb4
  have K := K.own hfw7 (fun y hy => by rw [za] at hy; omega)
  refine ja rfl (jO (jN (jv2 4 5 ?_)))
  refine jT ?_
  refine qZ (bQ ?_)
  refine qH rfl zc zb (hb4.cells) (by first | rfl | (simp; done)) ?_
  refine qN rfl ?_
  refine qP ?_
  exact ⟨qV, _, rfl, bF.err hc4 (by unfold dM; rw [if_neg (not_not_intro hc1), if_neg (not_not_intro hc2), if_neg hc3, if_pos hc4]), K⟩
 have hc4 : cP m.p (qO m.p.l q).length (qO m.p.l q).length = 0 := jo
 obtain ⟨hro1, hro2⟩ := fE hc4
 have hc4 : ¬ cP m.p (qO m.p.l q).length (qO m.p.l q).length ≠ 0 := jo
 refine jQ (jN (jv3 1 2 4 ?_))
 refine jS (jR (je (Run.loadA rfl zc zb hb1.cells (by first | rfl | (simp; done))) (jM ?_)))
 refine Ops.cl (jE2 Tryz.call49) (jI m q _ (hm.frm K) jo hr jo jo hro2 (hv.frm K)) rfl ?_
 rintro e w7 ⟨m', rfl, hm'p, ⟨S, hkS⟩, hf7⟩
 have hl47 := hb4.lt
 refine ⟨_, rfl, ?_⟩
 have hb1 := hb1.frm hf7 jp
 have hb4 := hb4.frm hf7 jp
 have hKs_hf7 := K.size
 have K := K.trans hf7 jp
 refine Ops.st (qK.storeA rfl rfl zb hb4 rfl (MlC.cells_one m')) ?_
 rintro w8 ⟨hb4, (hf8 : Frm [g4] _ _), hs8⟩
 have hb4 : Blk w8 g4 25 m'.cells.toArray := hb4
 have hkS8 := (hkS.old hKs_hf7).frm hf8 (fun y hy h => by rw [za] at hy; rw [hy] at h; have := hkS.1 _ h; omega)
 have K := K.own hf8 (fun y hy => by rw [za] at hy; omega)
 refine jz 0 (jO (jN (jv2 4 5 ?_)))
 refine jT ?_
 refine bQ ?_
 refine qH rfl zc zb (hb4.cells) (by first | rfl | (simp; done)) ?_
 refine qN rfl ?_
 refine qP ?_
 refine ⟨m', 0, rfl, ⟨⟨S, hkS8⟩, .inl ⟨rfl, ?_⟩⟩, K⟩
 unfold dM
 rw [if_neg (not_not_intro hc1), if_neg (not_not_intro hc2), if_neg hc3, if_neg hc4, hm'p]
end
section
open Go.RowKit Go.Sort
def mE (S : List Nat) (w : World) (f : FuncId) (us : List Value) (p : Tx → Bool) : Prop :=
 (∀ args w, (callFunc f args).run Tryz.prog w = .ok (.enter f args) w) ∧ ∀ W (x : Tx), Frm S w W → x.length ≤ 1000000 → Calls Tryz.prog f (encStr x :: us).toArray W fun e w' => e = .returned (.bool (p x)) ∧ Frm [] W w'
theorem vY {q : Tx → Bool} {l cur : List Tx} {i j : Nat} (hj : j < l.length) (hlen : cur.length = l.length) (h1 : cur.take i = (l.take j).filter q) (h2 : cur.drop j = l.drop j) (hij : i < j) (hx : q l[j] = true) :
  (cur.set i l[j]).take (i + 1) = (l.take (j + 1)).filter q ∧ (cur.set i l[j]).drop (j + 1) = l.drop (j + 1) := by
 constructor
 ·
  rw [zas, zas, List.take_set, List.set_eq_of_length_le (by simp; omega), h1, zbl, zch jo, ze hj]
  simp [hx]
 rw [List.drop_set, if_pos jo]
 have := congrArg (List.drop 1) h2
 simpa [List.drop_drop] using this
theorem vG {q : Tx → Bool} {l cur : List Tx} {i j : Nat} (hj : j < l.length) (h1 : cur.take i = (l.take j).filter q) (h2 : cur.drop j = l.drop j) (hx : q l[j] = false) :
  cur.take i = (l.take (j + 1)).filter q ∧ cur.drop (j + 1) = l.drop (j + 1) := by
 constructor
 ·
  rw [zas, zbl, ← h1, ze hj]
  simp [hx]
 have := congrArg (List.drop 1) h2
 simpa [List.drop_drop] using this
theorem xB {l cur : List Tx} {j : Nat} (hj : j < l.length) (hj' : j < cur.length) (h2 : cur.drop j = l.drop j) : cur[j] = l[j] := by
 have := congrArg List.head? h2
 simpa [List.head?_drop, ze hj, ze hj'] using this
theorem nZ (f : FuncId) (us : List Value) (p : Tx → Bool) (A : Option Addr) (c : Nat) (l : List Tx) (w : World) (hl : Rd w 1 A l.length (SB l)) (hn : l.length ≤ 1000000) (hq : ∀ q ∈ l, q.length ≤ 1000000) (S : List Nat) (hp : mE S w f us p) :
  Calls Tryz.prog 109 #[.slice A l.length c, .func (.func f) #[] us.toArray] w fun e w' => Frm [] w w' ∧ ∃ k, (∀ j (hj : j < l.length), j < k → p l[j] = false) ∧ ((k = l.length ∧ e = .returned (.int .i64 (-1))) ∨ (∃ hk : k < l.length, p l[k] = true ∧ e = .returned (.int .i64 ((k : Nat) : Int)))) := by
 refine VC.calls (nt := 19) (res := #[.tmp 4]) Tryz.func109 rfl Tryz.ntmps109 Tryz.results109 rfl ?_
 refine jS (jR (jz 0 (jO (jN (jv2 0 1 ?_)))))
 refine jS (jS (jR (jm rfl (je (Run.lenS rfl zd) ?_))))
 refine jx .i64 0 ?_
 refine jO (jN (jv4 0 1 7 8 ?_))
 refine jB ?_
 refine VC.loop (σ := Nat) (fun s => [(0, .slice A l.length c), (1, .func (.func f) #[] us.toArray), (7, .int .i64 ((l.length : Nat) : Int)), (8, .int .i64 ((s : Nat) : Int))]) (fun s wr => s ≤ l.length ∧ Frm [] w wr ∧ ∀ j (hj : j < l.length), j < s → p l[j] = false) (fun s => l.length - s) 0 (js4 rfl rfl rfl rfl) ⟨jo, Frm.refl _ _, jp⟩ ?_
 rintro i wr ⟨hi, hfr, hf⟩
 refine jS (jR (jb rfl rfl (Bin.lssN _ _) (jO (jN (jS ?_)))))
 refine jD rfl (fun hc1 => ?_) fun hc1 => ?_
 ·
  obtain ⟨ad, rfl, hcell⟩ := (hl.frm hfr jp).elem hc1
  have hxa := hq l[i] (zm hc1)
  refine jQ (jN (jv4 0 1 7 8 ?_))
  refine jS (jB (jS (jR (jm rfl (ja rfl (jO (jN (jv5 0 1 5 7 8 ?_))))))))
  refine jS (jR (jm rfl (jm rfl (jm rfl (je (Run.indexS i rfl rfl zd zl hc1) (jl rfl zab (hcell 0 (encStr l[i]) (by simp [SB, hc1])) ?_))))))
  refine Ops.cl (bN.dyn rfl (evs.cons rfl evs.nil) hp.1) (hp.2 _ l[i] (hfr.mono jp) hxa) rfl ?_
  rintro e w2 ⟨rfl, hf2⟩
  refine ⟨_, rfl, ?_⟩
  have hfr2 := hfr.trans hf2 jp
  refine jO (jN (jv6 0 1 5 7 8 16 ?_))
  refine VC.condB rfl (fun hc2 => ?_) (fun hc2 => ?_)
  ·
   refine jS (jR (jm rfl (ja rfl (jO (jN (jv1 4 ?_))))))
   refine jT ?_
   refine qC (qZ (qZ (qC (qZ (qL rfl ?_)))))
   exact ⟨hfr2, i, hf, .inr ⟨hc1, hc2, rfl⟩⟩
  refine jQ ?_
  refine qR (jN ?_)
  refine jv4 0 1 7 8 ?_
  refine jR (jb rfl rfl (Bin.add_i64 _ 1 jo) (jm rfl (jO ?_)))
  refine jN ⟨(i + 1), (js4 rfl rfl rfl rfl), ?_, ?_⟩
  ·
   refine ⟨hc1, hfr2, fun j hj hji => ?_⟩
   rcases zcq j i with h | h
   · exact hf j hj h
   obtain rfl : j = i := jo
   simpa using hc2
  first | omega | (dsimp only; omega)
 refine jX ?_
 refine qT (qT (bZ ?_))
 refine jN ?_
 refine VC.sub [] .nil ?_
 refine jS (jR ?_)
 refine Ops.r (v := .int .i64 (-1)) (Run.asg rfl) rfl ?_
 refine jO (jN (jT ?_))
 refine qL rfl ?_
 exact ⟨hfr, i, hf, .inl ⟨jo, rfl⟩⟩
theorem vH (f : FuncId) (us : List Value) (p : Tx → Bool) (A : Option Addr) (c : Nat) (l : List Tx) (w : World) (hl : Rd w 1 A l.length (SB l)) (hn : l.length ≤ 1000000) (hq : ∀ q ∈ l, q.length ≤ 1000000) (S : List Nat) (hp : mE S w f us p) :
  Calls Tryz.prog 54 #[.slice A l.length c, .func (.func f) #[] us.toArray] w fun e w' => e = .returned (.bool (decide (∃ x ∈ l, p x = true))) ∧ Frm [] w w' := by
 refine VC.calls (nt := 9) (res := #[.tmp 4]) Tryz.func54 rfl Tryz.ntmps54 Tryz.results54 rfl ?_
 refine jS (jR (ja rfl (jO (jN (jv2 0 1 ?_)))))
 refine jS (jR (jm rfl (jM ?_)))
 refine Ops.cl (jE2 Tryz.call109) (nZ f us p A c l _ hl hn hq S hp) rfl ?_
 rintro e w1 ⟨hf1, k, hk1, hk2⟩
 obtain ⟨z, rfl, hz⟩ : ∃ z : Int, e = .returned (.int .i64 z) ∧ (0 ≤ z ↔ ∃ x ∈ l, p x = true) := by
  rcases hk2 with ⟨h1, h2⟩ | ⟨h1, h2, h3⟩
  ·
   refine ⟨_, h2, ⟨fun h => jo, fun ⟨x, hx, hpx⟩ => ?_⟩⟩
   obtain ⟨j, hj, rfl⟩ := zo hx
   rw [hk1 j hj jo] at hpx
   cases hpx
  exact ⟨_, h3, ⟨fun _ => ⟨_, zm h1, h2⟩, fun _ => jo⟩⟩
 refine ⟨_, rfl, ?_⟩
 refine jb rfl rfl (Bin.geq _ 0) (ja rfl (jO (jN (jv1 4 ?_))))
 refine jT ?_
 refine qL rfl ?_
 exact ⟨by rw [decide_eq_decide.2 hz], hf1⟩
theorem pU (f : FuncId) (us : List Value) (p : Tx → Bool) (B : Option Addr) (d : Nat) (l : List Tx) (w : World) (hl : Own w 9 1 B l.length d (SB l)) (hn : l.length ≤ 1000000) (hq : ∀ q ∈ l, q.length ≤ 1000000) (hp : mE (ob B) w f us p) :
  Calls Tryz.prog 79 #[.slice B l.length d, .func (.func f) #[] us.toArray] w fun e w' => e = .returned (.slice B (l.filter fun x => !p x).length d) ∧ Own w' 9 1 B (l.filter fun x => !p x).length d (SB (l.filter fun x => !p x)) ∧ Frm (ob B) w w' := by
 refine VC.calls (nt := 42) (res := #[.tmp 4]) Tryz.func79 rfl Tryz.ntmps79 Tryz.results79 rfl ?_
 refine jS (jR (ja rfl (jO (jN (jv2 0 1 ?_)))))
 refine jS (jR (jm rfl (jM ?_)))
 refine Ops.cl (jE2 Tryz.call109) (nZ f us p B d l _ hl.rd hn hq (ob B) hp) rfl ?_
 rintro e w1 ⟨hf1, k, hk1, hk2⟩
 obtain ⟨z, rfl, hz⟩ : ∃ z : Int, e = .returned (.int .i64 z) ∧ ((z = -1 ∧ k = l.length) ∨ (z = ((k : Nat) : Int) ∧ ∃ hk : k < l.length, p l[k] = true)) := by
  rcases hk2 with ⟨h1, h2⟩ | ⟨h1, h2, h3⟩
  · exact ⟨_, h2, .inl ⟨rfl, h1⟩⟩
  exact ⟨_, h3, .inr ⟨rfl, h1, h2⟩⟩
 refine ⟨_, rfl, ?_⟩
 refine ja rfl (jO (jN (jv3 0 1 5 ?_)))
 refine jS (jS (jR (jm rfl (jb rfl rfl (Bin.eql _ (-1)) (jO (jN (jv4 0 1 5 12 ?_)))))))
 refine jD rfl (fun hc1 => ?_) fun hc1 => ?_
 ·
  have hkl : k = l.length := jo
  have hall : l.filter (fun x => !p x) = l := List.filter_eq_self.2 fun x hx => by
   obtain ⟨j, hj, rfl⟩ := zo hx
   simp [hk1 j hj jo]
  refine jS (jR (jm rfl (ja rfl (jO (jN (jv1 4 ?_))))))
  refine jT ?_
  refine qZ (qL rfl ?_)
  rw [hall]
  exact ⟨rfl, hl.frm hf1 jp, hf1.mono jp⟩
 obtain ⟨rfl, hkl, hkp⟩ : z = ((k : Nat) : Int) ∧ ∃ hk : k < l.length, p l[k] = true := by
  rcases hz with ⟨h1, _⟩ | ⟨h1, h2⟩
  · exact absurd h1 hc1
  exact ⟨h1, h2⟩
 obtain ⟨g, rfl⟩ : ∃ g, B = some ⟨g, 0, none⟩ := by
  rcases hl.cases with ⟨_, h0, _⟩ | ⟨g, _, h0, _⟩
  · omega
  exact ⟨g, h0⟩
 have hob : ob (some (⟨g, 0, none⟩ : Addr)) = [g] := rfl
 have hgw := hl.lt g (by simp [ob])
 have hled := hl.le
 refine jQ (jN (jv3 0 1 5 ?_))
 refine jS (jS (jR (jm rfl (jb rfl rfl (Bin.addZ _ 1 jo jo) (ja rfl (jO (jN (jv4 0 1 5 6 ?_))))))))
 refine jB ?_
 refine VC.loop (σ := Nat × Nat × List Tx) (fun s => [(0, .slice (some ⟨g, 0, none⟩) l.length d), (1, .func (.func f) #[] us.toArray), (5, .int .i64 ((s.1 : Nat) : Int)), (6, .int .i64 ((s.2.1 : Nat) : Int))]) (fun s wr => s.1 < s.2.1 ∧ s.2.1 ≤ l.length ∧ s.2.2.length = l.length ∧ Own wr 9 1 (some ⟨g, 0, none⟩) l.length d (SB s.2.2) ∧ s.2.2.take s.1 = (l.take s.2.1).filter (fun x => !p x) ∧ s.2.2.drop s.2.1 = l.drop s.2.1 ∧ Frm [g] w wr) (fun s => l.length - s.2.1) (k, k + 1, l) (js4 rfl rfl rfl rfl) ⟨by dsimp only; omega, hkl, rfl, hl.frm hf1 jp, by
  dsimp only
  rw [zas, zbl, ze hkl]
  rw [List.filter_eq_self.2 (fun x hx => by
   obtain ⟨j, hj, rfl⟩ := zo hx
   have hj2 : j < k := by simpa [zaf (Nat.le_of_lt hkl)] using hj
   simp [hk1 j jo hj2])]
  simp [hkp], rfl, hf1.mono jp⟩ ?_
 rintro ⟨i, j, cur⟩ wr ⟨hij, hjl, hlen, hown, ht1, ht2, hfr⟩
 dsimp only at hij hjl hlen hown ht1 ht2 ⊢
 refine jS (jS (jR (jm rfl (jm rfl (je (Run.lenS rfl zd) (jb rfl rfl (Bin.lssN _ _) (jO (jN (jv5 0 1 5 6 19 ?_)))))))))
 refine jD rfl (fun hc2 => ?_) fun hc2 => ?_
 ·
  have hjc : j < cur.length := jo
  obtain ⟨ad, had, hcell⟩ := hown.rd.elem hc2
  injection had with had
  subst had
  have hxj : (SB cur)[j]? = some (encStr cur[j]) := by simp [SB, hjc]
  have hcl := xB hc2 hjc ht2
  have hxq := hq l[j] (zm hc2)
  refine jQ (jN (jv4 0 1 5 6 ?_))
  refine jS (jB (jS (jR (jm rfl (jm rfl (je (Run.indexS j rfl rfl zd zl hc2) (jl rfl zab (hcell 0 (encStr cur[j]) (by simp [SB, hjc])) (ja rfl (jO (jN (jv5 0 1 5 6 7 ?_)))))))))))
  refine jS (jR (jm rfl (jM ?_)))
  refine Ops.cl (bN.dyn rfl (evs.cons rfl evs.nil) hp.1) (hp.2 _ cur[j] hfr (by rw [hcl]; exact hxq)) rfl ?_
  rintro e w4 ⟨rfl, hf4⟩
  refine ⟨_, rfl, ?_⟩
  have hown4 := hown.frm hf4 jp
  have hfr4 := hfr.trans hf4 jp
  refine je (Run.not rfl) (jO (jN (jv6 0 1 5 6 7 29 ?_)))
  refine VC.condB rfl (fun hc3 => ?_) (fun hc3 => ?_)
  ·
   refine jS (jR (jm rfl (jm rfl (jm rfl (je (Run.indexS i rfl rfl zd zl jo) ?_)))))
   refine Ops.st (qK.storeOwn i (by rw [zbd]; rfl) rfl zl hown4 rfl jo rfl) ?_
   rintro w5 ⟨hown5, hf5, hs5⟩
   have hown5 : Own w5 9 1 (some ⟨g, 0, none⟩) l.length d (SB (cur.set i cur[j])) := by
    have e : SB (cur.set i cur[j]) = (SB cur).set i (encStr cur[j]) := by simp [SB, List.map_set]
    rw [e]
    exact hown5
   have hfr5 : Frm [g] w w5 := hfr4.trans hf5 (by simp [ob])
   refine jO (jN (jv4 0 1 5 6 ?_))
   refine jR (jm rfl (jb rfl rfl (Bin.add_i64 _ 1 jo) (ja rfl (jO ?_))))
   refine qR (jN ?_)
   refine jv4 0 1 5 6 ?_
   refine jR (jm rfl (jb rfl rfl (Bin.add_i64 _ 1 jo) (ja rfl (jO ?_))))
   refine jN ⟨(i + 1, j + 1, cur.set i cur[j]), (js4 rfl rfl rfl rfl), ?_, ?_⟩
   ·
    have hq2 : (fun x : Tx => !p x) l[j] = true := by rw [← hcl]; simpa using hc3
    have hk := vY (q := fun x => !p x) hc2 hlen ht1 ht2 hij hq2
    rw [← hcl] at hk
    exact ⟨by dsimp only; omega, hc2, by simpa using hlen, hown5, hk.1, hk.2, hfr5⟩
   first | omega | (dsimp only; omega)
  refine jQ ?_
  refine qR (jN ?_)
  refine jv4 0 1 5 6 ?_
  refine jR (jm rfl (jb rfl rfl (Bin.add_i64 _ 1 jo) (ja rfl (jO ?_))))
  refine jN ⟨(i, j + 1, cur), (js4 rfl rfl rfl rfl), ?_, ?_⟩
  ·
   have hq2 : (fun x : Tx => !p x) l[j] = false := by rw [← hcl]; simpa using hc3
   have hk := vG (q := fun x => !p x) hc2 ht1 ht2 hq2
   exact ⟨by dsimp only; omega, hc2, hlen, hown4, hk.1, hk.2, hfr4⟩
  first | omega | (dsimp only; omega)
 refine jX ?_
 refine qT (qT (bZ ?_))
 refine jN (jv2 0 5 ?_)
 refine jS (jR (jm rfl (jm rfl (je (Run.sliceS _ _ rfl zd zl (evB.some_ rfl) evB.none_ jo jo) ?_))))
 have hjl2 : j = l.length := jo
 subst hjl2
 rw [zay] at ht1
 have hli : (l.filter fun x => !p x).length = i := by rw [← ht1, zg]; omega
 have hfl : (l.filter fun x => !p x).length ≤ l.length := zds _ _
 refine Ops.m0 (qJ.clearCut (m := l.length) (size := 1) rfl zd hG rfl jd hown jo) ?_
 rintro _ w6 ⟨hown6, hf6⟩
 have hMC : (SB cur).take (i * 1) = SB (l.filter fun x => !p x) := by
  rw [← ht1, zbd]
  simp [SB, zdo]
 rw [hMC] at hown6
 refine jO (jN (jv2 0 5 ?_))
 refine jS (jR (jm rfl (jm rfl (je (Run.sliceS 0 _ rfl zd zl evB.none_ (evB.some_ rfl) jo jo) (ja rfl (jO (jN (jv1 4 ?_))))))))
 refine jT ?_
 refine qL rfl ?_
 rw [hli]
 refine ⟨?_, hown6, hfr.trans hf6 (by simp [ob])⟩
 rw [dI]
 rfl
end
section
open Go.RowKit Go.Sort
def newM : MailP := ⟨[(qF, ⟨1, 1, []⟩)], [], 1, 0⟩
theorem tE (l : List Nc) (i : Nat) (hi : i < l.length) : (l.take i ++ l.drop (i + 1)).length = l.length - 1 := by
 rw [zi, zg, zp]
 omega
theorem qZa (l : List Nc) (i : Nat) : Ns (l.take i ++ l.drop (i + 1)) = (Ns l).take i ++ (Ns l).drop (i + 1) := by
 simp [Ns, zdo, List.map_drop]
theorem zC {w w' : World} {m : MlC} {i : Nat} {A : Option Addr} {c : Nat} (hi : i < m.l.length) (ho : Own w' 45 4 A (m.l.length - 1) c (NDC (m.l.take i ++ m.l.drop (i + 1)))) (hf : ∀ b ∈ ob A, w.heap.size ≤ b) :
  bA w w' (ob A) m (m.wl A c (m.l.take i ++ m.l.drop (i + 1))) := by
 have hll := tE m.l i hi
 refine ⟨hf, fun w'' T kT hT hm => ?_⟩
 have ho := ho.frm kT (fun y hy h => hT y h hy)
 have hln := hm.ln
 refine ⟨⟨ho.rdNk hll, fun y hy => ?_⟩, hm.s, by show List.length (_ ++ _) ≤ _; rw [hll]; exact ho.le, hm.sc, by show List.length (_ ++ _) ≤ _; rw [hll]; omega, hm.sn, hm.sq⟩
 rcases List.mem_append.1 hy with h1 | h1
 · exact hm.l.el y (zcp h1)
 exact hm.l.el y (zba h1)
theorem xC (w : World) : Calls Tryz.prog 28 #[] w fun e w' => ∃ m' : MlC, e = .returned m'.val ∧ m'.p = newM ∧ (∃ S, bA w w' S qV m') ∧ Frm [] w w' := by
 have K := Frm.refl [] w
 have hmb0 : bR ⟨1, 1, []⟩ := jd
 refine VC.calls (nt := 11) (res := #[.cell 0 25]) Tryz.func28 rfl Tryz.ntmps28 Tryz.results28 rfl ?_
 refine jS (jR ?_)
 refine Ops.m (qJ.alloc qD) rfl ?_
 rintro _ w1 ⟨rfl, hF1⟩
 have hb0 := hF1.blk
 have hl0 := hb0.lt
 have hg0 : w.heap.size ≤ w.heap.size := zw _
 have K := K.trans hF1.frm jp
 generalize hg0' : w.heap.size = g0 at hb0 hg0 hl0 ⊢
 refine jO (jN (jS (jR ?_)))
 refine Ops.cl (jE1 Tryz.call82) (nD 1 _) rfl ?_
 rintro e w5 ⟨hf5, hc5⟩
 obtain rfl : e = .returned (.tuple #[.agg #[.int .i64 1, .int .i64 1, .slice none 0 0], .int .i64 0]) := by
  rcases hc5 with ⟨_, h⟩ | ⟨h, _⟩
  · exact h
  exact absurd hmb0 h
 refine ⟨_, rfl, ?_⟩
 have hb0 := hb0.frm hf5 jp
 have K := K.trans hf5 jp
 refine jm rfl (je (Run.extract rfl rfl) (je (Run.extract rfl rfl) ?_))
 refine Ops.m (qJ.alloc bL) rfl ?_
 rintro _ w6 ⟨rfl, hF6⟩
 have hb1 := hF6.blk
 have hg1 : w.heap.size ≤ w5.heap.size := K.size
 have hl05 := hb0.lt
 have hb0 := hb0.frm hF6.frm jp
 have K := K.trans hF6.frm jp
 generalize hg1' : w5.heap.size = g1 at hb1 hg1 hl05 ⊢
 refine Ops.st (qK.storeA rfl rfl zj hb1 rfl (bU _ _ none 0 0)) ?_
 rintro w7 ⟨hb1, (hf7 : Frm [g1] _ _), hs7⟩
 have hb1 : Blk w7 g1 43 #[.int .i64 1, .int .i64 1, .slice none 0 0] := hb1
 have hb0 := hb0.frm hf7 (by simp; omega)
 have K := K.own hf7 (fun y hy => by rw [za] at hy; omega)
 refine ja rfl (jO (jN (jv2 0 1 ?_)))
 refine jS (jR (je (Run.loadA rfl zai zj hb1.cells (by first | rfl | (simp; done))) (je (Run.build (evs.cons rfl (evs.cons rfl evs.nil)) dV (fB).choose_spec.1 (fB).choose_spec.2 rfl) ?_)))
 refine Ops.m (qJ.buildS1 rfl zf zt dV jd jd rfl rfl) rfl ?_
 rintro _ w8 ⟨rfl, hF8⟩
 have hl07 := hb0.lt
 have ho8 : Own w8 45 4 (some ⟨w7.heap.size, 0, none⟩) 1 1 (NDC [⟨qF, 1, 1, none, 0, []⟩]) := Own.of_blk (n := 1) (size := 4) hF8.blk rfl jd
 have hb0 := hb0.frm hF8.frm jp
 have hK7 := K.size
 have K := K.trans hF8.frm jp
 refine je (Run.build (evs.cons rfl (evs.cons rfl evs.nil)) qD (qW).choose_spec.1 (qW).choose_spec.2 rfl) ?_
 refine Ops.st (qK.storeA rfl rfl zb hb0 rfl (MlC.cells_one ⟨some ⟨w7.heap.size, 0, none⟩, 1, [⟨qF, 1, 1, none, 0, []⟩], none, 0, [], 1, 0⟩)) ?_
 rintro w9 ⟨hb0, (hf9 : Frm [g0] _ _), hs9⟩
 have ho9 := ho8.frm hf9 (by simp [ob]; omega)
 refine jO (jN (jv1 0 ?_))
 refine jT ?_
 refine bQ ?_
 refine qH rfl zc zb (hb0.cells) (by first | rfl | (simp; done)) ?_
 refine qP ?_
 refine ⟨⟨some ⟨w7.heap.size, 0, none⟩, 1, [⟨qF, 1, 1, none, 0, []⟩], none, 0, [], 1, 0⟩, rfl, rfl, ⟨[w7.heap.size], fun y hy => by rw [za] at hy; omega, fun w'' T kT hT _ => ?_⟩, K.own hf9 (fun y hy => by rw [za] at hy; omega)⟩
 have ho := ho9.frm kT (fun y hy h => hT y h (by simpa [ob] using hy))
 exact ⟨⟨ho.rd, fun y hy => by rw [za] at hy; subst hy; exact ⟨RdM.nil _ _, jp, by simp [qF]⟩⟩, Rd.nil _ _ _, jp, jp, jp, jp, jp⟩
theorem vM (x q : Tx) (g : Nat) (w : World) (hb : Blk w g 9 #[encStr q]) (hx : x.length ≤ 1000000) (hq : q.length ≤ 1000000) (hv : cX w) :
  Calls Tryz.prog 56 #[encStr x, .pointer (some ⟨g, 0, none⟩)] w fun e w' => e = .returned (.bool (decide (cJ x q))) ∧ Frm [] w w' := by
 refine VC.calls (nt := 7) (res := #[.tmp 3]) Tryz.func56 rfl Tryz.ntmps56 Tryz.results56 rfl ?_
 refine jS (jR (ja rfl (jO (jN (jv2 0 1 ?_)))))
 refine jS (jR (jm rfl (jl rfl zab (hb.cell 0) ?_)))
 refine Ops.cl (jE2 Tryz.call57) (eS x q _ hx hq hv) rfl ?_
 rintro e w2 ⟨rfl, hf2⟩
 refine ⟨_, rfl, ?_⟩
 refine ja rfl (jO (jN (jv1 3 ?_)))
 refine jT ?_
 refine qL rfl ?_
 exact ⟨rfl, hf2⟩
set_option maxHeartbeats 1000000 in
theorem gI (m : MlC) (q : Tx) (w : World) (hm : RdL w m) (hs : q.length ≤ 900000) (hv : cX w) :
  Calls Tryz.prog 17 #[m.val, encStr q] w fun e w' => ∃ (m' : MlC) (k : Nat), e = .returned (.tuple #[m'.val, .int .i64 ((k : Nat) : Int)]) ∧ bF w w' m (dN m.p q) m' k ∧ Frm [] w w' := by
 have hln := hm.ln
 have hpl := dJ m
 have hnl := jV m
 have hnq := pJ hm
 refine VC.calls (nt := 47) (res := #[.cell 4 25, .tmp 5]) Tryz.func17 rfl Tryz.ntmps17 Tryz.results17 rfl ?_
 refine jS (jR ?_)
 refine Ops.m (qJ.box rfl) rfl ?_
 rintro _ w1 ⟨rfl, hF_w1⟩
 have hb1 : Blk w1 w.heap.size 25 #[.slice m.A m.l.length m.c, .slice m.S m.ss.length m.d, .int .i64 m.v, .int .i64 m.b] := hF_w1.blk
 have K := hF_w1.frm
 generalize hg1 : w.heap.size = g1 at hb1 ⊢
 refine Ops.m (qJ.box rfl) rfl ?_
 rintro _ w2 ⟨rfl, hF2⟩
 have hb3 : Blk w2 w1.heap.size 9 #[encStr q] := hF2.blk
 have hb1 := hb1.frm hF2.frm jp
 have hg3 : w.heap.size ≤ w1.heap.size := K.size
 have hne13 : g1 ≠ w1.heap.size := by have := hF_w1.size; omega
 have hg1s : w.heap.size ≤ g1 := jo
 have K := K.trans hF2.frm jp
 generalize hg3' : w1.heap.size = g3 at hb3 hg3 hne13 ⊢
 refine Ops.m (qJ.alloc qD) rfl ?_
 rintro _ w3 ⟨rfl, hF3⟩
 have hb4 := hF3.blk
 have hg4 : w.heap.size ≤ w2.heap.size := K.size
 have hl1 := hb1.lt
 have hl3 := hb3.lt
 have hb1 := hb1.frm hF3.frm jp
 have hb3 := hb3.frm hF3.frm jp
 have K := K.trans hF3.frm jp
 generalize hg4' : w2.heap.size = g4 at hb4 hg4 hl1 hl3 ⊢
 refine jz 0 (jO (jN (jv3 2 3 4 ?_)))
 refine jS (jS (jR (je (Run.loadA rfl zc zb hb1.cells (by first | rfl | (simp; done))) ?_)))
 refine Ops.cl (jE1 zdh) (cF m _ (hm.frm K) (hv.frm K)) rfl ?_
 rintro e w4 ⟨rfl, hf4⟩
 refine ⟨_, rfl, ?_⟩
 have hb1 := hb1.frm hf4 jp
 have hb3 := hb3.frm hf4 jp
 have hb4 := hb4.frm hf4 jp
 have hKs_hf4 := K.size
 have K := K.trans hf4 jp
 refine je (Run.not rfl) (jO (jN (jv4 2 3 4 10 ?_)))
 refine VC.condB rfl (fun hc1 => ?_) (fun hc1 => ?_)
 ·
  have hc1 : ¬ qI m.p := by simpa using hc1
  refine jS (jR (je (Run.build evs.nil qD (qW).choose_spec.1 (qW).choose_spec.2 rfl) ?_))
  refine Ops.st (qK.storeA rfl rfl zb hb4 rfl (MlC.cells_one qV)) ?_
  rintro w5 ⟨hb4, (hfw5 : Frm [g4] _ _), hsw5⟩
  have hb4 : Blk w5 g4 25 qV.cells.toArray := hb4
  have K := K.own hfw5 (fun y hy => by rw [za] at hy; omega)
  refine jz 1 (jO (jN (jv2 4 5 ?_)))
  refine jT ?_
  refine qZ (bQ ?_)
  refine qH rfl zc zb (hb4.cells) (by first | rfl | (simp; done)) ?_
  refine qN rfl ?_
  refine qP ?_
  exact ⟨qV, 1, rfl, bF.err jd (by unfold dN; rw [if_pos hc1]), K⟩
 have hc1 : qI m.p := by simpa using hc1
 obtain ⟨hm24, hv1, hv2, hb0, hb2, hr, hin⟩ := cZ hc1
 refine jQ (jN (jv3 2 3 4 ?_))
 refine jS (jR (je (Run.loadA rfl zc zb hb1.cells (by first | rfl | (simp; done))) (jl rfl zab (hb3.cell 0) ?_)))
 refine Ops.cl (jE2 zcm) (bE m q _ (hm.frm K).l hln jo hr (hv.frm K)) rfl ?_
 rintro e w5 ⟨k, rfl, hpos, hf5⟩
 refine ⟨_, rfl, ?_⟩
 have hb1 := hb1.frm hf5 jp
 have hb3 := hb3.frm hf5 jp
 have hb4 := hb4.frm hf5 jp
 have hKs_hf5 := K.size
 have K := K.trans hf5 jp
 refine jm rfl (je (Run.extract rfl rfl) (je (Run.extract rfl rfl) (ja rfl (ja rfl (jO (jN (jv5 2 3 4 6 7 ?_)))))))
 refine jS (jB (jS (jR (jl rfl zab (hb3.cell 0) ?_))))
 refine Ops.cl (jE1 zbp) (bC q _ jo (hv.frm K)) rfl ?_
 rintro e _ ⟨rfl, rfl⟩
 refine ⟨_, rfl, ?_⟩
 refine je (Run.not rfl) (ja rfl (jO (jN (jv6 2 3 4 6 7 18 ?_))))
 refine VC.condB rfl (fun hc2 => ?_) (fun hc2 => ?_)
 ·
  have hc2 : ¬ isN q := by simpa using hc2
  refine jS (jR (je (Run.build evs.nil qD (qW).choose_spec.1 (qW).choose_spec.2 rfl) ?_))
  refine Ops.st (qK.storeA rfl rfl zb hb4 rfl (MlC.cells_one qV)) ?_
  rintro w6 ⟨hb4, (hfw6 : Frm [g4] _ _), hsw6⟩
  have hb4 : Blk w6 g4 25 qV.cells.toArray := hb4
  have K := K.own hfw6 (fun y hy => by rw [za] at hy; omega)
  refine jz 18 (jO (jN (jv2 4 5 ?_)))
  refine jT ?_
  refine qC (qZ (bQ ?_))
  refine qH rfl zc zb (hb4.cells) (by first | rfl | (simp; done)) ?_
  refine qN rfl ?_
  refine qP ?_
  exact ⟨qV, 18, rfl, bF.err jd (by unfold dN; rw [if_neg (not_not_intro hc1), if_pos hc2]), K⟩
 have hc2 : isN q := by simpa using hc2
 refine jS (jR (jm rfl (je (Run.not rfl) (ja rfl (jO (jN (jv5 2 3 4 6 23 ?_)))))))
 refine VC.condB rfl (fun hc3 => ?_) (fun hc3 => ?_)
 ·
  have hc3 : qQ q ∉ qB m.p := by simpa using hc3
  refine jS (jR (je (Run.build evs.nil qD (qW).choose_spec.1 (qW).choose_spec.2 rfl) ?_))
  refine Ops.st (qK.storeA rfl rfl zb hb4 rfl (MlC.cells_one qV)) ?_
  rintro w6 ⟨hb4, (hfw6 : Frm [g4] _ _), hsw6⟩
  have hb4 : Blk w6 g4 25 qV.cells.toArray := hb4
  have K := K.own hfw6 (fun y hy => by rw [za] at hy; omega)
  refine jz 6 (jO (jN (jv2 4 5 ?_)))
  refine jT ?_
  refine qC (qZ (bQ ?_))
  refine qH rfl zc zb (hb4.cells) (by first | rfl | (simp; done)) ?_
  refine qN rfl ?_
  refine qP ?_
  exact ⟨qV, 6, rfl, bF.err jd (by unfold dN; rw [if_neg (not_not_intro hc1), if_neg (not_not_intro hc2), if_pos hc3]), K⟩
 have hc3 : qQ q ∈ qB m.p := by simpa using hc3
 refine jS (jR (jl rfl zab (hb3.cell 0) ?_))
 refine Ops.cl (jE1 zbz) (bS q _ jo (hv.frm K)) rfl ?_
 rintro e w6 ⟨rfl, hf6⟩
 refine ⟨_, rfl, ?_⟩
 have hb1 := hb1.frm hf6 jp
 have hb3 := hb3.frm hf6 jp
 have hb4 := hb4.frm hf6 jp
 have hKs_hf6 := K.size
 have K := K.trans hf6 jp
 refine je (Run.eqlT rfl rfl) (ja rfl (jO (jN (jv5 2 3 4 6 27 ?_))))
 refine jD rfl (fun hc4 => ?_) fun hc4 => ?_
 ·
  have hc4 : qQ q = qF := hc4
  refine jS (jR (je (Run.build evs.nil qD (qW).choose_spec.1 (qW).choose_spec.2 rfl) ?_))
  refine Ops.st (qK.storeA rfl rfl zb hb4 rfl (MlC.cells_one qV)) ?_
  rintro w7 ⟨hb4, (hfw7 : Frm [g4] _ _), hsw7⟩
  have hb4 : Blk w7 g4 25 qV.cells.toArray := hb4
  have K := K.own hfw7 (fun y hy => by rw [za] at hy; omega)
  refine jz 17 (jO (jN (jv2 4 5 ?_)))
  refine jT ?_
  refine qC (qZ (bQ ?_))
  refine qH rfl zc zb (hb4.cells) (by first | rfl | (simp; done)) ?_
  refine qN rfl ?_
  refine qP ?_
  exact ⟨qV, 17, rfl, bF.err jd (by unfold dN; rw [if_neg (not_not_intro hc1), if_neg (not_not_intro hc2), if_neg (not_not_intro hc3), if_pos hc4]), K⟩
 have hc4 : qQ q ≠ qF := hc4
 refine jS (jR (je (Run.loadA rfl zc zb hb1.cells (by first | rfl | (simp; done))) ?_))
 refine Ops.cl (jE1 Tryz.call55) (jJ m _ (hm.frm K)) rfl ?_
 rintro e w7 ⟨B7, d7, rfl, ho7, _, hf7⟩
 refine ⟨_, rfl, ?_⟩
 have hb1 := hb1.frm hf7 jp
 have hb3 := hb3.frm hf7 jp
 have hb4 := hb4.frm hf7 jp
 have hKs_hf7 := K.size
 have K := K.trans hf7 jp
 rw [← hnl] at ho7 ⊢
 have hTT : mE [] w7 56 [.pointer (some ⟨g3, 0, none⟩)] (fun x => decide (cJ x q)) := ⟨Tryz.call56, fun W x hW hx => vM x q g3 W (hb3.frm hW jp) hx jo (hv.frm (K.trans hW jp))⟩
 refine je (Run.mkFunc evs.nil (evs.cons rfl evs.nil)) ?_
 refine Ops.cl (jE2 Tryz.call54) (vH 56 [.pointer (some ⟨g3, 0, none⟩)] _ B7 d7 (qB m.p) _ ho7.rd jo hnq [] hTT) rfl ?_
 rintro e w8 ⟨rfl, hf8⟩
 refine ⟨_, rfl, ?_⟩
 have hb1 := hb1.frm hf8 jp
 have hb3 := hb3.frm hf8 jp
 have hb4 := hb4.frm hf8 jp
 have hKs_hf8 := K.size
 have K := K.trans hf8 jp
 refine ja rfl (jO (jN (jv4 2 4 6 32 ?_)))
 refine VC.condB rfl (fun hc5 => ?_) (fun hc5 => ?_)
 ·
  have hc5 : ∃ x ∈ qB m.p, cJ x q := by simpa using hc5
  refine jS (jR (je (Run.build evs.nil qD (qW).choose_spec.1 (qW).choose_spec.2 rfl) ?_))
  refine Ops.st (qK.storeA rfl rfl zb hb4 rfl (MlC.cells_one qV)) ?_
  rintro w9 ⟨hb4, (hfw9 : Frm [g4] _ _), hsw9⟩
  have hb4 : Blk w9 g4 25 qV.cells.toArray := hb4
  have K := K.own hfw9 (fun y hy => by rw [za] at hy; omega)
  refine jz 16 (jO (jN (jv2 4 5 ?_)))
  refine jT ?_
  refine qC (qZ (bQ ?_))
  refine qH rfl zc zb (hb4.cells) (by first | rfl | (simp; done)) ?_
  refine qN rfl ?_
  refine qP ?_
  exact ⟨qV, 16, rfl, bF.err jd (by unfold dN; rw [if_neg (not_not_intro hc1), if_neg (not_not_intro hc2), if_neg (not_not_intro hc3), if_neg hc4, if_pos hc5]), K⟩
 have hc5 : ¬ ∃ x ∈ qB m.p, cJ x q := by simpa using hc5
 obtain ⟨hk, hke⟩ := (jZ hr hpos).2 hc3
 have hkl : k < m.l.length := jo
 refine jQ ?_
 refine qR (jN ?_)
 refine jv3 2 4 6 ?_
 refine jS (jR (jf rfl zh rfl zad (jl rfl zaz (hb1.cell 0) ?_)))
 refine Ops.cl (jE1 Tryz.call59) (jF m.A m.c m.l _ (hm.l.frm K) hln) rfl ?_
 rintro e w9 ⟨B9, d9, rfl, ho9, hob9, hf9⟩
 have hl18 := hb1.lt
 have hl48 := hb4.lt
 refine ⟨_, rfl, ?_⟩
 have hb1 := hb1.frm hf9 jp
 have hb3 := hb3.frm hf9 jp
 have hb4 := hb4.frm hf9 jp
 have hKs_hf9 := K.size
 have K := K.trans hf9 jp
 refine jm rfl (jm rfl (jb rfl rfl (Bin.add_i64 _ 1 jo) ?_))
 refine Ops.cl (jE3 Tryz.call58) (rB B9 d9 k m.l _ ho9 hln hkl) rfl ?_
 rintro e w10 ⟨rfl, ho10, hf10⟩
 refine ⟨_, rfl, ?_⟩
 have hb1 := hb1.frm hf10 (fun h => by have := hob9 _ h; omega)
 have hb4 := hb4.frm hf10 (fun h => by have := hob9 _ h; omega)
 have K := K.own hf10 (fun y hy => by have := hob9 _ hy; omega)
 refine jf rfl zh rfl zad ?_
 refine Ops.st (qK.store rfl rfl zad hb1 rfl rfl) ?_
 rintro w11 ⟨hb1, (hf11 : Frm [g1] _ _), hs11⟩
 have hb1 : Blk w11 g1 25 #[.slice B9 (m.l.length - 1) d9, .slice m.S m.ss.length m.d, .int .i64 m.v, .int .i64 m.b] := hb1
 have hb4 := hb4.frm hf11 (by simp; omega)
 have ho11 := ho10.frm hf11 (fun y hy h => by rw [za] at h; have := hob9 y hy; omega)
 have K := K.own hf11 (fun y hy => by rw [za] at hy; omega)
 refine jO (jN (jv2 2 4 ?_))
 refine jS (jR (je (Run.loadA rfl zc zb hb1.cells (by first | rfl | (simp; done))) ?_))
 refine Ops.st (qK.storeA rfl rfl zb hb4 rfl (by intro u hu; simp only [zy, zaa, or_false] at hu; rcases hu with rfl | rfl | rfl | rfl <;> rfl)) ?_
 rintro w12 ⟨hb4, (hf12 : Frm [g4] _ _), hs12⟩
 have ho12 := ho11.frm hf12 (fun y hy h => by rw [za] at h; have := hob9 y hy; omega)
 have K := K.own hf12 (fun y hy => by rw [za] at hy; omega)
 refine jz 0 (jO (jN (jv2 4 5 ?_)))
 refine jT ?_
 refine bQ ?_
 refine qH rfl zc zb (hb4.cells) (by first | rfl | (simp; done)) ?_
 refine qN rfl ?_
 refine qP ?_
 refine ⟨m.wl B9 d9 (m.l.take k ++ m.l.drop (k + 1)), 0, ?_, ⟨⟨ob B9, zC hkl ho12 (fun b hb => by have := hob9 b hb; omega)⟩, .inl ⟨rfl, ?_⟩⟩, K⟩
 ·
  rw [MlC.wl_val _ _ _ _ (tE m.l k hkl)]
  rfl
 unfold dN
 rw [if_neg (not_not_intro hc1), if_neg (not_not_intro hc2), if_neg (not_not_intro hc3), if_neg hc4, if_neg hc5, uA hr hpos hk hke]
 exact congrArg (fun z => Except.ok (MailP.mk z m.ss m.v m.b)) (qZa m.l k).symm
end
section
open Go.RowKit Go.Sort
theorem nA {w : World} {g e size n d k j : Nat} {xs : List Value} {v : Value} (h : Own w e size (some ⟨g, 0, none⟩) n d xs) (hk : k < n) (hj : ((xs.drop (k * size)).take size)[j]? = some v) : w.cell? (((⟨g, 0, none⟩ : Addr).add (k * size)).add j) = some v := by
 obtain ⟨ad, h1, hc⟩ := h.rd.elem hk
 cases h1
 exact hc j v hj
theorem tX (A : Option Addr) (c : Nat) (l : List Mc) (w : World) (hl : RdM w A l) (hn : l.length ≤ 1000000) :
  Calls Tryz.prog 119 #[.slice A l.length c] w fun e w' => ∃ B d, e = .returned (.slice B l.length d) ∧ Own w' 60 6 B l.length d (MC l) ∧ (∀ b ∈ ob B, w.heap.size ≤ b) ∧ Frm [] w w' := by
 refine VC.calls (nt := 8) (res := #[.tmp 2]) Tryz.func119 rfl Tryz.ntmps119 Tryz.results119 rfl ?_
 refine jS (jR (ja rfl (jO (jN (jv1 0 ?_)))))
 refine jS (jS (jR (jm rfl (je (Run.eqNilS rfl rfl zx) (jO (jN (jv2 0 4 ?_)))))))
 refine VC.condB rfl (fun hc1 => ?_) (fun hc1 => ?_)
 ·
  refine jS (jR (ja rfl (jO (jN (jv1 2 ?_)))))
  refine jT ?_
  refine qZ (qL rfl ?_)
  obtain rfl : A = none := by cases A with | none => rfl | some a => cases hc1
  have hn0 : l.length = 0 := by
   rcases zcn l.length with h | h
   · exact h
   obtain ⟨_, h1, _⟩ := hl.rd.2 h; cases h1
  obtain rfl : l = [] := zv hn0
  exact ⟨none, 0, rfl, Own.nil _ _ _, by simp [ob], Frm.refl _ _⟩
 refine jQ (jN (jv1 0 ?_))
 refine jS (jR ?_)
 refine Ops.m (qJ.buildS0 zx zan) rfl ?_
 rintro _ w1 ⟨rfl, hF1⟩
 have ho1 : Own w1 60 6 (some ⟨w.heap.size, 0, none⟩) 0 0 (MC []) := Own.of_blk hF1.blk rfl (by simp [maxLen])
 refine jM ?_
 refine Ops.m (qJ.app rfl rfl zx (oW) rfl jd ho1 (hl.rd.frm hF1.frm jp) (gR Mc.cells Mc.cells_one _) jo jo) rfl ?_
 rintro _ w2 ⟨B, d, rfl, ho2, hf2, hob⟩
 rw [zen] at ho2
 rw [zen]
 have hs1 := hF1.size
 have hf := hF1.frm.own hf2 (by simp [ob])
 refine ja rfl (jO (jN (jv1 2 ?_)))
 refine jT ?_
 refine qL rfl ?_
 refine ⟨B, d, rfl, ho2, fun x hx => ?_, hf⟩
 rcases hob with h | h
 · rw [h] at hx; simp [ob] at hx; omega
 rw [h, za] at hx; omega
set_option maxHeartbeats 1000000 in
theorem vN (v n : Int) (A : Option Addr) (c : Nat) (l : List Mc) (w : World) (hl : RdM w A l) (hn : l.length ≤ 1000000) :
  Calls Tryz.prog 72 #[.agg (BVc v n A l.length c).toArray] w fun e w' => ∃ B d, ∃ l' : List Mc, e = .returned (.agg (BVc v n B l'.length d).toArray) ∧ OwM w' B d l' ∧ Ms l' = Ms l ∧ (∀ b ∈ ob B, w.heap.size ≤ b) ∧ Frm [] w w' := by
 refine VC.calls (nt := 28) (res := #[.cell 2 43]) Tryz.func72 rfl Tryz.ntmps72 Tryz.results72 rfl ?_
 refine jS (jR ?_)
 refine Ops.m (qJ.box rfl) rfl ?_
 rintro _ w1 ⟨rfl, hF1⟩
 have hb1 : Blk w1 w.heap.size 43 (BVc v n A l.length c).toArray := hF1.blk
 have K := hF1.frm
 have hF1s := hF1.size
 generalize hg1 : w.heap.size = g1 at hb1 ⊢
 refine Ops.m (qJ.alloc bL) rfl ?_
 rintro _ w2 ⟨rfl, hF2⟩
 have hb2 : Blk w2 w1.heap.size 43 (BVc 0 0 none 0 0).toArray := hF2.blk
 have hl1 := hb1.lt
 have hb1 := hb1.frm hF2.frm jp
 have K := K.trans hF2.frm jp
 have hne12 : g1 ≠ w1.heap.size := jo
 have hg2s : w.heap.size ≤ w1.heap.size := jo
 generalize hg2 : w1.heap.size = g2 at hb2 hne12 hg2s ⊢
 refine jO (jN (jv2 1 2 ?_))
 refine jS (jR (jf rfl zr rfl zam (jl rfl zbf (hb1.cell 2) ?_)))
 refine Ops.cl (jE1 Tryz.call119) (tX A c l _ (hl.frm K) hn) rfl ?_
 rintro e w3 ⟨B, d, rfl, ho, hob, hf3⟩
 refine ⟨_, rfl, ?_⟩
 have hb1 := hb1.frm hf3 jp
 have hb2 := hb2.frm hf3 jp
 have hKs := K.size
 have K := K.trans hf3 jp
 have hob : ∀ b ∈ ob B, w.heap.size ≤ b := fun b hb => zar hKs (hob b hb)
 refine jf rfl zr rfl zam ?_
 refine Ops.st (qK.store rfl rfl zam hb1 rfl rfl) ?_
 have hb1x := hb1
 rintro w4 ⟨hb1, (hf4 : Frm [g1] _ _), hs4⟩
 have ho := ho.frm hf4 (fun y hy => by have := ho.ne_blk (hb1x) jd; simp; rintro rfl; exact this hy)
 have hb1 : Blk w4 g1 43 (BVc v n B l.length d).toArray := hb1
 have hb2 := hb2.frm hf4 (by simp; omega)
 have K := K.own hf4 (fun y hy => by rw [za] at hy; omega)
 refine jO (jN (jv2 1 2 ?_))
 refine jS (jS (jR (jf rfl zr rfl zam (jl rfl zbf (hb1.cell 2) (je (Run.lenS rfl zx) ?_)))))
 refine jx .i64 0 ?_
 refine jO (jN (jv4 1 2 10 11 ?_))
 refine jB ?_
 refine VC.loop (σ := Nat × List Mc) (fun s => [(1, .pointer (some ⟨g1, 0, none⟩)), (2, .pointer (some ⟨g2, 0, none⟩)), (10, .int .i64 ((l.length : Nat) : Int)), (11, .int .i64 ((s.1 : Nat) : Int))]) (fun s wr => s.1 ≤ l.length ∧ s.2.length = l.length ∧ Ms s.2 = Ms l ∧ Own wr 60 6 B l.length d (MC s.2) ∧ (∀ j (h : j < s.2.length), j < s.1 → Own wr 9 1 (s.2[j]).A (s.2[j]).m.flags.length (s.2[j]).c (SB (s.2[j]).m.flags)) ∧ (∀ j (h : j < s.2.length) (h2 : j < l.length), s.1 ≤ j → s.2[j] = l[j]) ∧ Blk wr g1 43 (BVc v n B l.length d).toArray ∧ Blk wr g2 43 (BVc 0 0 none 0 0).toArray ∧ Frm [] w wr) (fun s => l.length - s.1) (0, l) (js4 rfl rfl rfl rfl) ⟨zal _, rfl, rfl, ho, fun _ _ h => by simp at h, fun _ _ _ _ => rfl, hb1, hb2, K⟩ ?_
 rintro ⟨i, cur⟩ wr ⟨hi, hlen, hms, ho, hfl, hre, hb1, hb2, K⟩
 dsimp only at hi hlen hms ho hfl hre hb1 hb2 ⊢
 refine jS (jR (jb rfl rfl (Bin.lssN _ _) (jO (jN (jS ?_)))))
 refine jD rfl (fun hc1 => ?_) fun hc1 => ?_
 ·
  obtain ⟨gn, rfl⟩ : ∃ g, B = some ⟨g, 0, none⟩ := by
   rcases ho.cases with ⟨_, h0, _⟩ | ⟨g, _, h0, _⟩
   · omega
   exact ⟨g, h0⟩
  have hic : i < cur.length := jo
  have hci := hre i hic hc1 (zw _)
  have hxa := (hl.frm K).fl (l[i]) (zm hc1)
  have hmc : ((MC cur).drop (i * 6)).take 6 = (cur[i]).cells := fU Mc.cells 6 Mc.cells_len cur i hic
  rw [← hci] at hxa
  have hset := fun C dC r => qXj cur i hic C dC r
  refine jQ (jN (jv4 1 2 10 11 ?_))
  refine jS (jB (jS (jR (jm rfl (ja rfl (jO (jN (jv5 1 2 3 10 11 ?_))))))))
  refine VC.heldL 12 (fun W => Frm [] wr W) jK ?_
  have hS : Frm [] wr wr.drew := (Frm.refl _ _).drew
  refine jH 0 rfl hS (fun w0 hw0 => Run.fieldAddr rfl zr rfl zam jd) ?_
  refine jH 1 rfl hS (fun w0 hw0 => Run.load rfl zbf ((hb1.frm hw0 jp).cell 2)) ?_
  refine jH 2 rfl hS (fun w0 hw0 => Run.mv rfl) ?_
  refine jH 3 rfl hS (fun w0 hw0 => Run.fieldAddr rfl zr rfl zam jd) ?_
  refine jH 4 rfl hS (fun w0 hw0 => Run.load rfl zbf ((hb1.frm hw0 jp).cell 2)) ?_
  refine qS.r1 5 rfl jK hS (Run.mv rfl) trivial rfl rfl ?_
  refine qS.r1 6 rfl jK hS (Run.indexS i rfl rfl zx zan hc1) trivial rfl rfl ?_
  refine qS.r1 7 rfl jK hS (Run.fieldAddr rfl zaw rfl zae jd) trivial rfl rfl ?_
  refine qS.r1 8 rfl jK hS (Run.load rfl zbe (nA (ho.frm hS jp) hc1 (j := 5) (v := .slice (cur[i]).A (cur[i]).m.flags.length (cur[i]).c) (by rw [hmc]; rfl))) trivial rfl rfl ?_
  refine qS.cl 9 rfl jK (jE1 Tryz.call75) (fY (cur[i]).A (cur[i]).c (cur[i]).m.flags _ (hxa.rd.frm hS jp) (by have := hxa.n; omega)) trivial rfl rfl ?_
  rintro e w5 ⟨C, dC, rfl, hoC, hgC, hf5⟩
  have hS5 := hS.trans hf5 jp
  refine ⟨_, rfl, hS5, ?_⟩
  have hS := hS5
  refine qS.r1 10 rfl jK hS (Run.indexS i rfl rfl zx zan hc1) trivial rfl rfl ?_
  refine qS.r1 11 rfl jK hS (Run.fieldAddr rfl zaw rfl zae jd) trivial rfl rfl ?_
  refine qS.stL rfl jK (qK.storeOwn (i * 6 + 5) (by rw [← Go.Proofs.YtgmbmfpfhcekiaaGreat.add_add]; rfl) rfl zae (ho.frm hS jp) rfl jo rfl) trivial rfl ?_
  rintro w6 ⟨ho6, hf6, hs6⟩
  have ho6 := (hset C dC (cur[i]).m.flags) ▸ (show Own w6 60 6 (some ⟨gn, 0, none⟩) l.length d ((MC cur).set (i * 6 + 5) (.slice C (cur[i]).m.flags.length dC)) from ho6)
  have hoS := ho.frm hS jp
  have hoC6 := hoC.frm hf6 (hoC.ne_own hoS jd)
  have hb16 := (hb1.frm hS jp).frm hf6 (hoS.ne_blk (hb1.frm hS jp) jd)
  have hb26 := (hb2.frm hS jp).frm hf6 (hoS.ne_blk (hb2.frm hS jp) jd)
  have K6 := (K.trans hS jp).own hf6 (fun y hy => hob y hy)
  refine qS.done jK ?_
  refine qR (jN ?_)
  refine jv4 1 2 10 11 ?_
  refine jR (jb rfl rfl (Bin.add_i64 _ 1 jo) (jm rfl (jO ?_)))
  refine jN ⟨(i + 1, cur.set i ⟨(cur[i]).m, C, dC⟩), (js4 rfl rfl rfl rfl), ?_, ?_⟩
  ·
   refine ⟨hc1, by rw [zcd]; exact hlen, ?_, ho6, fun j hj hji => ?_, fun j hj h2 hji => ?_, hb16, hb26, K6⟩
   ·
    rw [qX9, ← hms]
    have e : (Ms cur)[i]'(by simpa [Ms] using hic) = (cur[i]).m := zbj _
    rw [← e, List.set_getElem_self]
   ·
    rw [zcd] at hj
    by_cases e : j = i
    ·
     subst e
     rw [List.getElem_set_self]
     exact hoC6
    rw [List.getElem_set_ne (fun h => e h.symm)]
    have h3 := (hfl j hj jo).frm hS jp
    exact h3.frm hf6 (h3.ne_own hoS jd)
   rw [zcd] at hj
   rw [List.getElem_set_ne jo]
   exact hre j hj h2 jo
  first | omega | (dsimp only; omega)
 refine jX ?_
 refine qT (qT (bZ ?_))
 refine jN (jv2 1 2 ?_)
 refine jS (jR (je (Run.loadA rfl zai zj hb1.cells (by first | rfl | (simp; done))) ?_))
 refine Ops.st (qK.storeA rfl rfl zj hb2 rfl (bU _ _ _ _ _)) ?_
 have hb2x := hb2
 rintro w7 ⟨hb2, (hf7 : Frm [g2] _ _), hs7⟩
 have K := K.own hf7 (fun y hy => by rw [za] at hy; omega)
 refine jO (jN (jv1 2 ?_))
 refine jT ?_
 refine bQ ?_
 refine qH rfl zai zj (hb2.cells) (by first | rfl | (simp; done)) ?_
 refine qP ?_
 obtain rfl : i = l.length := jo
 have hOM : OwM wr B d cur := ⟨by rw [hlen]; exact ho, fun x hx => by obtain ⟨j, hj, rfl⟩ := zo hx; exact hfl j hj jo, fun x hx => by
  have h1 : x.m ∈ Ms l := by rw [← hms]; exact zbo hx
  obtain ⟨y, hy, he⟩ := List.mem_map.1 h1
  have := hl.fl y hy
  rw [← he]
  exact ⟨this.n, this.q⟩⟩
 exact ⟨B, d, cur, by rw [hlen]; rfl, hOM.blk hf7 hb2x jd jd, hms, fun b hb => by have := hob b hb; omega, K⟩
set_option maxHeartbeats 1000000 in
theorem lV (m : MlC) (q : Tx) (w : World) (hm : RdL w m) (hs : q.length ≤ 900000) (hv : cX w) :
  Calls Tryz.prog 23 #[m.val, encStr q] w fun e w' => ∃ (v n : Int) (B : Option Addr) (d : Nat) (l : List Mc) (b : Bool), e = .returned (.tuple #[.agg (BVc v n B l.length d).toArray, .bool b]) ∧ OwM w' B d l ∧ ((b = true ∧ eU m.p q = some ⟨v, n, Ms l⟩) ∨ (b = false ∧ eU m.p q = none ∧ v = 0 ∧ n = 0 ∧ B = none ∧ d = 0 ∧ l = [])) ∧ Frm [] w w' := by
 have hln := hm.ln
 have hpl := dJ m
 refine VC.calls (nt := 28) (res := #[.cell 4 43, .tmp 5]) Tryz.func23 rfl Tryz.ntmps23 Tryz.results23 rfl ?_
 refine jS (jR ?_)
 refine Ops.m (qJ.box rfl) rfl ?_
 rintro _ w1 ⟨rfl, hF_w1⟩
 have hb1 : Blk w1 w.heap.size 25 #[.slice m.A m.l.length m.c, .slice m.S m.ss.length m.d, .int .i64 m.v, .int .i64 m.b] := hF_w1.blk
 have K := hF_w1.frm
 generalize hg1 : w.heap.size = g1 at hb1 ⊢
 refine Ops.m (qJ.alloc bL) rfl ?_
 rintro _ w2 ⟨rfl, hF2⟩
 have hb4 := hF2.blk
 have hg4 : w.heap.size ≤ w1.heap.size := K.size
 have hb1 := hb1.frm hF2.frm jp
 have hl1 := hb1.lt
 have hl4 := hb4.lt
 have K := K.trans hF2.frm jp
 have hne14 : g1 ≠ w1.heap.size := by have := hF_w1.size; omega
 have hg1s : w.heap.size ≤ g1 := jo
 generalize hg4' : w1.heap.size = g4 at hb4 hg4 hne14 hl4 ⊢
 refine ja rfl (jO (jN (jv3 1 2 4 ?_)))
 refine jS (jS (jR (je (Run.loadA rfl zc zb hb1.cells (by first | rfl | (simp; done))) ?_)))
 refine Ops.cl (jE1 zdh) (cF m _ (hm.frm K) (hv.frm K)) rfl ?_
 rintro e w4 ⟨rfl, hf4⟩
 refine ⟨_, rfl, ?_⟩
 have hb1 := hb1.frm hf4 jp
 have hb4 := hb4.frm hf4 jp
 have hKs_hf4 := K.size
 have K := K.trans hf4 jp
 refine je (Run.not rfl) (jO (jN (jv4 1 2 4 10 ?_)))
 refine VC.condB rfl (fun hc1 => ?_) (fun hc1 => ?_)
 ·
  have hc1 : ¬ qI m.p := by simpa using hc1
  refine jS (jR (je (Run.build evs.nil bL (cG).choose_spec.1 (cG).choose_spec.2 rfl) ?_))
  refine Ops.st (qK.storeA rfl rfl zj hb4 rfl (bU 0 0 none 0 0)) ?_
  rintro w5 ⟨hb4, (hf4z : Frm [g4] _ _), hs4z⟩
  have K := K.own hf4z (fun y hy => by rw [za] at hy; omega)
  refine ja rfl (jO (jN (jv2 4 5 ?_)))
  refine jT ?_
  refine qZ (bQ ?_)
  refine qH rfl zai zj (hb4.cells) (by first | rfl | (simp; done)) ?_
  refine qN rfl ?_
  refine qP ?_
  exact ⟨0, 0, none, 0, [], false, rfl, OwM.nil _, .inr ⟨rfl, by unfold eU; rw [if_neg hc1], rfl, rfl, rfl, rfl, rfl⟩, K⟩
 have hc1 : qI m.p := by simpa using hc1
 obtain ⟨hm24, hv1, hv2, hb0, hb2, hr, hin⟩ := cZ hc1
 refine jQ (jN (jv3 1 2 4 ?_))
 refine jS (jR (je (Run.loadA rfl zc zb hb1.cells (by first | rfl | (simp; done))) (jM ?_)))
 refine Ops.cl (jE2 zcm) (bE m q _ (hm.frm K).l hln jo hr (hv.frm K)) rfl ?_
 rintro e w5 ⟨k, rfl, hpos, hf5⟩
 refine ⟨_, rfl, ?_⟩
 have hb1 := hb1.frm hf5 jp
 have hb4 := hb4.frm hf5 jp
 have hKs_hf5 := K.size
 have K := K.trans hf5 jp
 refine jm rfl (je (Run.extract rfl rfl) (je (Run.extract rfl rfl) (ja rfl (ja rfl (jO (jN (jv4 2 4 6 7 ?_)))))))
 refine jS (jS (jR (jm rfl (je (Run.not rfl) (jO (jN (jv4 2 4 6 19 ?_)))))))
 refine VC.condB rfl (fun hc2 => ?_) (fun hc2 => ?_)
 ·
  have hc2 : qQ q ∉ qB m.p := by simpa using hc2
  refine jS (jR (je (Run.build evs.nil bL (cG).choose_spec.1 (cG).choose_spec.2 rfl) ?_))
  refine Ops.st (qK.storeA rfl rfl zj hb4 rfl (bU 0 0 none 0 0)) ?_
  rintro w6 ⟨hb4, (hf4z : Frm [g4] _ _), hs4z⟩
  have K := K.own hf4z (fun y hy => by rw [za] at hy; omega)
  refine ja rfl (jO (jN (jv2 4 5 ?_)))
  refine jT ?_
  refine qZ (bQ ?_)
  refine qH rfl zai zj (hb4.cells) (by first | rfl | (simp; done)) ?_
  refine qN rfl ?_
  refine qP ?_
  exact ⟨0, 0, none, 0, [], false, rfl, OwM.nil _, .inr ⟨rfl, by unfold eU; rw [if_pos hc1, gG hc2], rfl, rfl, rfl, rfl, rfl⟩, K⟩
 have hc2 : qQ q ∈ qB m.p := by simpa using hc2
 obtain ⟨hk, hke⟩ := (jZ hr hpos).2 hc2
 have hkl : k < m.l.length := jo
 obtain ⟨ad, hA, hel⟩ := (hm.frm K).l.elem hkl
 have hxa := (hm.frm K).l.el _ (zm hkl)
 have hNg := dZ m hkl hk
 refine jQ (jN (jv3 2 4 6 ?_))
 refine jS (jR (jf rfl zh rfl zad (jl rfl zaz (hb1.cell 0) (jm rfl (je (Run.indexS k (show _ = some (Value.slice (some ad) m.l.length m.c) by rw [← hA]; rfl) rfl zf zt hkl) (jf rfl zag rfl zj (je (Run.loadA rfl zai zj (cs := BVc (m.l[k]).v (m.l[k]).n (m.l[k]).A (m.l[k]).l.length (m.l[k]).c) (fun j v hj => by rw [Go.Proofs.YtgmbmfpfhcekiaaGreat.add_add]; exact hel (1 + j) v (by rw [zem]; exact hj)) (by first | rfl | (simp; done))) ?_)))))))
 refine Ops.cl (jE1 Tryz.call72) (vN (m.l[k]).v (m.l[k]).n (m.l[k]).A (m.l[k]).c (m.l[k]).l _ hxa.rd (by have := hxa.n; omega)) rfl ?_
 rintro e w6 ⟨B, d, l', rfl, hOM, hms, hgB, hf6⟩
 have hl46 := hb4.lt
 have hb4x := hb4.frm hf6 jp
 refine ⟨_, rfl, ?_⟩
 have hb1 := hb1.frm hf6 jp
 have hb4 := hb4.frm hf6 jp
 have hKs_hf6 := K.size
 have K := K.trans hf6 jp
 refine Ops.st (qK.storeA rfl rfl zj hb4 rfl (bU _ _ _ _ _)) ?_
 rintro w7 ⟨hb4, (hf7 : Frm [g4] _ _), hs7⟩
 have hOM7 := hOM.blk hf7 hb4x jd jd
 have K := K.own hf7 (fun y hy => by rw [za] at hy; omega)
 refine ja rfl (jO (jN (jv2 4 5 ?_)))
 refine jT ?_
 refine bQ ?_
 refine qH rfl zai zj (hb4.cells) (by first | rfl | (simp; done)) ?_
 refine qN rfl ?_
 refine qP ?_
 refine ⟨_, _, B, d, l', true, rfl, hOM7, .inl ⟨rfl, ?_⟩, K⟩
 unfold eU
 rw [if_pos hc1, gE hr hk hke, hNg, hms]
 rfl
end
section
open Go.RowKit Go.Sort
def BoL (l : List Bool) : List Value := l.map Value.bool
theorem kH (l : List Bool) : (BoL l).length = l.length := zau _
theorem qXl (l : List Bool) : ∀ v ∈ BoL l, v.oneCell' = true := by
 intro v hv
 obtain ⟨b, _, rfl⟩ := List.mem_map.1 hv
 rfl
theorem qXm (l : List Bool) (i : Nat) (b : Bool) : (BoL l).set i (.bool b) = BoL (l.set i b) := by simp [BoL, List.map_set]
def atB (l : List Bool) (k : Nat) : Bool := l.getD k false
def dL (c : UInt8) : Prop := c.toNat = 42 ∨ c.toNat = 37
instance (c : UInt8) : Decidable (dL c) := by unfold dL; infer_instance
def nxM (t : Tx) (row : List Bool) (c : UInt8) : Nat → Bool
 | 0 => decide (atB row 0 = true ∧ dL c)
 | k + 1 => if dL c then decide (atB row (k + 1) = true ∨ (nxM t row c k = true ∧ (c.toNat = 42 ∨ lX t[k]? ≠ 47))) else decide (atB row k = true ∧ lX t[k]? = c.toNat)
def stM (t : Tx) (row : List Bool) (c : UInt8) : List Bool := (List.range (t.length + 1)).map (nxM t row c)
def nI (t : Tx) : List Bool := true :: List.replicate t.length false
def rowM (t p : Tx) : List Bool := p.foldl (stM t) (nI t)
def meetsN (s p : Tx) : Prop := isN s ∧ p.length ≤ 60 ∧ atB (rowM (qQ s) (dX p)) s.length = true
instance (s p : Tx) : Decidable (meetsN s p) := by unfold meetsN; infer_instance
theorem gL {w : World} {g n d : Nat} {l : List Bool} (h : Own w 4 1 (some ⟨g, 0, none⟩) n d (BoL l)) {k : Nat} (hk : k < n) : w.cell? ((⟨g, 0, none⟩ : Addr).add (k * 1)) = some (.bool (atB l k)) := by
 have hln := h.len
 rw [kH, zbd] at hln
 obtain ⟨ad, h1, hc⟩ := h.rd.elem hk
 cases h1
 have h2 := hc 0 (.bool (atB l k)) (by simp [BoL, atB, List.getD, hln, hk])
 rw [Go.Proofs.YtgmbmfpfhcekiaaGreat.add_add, Nat.add_zero] at h2
 exact h2
theorem eH {w : World} {A : Option Addr} {n d k : Nat} {l : List Bool} {b b' : Bool} (e : b = b') (h : Own w 4 1 A n d ((BoL l).set k (.bool b))) : Own w 4 1 A n d (BoL (l.set k b')) := by
 subst e
 rw [← qXm]
 exact h
theorem vP (t : Tx) (p : Tx) (i : Nat) {c : UInt8} (hi : p[i]? = some c) : (p.take (i + 1)).foldl (stM t) (nI t) = stM t ((p.take i).foldl (stM t) (nI t)) c := by
 rw [zas, hi, zdm]
 rfl
def lW (t p : Tx) (i : Nat) (r : List Bool) : Prop := r = (p.take i).foldl (stM t) (nI t)
theorem lW.next {t p : Tx} {i : Nat} {r : List Bool} {c : UInt8} (h : lW t p i r) (hc : p[i]? = some c) (x : List Bool) (hx : x = stM t r c) : lW t p (i + 1) x := by
 unfold lW at *
 rw [vP t p i hc, ← h]
 exact hx
theorem qZb {t : Tx} {row nx : List Bool} {c : UInt8} (h : nx.length = t.length + 1) (hn : ∀ j, j ≤ t.length → nx[j]? = some (nxM t row c j)) : nx = stM t row c := by
 refine zcz fun j => ?_
 unfold stM
 rcases zcq t.length j with h1 | h1
 · rw [zbt jo, zbt (by simp; omega)]
 rw [hn j h1]
 simp [zdk, List.getElem?_range (jo : j < t.length + 1)]
set_option maxHeartbeats 1000000 in
theorem tZ (q p : Tx) (w : World) (hq : q.length ≤ 1000000) (hp : p.length ≤ 1000000) (hv : cX w) :
  Calls Tryz.prog 81 #[encStr q, encStr p] w fun e w' => e = .returned (.bool (decide (meetsN q p))) ∧ Frm [] w w' := by
 have K := Frm.refl [] w
 refine VC.calls (nt := 112) (res := #[.tmp 4]) Tryz.func81 rfl Tryz.ntmps81 Tryz.results81 rfl ?_
 refine jS (jR (ja rfl (jO (jN (jv2 0 1 ?_)))))
 refine jS (jS ?_)
 refine VC.split1 [(0, _), (1, _)] (js2 rfl rfl) 18 (.bool (decide (¬ isN q ∨ 60 < p.length))) ?_ ?_
 ·
  refine jR (jM ?_)
  refine Ops.cl (jE1 zbp) (bC q _ jo hv) rfl ?_
  rintro e _ ⟨rfl, rfl⟩
  refine ⟨_, rfl, ?_⟩
  by_cases hs12 : isN q
  ·
   refine je (Run.not rfl) (jM ?_)
   refine jG ?_
   refine jk (Run.lenT rfl zn) ?_
   refine jk (Run.bin rfl rfl (Bin.gtrN _ 60)) ?_
   by_cases hs17 : 60 < p.length
   ·
    refine je (Run.pickF rfl rfl au) (jO ?_)
    refine jN ⟨(js3 (jC (by simp [*])) rfl rfl), rfl⟩
   refine je (Run.pickF rfl rfl au) (jO ?_)
   refine jN ⟨(js3 (jC (by simp [*])) rfl rfl), rfl⟩
  refine je (Run.not rfl) (jM ?_)
  refine jU ?_
  refine jU ?_
  refine jU ?_
  refine je (Run.pickT rfl rfl au) (jO ?_)
  refine jN ⟨(js3 (jC (by simp [*])) rfl rfl), rfl⟩
 intro Γ hΓ
 refine jN (VC.sub _ hΓ ?_)
 refine jD rfl (fun hc1 => ?_) fun hc1 => ?_
 ·
  refine jS (jR (ja rfl (jO (jN (jv1 4 ?_)))))
  refine jT ?_
  refine qZ (qL rfl ?_)
  exact ⟨by rw [decide_eq_false (fun h : meetsN q p => by rcases hc1 with h1 | h1; exact h1 h.1; have := h.2.1; omega)], K⟩
 refine jQ (jN (jv2 0 1 ?_))
 refine jS (jR (jM ?_))
 refine Ops.cl (jE1 zbz) (bS q _ jo (hv.frm K)) rfl ?_
 rintro e w1 ⟨rfl, hf1⟩
 refine ⟨_, rfl, ?_⟩
 have K := K.trans hf1 jp
 refine jM ?_
 refine Ops.cl (jE1 Tryz.call108) (mO p _ jo) rfl ?_
 rintro e w2 ⟨rfl, hf2⟩
 refine ⟨_, rfl, ?_⟩
 have K := K.trans hf2 jp
 have htl := bD q
 have hil := oO p
 generalize htt : qQ q = t at *
 generalize hpp : dX p = pp at *
 refine ja rfl (ja rfl (jO (jN (jv2 0 1 ?_))))
 refine jS (jR (jm rfl (je (Run.lenT rfl zn) (jb rfl rfl (Bin.add_i64 _ 1 jo) ?_))))
 refine Ops.m (qJ.makeS rfl rfl zax (qQr) rfl jo jo) rfl ?_
 rintro _ w3 ⟨rfl, ho5, hf3, hs3⟩
 have ho5 : Own w3 4 1 (some ⟨w2.heap.size, 0, none⟩) (t.length + 1) (t.length + 1) (BoL (List.replicate (t.length + 1) false)) := by
  have e : (List.replicate (t.length + 1) (Value.bool false).cells.toList).flatten = BoL (List.replicate (t.length + 1) false) := by
   simp [BoL, Value.cells]
  rw [← e]; exact ho5
 have hg5 : w.heap.size ≤ w2.heap.size := K.size
 have K := K.trans hf3 jp
 generalize hgg5 : w2.heap.size = g5 at ho5 hg5 hs3 ⊢
 refine ja rfl (jO (jN (jv3 0 1 5 ?_)))
 refine jS (jR (jm rfl (je (Run.indexS 0 rfl rfl zax zah jo) ?_)))
 refine Ops.st (qK.storeOwn 0 (by rw [zbd]; rfl) rfl zah ho5 rfl jo rfl) ?_
 rintro w4 ⟨ho5, hf4, hs4⟩
 have ho5 : Own w4 4 1 (some ⟨g5, 0, none⟩) (t.length + 1) (t.length + 1) (BoL (nI t)) := eH (l := List.replicate (t.length + 1) false) (k := 0) (b' := true) rfl ho5
 have K := K.own hf4 (fun y hy => by simp only [ob, za] at hy; omega)
 refine jO (jN (jv3 0 1 5 ?_))
 refine jS (jR (jm rfl (je (Run.lenT rfl zn) (jb rfl rfl (Bin.add_i64 _ 1 jo) ?_))))
 refine Ops.m (qJ.makeS rfl rfl zax (qQr) rfl jo jo) rfl ?_
 rintro _ w5 ⟨rfl, ho6, hf5, hs5⟩
 have ho6 : Own w5 4 1 (some ⟨w4.heap.size, 0, none⟩) (t.length + 1) (t.length + 1) (BoL (List.replicate (t.length + 1) false)) := by
  have e : (List.replicate (t.length + 1) (Value.bool false).cells.toList).flatten = BoL (List.replicate (t.length + 1) false) := by
   simp [BoL, Value.cells]
  rw [← e]; exact ho6
 have ho5 := ho5.frm hf5 jp
 have hg6 : w.heap.size ≤ w4.heap.size := K.size
 have h56 : g5 ≠ w4.heap.size := jo
 have K := K.trans hf5 jp
 generalize hgg6 : w4.heap.size = g6 at ho6 hg6 hs5 h56 ⊢
 obtain ⟨nx0, hnx0⟩ : ∃ l, l = List.replicate (t.length + 1) false := ⟨_, rfl⟩
 rw [← hnx0] at ho6
 refine ja rfl (jO (jN (jv4 0 1 5 6 ?_)))
 refine jS (jS (jR (jm rfl (je (Run.lenT rfl zn) ?_))))
 refine jx .i64 0 ?_
 refine jO (jN (jv6 0 1 5 6 34 35 ?_))
 refine jB ?_
 refine VC.loop (σ := Nat × List Bool × List Bool) (fun s => [(0, encStr t), (1, encStr pp), (5, .slice (some ⟨g5, 0, none⟩) (t.length + 1) (t.length + 1)), (6, .slice (some ⟨g6, 0, none⟩) (t.length + 1) (t.length + 1)), (34, .int .i64 ((pp.length : Nat) : Int)), (35, .int .i64 ((s.1 : Nat) : Int))]) (fun s wr => s.1 ≤ pp.length ∧ s.2.1.length = t.length + 1 ∧ s.2.2.length = t.length + 1 ∧ lW t pp s.1 s.2.1 ∧ Own wr 4 1 (some ⟨g5, 0, none⟩) (t.length + 1) (t.length + 1) (BoL s.2.1) ∧ Own wr 4 1 (some ⟨g6, 0, none⟩) (t.length + 1) (t.length + 1) (BoL s.2.2) ∧ Frm [] w wr) (fun s => pp.length - s.1) (0, nI t, nx0) (js6 rfl rfl rfl rfl rfl rfl) ⟨zal _, by simp [nI], by rw [hnx0]; simp, rfl, ho5, ho6, K⟩ ?_
 rintro ⟨i, r, nx⟩ wr ⟨hi, hrl, hnl, hre, ho5, ho6, K⟩
 dsimp only at hi hrl hnl hre ho5 ho6 ⊢
 refine jS (jR (jb rfl rfl (Bin.lssN _ _) (jO (jN (jS ?_)))))
 refine jD rfl (fun hc2 => ?_) fun hc2 => ?_
 ·
  obtain ⟨c, hcx⟩ := kG hc2
  have hfs := lW.next hre hcx
  refine jQ (jN (jv6 0 1 5 6 34 35 ?_))
  refine jS (jB (jS (jR (jm rfl (ja rfl (jO (jN (jv7 0 1 5 6 7 34 35 ?_))))))))
  refine jS (jR (jm rfl (jm rfl (je (Run.indexT _ rfl rfl zn hcx) (ja rfl (jO (jN (jv7 0 1 5 6 8 34 35 ?_))))))))
  refine jS ?_
  refine VC.split1 [(0, _), (1, _), (5, _), (6, _), (8, _), (34, _), (35, _)] (js7 rfl rfl rfl rfl rfl rfl rfl) 9 (.bool (decide (dL c))) ?_ ?_
  ·
   refine jR ?_
   refine jm rfl (jb rfl rfl (Bin.eqlN _ 42) (jM ?_))
   by_cases hs43 : c.toNat = 42
   ·
    refine jU ?_
    refine jU ?_
    refine je (Run.pickT rfl rfl au) (ja rfl (jO ?_))
    refine jN ⟨(js8 (jC (by simp [dL, *])) rfl rfl rfl rfl rfl rfl rfl), rfl⟩
   refine jG ?_
   refine jk (Run.bin rfl rfl (Bin.eqlN _ 37)) ?_
   refine je (Run.pickF rfl rfl au) (ja rfl (jO ?_))
   refine jN ⟨(js8 (jC (by simp [dL, *])) rfl rfl rfl rfl rfl rfl rfl), rfl⟩
  intro Γ hΓ
  refine jN (VC.sub _ hΓ (jS ?_))
  refine VC.splitR [(0, encStr t), (1, encStr pp), (5, .slice (some ⟨g5, 0, none⟩) (t.length + 1) (t.length + 1)), (6, .slice (some ⟨g6, 0, none⟩) (t.length + 1) (t.length + 1)), (8, .int .u8 ((c.toNat : Nat) : Int)), (9, .bool (decide (dL c))), (34, .int .i64 ((pp.length : Nat) : Int)), (35, .int .i64 ((i : Nat) : Int))] (fun wz => Own wz 4 1 (some ⟨g5, 0, none⟩) (t.length + 1) (t.length + 1) (BoL r) ∧ Own wz 4 1 (some ⟨g6, 0, none⟩) (t.length + 1) (t.length + 1) (BoL (nx.set 0 (decide (atB r 0 = true ∧ dL c)))) ∧ Frm [] w wz) 53 (.bool (decide (atB r 0 = true ∧ dL c))) ?_ ?_
  ·
   refine jR ?_
   refine jm rfl (jm rfl (je (Run.indexS 0 rfl rfl zax zah jo) (jl rfl zcf (gL ho5 jo) (jM ?_))))
   by_cases hs51 : atB r 0 = true
   ·
    refine jG ?_
    refine je (Run.pickT rfl rfl au) (je (Run.indexS 0 rfl rfl zax zah jo) ?_)
    refine Ops.st (qK.storeOwn (0) (by rw [zbd]; rfl) rfl zah ho6 rfl jo rfl) ?_
    rintro wz ⟨hoz, hfz, hsz⟩
    refine jO ?_
    refine jN ⟨(js9 (jC (by simp [*])) rfl rfl rfl rfl rfl rfl rfl rfl), (⟨ho5.frm hfz (by simp [ob]; omega), eH (by simp [*]) hoz, K.own hfz (fun y hy => by simp only [ob, za] at hy; omega)⟩)⟩
   refine jU ?_
   refine je (Run.pickF rfl rfl au) (je (Run.indexS 0 rfl rfl zax zah jo) ?_)
   refine Ops.st (qK.storeOwn (0) (by rw [zbd]; rfl) rfl zah ho6 rfl jo rfl) ?_
   rintro wz ⟨hoz, hfz, hsz⟩
   refine jO ?_
   refine jN ⟨(js9 (jC (by simp [*])) rfl rfl rfl rfl rfl rfl rfl rfl), (⟨ho5.frm hfz (by simp [ob]; omega), eH (by simp [*]) hoz, K.own hfz (fun y hy => by simp only [ob, za] at hy; omega)⟩)⟩
  intro Γ w6 hΓ ⟨ho5, ho6, K⟩
  refine jN (VC.sub _ hΓ (jS (jS (jR (jm rfl (je (Run.lenT rfl zn) ?_))))))
  refine jx .i64 0 ?_
  refine jO (jN (jv10 0 1 5 6 8 9 34 35 56 57 ?_))
  refine jB ?_
  refine VC.loop (σ := Nat × List Bool) (fun s => [(0, encStr t), (1, encStr pp), (5, .slice (some ⟨g5, 0, none⟩) (t.length + 1) (t.length + 1)), (6, .slice (some ⟨g6, 0, none⟩) (t.length + 1) (t.length + 1)), (8, .int .u8 ((c.toNat : Nat) : Int)), (9, .bool (decide (dL c))), (34, .int .i64 ((pp.length : Nat) : Int)), (35, .int .i64 ((i : Nat) : Int)), (56, .int .i64 ((t.length : Nat) : Int)), (57, .int .i64 ((s.1 : Nat) : Int))]) (fun s wr => s.1 ≤ t.length ∧ s.2.length = t.length + 1 ∧ (∀ j, j ≤ s.1 → s.2[j]? = some (nxM t r c j)) ∧ Own wr 4 1 (some ⟨g5, 0, none⟩) (t.length + 1) (t.length + 1) (BoL r) ∧ Own wr 4 1 (some ⟨g6, 0, none⟩) (t.length + 1) (t.length + 1) (BoL s.2) ∧ Frm [] w wr) (fun s => t.length - s.1) (0, nx.set 0 (decide (atB r 0 = true ∧ dL c))) (js10 rfl rfl rfl rfl rfl rfl rfl rfl rfl rfl) ⟨zal _, by simpa using hnl, fun j hj => (by have hj0 : j = 0 := (by simpa using hj); subst hj0; dsimp only; rw [zch jo]; rfl), ho5, ho6, K⟩ ?_
  rintro ⟨k, x⟩ wr ⟨hk, hxl, hxk, ho5, ho6, K⟩
  dsimp only at hk hxl hxk ho5 ho6 ⊢
  refine jS (jR (jb rfl rfl (Bin.lssN _ _) (jO (jN (jS ?_)))))
  refine jD rfl (fun hc3 => ?_) fun hc3 => ?_
  ·
   obtain ⟨d, hdx⟩ := kG hc3
   refine jQ (jN (jv10 0 1 5 6 8 9 34 35 56 57 ?_))
   refine jS (jB (jS (jR (jm rfl (ja rfl (jO (jN (jv11 0 1 5 6 8 9 10 34 35 56 57 ?_))))))))
   refine jB (jS (jR (jm rfl (ja rfl (jO (jN (jv12 0 1 5 6 8 9 10 34 35 56 57 75 ?_)))))))
   refine jD rfl (fun hc4 => ?_) fun hc4 => ?_
   ·
    refine VC.splitR [(0, encStr t), (1, encStr pp), (5, .slice (some ⟨g5, 0, none⟩) (t.length + 1) (t.length + 1)), (6, .slice (some ⟨g6, 0, none⟩) (t.length + 1) (t.length + 1)), (8, .int .u8 ((c.toNat : Nat) : Int)), (9, .bool (decide (dL c))), (34, .int .i64 ((pp.length : Nat) : Int)), (35, .int .i64 ((i : Nat) : Int)), (56, .int .i64 ((t.length : Nat) : Int)), (57, .int .i64 ((k : Nat) : Int))] (fun wz => Own wz 4 1 (some ⟨g5, 0, none⟩) (t.length + 1) (t.length + 1) (BoL r) ∧ Own wz 4 1 (some ⟨g6, 0, none⟩) (t.length + 1) (t.length + 1) (BoL (x.set (k + 1) (decide (atB r (k + 1) = true ∨ (atB x k = true ∧ (c.toNat = 42 ∨ d.toNat ≠ 47)))))) ∧ Frm [] w wz) 100 (.bool (decide (atB r (k + 1) = true ∨ (atB x k = true ∧ (c.toNat = 42 ∨ d.toNat ≠ 47))))) ?_ ?_
    ·
     refine jR ?_
     refine jm rfl (jm rfl (jb rfl rfl (Bin.add_i64 _ 1 jo) (jm rfl (jm rfl (jb rfl rfl (Bin.add_i64 _ 1 jo) (je (Run.indexS (k + 1) rfl rfl zax zah jo) (jl rfl zcf (gL ho5 jo) ?_)))))))
     refine jM ?_
     by_cases hs85 : atB r (k + 1) = true
     ·
      refine jU ?_
      refine jU ?_
      refine jU ?_
      refine jU ?_
      refine jU ?_
      refine Ops.skU rfl rfl ?_
      refine Ops.skU rfl rfl ?_
      refine Ops.skU rfl rfl ?_
      refine Ops.skU rfl rfl ?_
      refine Ops.skU rfl rfl ?_
      refine Ops.skU rfl rfl ?_
      refine Ops.skU rfl rfl ?_
      refine Ops.skU rfl rfl ?_
      refine jU ?_
      refine je (Run.pickT rfl rfl au) (je (Run.indexS (k + 1) rfl rfl zax zah jo) ?_)
      refine Ops.st (qK.storeOwn ((k + 1)) (by rw [zbd]; rfl) rfl zah ho6 rfl jo rfl) ?_
      rintro wz ⟨hoz, hfz, hsz⟩
      refine jO ?_
      refine jN ⟨(js11 (jC (by simp [*])) rfl rfl rfl rfl rfl rfl rfl rfl rfl rfl), (⟨ho5.frm hfz (by simp [ob]; omega), eH (by simp [*]) hoz, K.own hfz (fun y hy => by simp only [ob, za] at hy; omega)⟩)⟩
     refine jG ?_
     refine jG ?_
     refine jk (Run.indexS k rfl rfl zax zah jo) ?_
     refine jk (Run.load rfl zcf (gL ho6 jo)) ?_
     refine jG ?_
     by_cases hs90 : atB x k = true
     ·
      refine jG ?_
      refine jk (Run.bin rfl rfl (Bin.eqlN _ 42)) ?_
      refine jG ?_
      by_cases hs93 : c.toNat = 42
      ·
       refine jU ?_
       refine jU ?_
       refine jU ?_
       refine jU ?_
       refine jk (Run.pickT rfl rfl au) ?_
       refine jk (Run.pickT rfl rfl au) ?_
       refine je (Run.pickF rfl rfl au) (je (Run.indexS (k + 1) rfl rfl zax zah jo) ?_)
       refine Ops.st (qK.storeOwn ((k + 1)) (by rw [zbd]; rfl) rfl zah ho6 rfl jo rfl) ?_
       rintro wz ⟨hoz, hfz, hsz⟩
       refine jO ?_
       refine jN ⟨(js11 (jC (by simp [*])) rfl rfl rfl rfl rfl rfl rfl rfl rfl rfl), (⟨ho5.frm hfz (by simp [ob]; omega), eH (by simp [*]) hoz, K.own hfz (fun y hy => by simp only [ob, za] at hy; omega)⟩)⟩
      refine jG ?_
      refine jG ?_
      refine jk (Run.indexT _ rfl rfl zn hdx) ?_
      refine jk (Run.bin rfl rfl (Bin.neqN _ 47)) ?_
      refine jk (Run.pickF rfl rfl au) ?_
      refine jk (Run.pickT rfl rfl au) ?_
      refine je (Run.pickF rfl rfl au) (je (Run.indexS (k + 1) rfl rfl zax zah jo) ?_)
      refine Ops.st (qK.storeOwn ((k + 1)) (by rw [zbd]; rfl) rfl zah ho6 rfl jo rfl) ?_
      rintro wz ⟨hoz, hfz, hsz⟩
      refine jO ?_
      refine jN ⟨(js11 (jC (by simp [*])) rfl rfl rfl rfl rfl rfl rfl rfl rfl rfl), (⟨ho5.frm hfz (by simp [ob]; omega), eH (by simp [*]) hoz, K.own hfz (fun y hy => by simp only [ob, za] at hy; omega)⟩)⟩
     refine jU ?_
     refine jU ?_
     refine jU ?_
     refine Ops.skU rfl rfl ?_
     refine Ops.skU rfl rfl ?_
     refine Ops.skU rfl rfl ?_
     refine Ops.skU rfl rfl ?_
     refine jU ?_
     refine jk (Run.pickF rfl rfl au) ?_
     refine je (Run.pickF rfl rfl au) (je (Run.indexS (k + 1) rfl rfl zax zah jo) ?_)
     refine Ops.st (qK.storeOwn ((k + 1)) (by rw [zbd]; rfl) rfl zah ho6 rfl jo rfl) ?_
     rintro wz ⟨hoz, hfz, hsz⟩
     refine jO ?_
     refine jN ⟨(js11 (jC (by simp [*])) rfl rfl rfl rfl rfl rfl rfl rfl rfl rfl), (⟨ho5.frm hfz (by simp [ob]; omega), eH (by simp [*]) hoz, K.own hfz (fun y hy => by simp only [ob, za] at hy; omega)⟩)⟩
    intro Γ w7 hΓ ⟨ho5, ho6, K⟩
    refine qR (qR (jN (VC.sub _ hΓ ?_)))
    refine jR (jb rfl rfl (Bin.add_i64 _ 1 jo) (jm rfl (jO ?_)))
    refine jN ⟨(k + 1, x.set (k + 1) (decide (atB r (k + 1) = true ∨ (atB x k = true ∧ (c.toNat = 42 ∨ d.toNat ≠ 47))))), (js10 rfl rfl rfl rfl rfl rfl rfl rfl rfl rfl), ?_, ?_⟩
    ·
     have hxg : atB x k = nxM t r c k := by rw [atB, List.getD, hxk k (zw _)]; rfl
     refine ⟨hc3, by rw [zcd]; exact hxl, fun j hj => ?_, ho5, ho6, K⟩
     by_cases e : j = k + 1
     ·
      subst e
      dsimp only
      rw [zch jo]
      simp only [nxM, if_pos hc4, hdx, lX, zdb, zdz, hxg]
     dsimp only
     rw [zdj (fun h => e h.symm)]
     exact hxk j (by dsimp only at hj; omega)
    first | omega | (dsimp only; omega)
   refine VC.splitR [(0, encStr t), (1, encStr pp), (5, .slice (some ⟨g5, 0, none⟩) (t.length + 1) (t.length + 1)), (6, .slice (some ⟨g6, 0, none⟩) (t.length + 1) (t.length + 1)), (8, .int .u8 ((c.toNat : Nat) : Int)), (9, .bool (decide (dL c))), (34, .int .i64 ((pp.length : Nat) : Int)), (35, .int .i64 ((i : Nat) : Int)), (56, .int .i64 ((t.length : Nat) : Int)), (57, .int .i64 ((k : Nat) : Int))] (fun wz => Own wz 4 1 (some ⟨g5, 0, none⟩) (t.length + 1) (t.length + 1) (BoL r) ∧ Own wz 4 1 (some ⟨g6, 0, none⟩) (t.length + 1) (t.length + 1) (BoL (x.set (k + 1) (decide (atB r k = true ∧ d.toNat = c.toNat)))) ∧ Frm [] w wz) 73 (.bool (decide (atB r k = true ∧ d.toNat = c.toNat))) ?_ ?_
   ·
    refine jR ?_
    refine jm rfl (jm rfl (jb rfl rfl (Bin.add_i64 _ 1 jo) (jm rfl (jm rfl (je (Run.indexS k rfl rfl zax zah jo) (jl rfl zcf (gL ho5 jo) (jM ?_)))))))
    by_cases hs67 : atB r k = true
    ·
     refine jG ?_
     refine jG ?_
     refine jk (Run.indexT _ rfl rfl zn hdx) ?_
     refine jG ?_
     refine jk (Run.bin rfl rfl (Bin.eqlN _ _)) ?_
     refine je (Run.pickT rfl rfl au) (je (Run.indexS (k + 1) rfl rfl zax zah jo) ?_)
     refine Ops.st (qK.storeOwn ((k + 1)) (by rw [zbd]; rfl) rfl zah ho6 rfl jo rfl) ?_
     rintro wz ⟨hoz, hfz, hsz⟩
     refine jO ?_
     refine jN ⟨(js11 (jC (by simp [*])) rfl rfl rfl rfl rfl rfl rfl rfl rfl rfl), (⟨ho5.frm hfz (by simp [ob]; omega), eH (by simp [*]) hoz, K.own hfz (fun y hy => by simp only [ob, za] at hy; omega)⟩)⟩
    refine jU ?_
    refine jU ?_
    refine jU ?_
    refine jU ?_
    refine jU ?_
    refine je (Run.pickF rfl rfl au) (je (Run.indexS (k + 1) rfl rfl zax zah jo) ?_)
    refine Ops.st (qK.storeOwn ((k + 1)) (by rw [zbd]; rfl) rfl zah ho6 rfl jo rfl) ?_
    rintro wz ⟨hoz, hfz, hsz⟩
    refine jO ?_
    refine jN ⟨(js11 (jC (by simp [*])) rfl rfl rfl rfl rfl rfl rfl rfl rfl rfl), (⟨ho5.frm hfz (by simp [ob]; omega), eH (by simp [*]) hoz, K.own hfz (fun y hy => by simp only [ob, za] at hy; omega)⟩)⟩
   intro Γ w7 hΓ ⟨ho5, ho6, K⟩
   refine qR (qR (jN (VC.sub _ hΓ ?_)))
   refine jR (jb rfl rfl (Bin.add_i64 _ 1 jo) (jm rfl (jO ?_)))
   refine jN ⟨(k + 1, x.set (k + 1) (decide (atB r k = true ∧ d.toNat = c.toNat))), (js10 rfl rfl rfl rfl rfl rfl rfl rfl rfl rfl), ?_, ?_⟩
   ·
    refine ⟨hc3, by rw [zcd]; exact hxl, fun j hj => ?_, ho5, ho6, K⟩
    by_cases e : j = k + 1
    ·
     subst e
     dsimp only
     rw [zch jo]
     simp only [nxM, if_neg hc4, hdx, lX, zdb, zdz]
    dsimp only
    rw [zdj (fun h => e h.symm)]
    exact hxk j (by dsimp only at hj; omega)
   first | omega | (dsimp only; omega)
  refine jX ?_
  refine qT (qT (bZ ?_))
  refine jN (jv6 0 1 5 6 34 35 ?_)
  refine jR (jm rfl (jM ?_))
  obtain rfl : k = t.length := jo
  have hxs := qZb hxl hxk
  refine Ops.m (qJ.copyOwn (g := g5) (o := 0) rfl rfl zax zah ho5 (t.length + 1) ho6.rd (Nat.min_self _) (by rw [kH, kH]; omega) (qXl _)) rfl ?_
  rintro _ w8 ⟨rfl, ho8, hf8, hs8⟩
  rw [zcv, zbg, zaq (by rw [kH, kH]; omega), zbh] at ho8
  have ho6 := ho6.frm hf8 (by simp [ob]; omega)
  have K := K.own hf8 (fun y hy => by rw [za] at hy; omega)
  refine jO ?_
  refine qR (jN ?_)
  refine jv6 0 1 5 6 34 35 ?_
  refine jR (jb rfl rfl (Bin.add_i64 _ 1 jo) (jm rfl (jO ?_)))
  refine jN ⟨(i + 1, x, x), (js6 rfl rfl rfl rfl rfl rfl), ?_, ?_⟩
  · exact ⟨hc2, hxl, hxl, hfs _ hxs, ho8, ho6, K⟩
  first | omega | (dsimp only; omega)
 refine jX ?_
 refine qT (qT (bZ ?_))
 refine jN (jv2 0 5 ?_)
 refine jS (jR (jm rfl (jm rfl (je (Run.lenT rfl zn) (je (Run.indexS t.length rfl rfl zax zah jo) (jl rfl zcf (gL ho5 jo) (ja rfl (jO (jN (jv1 4 ?_))))))))))
 refine jT ?_
 refine qL rfl ?_
 obtain rfl : i = pp.length := jo
 unfold lW at hre
 rw [zay] at hre
 refine ⟨?_, K⟩
 have e : meetsN q p ↔ atB r t.length = true := by
  unfold meetsN rowM
  rw [htt, hpp, ← hre, ← htl]
  exact ⟨fun h => h.2.2, fun h => ⟨Classical.not_not.1 (fun h2 => hc1 (.inl h2)), jo, h⟩⟩
 have e2 : decide (meetsN q p) = atB r t.length := by rw [zdr, decide_eq_true_iff]; exact e
 rw [e2]
end
section
open Go.RowKit Go.Sort
def lY (m : MailP) (p : Tx) (subs : Bool) : List Tx := if qI m then (if subs = true then m.subs else qB m).filter (fun x => decide (meetsN x p)) else []
theorem nJ (x q : Tx) (g : Nat) (w : World) (hb : Blk w g 9 #[encStr q]) (hx : x.length ≤ 1000000) (hq : q.length ≤ 1000000) (hv : cX w) :
  Calls Tryz.prog 80 #[encStr x, .pointer (some ⟨g, 0, none⟩)] w fun e w' => e = .returned (.bool (!decide (meetsN x q))) ∧ Frm [] w w' := by
 refine VC.calls (nt := 8) (res := #[.tmp 3]) Tryz.func80 rfl Tryz.ntmps80 Tryz.results80 rfl ?_
 refine jS (jR (ja rfl (jO (jN (jv2 0 1 ?_)))))
 refine jS (jR (jm rfl (jl rfl zab (hb.cell 0) ?_)))
 refine Ops.cl (jE2 Tryz.call81) (tZ x q _ hx hq hv) rfl ?_
 rintro e w2 ⟨rfl, hf2⟩
 refine ⟨_, rfl, ?_⟩
 refine je (Run.not rfl) (ja rfl (jO (jN (jv1 3 ?_))))
 refine jT ?_
 refine qL rfl ?_
 exact ⟨rfl, hf2⟩
set_option maxHeartbeats 1000000 in
theorem vR (m : MlC) (q : Tx) (subs : Bool) (w : World) (hm : RdL w m) (hq : q.length ≤ 1000000) (hv : cX w) :
  Calls Tryz.prog 27 #[m.val, encStr q, .bool subs] w fun e w' => ∃ B d, ∃ ss : List Tx, e = .returned (.slice B ss.length d) ∧ Own w' 9 1 B ss.length d (SB ss) ∧ ss = lY m.p q subs ∧ (∀ b ∈ ob B, w.heap.size ≤ b) ∧ Frm [] w w' := by
 have hln := hm.ln
 have hnl := jV m
 have hnq := pJ hm
 refine VC.calls (nt := 20) (res := #[.tmp 6]) Tryz.func27 rfl Tryz.ntmps27 Tryz.results27 rfl ?_
 refine jS (jR ?_)
 refine Ops.m (qJ.box rfl) rfl ?_
 rintro _ w1 ⟨rfl, hF_w1⟩
 have hb1 : Blk w1 w.heap.size 25 #[.slice m.A m.l.length m.c, .slice m.S m.ss.length m.d, .int .i64 m.v, .int .i64 m.b] := hF_w1.blk
 have K := hF_w1.frm
 generalize hg1 : w.heap.size = g1 at hb1 ⊢
 refine Ops.m (qJ.box rfl) rfl ?_
 rintro _ w2 ⟨rfl, hF2⟩
 have hb4 : Blk w2 w1.heap.size 9 #[encStr q] := hF2.blk
 have hb1 := hb1.frm hF2.frm jp
 have hg4 : w.heap.size ≤ w1.heap.size := K.size
 have K := K.trans hF2.frm jp
 generalize hg4' : w1.heap.size = g4 at hb4 hg4 ⊢
 refine ja rfl (jO (jN (jv3 2 3 4 ?_)))
 refine jS (jS (jR (je (Run.loadA rfl zc zb hb1.cells (by first | rfl | (simp; done))) ?_)))
 refine Ops.cl (jE1 zdh) (cF m _ (hm.frm K) (hv.frm K)) rfl ?_
 rintro e w4 ⟨rfl, hf4⟩
 refine ⟨_, rfl, ?_⟩
 have hb1 := hb1.frm hf4 jp
 have hb4 := hb4.frm hf4 jp
 have hKs_hf4 := K.size
 have K := K.trans hf4 jp
 refine je (Run.not rfl) (jO (jN (jv4 2 3 4 10 ?_)))
 refine VC.condB rfl (fun hc1 => ?_) (fun hc1 => ?_)
 ·
  have hc1 : ¬ qI m.p := by simpa using hc1
  refine jS (jR (ja rfl (jO (jN (jv1 6 ?_)))))
  refine jT ?_
  refine qZ (qL rfl ?_)
  exact ⟨none, 0, [], rfl, Own.nil _ _ _, by unfold lY; rw [if_neg hc1], by simp [ob], K⟩
 have hc1 : qI m.p := by simpa using hc1
 obtain ⟨hm24, hv1, hv2, hb0, hb2, hr, hin⟩ := cZ hc1
 refine jQ (jN (jv3 2 3 4 ?_))
 refine jS (jR (je (Run.loadA rfl zc zb hb1.cells (by first | rfl | (simp; done))) ?_))
 refine Ops.cl (jE1 Tryz.call55) (jJ m _ (hm.frm K)) rfl ?_
 rintro e w5 ⟨B, d, rfl, hoL, hgB, hf5⟩
 have hl45 := hb4.lt
 refine ⟨_, rfl, ?_⟩
 have hb1 := hb1.frm hf5 jp
 have hb4 := hb4.frm hf5 jp
 have hKs_hf5 := K.size
 have K := K.trans hf5 jp
 rw [← hnl] at hoL ⊢
 refine ja rfl (jO (jN (jv4 2 3 4 7 ?_)))
 refine jS (jS (jR (jm rfl (jO (jN (jv4 3 4 7 13 ?_))))))
 refine VC.condB rfl (fun hc2 => ?_) (fun hc2 => ?_)
 ·
  have hlp : lY m.p q subs = m.ss.filter (fun x => decide (meetsN x q)) := by unfold lY; rw [if_pos hc1, if_pos hc2]; rfl
  refine jR (jf rfl zh rfl zae (jl rfl zbe (hb1.cell 1) ?_))
  refine Ops.cl (jE1 Tryz.call75) (fY m.S m.d m.ss _ (hm.s.frm K jp) (by have := hm.sn; omega)) rfl ?_
  rintro e w6 ⟨B, d, rfl, hoL, hgB, hf6⟩
  have hl46 := hb4.lt
  refine ⟨_, rfl, ?_⟩
  have hb1 := hb1.frm hf6 jp
  have hb4 := hb4.frm hf6 jp
  have hKs_hf6 := K.size
  have K := K.trans hf6 jp
  obtain ⟨hln2, hlq⟩ : m.ss.length ≤ 1000000 ∧ ∀ q ∈ m.ss, q.length ≤ 1000000 := ⟨hm.sn, hm.sq⟩
  obtain ⟨wl, hwl⟩ : ∃ wl, wl = w6 := ⟨_, rfl⟩
  subst hwl
  have hTT : mE (ob B) wl 80 [.pointer (some ⟨g4, 0, none⟩)] (fun x => !decide (meetsN x q)) := ⟨Tryz.call80, fun W x hW hx => nJ x q g4 W (hb4.frm hW (fun h => by have := hgB _ h; omega)) hx hq (hv.frm (K.own hW (fun b hb => by have := hgB b hb; omega)))⟩
  refine ja rfl (jO (jN (jv2 4 7 ?_)))
  refine jS (jR (jm rfl (je (Run.mkFunc evs.nil (evs.cons rfl evs.nil)) ?_)))
  refine Ops.cl (jE2 Tryz.call79) (pU 80 [.pointer (some ⟨g4, 0, none⟩)] _ B d m.ss _ hoL hln2 hlq hTT) rfl ?_
  rintro e w9 ⟨rfl, ho9, hf9⟩
  refine ⟨_, rfl, ?_⟩
  have K := K.own hf9 (fun b hb => by have := hgB b hb; omega)
  refine ja rfl (jO (jN (jv1 6 ?_)))
  refine jT ?_
  refine qL rfl ?_
  have e : (fun x : Tx => !(!decide (meetsN x q))) = fun x => decide (meetsN x q) := by funext x; simp
  rw [e] at ho9
  refine ⟨B, d, _, ?_, ho9, hlp.symm, fun b hb => by have := hgB b hb; omega, K⟩
  rw [e]
 have hlp : lY m.p q subs = (qB m.p).filter (fun x => decide (meetsN x q)) := by unfold lY; rw [if_pos hc1, if_neg (by simp [hc2])]
 obtain ⟨hln2, hlq⟩ : (qB m.p).length ≤ 1000000 ∧ ∀ q ∈ qB m.p, q.length ≤ 1000000 := ⟨jo, hnq⟩
 obtain ⟨wl, hwl⟩ : ∃ wl, wl = w5 := ⟨_, rfl⟩
 subst hwl
 have hTT : mE (ob B) wl 80 [.pointer (some ⟨g4, 0, none⟩)] (fun x => !decide (meetsN x q)) := ⟨Tryz.call80, fun W x hW hx => nJ x q g4 W (hb4.frm hW (fun h => by have := hgB _ h; omega)) hx hq (hv.frm (K.own hW (fun b hb => by have := hgB b hb; omega)))⟩
 refine jQ (jN (jv2 4 7 ?_))
 refine jS (jR (jm rfl (je (Run.mkFunc evs.nil (evs.cons rfl evs.nil)) ?_)))
 refine Ops.cl (jE2 Tryz.call79) (pU 80 [.pointer (some ⟨g4, 0, none⟩)] _ B d (qB m.p) _ hoL hln2 hlq hTT) rfl ?_
 rintro e w9 ⟨rfl, ho9, hf9⟩
 refine ⟨_, rfl, ?_⟩
 have K := K.own hf9 (fun b hb => by have := hgB b hb; omega)
 refine ja rfl (jO (jN (jv1 6 ?_)))
 refine jT ?_
 refine qL rfl ?_
 have e : (fun x : Tx => !(!decide (meetsN x q))) = fun x => decide (meetsN x q) := by funext x; simp
 rw [e] at ho9
 refine ⟨B, d, _, ?_, ho9, hlp.symm, fun b hb => by have := hgB b hb; omega, K⟩
 rw [e]
end
section
open Go.RowKit Go.Sort
def goP (f nm : Tx) : Prop := qQ f = nm ∨ cJ nm f
instance (f nm : Tx) : Decidable (goP f nm) := by unfold goP; infer_instance
def vS (l : List NmP) (x : NmP) : List NmP := l.filter (fun y => decide (y.1 < x.1)) ++ x :: l.filter (fun y => decide (¬ y.1 < x.1))
theorem qXn {l : List NmP} {x : NmP} {k : Nat} (h : eG l x.1 k) : vS l x = l.take k ++ x :: l.drop k := by
 unfold vS
 rw [kO h]
 congr 2
 obtain ⟨h1, h2, h3⟩ := h
 conv => lhs; rw [← zao k l]
 rw [zbl, List.filter_eq_nil_iff.2, List.filter_eq_self.2, zbg]
 ·
  intro y hy
  obtain ⟨j, hj, rfl⟩ := zo hy
  rw [zp] at hj
  rw [zda]
  simpa using h3 (k + j) jo jo
 intro y hy
 obtain ⟨j, hj, rfl⟩ := zo hy
 rw [zg] at hj
 rw [zcb]
 simpa using h2 j jo jo
def gO (m : MailP) (x : NmP) : MailP := { m with l := vS m.l (qQ x.1, x.2) }
def dA (stay : List NmP) (f t : Tx) : List NmP → Except Nat (List NmP)
 | [] => .ok []
 | x :: r => match cB x.1 f t with
  | .error e => .error e
  | .ok s => if qQ s ∈ stay.map Prod.fst then .error 15 else match dA stay f t r with
   | .error e => .error e
   | .ok r' => .ok ((s, x.2) :: r')
def okD (r : Except Nat Tx) : Tx := match r with | .ok s => s | .error _ => []
def cY (f t : Tx) (x : NmP) : NmP := (okD (cB x.1 f t), x.2)
def fM (stay : List NmP) (f t : Tx) (x : NmP) : Prop := ∃ s, cB x.1 f t = .ok s ∧ qQ s ∉ stay.map Prod.fst
theorem lG (stay : List NmP) (f t : Tx) : ∀ (l : List NmP) (k : Nat), (∀ j (h : j < l.length), j < k → fM stay f t l[j]) →
  dA stay f t l = match dA stay f t (l.drop k) with | .error e => .error e | .ok r => .ok ((l.take k).map (cY f t) ++ r)
 | l, 0, _ => by
  rw [zbs, zcv, zct]
  cases dA stay f t l <;> rfl
 | [], k + 1, _ => by simp [dA]
 | x :: l, k + 1, h => by
  obtain ⟨s, hs, hn⟩ := h 0 jp jo
  have ih := lG stay f t l k (fun j hj hjk => h (j + 1) (by simpa using hj) jo)
  have hs' : cB x.1 f t = .ok s := hs
  rw [zcs, zby, zap]
  rw [dA, hs']
  dsimp only
  rw [if_neg hn, ih]
  have e : cY f t x = (s, x.2) := by unfold cY; rw [hs']; rfl
  cases dA stay f t (l.drop k) with
  | error e => rfl
  | ok r => dsimp only; rw [e]; rfl
theorem nL {stay l : List NmP} {f t : Tx} (h : ∀ j (h : j < l.length), fM stay f t l[j]) : dA stay f t l = .ok (l.map (cY f t)) := by
 rw [lG stay f t l l.length (fun j hj _ => h j hj), List.drop_length, zay]
 simp [dA]
theorem zD {stay l : List NmP} {f t : Tx} {k e : Nat} (hk : k < l.length) (h : ∀ j (h : j < l.length), j < k → fM stay f t l[j]) (he : cB (l[k]).1 f t = .error e) : dA stay f t l = .error e := by
 rw [lG stay f t l k h, zav hk, dA, he]
theorem vT {stay l : List NmP} {f t s : Tx} {k : Nat} (hk : k < l.length) (h : ∀ j (h : j < l.length), j < k → fM stay f t l[j]) (he : cB (l[k]).1 f t = .ok s) (hs : qQ s ∈ stay.map Prod.fst) : dA stay f t l = .error 15 := by
 rw [lG stay f t l k h, zav hk, dA, he]
 dsimp only
 rw [if_pos hs]
def goF (f : Tx) (l : List NmP) : List NmP := l.filter fun x => decide (goP f x.1)
def stF (f : Tx) (l : List NmP) : List NmP := l.filter fun x => !decide (goP f x.1)
def eT (m : MailP) (f t : Tx) : Except Nat MailP :=
 match dA (stF f m.l) f t (goF f m.l) with
 | .error e => .error e
 | .ok g => if cP m (qO (stF f m.l) (upN t)).length (qO (stF f m.l) (upN t)).length ≠ 0 then .error (cP m (qO (stF f m.l) (upN t)).length (qO (stF f m.l) (upN t)).length)
  else .ok (g.foldl gO (bX { m with l := stF f m.l } (upN t)))
def oU (m : MailP) (f t : Tx) : Prop := ∀ j, j ≤ ((goF f m.l).map (cY f t)).length → bW ((((goF f m.l).map (cY f t)).take j).foldl gO (bX { m with l := stF f m.l } (upN t))).l
def bI (m : MailP) (f t : Tx) (emptyP : Except Nat MailP) : Except Nat MailP :=
 if ¬ qI m then .error 1 else if ¬ isN f ∨ ¬ isN t then .error 18 else if qQ f ∉ qB m then .error 6 else if qQ t ∈ qB m then .error 15
 else if qQ f = qF then emptyP else if cJ t f then .error 16 else eT m f t
theorem rF {q f t s : Tx} (h : cB q f t = .ok s) : s.length ≤ 60 := by
 unfold cB at h
 have hc : ∀ x : Tx, kA x = .ok s → s.length ≤ 60 := by
  intro x hx
  unfold kA at hx
  split at hx
  ·
   rename_i h1
   cases hx
   exact h1.2.1
  cases hx
 split at h
 · cases h
 split at h
 · exact hc _ h
 split at h
 · exact hc _ h
 cases h
def goC (f : Tx) (l : List Nc) : List Nc := l.filter fun x => decide (goP f x.nm)
def stC (f : Tx) (l : List Nc) : List Nc := l.filter fun x => !decide (goP f x.nm)
theorem qZv (f : Tx) (l : List Nc) : Ns (goC f l) = goF f (Ns l) := by
 unfold goC goF Ns
 rw [List.filter_map]
 rfl
theorem qZw (f : Tx) (l : List Nc) : Ns (stC f l) = stF f (Ns l) := by
 unfold stC stF Ns
 rw [List.filter_map]
 rfl
def eP (f t : Tx) (x : Nc) : Nc := { x with nm := okD (cB x.nm f t) }
theorem zE (l : List Nc) (k : Nat) (hk : k < l.length) (s : Tx) : (NDC l).set (k * 4) (encStr s) = NDC (l.set k { l[k] with nm := s }) := by
 apply zcz
 intro j
 have hidx := fun l' => gS Nc.cells 4 jo Nc.cells_len l' j
 have hlen := dP l
 rw [show NDC (l.set k { l[k] with nm := s }) = (l.set k { l[k] with nm := s }).flatMap Nc.cells from rfl, hidx, zeu, zeu]
 have hdm : j = j / 4 * 4 + j % 4 := jo
 by_cases h2 : k * 4 = j
 ·
  have h1 : k = j / 4 := jo
  rw [if_pos h2, if_pos (by rw [hlen]; omega), if_pos h1, if_pos hk]
  have : j % 4 = 0 := jo
  rw [this]
  rfl
 rw [if_neg h2, show NDC l = l.flatMap Nc.cells from rfl, hidx]
 by_cases h1 : k = j / 4
 ·
  rw [if_pos h1, if_pos hk, ← h1, ze hk]
  have : j % 4 = 1 ∨ j % 4 = 2 ∨ j % 4 = 3 := jo
  rcases this with h | h | h <;> rw [h] <;> rfl
 rw [if_neg h1]
def eF (f t : Tx) (l : List Nc) (k : Nat) : List Nc := (l.take k).map (eP f t) ++ l.drop k
theorem zF (f t : Tx) (l : List Nc) (k : Nat) (hk : k ≤ l.length) : (eF f t l k).length = l.length := by
 unfold eF
 rw [zi, zau, zg, zp]
 omega
theorem qXo (f t : Tx) (l : List Nc) (k : Nat) (hk : k < l.length) (h2 : k < (eF f t l k).length) : (eF f t l k)[k] = l[k] := by
 have e : (eF f t l k)[k]? = some l[k] := by
  unfold eF
  rw [zbm (by rw [zau, zg]; omega), zau, zg, zaf (Nat.le_of_lt hk), zdc, zdq, Nat.add_zero, ze hk]
 rw [ze h2] at e
 exact Option.some.inj e
theorem xD (f t : Tx) (l : List Nc) (k : Nat) (hk : k < l.length) (s : Tx) (hs : cB (l[k]).nm f t = .ok s) : (eF f t l k).set k { l[k] with nm := s } = eF f t l (k + 1) := by
 unfold eF
 rw [List.set_append_right _ _ (by rw [zau, zg]; omega)]
 have e : k - ((l.take k).map (eP f t)).length = 0 := by rw [zau, zg]; omega
 rw [e, zav hk, List.set_cons_zero, zas, ze hk, zbi]
 have e2 : eP f t l[k] = { l[k] with nm := s } := by unfold eP; rw [hs]; rfl
 simp [e2]
theorem zA (f t : Tx) (l : List Nc) : eF f t l l.length = l.map (eP f t) := by
 unfold eF
 rw [zay, List.drop_length, zbh]
theorem xE {m : MlC} {x : Nc} {k : Nat} {A : Option Addr} {c : Nat} (h : eG m.p.l (qQ x.nm) k) : (m.wl A c (m.l.take k ++ ⟨qQ x.nm, x.v, x.n, x.A, x.c, x.l⟩ :: m.l.drop k)).p = gO m.p x.p := by
 have e := qXn (x := (qQ x.nm, ⟨x.v, x.n, Ms x.l⟩)) h
 have e2 := xR m.l ⟨qQ x.nm, x.v, x.n, x.A, x.c, x.l⟩ k
 exact congrArg (fun z => MailP.mk z m.ss m.v m.b) (e2.trans e.symm)
theorem xF {w w1 w2 : World} {S : List Nat} {m mo : MlC} {k : Nat} {x : Nc} {A : Option Addr} {c : Nat} (h : bA w w1 S m mo) (kf : Frm [] w1 w2) (hs : w.heap.size ≤ w1.heap.size) (hk : k ≤ mo.l.length) (hn : mo.l.length + 1 ≤ 1000000)
  (ho : Own w2 45 4 A (mo.l.length + 1) c (NDC (mo.l.take k ++ x :: mo.l.drop k))) (hf : ∀ b ∈ ob A, w1.heap.size ≤ b) (hx : ∀ w'', RdL w'' m → x.At w'') : bA w w2 (S ++ ob A) m (mo.wl A c (mo.l.take k ++ x :: mo.l.drop k)) := by
 have hll := mD mo.l x k hk
 refine ⟨fun y hy => by rcases List.mem_append.1 hy with h3 | h3; exact h.1 y h3; exact zar hs (hf y h3), fun w'' T kT hT hm => ?_⟩
 have ho := ho.frm kT (fun y hy h => hT y h (zcl _ hy))
 have hmo := h.2 w'' T ((kf.mono jp).trans kT (fun y hy => .inl hy)) (fun y hy h3 => hT y hy (zcx _ h3)) hm
 exact ⟨⟨ho.rdNk hll, xP k hmo.l.el (hx w'' hm)⟩, hmo.s, by show List.length (_ ++ _) ≤ _; rw [hll]; exact ho.le, hmo.sc, by show List.length (_ ++ _) ≤ _; rw [hll]; exact hn, hmo.sn, hmo.sq⟩
end
section
open Go.RowKit Go.Sort
theorem zI {w w' : World} {m : MlC} {A : Option Addr} {c : Nat} {l : List Nc} (ho : Own w' 45 4 A l.length c (NDC l)) (hf : ∀ b ∈ ob A, w.heap.size ≤ b) (hl : l.length ≤ 1000000) (hx : ∀ w'', RdL w'' m → ∀ y ∈ l, y.At w'') : bA w w' (ob A) m (m.wl A c l) := by
 refine ⟨hf, fun w'' T kT hT hm => ?_⟩
 have ho := ho.frm kT (fun y hy h => hT y h hy)
 exact ⟨⟨ho.rd, hx w'' hm⟩, hm.s, ho.le, hm.sc, hl, hm.sn, hm.sq⟩
theorem zL {q : Tx} {l : List Nc} {x : Nc} (h : goP q x.nm) : goC q (l ++ [x]) = goC q l ++ [x] ∧ stC q (l ++ [x]) = stC q l := by
 unfold goC stC
 simp [zbl, h]
theorem zO {q : Tx} {l : List Nc} {x : Nc} (h : ¬ goP q x.nm) : goC q (l ++ [x]) = goC q l ∧ stC q (l ++ [x]) = stC q l ++ [x] := by
 unfold goC stC
 simp [zbl, h]
theorem qZc {w : World} {x : Nc} (q t : Tx) (h : x.At w) : (eP q t x).At w := ⟨h.rd, h.n, by
 show (okD (cB x.nm q t)).length ≤ _
 cases e : cB x.nm q t with
 | error k => simp [okD]
 | ok s => have := rF e; show s.length ≤ _; omega⟩
set_option maxHeartbeats 2000000 in
theorem nK (m : MlC) (q t : Tx) (w : World) (hm : RdL w m) (hq : q.length ≤ 400000) (ht : t.length ≤ 400000) (hr : bW m.p.l) (h24 : m.l.length ≤ 24) (h0 : 1 ≤ m.v) (h1 : m.v ≤ 2147483647) (hL : (∀ x ∈ goF q m.p.l, fM (stF q m.p.l) q t x) → cP m.p (qO (stF q m.p.l) (upN t)).length (qO (stF q m.p.l) (upN t)).length = 0 → oU m.p q t) (hv : cX w) :
  Calls Tryz.prog 63 #[m.val, encStr q, encStr t] w fun e w' => ∃ (m' : MlC) (k : Nat), e = .returned (.tuple #[m'.val, .int .i64 ((k : Nat) : Int)]) ∧ bF w w' m (eT m.p q t) m' k ∧ Frm [] w w' := by
 have hln := hm.ln
 have hpl := dJ m
 have hdl : (goC q m.l).length + (stC q m.l).length ≤ m.l.length := nE _ _ (fun x h => by simp only [decide_eq_true_eq] at h; simp [h]) m.l
 have hgm : ∀ y ∈ goC q m.l, y ∈ m.l := fun y hy => (List.mem_filter.1 hy).1
 have hsm : ∀ y ∈ stC q m.l, y ∈ m.l := fun y hy => (List.mem_filter.1 hy).1
 have hgF : Ns (goC q m.l) = goF q m.p.l := qZv q m.l
 have hsF : Ns (stC q m.l) = stF q m.p.l := qZw q m.l
 have hsr : bW (stF q m.p.l) := hr.sublist (zci.map _)
 have hul : (upN t).length ≤ t.length := by
  by_cases h : t = []
  · subst h; decide
  have := eY h; omega
 refine VC.calls (nt := 119) (res := #[.cell 6 25, .tmp 7]) Tryz.func63 rfl Tryz.ntmps63 Tryz.results63 rfl ?_
 refine jS (jR ?_)
 refine Ops.m (qJ.box rfl) rfl ?_
 rintro _ w1 ⟨rfl, hF_w1⟩
 have hb1 : Blk w1 w.heap.size 25 #[.slice m.A m.l.length m.c, .slice m.S m.ss.length m.d, .int .i64 m.v, .int .i64 m.b] := hF_w1.blk
 have K := hF_w1.frm
 generalize hg1 : w.heap.size = g1 at hb1 ⊢
 refine Ops.m (qJ.alloc qD) rfl ?_
 rintro _ w2 ⟨rfl, hF2⟩
 have hb4 := hF2.blk
 have hg4 : w.heap.size ≤ w1.heap.size := K.size
 have hb1 := hb1.frm hF2.frm jp
 have hl1 := hb1.lt
 have hl4 := hb4.lt
 have K := K.trans hF2.frm jp
 have hne14 : g1 ≠ w1.heap.size := by have := hF_w1.size; omega
 have hg1s : w.heap.size ≤ g1 := jo
 generalize hg4' : w1.heap.size = g4 at hb4 hg4 hne14 hl4 ⊢
 refine jz 0 (jO (jN (jv4 1 2 3 6 ?_)))
 refine jS (jR (ja rfl (ja rfl (jO (jN (jS (jS (jR (jf rfl zh rfl zad (jl rfl zaz (hb1.cell 0) (je (Run.lenS rfl zf) ?_)))))))))))
 refine jx .i64 0 ?_
 refine jO (jN (jv9 1 2 3 6 8 9 24 25 26 ?_))
 refine jB ?_
 refine VC.loop (σ := (Nat × Option Addr × Nat) × (Option Addr × Nat)) (fun s => [(1, encStr q), (2, encStr t), (3, .pointer (some ⟨g1, 0, none⟩)), (6, .pointer (some ⟨g4, 0, none⟩)), (8, .slice s.1.2.1 (goC q (m.l.take s.1.1)).length s.1.2.2), (9, .slice s.2.1 (stC q (m.l.take s.1.1)).length s.2.2), (24, .slice m.A m.l.length m.c), (25, .int .i64 ((m.l.length : Nat) : Int)), (26, .int .i64 ((s.1.1 : Nat) : Int))]) (fun s wr => s.1.1 ≤ m.l.length ∧ Blk wr g1 25 #[.slice m.A m.l.length m.c, .slice m.S m.ss.length m.d, .int .i64 m.v, .int .i64 m.b] ∧ Blk wr g4 25 qV.cells.toArray ∧ Own wr 45 4 s.1.2.1 (goC q (m.l.take s.1.1)).length s.1.2.2 (NDC (goC q (m.l.take s.1.1))) ∧ Own wr 45 4 s.2.1 (stC q (m.l.take s.1.1)).length s.2.2 (NDC (stC q (m.l.take s.1.1))) ∧ (∀ b ∈ ob s.1.2.1, w.heap.size ≤ b) ∧ (∀ b ∈ ob s.2.1, w.heap.size ≤ b) ∧ (∀ b ∈ ob s.1.2.1, b ∉ ob s.2.1) ∧ Frm [] w wr) (fun s => m.l.length - s.1.1) ((0, none, 0), (none, 0)) (js9 rfl rfl rfl rfl rfl rfl rfl rfl rfl) ⟨zal _, hb1, hb4, Own.nil _ _ _, Own.nil _ _ _, by simp [ob], by simp [ob], by simp [ob], K⟩ ?_
 rintro ⟨⟨i, Ag, cg⟩, ⟨As, cs⟩⟩ wr ⟨hi, hb1, hb4, hog, hos, hgg, hgs, hdis, K⟩
 dsimp only at *
 refine jS (jR (jb rfl rfl (Bin.lssN _ _) (jO (jN (jS ?_)))))
 refine jD rfl (fun hc1 => ?_) fun hc1 => ?_
 ·
  obtain ⟨ad, hA, hel⟩ := (hm.frm K).l.elem hc1
  have hxa := (hm.frm K).l.el _ (zm hc1)
  have hts : m.l.take (i + 1) = m.l.take i ++ [m.l[i]] := by rw [zas, ze hc1]; rfl
  have hbg : (goC q (m.l.take i)).length ≤ (m.l.take i).length := zds _ _
  have hbs : (stC q (m.l.take i)).length ≤ (m.l.take i).length := zds _ _
  have htk : (m.l.take i).length ≤ i := zeb _ _
  generalize hx : m.l[i] = x at *
  refine jQ (jN (jv9 1 2 3 6 8 9 24 25 26 ?_))
  refine jS (jB (jS (jR (je (Run.indexS i (show _ = some (Value.slice (some ad) m.l.length m.c) by rw [← hA]; rfl) rfl zf zt hc1) (je (Run.loadA rfl zef zt hel (by first | rfl | (simp; done))) ?_)))))
  refine Ops.m (qJ.alloc dV) rfl ?_
  rintro _ w3 ⟨rfl, hF3⟩
  refine Ops.st (qK.storeA rfl rfl zt hF3.blk rfl x.cells_one) ?_
  rintro w4 ⟨hb11, hf4, hs4⟩
  have hb11 : Blk w4 wr.heap.size 45 x.cells.toArray := hb11
  have K3 : Frm [] wr w4 := hF3.frm.trans hf4 jp
  have hb1 := hb1.frm K3 jp
  have hb4 := hb4.frm K3 jp
  have hog := hog.frm K3 jp
  have hos := hos.frm K3 jp
  have hKs_K3 := K.size
  have K := K.trans K3 jp
  have hxa := hxa.frm K3
  generalize hg11 : wr.heap.size = g11 at hb11 hKs_K3 ⊢
  refine jO (jN (jv10 1 2 3 6 8 9 11 24 25 26 ?_))
  refine jS ?_
  refine VC.meet (σ := Unit) (fun s => [(1, encStr q), (2, encStr t), (3, .pointer (some ⟨g1, 0, none⟩)), (6, .pointer (some ⟨g4, 0, none⟩)), (8, .slice Ag (goC q (m.l.take i)).length cg), (9, .slice As (stC q (m.l.take i)).length cs), (11, .pointer (some ⟨g11, 0, none⟩)), (24, .slice m.A m.l.length m.c), (25, .int .i64 ((m.l.length : Nat) : Int)), (26, .int .i64 ((i : Nat) : Int)), (40, .bool (decide (goP q x.nm)))]) (fun s wz => Frm [] w4 wz) ?_ ?_
  ·
   refine VC.held (fun W => Frm [] w4 W) jK ?_
   have hS : Frm [] w4 w4.drew := (Frm.refl _ _).drew
   refine jH 0 rfl hS (fun w0 hw0 => Run.mv rfl) ?_
   refine jH 2 rfl hS (fun w0 hw0 => Run.fieldAddr rfl zag rfl zl jd) ?_
   refine jH 3 rfl hS (fun w0 hw0 => Run.load rfl zab ((hb11.frm hw0 jp).cell 0)) ?_
   refine qS.cl 1 rfl jK (jE1 zbz) (bS q _ jo (hv.frm (K.trans hS jp))) trivial rfl rfl ?_
   rintro e wA ⟨rfl, hfA⟩
   have hSA := hS.trans hfA jp
   refine ⟨_, rfl, hSA, ?_⟩
   have hS := hSA
   refine jH 4 rfl hS (fun w0 hw0 => Run.eqlT rfl rfl) ?_
   refine jH 5 rfl hS (fun w0 hw0 => Run.mv rfl) ?_
   by_cases hs35 : qQ q = x.nm
   ·
    refine qS.skip 6 rfl jK jK jK hS rfl rfl (decide_eq_true hs35) rfl rfl ?_
    refine qS.skip 7 rfl jK jK jK hS rfl rfl (decide_eq_true hs35) rfl rfl ?_
    refine qS.skip 8 rfl jK jK jK hS rfl rfl (decide_eq_true hs35) rfl rfl ?_
    refine qS.skip 9 rfl jK jK jK hS rfl rfl (decide_eq_true hs35) rfl rfl ?_
    refine jH 10 rfl hS (fun w0 hw0 => Run.pickT rfl rfl (decide_eq_true hs35)) ?_
    refine qS.done jK ?_
    refine jN ⟨(), (js11 rfl rfl rfl rfl rfl rfl rfl rfl rfl rfl (by rw [show decide (goP q x.nm) = true from decide_eq_true (.inl hs35)]; rfl)), ?_⟩
    exact hS
   refine qS.take 6 rfl jK jK jK hS (fun w0 hw0 => Run.fieldAddr rfl zag rfl zl jd) (Up.g rfl ((decide_eq_false hs35))) rfl rfl ?_
   refine qS.take 7 rfl jK jK jK hS (fun w0 hw0 => Run.load rfl zab ((hb11.frm hw0 jp).cell 0)) (Up.g rfl ((decide_eq_false hs35))) rfl rfl ?_
   refine qS.take 8 rfl jK jK jK hS (fun w0 hw0 => Run.mv rfl) (Up.g rfl ((decide_eq_false hs35))) rfl rfl ?_
   refine qS.cl 9 rfl jK (jE2 Tryz.call57) (eS x.nm q _ hxa.q jo (hv.frm (K.trans hS jp))) (Up.g rfl ((decide_eq_false hs35))) rfl rfl ?_
   rintro e wB ⟨rfl, hfB⟩
   have hSB := hS.trans hfB jp
   refine ⟨_, rfl, hSB, ?_⟩
   have hS := hSB
   refine jH 10 rfl hS (fun w0 hw0 => Run.pickF rfl rfl (decide_eq_false hs35)) ?_
   refine qS.done jK ?_
   refine jN ⟨(), (js11 rfl rfl rfl rfl rfl rfl rfl rfl rfl rfl (by rw [show decide (goP q x.nm) = decide (cJ x.nm q) from decide_eq_decide.2 ⟨fun h => h.resolve_left hs35, .inr⟩]; rfl)), ?_⟩
   exact hS
  rintro _ wz hfz Γ hΓ
  have hb1 := hb1.frm hfz jp
  have hb4 := hb4.frm hfz jp
  have hb11 := hb11.frm hfz jp
  have hog := hog.frm hfz jp
  have hos := hos.frm hfz jp
  have hKs_hfz := K.size
  have K := K.trans hfz jp
  refine jN (VC.sub _ hΓ ?_)
  refine VC.condB rfl (fun hc2 => ?_) (fun hc2 => ?_)
  ·
   have hc2 : goP q x.nm := of_decide_eq_true hc2
   refine jR (jm rfl (je (Run.loadA rfl zef zt hb11.cells (by first | rfl | (simp; done))) ?_))
   refine Ops.m (qJ.buildS1 rfl zf zt dV jd jd rfl rfl) rfl ?_
   rintro _ w5 ⟨rfl, hF5⟩
   have hr5 : Rd w5 4 (some ⟨wz.heap.size, 0, none⟩) 1 (NDC [x]) := vX hF5
   have hF5f := hF5.frm
   have hb1 := hb1.frm hF5f jp
   have hb4 := hb4.frm hF5f jp
   have hog := hog.frm hF5f jp
   have hos := hos.frm hF5f jp
   have hKs_hF5f := K.size
   have K := K.trans hF5f jp
   refine Ops.m (qJ.app rfl rfl zf (kJ) rfl jd hog hr5 (fD _) jo jo) rfl ?_
   rintro _ w6 ⟨B6, c6, rfl, ho6, hf6, hob6⟩
   rw [← cD] at ho6
   obtain ⟨hg1', hg2'⟩ := zL (l := m.l.take i) hc2
   rw [← hts] at hg1' hg2'
   have hgl : (goC q (m.l.take (i + 1))).length = (goC q (m.l.take i)).length + 1 := by rw [hg1', zi]; rfl
   have hb1 := hb1.frm hf6 (hog.ne_blk hb1 jd)
   have hb4 := hb4.frm hf6 (hog.ne_blk hb4 jd)
   have hol := hos.lt
   have hos := hos.frm hf6 (fun y hy h => hdis y h hy)
   have hKs5 := K.size
   have K := K.own hf6 hgg
   have hgg6 : ∀ b ∈ ob B6, w.heap.size ≤ b := fun b hb => by
    rcases hob6 with h | h
    · rw [h] at hb; exact hgg b hb
    rw [h, za] at hb; omega
   have hdis6 : ∀ b ∈ ob B6, b ∉ ob As := fun b hb h2 => by
    rcases hob6 with h | h
    · rw [h] at hb; exact hdis b hb h2
    rw [h, za] at hb; have := hol b h2; omega
   refine ja rfl (jO ?_)
   refine qR (jN ?_)
   refine jv9 1 2 3 6 8 9 24 25 26 ?_
   refine jR (jb rfl rfl (Bin.add_i64 _ 1 jo) (jm rfl (jO ?_)))
   refine jN ⟨((i + 1, B6, c6), (As, cs)), (js9 rfl rfl rfl rfl (by rw [hgl]; rfl) (by rw [hg2']; rfl) rfl rfl rfl), ?_, ?_⟩
   · exact ⟨hc1, hb1, hb4, by rw [hgl, hg1']; exact ho6, by rw [hg2']; exact hos, hgg6, hgs, hdis6, K⟩
   first | omega | (dsimp only; omega)
  have hc2 : ¬ goP q x.nm := of_decide_eq_false hc2
  refine jR (jm rfl (je (Run.loadA rfl zef zt hb11.cells (by first | rfl | (simp; done))) ?_))
  refine Ops.m (qJ.buildS1 rfl zf zt dV jd jd rfl rfl) rfl ?_
  rintro _ w5 ⟨rfl, hF5⟩
  have hr5 : Rd w5 4 (some ⟨wz.heap.size, 0, none⟩) 1 (NDC [x]) := vX hF5
  have hF5f := hF5.frm
  have hb1 := hb1.frm hF5f jp
  have hb4 := hb4.frm hF5f jp
  have hog := hog.frm hF5f jp
  have hos := hos.frm hF5f jp
  have hKs_hF5f := K.size
  have K := K.trans hF5f jp
  refine Ops.m (qJ.app rfl rfl zf (kJ) rfl jd hos hr5 (fD _) jo jo) rfl ?_
  rintro _ w6 ⟨B6, c6, rfl, ho6, hf6, hob6⟩
  rw [← cD] at ho6
  obtain ⟨hg1', hg2'⟩ := zO (l := m.l.take i) hc2
  rw [← hts] at hg1' hg2'
  have hgl : (stC q (m.l.take (i + 1))).length = (stC q (m.l.take i)).length + 1 := by rw [hg2', zi]; rfl
  have hb1 := hb1.frm hf6 (hos.ne_blk hb1 jd)
  have hb4 := hb4.frm hf6 (hos.ne_blk hb4 jd)
  have hol := hog.lt
  have hog := hog.frm hf6 (fun y hy h => hdis y hy h)
  have hKs5 := K.size
  have K := K.own hf6 hgs
  have hgs6 : ∀ b ∈ ob B6, w.heap.size ≤ b := fun b hb => by
   rcases hob6 with h | h
   · rw [h] at hb; exact hgs b hb
   rw [h, za] at hb; omega
  have hdis6 : ∀ b ∈ ob Ag, b ∉ ob B6 := fun b hb h2 => by
   rcases hob6 with h | h
   · rw [h] at h2; exact hdis b hb h2
   rw [h, za] at h2; have := hol b hb; omega
  refine ja rfl (jO ?_)
  refine qR (jN ?_)
  refine jv9 1 2 3 6 8 9 24 25 26 ?_
  refine jR (jb rfl rfl (Bin.add_i64 _ 1 jo) (jm rfl (jO ?_)))
  refine jN ⟨((i + 1, Ag, cg), (B6, c6)), (js9 rfl rfl rfl rfl (by rw [hg1']; rfl) (by rw [hgl]; rfl) rfl rfl rfl), ?_, ?_⟩
  · exact ⟨hc1, hb1, hb4, by rw [hg1']; exact hog, by rw [hgl, hg2']; exact ho6, hgg, hgs6, hdis6, K⟩
  first | omega | (dsimp only; omega)
 obtain rfl : i = m.l.length := jo
 rw [zay] at hog hos ⊢
 generalize hgd : goC q m.l = gs at *
 generalize hsd : stC q m.l = ss at *
 refine jX ?_
 refine qT (qT (bZ ?_))
 refine jN (jv6 1 2 3 6 8 9 ?_)
 refine jS (jR (je (Run.loadA rfl zc zb hb1.cells (by first | rfl | (simp; done))) ?_))
 refine Ops.m (qJ.alloc qD) rfl ?_
 rintro _ w7 ⟨rfl, hF7⟩
 refine Ops.st (qK.storeA rfl rfl zb hF7.blk rfl (MlC.cells_one m)) ?_
 rintro w8 ⟨hb12, hf8, hs8⟩
 have hb12 : Blk w8 wr.heap.size 25 #[.slice m.A m.l.length m.c, .slice m.S m.ss.length m.d, .int .i64 m.v, .int .i64 m.b] := hb12
 have K8 : Frm [] wr w8 := hF7.frm.trans hf8 jp
 have hl1w := hb1.lt
 have hl4w := hb4.lt
 have hb1 := hb1.frm K8 jp
 have hb4 := hb4.frm K8 jp
 have hog := hog.frm K8 jp
 have hos := hos.frm K8 jp
 have hKs_K8 := K.size
 have K := K.trans K8 jp
 generalize hg12 : wr.heap.size = g12 at hb12 hKs_K8 hl1w hl4w ⊢
 refine jO (jN (jv7 1 2 3 6 8 9 12 ?_))
 refine jS (jR (jm rfl (jf rfl zh rfl zad ?_)))
 refine Ops.st (qK.store rfl rfl zad hb12 rfl rfl) ?_
 have hb12x := hb12
 rintro w9 ⟨hb12, (hf9 : Frm [g12] _ _), hs9⟩
 have hb12 : Blk w9 g12 25 (m.wl As cs ss).cells.toArray := hb12
 have hb1 := hb1.frm hf9 (by simp; omega)
 have hb4 := hb4.frm hf9 (by simp; omega)
 have hog := hog.frm hf9 (fun y hy h => by rw [za] at h; rw [h] at hy; exact hog.ne_blk hb12x jd hy)
 have hos := hos.frm hf9 (fun y hy h => by rw [za] at h; rw [h] at hy; exact hos.ne_blk hb12x jd hy)
 have K := K.own hf9 (fun y hy => by rw [za] at hy; omega)
 refine jO (jN (jv7 1 2 3 6 8 9 12 ?_))
 refine jS (jS (jR (jm rfl (je (Run.lenS rfl zf) ?_))))
 refine jx .i64 0 ?_
 refine jO (jN (jB ?_))
 refine VC.loop (σ := Nat) (fun s => [(1, encStr q), (2, encStr t), (3, .pointer (some ⟨g1, 0, none⟩)), (6, .pointer (some ⟨g4, 0, none⟩)), (8, .slice Ag gs.length cg), (9, .slice As ss.length cs), (12, .pointer (some ⟨g12, 0, none⟩)), (53, .slice Ag gs.length cg), (54, .int .i64 ((gs.length : Nat) : Int)), (55, .int .i64 ((s : Nat) : Int))]) (fun s wr => s ≤ gs.length ∧ Blk wr g1 25 #[.slice m.A m.l.length m.c, .slice m.S m.ss.length m.d, .int .i64 m.v, .int .i64 m.b] ∧ Blk wr g4 25 qV.cells.toArray ∧ Blk wr g12 25 (m.wl As cs ss).cells.toArray ∧ Own wr 45 4 Ag gs.length cg (NDC (eF q t gs s)) ∧ Own wr 45 4 As ss.length cs (NDC ss) ∧ (∀ j (h : j < gs.length), j < s → fM (Ns ss) q t (gs[j]).p) ∧ Frm [] w wr) (fun s => gs.length - s) 0 (js10 rfl rfl rfl rfl rfl rfl rfl rfl rfl rfl) ⟨zal _, hb1, hb4, hb12, hog, hos, fun _ _ h => jo, K⟩ ?_
 rintro k wr ⟨hk, hb1, hb4, hb12, hog, hos, hok, K⟩
 refine jS (jR (jb rfl rfl (Bin.lssN _ _) (jO (jN (jS ?_)))))
 refine jD rfl (fun hc3 => ?_) fun hc3 => ?_
 ·
  obtain ⟨gg, rfl⟩ : ∃ g, Ag = some ⟨g, 0, none⟩ := by
   rcases hog.cases with ⟨_, h0, _⟩ | ⟨g, _, h0, _⟩
   · omega
   exact ⟨g, h0⟩
  have hcl := zF q t gs k hk
  have hkc : k < (eF q t gs k).length := jo
  have hcat := qXo q t gs k hc3 hkc
  have hsetn := fun s => zE (eF q t gs k) k hkc s
  rw [hcat] at hsetn
  have hnext := xD q t gs k hc3
  have hmem := hgm gs[k] (zm hc3)
  have hxa := (hm.frm K).l.el _ hmem
  have hcell : ∀ j v, (gs[k]).cells[j]? = some v → wr.cell? (((⟨gg, 0, none⟩ : Addr).add (k * 4)).add j) = some v := fun j v hj => nA hog hc3 (by rw [xW hkc, hcat]; exact hj)
  obtain ⟨x, hx⟩ : ∃ x, x = gs[k] := ⟨_, rfl⟩
  rw [← hx] at hsetn hnext hmem hxa hcell
  refine jQ (jN (jv10 1 2 3 6 8 9 12 53 54 55 ?_))
  refine jS (jB (jS (jR (jm rfl (je (Run.indexS k rfl rfl zf zt hc3) (je (Run.loadA rfl zef zt hcell (by first | rfl | (simp; done))) ?_))))))
  refine Ops.m (qJ.alloc dV) rfl ?_
  rintro _ wa ⟨rfl, hFa⟩
  refine jA ?_
  refine Ops.st (qK.storeA rfl rfl zt hFa.blk rfl x.cells_one) ?_
  rintro wb ⟨hb14, hfb, hsb⟩
  have hb14 : Blk wb wr.heap.size 45 x.cells.toArray := hb14
  have Kb : Frm [] wr wb := hFa.frm.trans hfb jp
  have hb1 := hb1.frm Kb jp
  have hb4 := hb4.frm Kb jp
  have hb12 := hb12.frm Kb jp
  have hog := hog.frm Kb jp
  have hos := hos.frm Kb jp
  have hKs_Kb := K.size
  have K := K.trans Kb jp
  generalize hg14 : wr.heap.size = g14 at hb14 hKs_Kb ⊢
  refine jO (jN (jv12 1 2 3 6 8 9 12 13 14 53 54 55 ?_))
  refine jS (jR (jf rfl zag rfl zl (jl rfl zab (hb14.cell 0) (jm rfl (jM ?_)))))
  refine Ops.cl (jE3 Tryz.call112) (vK x.nm q t _ hxa.q jo jo (hv.frm K)) rfl ?_
  rintro e wc ⟨r, ke, rfl, hfc, hmv⟩
  refine ⟨_, rfl, ?_⟩
  have hb1 := hb1.frm hfc jp
  have hb4 := hb4.frm hfc jp
  have hb12 := hb12.frm hfc jp
  have hog := hog.frm hfc jp
  have hos := hos.frm hfc jp
  have hKs_hfc := K.size
  have K := K.trans hfc jp
  refine jm rfl (je (Run.extract rfl rfl) (je (Run.extract rfl rfl) (ja rfl (ja rfl (jO (jN (jv13 1 2 3 6 8 9 12 13 15 16 53 54 55 ?_)))))))
  refine jS (jS (jR (jm rfl (jb rfl rfl (Bin.neqN _ 0) (jO (jN (jv14 1 2 3 6 8 9 12 13 15 16 53 54 55 69 ?_)))))))
  refine jD rfl (fun hc4 => ?_) fun hc4 => ?_
  ·
   have hbad := zD (k := k) (stay := Ns ss) (l := Ns gs) (f := q) (t := t) (e := ke) (by rw [cR]; exact hc3) (fun j hj hjk => by rw [show (Ns gs)[j] = (gs[j]'(by rw [cR] at hj; exact hj)).p from zbj _]; exact hok j _ hjk) (by rw [show (Ns gs)[k]'(by rw [cR]; exact hc3) = (gs[k]).p from zbj _, ← hx]; exact (hmv.resolve_left (fun h => hc4 h.1)).2.1)
   refine jS (jR (je (Run.build evs.nil qD (qW).choose_spec.1 (qW).choose_spec.2 rfl) (jM ?_)))
   refine Ops.st (qK.storeA rfl rfl zb hb4 rfl (MlC.cells_one qV)) ?_
   rintro wd ⟨hb4, (hfwd : Frm [g4] _ _), hswd⟩
   have hb4 : Blk wd g4 25 qV.cells.toArray := hb4
   have K := K.own hfwd (fun y hy => by rw [za] at hy; omega)
   refine ja rfl (jO (jN (jv2 6 7 ?_)))
   refine jT ?_
   refine qZ (qC (qZ (qZ (qC (qZ (bQ ?_))))))
   refine qH rfl zc zb (hb4.cells) (by first | rfl | (simp; done)) ?_
   refine qN rfl ?_
   refine qP ?_
   refine ⟨qV, ke, rfl, bF.err hc4 ?_, K⟩
   unfold eT
   rw [← hgF, ← hsF, hbad]
  have hmv : cB x.nm q t = .ok r := (hmv.resolve_right (fun h => h.1 jo)).2
  have hrl := rF hmv
  refine jQ (jN (jv12 1 2 3 6 8 9 12 13 15 53 54 55 ?_))
  refine jS (jS (jR (jm rfl (je (Run.build (evs.cons rfl evs.nil) qD (qW).choose_spec.1 (qW).choose_spec.2 rfl) (jM ?_)))))
  refine Ops.cl (jE2 zcm) (bE ⟨As, cs, ss, none, 0, [], 0, 0⟩ r _ ⟨hos.rd, fun y hy => (hm.frm K).l.el y (hsm y hy)⟩ (by show ss.length ≤ _; omega) jo (by show bW (Ns ss); rw [hsF]; exact hsr) (hv.frm K)) rfl ?_
  rintro e wd ⟨kk, rfl, hpos, hfd⟩
  refine ⟨_, rfl, ?_⟩
  have hb1 := hb1.frm hfd jp
  have hb4 := hb4.frm hfd jp
  have hb12 := hb12.frm hfd jp
  have hog := hog.frm hfd jp
  have hos := hos.frm hfd jp
  have hKs_hfd := K.size
  have K := K.trans hfd jp
  refine jm rfl (je (Run.extract rfl rfl) (je (Run.extract rfl rfl) (ja rfl (ja rfl (jO (jN (jv13 1 2 3 6 8 9 12 13 15 18 53 54 55 ?_)))))))
  refine jS (jR (jm rfl (jO (jN (jv13 1 2 3 6 8 9 12 13 15 53 54 55 79 ?_)))))
  refine VC.condB rfl (fun hc5 => ?_) (fun hc5 => ?_)
  ·
   have hc5 : qQ r ∈ (Ns ss).map Prod.fst := of_decide_eq_true hc5
   have hbad := vT (k := k) (stay := Ns ss) (l := Ns gs) (f := q) (t := t) (s := r) (by rw [cR]; exact hc3) (fun j hj hjk => by rw [show (Ns gs)[j] = (gs[j]'(by rw [cR] at hj; exact hj)).p from zbj _]; exact hok j _ hjk) (by rw [show (Ns gs)[k]'(by rw [cR]; exact hc3) = (gs[k]).p from zbj _, ← hx]; exact hmv) hc5
   refine jS (jR (je (Run.build evs.nil qD (qW).choose_spec.1 (qW).choose_spec.2 rfl) ?_))
   refine Ops.st (qK.storeA rfl rfl zb hb4 rfl (MlC.cells_one qV)) ?_
   rintro we ⟨hb4, (hfwe : Frm [g4] _ _), hswe⟩
   have hb4 : Blk we g4 25 qV.cells.toArray := hb4
   have K := K.own hfwe (fun y hy => by rw [za] at hy; omega)
   refine jz 15 (jO (jN (jv2 6 7 ?_)))
   refine jT ?_
   refine qZ (qC (qZ (qZ (qC (qZ (bQ ?_))))))
   refine qH rfl zc zb (hb4.cells) (by first | rfl | (simp; done)) ?_
   refine qN rfl ?_
   refine qP ?_
   refine ⟨qV, 15, rfl, bF.err jd ?_, K⟩
   unfold eT
   rw [← hgF, ← hsF, hbad]
  have hc5 : qQ r ∉ (Ns ss).map Prod.fst := of_decide_eq_false hc5
  refine jQ (jN (jv12 1 2 3 6 8 9 12 13 15 53 54 55 ?_))
  refine jR (jm rfl (jm rfl (jm rfl (je (Run.indexS k rfl rfl zf zt hc3) (jf rfl zag rfl zl ?_)))))
  refine Ops.st (qK.storeOwn (k * 4 + 0) (by rw [← Go.Proofs.YtgmbmfpfhcekiaaGreat.add_add]; rfl) rfl zl hog rfl jo rfl) ?_
  rintro we ⟨hoe, (hfe : Frm [gg] _ _), hse⟩
  have hoe : Own we 45 4 (some ⟨gg, 0, none⟩) gs.length cg (NDC (eF q t gs (k + 1))) := by
   rw [← hnext r hmv, ← hsetn r]
   exact hoe
  have hb1 := hb1.frm hfe (hog.ne_blk hb1 jd)
  have hb4 := hb4.frm hfe (hog.ne_blk hb4 jd)
  have hb12 := hb12.frm hfe (hog.ne_blk hb12 jd)
  have hos := hos.frm hfe (fun y hy h => hdis y (by simpa [ob] using h) hy)
  have K := K.own hfe (fun y hy => hgg y (by simpa [ob] using hy))
  refine jO ?_
  refine qR (jN ?_)
  refine jv10 1 2 3 6 8 9 12 53 54 55 ?_
  refine jR (jb rfl rfl (Bin.add_i64 _ 1 jo) (jm rfl (jO ?_)))
  refine jN ⟨(k + 1), (js10 rfl rfl rfl rfl rfl rfl rfl rfl rfl rfl), ?_, ?_⟩
  ·
   refine ⟨hc3, hb1, hb4, hb12, hoe, hos, fun j hj hjk => ?_, K⟩
   by_cases e : j = k
   ·
    subst e
    exact ⟨r, by rw [← hx]; exact hmv, hc5⟩
   exact hok j hj jo
  first | omega | (dsimp only; omega)
 obtain rfl : k = gs.length := jo
 rw [zA] at hog
 refine jX ?_
 refine qT (qT (bZ ?_))
 refine jN (jv5 2 3 6 8 12 ?_)
 refine jS ?_
 refine VC.held (fun W => Frm [] wr W) jK ?_
 have hS : Frm [] wr wr.drew := (Frm.refl _ _).drew
 refine jH 0 rfl hS (fun w0 hw0 => Run.loadA rfl zc zb (fun j v hj => (hb12.frm hw0 jp).cells j v hj) (by first | rfl | (simp; done))) ?_
 refine jH 1 rfl hS (fun w0 hw0 => Run.mv rfl) ?_
 refine qS.cl 2 rfl jK (jE1 Tryz.call104) (lZ t _ jo (hv.frm (K.trans hS jp))) trivial rfl rfl ?_
 rintro e wf ⟨rfl, hff⟩
 have hSf := hS.trans hff jp
 refine ⟨_, rfl, hSf, ?_⟩
 have hS := hSf
 have hkm : bA w wr (ob As) m (m.wl As cs ss) := zI hos hgs jo (fun w'' h y hy => h.l.el y (hsm y hy))
 have hmoS := (hkm.frm hS jp).now (hm.frm (K.trans hS jp))
 have hrS : bW (m.wl As cs ss).p.l := by show bW (Ns ss); rw [hsF]; exact hsr
 refine qS.cl 3 rfl jK (jE2 Tryz.call47) (eB (m.wl As cs ss) (upN t) _ hmoS jo hrS (hv.frm (K.trans hS jp))) trivial rfl rfl ?_
 rintro e wg ⟨B, d, rfl, hob, hobb, hfg⟩
 have hSg := hS.trans hfg jp
 refine ⟨_, rfl, hSg, ?_⟩
 have hS := hSg
 have hb1 := hb1.frm hS jp
 have hb4 := hb4.frm hS jp
 have hb12 := hb12.frm hS jp
 have hog := hog.frm hS jp
 have hos := hos.frm hS jp
 have hkm := hkm.frm hS jp
 have hKs := K.size
 have K := K.trans hS jp
 have hnm := nF (m.wl As cs ss).p.l (upN t)
 have hmF : (m.wl As cs ss).p = { m.p with l := stF q m.p.l } := by show MailP.mk (Ns ss) _ _ _ = _; rw [hsF]; rfl
 generalize hnn : qO (m.wl As cs ss).p.l (upN t) = ms at *
 refine jH 4 rfl hS (fun w0 hw0 => Run.asg rfl) ?_
 refine qS.done jK ?_
 refine jN (jv6 2 3 6 8 12 19 ?_)
 refine jS (jS (jR (je (Run.loadA rfl zc zb hb1.cells (by first | rfl | (simp; done))) (jm rfl (je (Run.lenS rfl zd) (jm rfl (je (Run.lenS rfl zd) ?_)))))))
 refine Ops.cl (jE3 Tryz.call48) (lK m ms.length ms.length _ hln jo jo jo jo) rfl ?_
 rintro e wh ⟨rfl, hfh⟩
 refine ⟨_, rfl, ?_⟩
 have hb1 := hb1.frm hfh jp
 have hb4 := hb4.frm hfh jp
 have hb12 := hb12.frm hfh jp
 have hog := hog.frm hfh jp
 have hos := hos.frm hfh jp
 have hKs_hfh := K.size
 have K := K.trans hfh jp
 have hkm := hkm.frm hfh jp
 have hro : qO (stF q m.p.l) (upN t) = ms := by rw [← hnn, hmF]
 refine ja rfl (jO (jN (jv5 2 6 8 12 20 ?_)))
 refine jS (jR (jm rfl (jb rfl rfl (Bin.neqN _ 0) (jO (jN (jv6 2 6 8 12 20 98 ?_))))))
 refine jD rfl (fun hc6 => ?_) fun hc6 => ?_
 ·
  refine jS (jR (je (Run.build evs.nil qD (qW).choose_spec.1 (qW).choose_spec.2 rfl) (jM ?_)))
  refine Ops.st (qK.storeA rfl rfl zb hb4 rfl (MlC.cells_one qV)) ?_
  rintro wi ⟨hb4, (hfwi : Frm [g4] _ _), hswi⟩
  have hb4 : Blk wi g4 25 qV.cells.toArray := hb4
  have K := K.own hfwi (fun y hy => by rw [za] at hy; omega)
  refine ja rfl (jO (jN (jv2 6 7 ?_)))
  refine jT ?_
  refine qZ (bQ ?_)
  refine qH rfl zc zb (hb4.cells) (by first | rfl | (simp; done)) ?_
  refine qN rfl ?_
  refine qP ?_
  refine ⟨qV, _, rfl, bF.err hc6 ?_, K⟩
  unfold eT
  rw [← hgF, ← hsF, nL (fun j hj => by rw [show (Ns gs)[j] = (gs[j]'(by rw [cR] at hj; exact hj)).p from zbj _]; exact hok j _ (by rw [cR] at hj; exact hj))]
  dsimp only
  rw [hsF, hro, if_pos hc6]
 have hc6 : cP m.p ms.length ms.length = 0 := by omega
 obtain ⟨hro1, hro2⟩ := fE hc6
 have hsl : (m.wl As cs ss).p.l.length = ss.length := cR ss
 have hfo := oT (m.wl As cs ss).p (by show bW (Ns ss); rw [hsF]; exact hsr) ms ms.length (zw _)
 rw [zay] at hfo
 obtain ⟨wj, hwj⟩ : ∃ wj, wj = wh := ⟨_, rfl⟩
 subst hwj
 refine jQ (jN (jv4 2 6 8 12 ?_))
 refine jS ?_
 refine VC.heldL 4 (fun W => Frm [] wj W) jK ?_
 have hS : Frm [] wj wj.drew := (Frm.refl _ _).drew
 refine jH 0 rfl hS (fun w0 hw0 => Run.loadA rfl zc zb (fun j v hj => (hb12.frm hw0 jp).cells j v hj) (by first | rfl | (simp; done))) ?_
 refine qS.r1 1 rfl jK hS (Run.mv rfl) trivial rfl rfl ?_
 refine qS.cl 2 rfl jK (jE1 Tryz.call104) (lZ t _ jo (hv.frm (K.trans hS jp))) trivial rfl rfl ?_
 rintro e wk ⟨rfl, hfk⟩
 have hSk := hS.trans hfk jp
 refine ⟨_, rfl, hSk, ?_⟩
 have hS := hSk
 have hmoS := (hkm.frm hS jp).now (hm.frm (K.trans hS jp))
 have hrS : bW (m.wl As cs ss).p.l := by show bW (Ns ss); rw [hsF]; exact hsr
 refine qS.cl 3 rfl jK (jE2 Tryz.call49) (jI (m.wl As cs ss) (upN t) _ hmoS jo hrS (by rw [hnn]; show ss.length + _ ≤ _; omega) (by show 0 ≤ m.v; omega) (by rw [hnn]; exact hro2) (hv.frm (K.trans hS jp))) trivial rfl rfl ?_
 rintro e wl ⟨mq, rfl, hmq, ⟨S2, hk2⟩, hfl⟩
 have hlt12 := (hb12.frm hS jp).lt
 have hlt4 := (hb4.frm hS jp).lt
 have hkk := (hkm.frm hS jp).trans hk2 hfl (zar K.size hS.size)
 have h12S : g12 ∉ ob As ++ S2 ∧ g4 ∉ ob As ++ S2 := ⟨fun h => by rcases List.mem_append.1 h with h | h; exact hos.ne_blk hb12 jd h; have := hk2.1 _ h; omega, fun h => by rcases List.mem_append.1 h with h | h; exact hos.ne_blk hb4 jd h; have := hk2.1 _ h; omega⟩
 have hSl := hS.trans hfl jp
 refine ⟨_, rfl, hSl, ?_⟩
 have hS := hSl
 refine qS.stL rfl jK (qK.storeA rfl rfl zb (hb12.frm hS jp) rfl (MlC.cells_one mq)) trivial rfl ?_
 rintro wm ⟨hb12m, (hfm : Frm [g12] _ _), hsm'⟩
 have hb12m : Blk wm g12 25 mq.cells.toArray := hb12m
 have hne412 : g4 ≠ g12 := by omega
 have hb4 := (hb4.frm hS jp).frm hfm (by simpa using hne412)
 have hogS := hog.frm hS jp
 have hog := hogS.frm hfm (fun y hy h => by rw [za] at h; rw [h] at hy; exact hogS.ne_blk (hb12.frm hS jp) jd hy)
 have hkk := hkk.frm hfm (fun y hy h => by rw [za] at hy; rw [hy] at h; exact h12S.1 h)
 have K := (K.trans hS jp).own hfm (fun y hy => by rw [za] at hy; omega)
 have hmql : mq.l.length ≤ ss.length + ms.length := by
  have := hfo.2.2.1
  have e2 : mq.p = ms.foldl bO (m.wl As cs ss).p := by rw [hmq]; unfold bX; rw [hnn]
  rw [← e2, dJ mq, hsl] at this
  exact this
 have hlay : ∀ j, j ≤ gs.length → bW ((((Ns gs).map (cY q t)).take j).foldl gO (bX (m.wl As cs ss).p (upN t))).l := fun j hj => by
  have hLL := hL (fun x hx => by
   rw [← hgF] at hx
   obtain ⟨y, hy, rfl⟩ := List.mem_map.1 hx
   obtain ⟨i, hi, rfl⟩ := zo hy
   rw [← hsF]
   exact hok i hi hi) (by rw [hro]; exact hc6)
  have := hLL j (by rw [zau, ← hgF, cR]; exact hj)
  rw [← hgF, ← hmF] at this
  exact this
 refine qS.done jK ?_
 refine jN (jv3 6 8 12 ?_)
 refine jS (jS (jR (jm rfl (je (Run.lenS rfl zf) ?_))))
 refine jx .i64 0 ?_
 refine jO (jN (jv5 6 12 105 106 107 ?_))
 refine jB ?_
 refine VC.loop (σ := Nat × MlC) (fun s => [(6, .pointer (some ⟨g4, 0, none⟩)), (12, .pointer (some ⟨g12, 0, none⟩)), (105, .slice Ag gs.length cg), (106, .int .i64 ((gs.length : Nat) : Int)), (107, .int .i64 ((s.1 : Nat) : Int))]) (fun s wr => s.1 ≤ gs.length ∧ Blk wr g4 25 qV.cells.toArray ∧ Blk wr g12 25 s.2.cells.toArray ∧ Own wr 45 4 Ag gs.length cg (NDC (gs.map (eP q t))) ∧ (∃ S, bA w wr S m s.2 ∧ g12 ∉ S ∧ g4 ∉ S) ∧ s.2.p = (((Ns gs).map (cY q t)).take s.1).foldl gO (bX (m.wl As cs ss).p (upN t)) ∧ s.2.l.length ≤ ss.length + ms.length + s.1 ∧ Frm [] w wr) (fun s => gs.length - s.1) (0, mq) (js5 rfl rfl rfl rfl rfl) ⟨zal _, hb4, hb12m, hog, ⟨_, hkk, h12S.1, h12S.2⟩, hmq, by dsimp only; omega, K⟩ ?_
 rintro ⟨j, mo⟩ wr ⟨hj, hb4, hb12, hog, ⟨S, hkS, hg12S, hg4S⟩, hmo, hmol, K⟩
 dsimp only at *
 refine jS (jR (jb rfl rfl (Bin.lssN _ _) (jO (jN (jS ?_)))))
 refine jD rfl (fun hc7 => ?_) fun hc7 => ?_
 ·
  obtain ⟨gg, rfl⟩ : ∃ g, Ag = some ⟨g, 0, none⟩ := by
   rcases hog.cases with ⟨_, h0, _⟩ | ⟨g, _, h0, _⟩
   · omega
   exact ⟨g, h0⟩
  have hgl : (gs.map (eP q t)).length = gs.length := zau _
  have hjc : j < (gs.map (eP q t)).length := by omega
  have hmem := hgm gs[j] (zm hc7)
  have hge : (gs.map (eP q t))[j] = eP q t gs[j] := zbj _
  have hya : ∀ w'', RdL w'' m → (eP q t gs[j]).At w'' := fun w'' h => qZc q t (h.l.el _ hmem)
  have hcell : ∀ i v, (eP q t gs[j]).cells[i]? = some v → wr.cell? (((⟨gg, 0, none⟩ : Addr).add (j * 4)).add i) = some v := fun i v hi => nA hog hc7 (by rw [xW hjc, hge]; exact hi)
  have hfs : (((Ns gs).map (cY q t)).take (j + 1)).foldl gO (bX (m.wl As cs ss).p (upN t)) = gO mo.p (eP q t gs[j]).p := by
   rw [zas, zdm, ← hmo]
   have e : ((Ns gs).map (cY q t))[j]? = some (eP q t gs[j]).p := by
    rw [zdk, show (Ns gs)[j]? = some (gs[j]).p by simp [Ns, hc7]]
    rfl
   rw [e]
   rfl
  have hrj := hlay j hj
  rw [← hmo] at hrj
  have hmoR := hkS.now (hm.frm K)
  generalize hy : eP q t gs[j] = y at *
  refine jQ (jN (jv5 6 12 105 106 107 ?_))
  refine jS (jB (jS (jR (je (Run.indexS j rfl rfl zf zt hc7) (je (Run.loadA rfl zef zt hcell (by first | rfl | (simp; done))) ?_)))))
  refine Ops.m (qJ.alloc dV) rfl ?_
  rintro _ wa ⟨rfl, hFa⟩
  refine Ops.st (qK.storeA rfl rfl zt hFa.blk rfl y.cells_one) ?_
  rintro wb ⟨hb22, hfb, hsb⟩
  have hb22 : Blk wb wr.heap.size 45 #[encStr y.nm, .int .i64 y.v, .int .i64 y.n, .slice y.A y.l.length y.c] := hb22
  have Kb : Frm [] wr wb := hFa.frm.trans hfb jp
  have hb4 := hb4.frm Kb jp
  have hb12 := hb12.frm Kb jp
  have hog := hog.frm Kb jp
  have hKs_Kb := K.size
  have K := K.trans Kb jp
  have hkS := hkS.frm Kb jp
  have hyb := hya _ (hm.frm K)
  have hmoR := hkS.now (hm.frm K)
  generalize hg22 : wr.heap.size = g22 at hb22 hKs_Kb ⊢
  refine jO (jN (jv6 6 12 22 105 106 107 ?_))
  refine jR (je (Run.loadA rfl zc zb hb12.cells (by first | rfl | (simp; done))) (jf rfl zag rfl zl (jl rfl zab (hb22.cell 0) (jf rfl zag rfl zj (je (Run.loadA rfl zai zj (hb22.sub 1 (BVc y.v y.n y.A y.l.length y.c) rfl) (by first | rfl | (simp; done))) ?_)))))
  refine Ops.cl (jE3 Tryz.call113) (pT mo y.nm y.v y.n y.A y.c y.l _ hmoR jo hyb.q hrj hyb.rd hyb.n (hv.frm K)) rfl ?_
  rintro e wc ⟨A', c', kk, rfl, hkk, hpos, hoA, hobA, hfc⟩
  have hl12 := hb12.lt
  have hl4 := hb4.lt
  have hkS2 := xF hkS hfc K.size hkk jo hoA hobA (fun w'' h => ⟨(hya w'' h).rd, (hya w'' h).n, by show (qQ y.nm).length ≤ _; rw [bD]; exact (hya w'' h).q⟩)
  have hstep := xE (x := y) (A := A') (c := c') hpos
  have hll := mD mo.l ⟨qQ y.nm, y.v, y.n, y.A, y.c, y.l⟩ kk hkk
  have hS2n : g12 ∉ S ++ ob A' ∧ g4 ∉ S ++ ob A' := ⟨fun h => by rcases List.mem_append.1 h with h | h; exact hg12S h; have := hobA _ h; omega, fun h => by rcases List.mem_append.1 h with h | h; exact hg4S h; have := hobA _ h; omega⟩
  refine ⟨_, rfl, ?_⟩
  have hb4 := hb4.frm hfc jp
  have hb12 := hb12.frm hfc jp
  have hog := hog.frm hfc jp
  have hKs_hfc := K.size
  have K := K.trans hfc jp
  obtain ⟨mn, hmn⟩ : ∃ mn, mn = mo.wl A' c' (mo.l.take kk ++ ⟨qQ y.nm, y.v, y.n, y.A, y.c, y.l⟩ :: mo.l.drop kk) := ⟨_, rfl⟩
  have hmnl : mn.l.length = mo.l.length + 1 := by rw [hmn]; exact hll
  rw [← hmn] at hkS2 hstep ⊢
  refine Ops.st (qK.storeA rfl rfl zb hb12 rfl (MlC.cells_one mn)) ?_
  have hb12x := hb12
  rintro wd ⟨hb12, (hfd : Frm [g12] _ _), hsd⟩
  have hb12 : Blk wd g12 25 mn.cells.toArray := hb12
  have hb4 := hb4.frm hfd (by simpa using hne412)
  have hog := hog.frm hfd (fun y hy h => by rw [za] at h; rw [h] at hy; exact hog.ne_blk hb12x jd hy)
  have hkS2 := hkS2.frm hfd (fun y hy h => by rw [za] at hy; rw [hy] at h; exact hS2n.1 h)
  have K := K.own hfd (fun y hy => by rw [za] at hy; omega)
  refine jO ?_
  refine qR (jN ?_)
  refine jv5 6 12 105 106 107 ?_
  refine jR (jb rfl rfl (Bin.add_i64 _ 1 jo) (jm rfl (jO ?_)))
  refine jN ⟨(j + 1, mn), (js5 rfl rfl rfl rfl rfl), ?_, ?_⟩
  · exact ⟨hc7, hb4, hb12, hog, ⟨_, hkS2, hS2n.1, hS2n.2⟩, by rw [hfs]; exact hstep, by dsimp only; omega, K⟩
  first | omega | (dsimp only; omega)
 refine jX ?_
 refine qT (qT (bZ ?_))
 refine jN (jv2 6 12 ?_)
 refine jS (jR (je (Run.loadA rfl zc zb hb12.cells (by first | rfl | (simp; done))) ?_))
 refine Ops.st (qK.storeA rfl rfl zb hb4 rfl (MlC.cells_one mo)) ?_
 rintro we ⟨hb4, (hfe : Frm [g4] _ _), hse⟩
 have hb4 : Blk we g4 25 mo.cells.toArray := hb4
 refine jz 0 (jO (jN (jv2 6 7 ?_)))
 refine jT ?_
 refine bQ ?_
 refine qH rfl zc zb (hb4.cells) (by first | rfl | (simp; done)) ?_
 refine qN rfl ?_
 refine qP ?_
 obtain rfl : j = gs.length := by omega
 have hfull : ((Ns gs).map (cY q t)).take gs.length = (Ns gs).map (cY q t) := zq (by rw [zau, cR]; exact zw _)
 rw [hfull] at hmo
 refine ⟨mo, 0, rfl, ⟨⟨S, hkS.frm hfe (fun y hy h => by rw [za] at hy; rw [hy] at h; exact hg4S h)⟩, .inl ⟨rfl, ?_⟩⟩, K.own hfe (fun y hy => by rw [za] at hy; omega)⟩
 unfold eT
 rw [← hgF, ← hsF, nL (fun j hj => by rw [show (Ns gs)[j] = (gs[j]'(by rw [cR] at hj; exact hj)).p from zbj _]; exact hok j _ (by rw [cR] at hj; exact hj))]
 dsimp only
 rw [hsF, hro, if_neg jo, hmo, hmF]
end
section
open Go.RowKit Go.Sort
set_option maxHeartbeats 1000000 in
theorem rA (m : MlC) (q t : Tx) (w : World) (hm : RdL w m) (hq : q.length ≤ 400000) (ht : t.length ≤ 400000) (hL : qI m.p → isN q → isN t → (∀ x ∈ goF q m.p.l, fM (stF q m.p.l) q t x) → cP m.p (qO (stF q m.p.l) (upN t)).length (qO (stF q m.p.l) (upN t)).length = 0 → oU m.p q t) (hin : qQ q ≠ qF) (E : Except Nat MailP) (hv : cX w) :
  Calls Tryz.prog 19 #[m.val, encStr q, encStr t] w fun e w' => ∃ (m' : MlC) (k : Nat), e = .returned (.tuple #[m'.val, .int .i64 ((k : Nat) : Int)]) ∧ bF w w' m (bI m.p q t E) m' k ∧ Frm [] w w' := by
 have hln := hm.ln
 have hpl := dJ m
 refine VC.calls (nt := 65) (res := #[.cell 6 25, .tmp 7]) Tryz.func19 rfl Tryz.ntmps19 Tryz.results19 rfl ?_
 refine jS (jR ?_)
 refine Ops.m (qJ.box rfl) rfl ?_
 rintro _ w1 ⟨rfl, hF_w1⟩
 have hb1 : Blk w1 w.heap.size 25 #[.slice m.A m.l.length m.c, .slice m.S m.ss.length m.d, .int .i64 m.v, .int .i64 m.b] := hF_w1.blk
 have K := hF_w1.frm
 generalize hg1 : w.heap.size = g1 at hb1 ⊢
 refine Ops.m (qJ.alloc qD) rfl ?_
 rintro _ w2 ⟨rfl, hF2⟩
 have hb4 := hF2.blk
 have hg4 : w.heap.size ≤ w1.heap.size := K.size
 have hb1 := hb1.frm hF2.frm jp
 have hl1 := hb1.lt
 have hl4 := hb4.lt
 have K := K.trans hF2.frm jp
 have hne14 : g1 ≠ w1.heap.size := by have := hF_w1.size; omega
 have hg1s : w.heap.size ≤ g1 := jo
 generalize hg4' : w1.heap.size = g4 at hb4 hg4 hne14 hl4 ⊢
 refine jz 0 (jO (jN (jv4 1 2 3 6 ?_)))
 refine jS (jS (jR (je (Run.loadA rfl zc zb hb1.cells (by first | rfl | (simp; done))) ?_)))
 refine Ops.cl (jE1 zdh) (cF m _ (hm.frm K) (hv.frm K)) rfl ?_
 rintro e w3 ⟨rfl, hf3⟩
 refine ⟨_, rfl, ?_⟩
 have hb1 := hb1.frm hf3 jp
 have hb4 := hb4.frm hf3 jp
 have hKs_hf3 := K.size
 have K := K.trans hf3 jp
 refine je (Run.not rfl) (jO (jN (jv5 1 2 3 6 14 ?_)))
 refine VC.condB rfl (fun hc1 => ?_) (fun hc1 => ?_)
 ·
  have hc1 : ¬ qI m.p := by simpa using hc1
  refine jS (jR (je (Run.build evs.nil qD (qW).choose_spec.1 (qW).choose_spec.2 rfl) ?_))
  refine Ops.st (qK.storeA rfl rfl zb hb4 rfl (MlC.cells_one qV)) ?_
  rintro w4 ⟨hb4, (hfw4 : Frm [g4] _ _), hsw4⟩
  have hb4 : Blk w4 g4 25 qV.cells.toArray := hb4
  have K := K.own hfw4 (fun y hy => by rw [za] at hy; omega)
  refine jz 1 (jO (jN (jv2 6 7 ?_)))
  refine jT ?_
  refine qZ (bQ ?_)
  refine qH rfl zc zb (hb4.cells) (by first | rfl | (simp; done)) ?_
  refine qN rfl ?_
  refine qP ?_
  exact ⟨qV, 1, rfl, bF.err jd (by unfold bI; rw [if_pos hc1]), K⟩
 have hc1 : qI m.p := by simpa using hc1
 obtain ⟨hm24, hv1, hv2, hb0, hb2, hr, hinb⟩ := cZ hc1
 refine jQ (jN (jv4 1 2 3 6 ?_))
 refine jS (jS ?_)
 refine VC.split1 [(1, _), (2, _), (3, _), (6, _)] (js4 rfl rfl rfl rfl) 23 (.bool (decide (¬ isN q ∨ ¬ isN t))) ?_ ?_
 ·
  refine jR (jM ?_)
  refine Ops.cl (jE1 zbp) (bC q _ jo (hv.frm K)) rfl ?_
  rintro e _ ⟨rfl, rfl⟩
  refine ⟨_, rfl, ?_⟩
  by_cases hs17 : isN q
  ·
   refine je (Run.not rfl) (jM ?_)
   refine jG ?_
   refine Ops.clg rfl au (jE1 zbp) (bC t _ jo (hv.frm K)) rfl ?_
   rintro e _ ⟨rfl, rfl⟩
   refine ⟨_, rfl, ?_⟩
   refine jk (Run.not rfl) ?_
   refine je (Run.pickF rfl rfl au) (jO ?_)
   refine jN ⟨(js5 (jC (by simp [*])) rfl rfl rfl rfl), rfl⟩
  refine je (Run.not rfl) (jM ?_)
  refine jU ?_
  refine jU ?_
  refine jU ?_
  refine je (Run.pickT rfl rfl au) (jO ?_)
  refine jN ⟨(js5 (jC (by simp [*])) rfl rfl rfl rfl), rfl⟩
 intro Γ hΓ
 refine jN (VC.sub _ hΓ ?_)
 refine jD rfl (fun hc2 => ?_) fun hc2 => ?_
 ·
  refine jS (jR (je (Run.build evs.nil qD (qW).choose_spec.1 (qW).choose_spec.2 rfl) ?_))
  refine Ops.st (qK.storeA rfl rfl zb hb4 rfl (MlC.cells_one qV)) ?_
  rintro w4 ⟨hb4, (hfw4 : Frm [g4] _ _), hsw4⟩
  have hb4 : Blk w4 g4 25 qV.cells.toArray := hb4
  have K := K.own hfw4 (fun y hy => by rw [za] at hy; omega)
  refine jz 18 (jO (jN (jv2 6 7 ?_)))
  refine jT ?_
  refine qZ (bQ ?_)
  refine qH rfl zc zb (hb4.cells) (by first | rfl | (simp; done)) ?_
  refine qN rfl ?_
  refine qP ?_
  exact ⟨qV, 18, rfl, bF.err jd (by unfold bI; rw [if_neg (not_not_intro hc1), if_pos hc2]), K⟩
 obtain ⟨hc2a, hc2b⟩ : isN q ∧ isN t := ⟨Classical.not_not.1 (fun h => hc2 (.inl h)), Classical.not_not.1 (fun h => hc2 (.inr h))⟩
 refine jQ (jN (jv4 1 2 3 6 ?_))
 refine jS (jR (je (Run.loadA rfl zc zb hb1.cells (by first | rfl | (simp; done))) (jM ?_)))
 refine Ops.cl (jE2 zcm) (bE m q _ (hm.frm K).l hln jo hr (hv.frm K)) rfl ?_
 rintro e w4 ⟨kf, rfl, hpos, hf4⟩
 refine ⟨_, rfl, ?_⟩
 have hb1 := hb1.frm hf4 jp
 have hb4 := hb4.frm hf4 jp
 have hKs_hf4 := K.size
 have K := K.trans hf4 jp
 refine jm rfl (je (Run.extract rfl rfl) (je (Run.extract rfl rfl) (ja rfl (ja rfl (jO (jN (jv6 1 2 3 6 8 9 ?_)))))))
 refine jS (jR (je (Run.loadA rfl zc zb hb1.cells (by first | rfl | (simp; done))) (jM ?_)))
 refine Ops.cl (jE2 zcm) (bE m t _ (hm.frm K).l hln jo hr (hv.frm K)) rfl ?_
 rintro e w5 ⟨kt, rfl, hpos2, hf5⟩
 refine ⟨_, rfl, ?_⟩
 have hb1 := hb1.frm hf5 jp
 have hb4 := hb4.frm hf5 jp
 have hKs_hf5 := K.size
 have K := K.trans hf5 jp
 refine jm rfl (je (Run.extract rfl rfl) (je (Run.extract rfl rfl) (ja rfl (ja rfl (jO (jN (jv7 1 2 3 6 8 9 11 ?_)))))))
 refine jS (jB (jS (jR (jm rfl (je (Run.not rfl) (ja rfl (jO (jN (jv7 1 2 3 6 8 11 37 ?_)))))))))
 refine VC.condB rfl (fun hc3 => ?_) (fun hc3 => ?_)
 ·
  have hc3 : qQ q ∉ qB m.p := by simpa using hc3
  refine jS (jR (je (Run.build evs.nil qD (qW).choose_spec.1 (qW).choose_spec.2 rfl) ?_))
  refine Ops.st (qK.storeA rfl rfl zb hb4 rfl (MlC.cells_one qV)) ?_
  rintro w6 ⟨hb4, (hfw6 : Frm [g4] _ _), hsw6⟩
  have hb4 : Blk w6 g4 25 qV.cells.toArray := hb4
  have K := K.own hfw6 (fun y hy => by rw [za] at hy; omega)
  refine jz 6 (jO (jN (jv2 6 7 ?_)))
  refine jT ?_
  refine qC (qZ (bQ ?_))
  refine qH rfl zc zb (hb4.cells) (by first | rfl | (simp; done)) ?_
  refine qN rfl ?_
  refine qP ?_
  exact ⟨qV, 6, rfl, bF.err jd (by unfold bI; rw [if_neg (not_not_intro hc1), if_neg hc2, if_pos hc3]), K⟩
 have hc3 : qQ q ∈ qB m.p := by simpa using hc3
 refine jS (jR (jm rfl (ja rfl (jO (jN (jv6 1 2 3 6 8 41 ?_))))))
 refine VC.condB rfl (fun hc4 => ?_) (fun hc4 => ?_)
 ·
  have hc4 : qQ t ∈ qB m.p := by simpa using hc4
  refine jS (jR (je (Run.build evs.nil qD (qW).choose_spec.1 (qW).choose_spec.2 rfl) ?_))
  refine Ops.st (qK.storeA rfl rfl zb hb4 rfl (MlC.cells_one qV)) ?_
  rintro w6 ⟨hb4, (hfw6 : Frm [g4] _ _), hsw6⟩
  have hb4 : Blk w6 g4 25 qV.cells.toArray := hb4
  have K := K.own hfw6 (fun y hy => by rw [za] at hy; omega)
  refine jz 15 (jO (jN (jv2 6 7 ?_)))
  refine jT ?_
  refine qC (qZ (bQ ?_))
  refine qH rfl zc zb (hb4.cells) (by first | rfl | (simp; done)) ?_
  refine qN rfl ?_
  refine qP ?_
  exact ⟨qV, 15, rfl, bF.err jd (by unfold bI; rw [if_neg (not_not_intro hc1), if_neg hc2, if_neg (not_not_intro hc3), if_pos hc4]), K⟩
 have hc4 : qQ t ∉ qB m.p := by simpa using hc4
 refine jS (jR (jM ?_))
 refine Ops.cl (jE1 zbz) (bS q _ jo (hv.frm K)) rfl ?_
 rintro e w6 ⟨rfl, hf6⟩
 refine ⟨_, rfl, ?_⟩
 have hb1 := hb1.frm hf6 jp
 have hb4 := hb4.frm hf6 jp
 have hKs_hf6 := K.size
 have K := K.trans hf6 jp
 refine je (Run.eqlT rfl rfl) (ja rfl (jO (jN (jv6 1 2 3 6 8 44 ?_))))
 refine VC.condF rfl (decide_eq_false hin) ?_
 refine jS (jR (jm rfl (jM ?_)))
 refine Ops.cl (jE2 Tryz.call57) (eS t q _ jo jo (hv.frm K)) rfl ?_
 rintro e w7 ⟨rfl, hf7⟩
 refine ⟨_, rfl, ?_⟩
 have hb1 := hb1.frm hf7 jp
 have hb4 := hb4.frm hf7 jp
 have hKs_hf7 := K.size
 have K := K.trans hf7 jp
 refine ja rfl (jO (jN (jv5 1 2 3 6 54 ?_)))
 refine VC.condB rfl (fun hc6 => ?_) (fun hc6 => ?_)
 ·
  have hc6 : cJ t q := by simpa using hc6
  refine jS (jR (je (Run.build evs.nil qD (qW).choose_spec.1 (qW).choose_spec.2 rfl) ?_))
  refine Ops.st (qK.storeA rfl rfl zb hb4 rfl (MlC.cells_one qV)) ?_
  rintro w8 ⟨hb4, (hfw8 : Frm [g4] _ _), hsw8⟩
  have hb4 : Blk w8 g4 25 qV.cells.toArray := hb4
  have K := K.own hfw8 (fun y hy => by rw [za] at hy; omega)
  refine jz 16 (jO (jN (jv2 6 7 ?_)))
  refine jT ?_
  refine qC (qZ (bQ ?_))
  refine qH rfl zc zb (hb4.cells) (by first | rfl | (simp; done)) ?_
  refine qN rfl ?_
  refine qP ?_
  exact ⟨qV, 16, rfl, bF.err jd (by unfold bI; rw [if_neg (not_not_intro hc1), if_neg hc2, if_neg (not_not_intro hc3), if_neg hc4, if_neg hin, if_pos hc6]), K⟩
 have hc6 : ¬ cJ t q := by simpa using hc6
 refine jQ ?_
 refine qR (jN ?_)
 refine jv4 1 2 3 6 ?_
 refine jS (jR (je (Run.loadA rfl zc zb hb1.cells (by first | rfl | (simp; done))) (jm rfl (jM ?_))))
 refine Ops.cl (jE3 Tryz.call63) (nK m q t _ (hm.frm K) hq ht hr hm24 hv1 hv2 (hL hc1 hc2a hc2b) (hv.frm K)) rfl ?_
 rintro e w8 ⟨m', k, rfl, ⟨⟨S, hkS⟩, hres⟩, hf8⟩
 have hl47 := hb4.lt
 refine ⟨_, rfl, ?_⟩
 have hb1 := hb1.frm hf8 jp
 have hb4 := hb4.frm hf8 jp
 have hKs_hf8 := K.size
 have K := K.trans hf8 jp
 refine je (Run.extract rfl rfl) (je (Run.extract rfl rfl) ?_)
 refine Ops.st (qK.storeA rfl rfl zb hb4 rfl (MlC.cells_one m')) ?_
 rintro w9 ⟨hb4, (hf9 : Frm [g4] _ _), hs9⟩
 have hb4 : Blk w9 g4 25 m'.cells.toArray := hb4
 have hkS9 := (hkS.old hKs_hf8).frm hf9 (fun y hy h => by rw [za] at hy; rw [hy] at h; have := hkS.1 _ h; omega)
 have K := K.own hf9 (fun y hy => by rw [za] at hy; omega)
 refine ja rfl (jO (jN (jv2 6 7 ?_)))
 refine jT ?_
 refine bQ ?_
 refine qH rfl zc zb (hb4.cells) (by first | rfl | (simp; done)) ?_
 refine qN rfl ?_
 refine qP ?_
 refine ⟨m', k, rfl, ⟨⟨S, hkS9⟩, ?_⟩, K⟩
 have e : bI m.p q t E = eT m.p q t := by
  unfold bI
  rw [if_neg (not_not_intro hc1), if_neg hc2, if_neg (not_not_intro hc3), if_neg hc4, if_neg hin, if_neg hc6]
 rw [e]
 exact hres
end
section
open Go.RowKit
def aT : Tx := [97]
def abT : Tx := [97, 47, 98]
def cT : Tx := [99]
def cbT : Tx := [99, 47, 98]
def csT : Tx := [99, 42]
def qQ0 : Tx := [105, 110, 98, 111, 120]
def mA : MailP := ⟨[(qF, ⟨1, 1, []⟩), (aT, ⟨2, 1, []⟩), (abT, ⟨3, 1, []⟩)], [], 3, 0⟩
def mB : MailP := ⟨[(qF, ⟨1, 1, []⟩), (cT, ⟨2, 1, []⟩), (cbT, ⟨3, 1, []⟩)], [], 3, 0⟩
theorem qZx : dM newM abT = .ok mA := by kernel_rfl
theorem qZy : eU mA aT = some ⟨2, 1, []⟩ := by kernel_rfl
theorem qZd : eU mA abT = some ⟨3, 1, []⟩ := by kernel_rfl
theorem qZe : bI mA aT cT (.error 0) = .ok mB := by kernel_rfl
theorem qZf : (goF aT mA.l).map (cY aT cT) = [(cT, ⟨2, 1, []⟩), (cbT, ⟨3, 1, []⟩)] := by kernel_rfl
theorem qZg : oU mA aT cT := by
 unfold oU
 rw [qZf]
 intro j hj
 have hj2 : j ≤ 2 := hj
 have h : j = 0 ∨ j = 1 ∨ j = 2 := jo
 unfold bW
 rcases h with rfl | rfl | rfl
 · exact of_decide_eq_true jK
 · exact of_decide_eq_true jK
 exact of_decide_eq_true jK
theorem qZz : qQ aT ≠ qF := of_decide_eq_true jK
theorem qZ0 : dN mB cT = .error 16 := by kernel_rfl
theorem qZ1 : dN mB qQ0 = .error 17 := by kernel_rfl
theorem qZ2 : lY mB csT false = [cT, cbT] := by kernel_rfl
end
section
open Go.RowKit Go.Sort
set_option maxHeartbeats 1000000 in
theorem mV (w : World) (hv : cX w) : Calls Tryz.prog 16 #[] w fun e w' => e = .returned (.bool true) ∧ Frm [] w w' := by
 have K := Frm.refl [] w
 refine VC.calls (nt := 95) (res := #[.tmp 0]) Tryz.func16 rfl Tryz.ntmps16 Tryz.results16 rfl ?_
 refine jS (jR (ja rfl (jO (jN ?_))))
 refine VC.sub [] .nil ?_
 refine jS (jR ?_)
 refine Ops.cl (jE0 Tryz.call28) (xC _) rfl ?_
 rintro e w1 ⟨m0, rfl, hm0, ⟨S0, hk0⟩, hfw1⟩
 refine ⟨_, rfl, ?_⟩
 have hv := hv.frm hfw1
 have K := K.trans hfw1 jp
 have hm0R := hk0.now (RdL.zero _)
 refine Ops.cl (jE2 Tryz.call13) (gA m0 abT _ hm0R jd hv) rfl ?_
 rintro e w2 ⟨ma, ke, rfl, ⟨⟨Sa, hka⟩, hra⟩, hfw2⟩
 refine ⟨_, rfl, ?_⟩
 have hm0R := hm0R.frm hfw2
 have hv := hv.frm hfw2
 have K := K.trans hfw2 jp
 have hmaR := hka.now hm0R
 rw [hm0, qZx] at hra
 obtain ⟨rfl, hma⟩ : ke = 0 ∧ mA = ma.p := by
  rcases hra with ⟨h1, h2⟩ | ⟨h1, h2, _⟩
  · exact ⟨h1, Except.ok.inj h2⟩
  cases h2
 refine jm rfl (je (Run.extract rfl rfl) (je (Run.extract rfl rfl) ?_))
 refine Ops.m (qJ.alloc qD) rfl ?_
 rintro _ w3 ⟨rfl, hFw3⟩
 refine Ops.st (qK.storeA rfl rfl zb hFw3.blk rfl (MlC.cells_one ma)) ?_
 rintro w4 ⟨hba, hfw4, hsw4⟩
 have hba : Blk w4 w2.heap.size 25 (ma.cells.toArray) := hba
 have Kw4 : Frm [] w2 w4 := hFw3.frm.trans hfw4 jp
 have hm0R := hm0R.frm Kw4
 have hmaR := hmaR.frm Kw4
 have hv := hv.frm Kw4
 have K := K.trans Kw4 jp
 generalize w2.heap.size = ga at hba ⊢
 refine ja rfl (jO (jN (jv2 1 2 ?_)))
 refine jS (jR (je (Run.loadA rfl zc zb hba.cells (by first | rfl | (simp; done))) ?_))
 refine Ops.cl (jE2 Tryz.call23) (lV ma aT _ hmaR jd hv) rfl ?_
 rintro e w5 ⟨vx, nx, Bx, dx, lx, bx, rfl, hOMx, hcx, hfw5⟩
 refine ⟨_, rfl, ?_⟩
 have hm0R := hm0R.frm hfw5
 have hmaR := hmaR.frm hfw5
 have hba := hba.frm hfw5 jp
 have hv := hv.frm hfw5
 have K := K.trans hfw5 jp
 rw [← hma, qZy] at hcx
 obtain ⟨rfl, rfl⟩ : bx = true ∧ vx = 2 := by
  rcases hcx with ⟨h1, h2⟩ | ⟨_, h2, _⟩
  · exact ⟨h1, (BoxV.mk.inj (Option.some.inj h2)).1.symm⟩
  cases h2
 refine jm rfl (je (Run.extract rfl rfl) (je (Run.extract rfl rfl) ?_))
 refine Ops.m (qJ.alloc bL) rfl ?_
 rintro _ w6 ⟨rfl, hFw6⟩
 refine Ops.st (qK.storeA rfl rfl zj hFw6.blk rfl (bU _ _ _ _ _)) ?_
 rintro w7 ⟨hbx, hfw7, hsw7⟩
 have hbx : Blk w7 w5.heap.size 43 ((BVc 2 nx Bx lx.length dx).toArray) := hbx
 have Kw7 : Frm [] w5 w7 := hFw6.frm.trans hfw7 jp
 have hm0R := hm0R.frm Kw7
 have hmaR := hmaR.frm Kw7
 have hba := hba.frm Kw7 jp
 have hv := hv.frm Kw7
 have K := K.trans Kw7 jp
 generalize w5.heap.size = gx at hbx ⊢
 refine ja rfl (jO (jN (jv4 1 2 3 4 ?_)))
 refine jS (jR (je (Run.loadA rfl zc zb hba.cells (by first | rfl | (simp; done))) ?_))
 refine Ops.cl (jE2 Tryz.call23) (lV ma abT _ hmaR jd hv) rfl ?_
 rintro e w8 ⟨vz, nz, Bz, dz, lz, bz, rfl, hOMz, hcz, hfw8⟩
 refine ⟨_, rfl, ?_⟩
 have hm0R := hm0R.frm hfw8
 have hmaR := hmaR.frm hfw8
 have hba := hba.frm hfw8 jp
 have hbx := hbx.frm hfw8 jp
 have hv := hv.frm hfw8
 have K := K.trans hfw8 jp
 rw [← hma, qZd] at hcz
 obtain ⟨rfl, rfl⟩ : bz = true ∧ vz = 3 := by
  rcases hcz with ⟨h1, h2⟩ | ⟨_, h2, _⟩
  · exact ⟨h1, (BoxV.mk.inj (Option.some.inj h2)).1.symm⟩
  cases h2
 refine jm rfl (je (Run.extract rfl rfl) (je (Run.extract rfl rfl) ?_))
 refine Ops.m (qJ.alloc bL) rfl ?_
 rintro _ w9 ⟨rfl, hFw9⟩
 refine Ops.st (qK.storeA rfl rfl zj hFw9.blk rfl (bU _ _ _ _ _)) ?_
 rintro w10 ⟨hby, hfw10, hsw10⟩
 have hby : Blk w10 w8.heap.size 43 ((BVc 3 nz Bz lz.length dz).toArray) := hby
 have Kw10 : Frm [] w8 w10 := hFw9.frm.trans hfw10 jp
 have hm0R := hm0R.frm Kw10
 have hmaR := hmaR.frm Kw10
 have hba := hba.frm Kw10 jp
 have hbx := hbx.frm Kw10 jp
 have hv := hv.frm Kw10
 have K := K.trans Kw10 jp
 generalize w8.heap.size = gy at hby ⊢
 refine ja rfl (jO (jN (jv6 1 2 3 4 5 6 ?_)))
 refine jS (jR (je (Run.loadA rfl zc zb hba.cells (by first | rfl | (simp; done))) ?_))
 refine Ops.cl (jE3 Tryz.call19) (rA ma aT cT _ hmaR jd jd (fun _ _ _ _ _ => by rw [← hma]; exact qZg) qZz (.error 0) hv) rfl ?_
 rintro e w11 ⟨mb, kf, rfl, ⟨⟨Sb, hkb⟩, hrb⟩, hfw11⟩
 refine ⟨_, rfl, ?_⟩
 have hm0R := hm0R.frm hfw11
 have hmaR := hmaR.frm hfw11
 have hba := hba.frm hfw11 jp
 have hbx := hbx.frm hfw11 jp
 have hby := hby.frm hfw11 jp
 have hv := hv.frm hfw11
 have K := K.trans hfw11 jp
 have hmbR := hkb.now hmaR
 rw [← hma, qZe] at hrb
 obtain ⟨rfl, hmb⟩ : kf = 0 ∧ mB = mb.p := by
  rcases hrb with ⟨h1, h2⟩ | ⟨h1, h2, _⟩
  · exact ⟨h1, Except.ok.inj h2⟩
  cases h2
 refine jm rfl (je (Run.extract rfl rfl) (je (Run.extract rfl rfl) ?_))
 refine Ops.m (qJ.alloc qD) rfl ?_
 rintro _ w12 ⟨rfl, hFw12⟩
 refine Ops.st (qK.storeA rfl rfl zb hFw12.blk rfl (MlC.cells_one mb)) ?_
 rintro w13 ⟨hbb, hfw13, hsw13⟩
 have hbb : Blk w13 w11.heap.size 25 (mb.cells.toArray) := hbb
 have Kw13 : Frm [] w11 w13 := hFw12.frm.trans hfw13 jp
 have hm0R := hm0R.frm Kw13
 have hmaR := hmaR.frm Kw13
 have hba := hba.frm Kw13 jp
 have hbx := hbx.frm Kw13 jp
 have hby := hby.frm Kw13 jp
 have hmbR := hmbR.frm Kw13
 have hv := hv.frm Kw13
 have K := K.trans Kw13 jp
 generalize w11.heap.size = gb at hbb ⊢
 refine ja rfl (jO (jN (jv7 2 3 4 5 6 7 8 ?_)))
 refine jS (jR (je (Run.loadA rfl zc zb hbb.cells (by first | rfl | (simp; done))) ?_))
 refine Ops.cl (jE2 Tryz.call17) (gI mb cT _ hmbR jd hv) rfl ?_
 rintro e w14 ⟨mg, kg, rfl, ⟨⟨Sg, hkg⟩, hrg⟩, hfw14⟩
 refine ⟨_, rfl, ?_⟩
 have hm0R := hm0R.frm hfw14
 have hmaR := hmaR.frm hfw14
 have hba := hba.frm hfw14 jp
 have hbx := hbx.frm hfw14 jp
 have hby := hby.frm hfw14 jp
 have hmbR := hmbR.frm hfw14
 have hbb := hbb.frm hfw14 jp
 have hv := hv.frm hfw14
 have K := K.trans hfw14 jp
 rw [← hmb, qZ0] at hrg
 obtain rfl : kg = 16 := by
  rcases hrg with ⟨_, h2⟩ | ⟨_, h2, _⟩
  · cases h2
  injection h2 with h2; exact h2.symm
 refine jm rfl (je (Run.extract rfl rfl) (je (Run.extract rfl rfl) ?_))
 refine Ops.m (qJ.alloc qD) rfl ?_
 rintro _ w15 ⟨rfl, hFw15⟩
 refine Ops.st (qK.storeA rfl rfl zb hFw15.blk rfl (MlC.cells_one mg)) ?_
 rintro w16 ⟨hbg9, hfw16, hsw16⟩
 have hbg9 : Blk w16 w14.heap.size 25 (mg.cells.toArray) := hbg9
 have Kw16 : Frm [] w14 w16 := hFw15.frm.trans hfw16 jp
 have hm0R := hm0R.frm Kw16
 have hmaR := hmaR.frm Kw16
 have hba := hba.frm Kw16 jp
 have hbx := hbx.frm Kw16 jp
 have hby := hby.frm Kw16 jp
 have hmbR := hmbR.frm Kw16
 have hbb := hbb.frm Kw16 jp
 have hv := hv.frm Kw16
 have K := K.trans Kw16 jp
 generalize w14.heap.size = gg9 at hbg9 ⊢
 refine ja rfl (jO (jN (jv8 2 3 4 5 6 7 8 10 ?_)))
 refine jS (jR (je (Run.loadA rfl zc zb hbb.cells (by first | rfl | (simp; done))) ?_))
 refine Ops.cl (jE2 Tryz.call17) (gI mb qQ0 _ hmbR jd hv) rfl ?_
 rintro e w17 ⟨mh, kh, rfl, ⟨⟨Sh, hkh⟩, hrh⟩, hfw17⟩
 refine ⟨_, rfl, ?_⟩
 have hm0R := hm0R.frm hfw17
 have hmaR := hmaR.frm hfw17
 have hba := hba.frm hfw17 jp
 have hbx := hbx.frm hfw17 jp
 have hby := hby.frm hfw17 jp
 have hmbR := hmbR.frm hfw17
 have hbb := hbb.frm hfw17 jp
 have hbg9 := hbg9.frm hfw17 jp
 have hv := hv.frm hfw17
 have K := K.trans hfw17 jp
 rw [← hmb, qZ1] at hrh
 obtain rfl : kh = 17 := by
  rcases hrh with ⟨_, h2⟩ | ⟨_, h2, _⟩
  · cases h2
  injection h2 with h2; exact h2.symm
 refine jm rfl (je (Run.extract rfl rfl) (je (Run.extract rfl rfl) ?_))
 refine Ops.m (qJ.alloc qD) rfl ?_
 rintro _ w18 ⟨rfl, hFw18⟩
 refine Ops.st (qK.storeA rfl rfl zb hFw18.blk rfl (MlC.cells_one mh)) ?_
 rintro w19 ⟨hbg11, hfw19, hsw19⟩
 have hbg11 : Blk w19 w17.heap.size 25 (mh.cells.toArray) := hbg11
 have Kw19 : Frm [] w17 w19 := hFw18.frm.trans hfw19 jp
 have hm0R := hm0R.frm Kw19
 have hmaR := hmaR.frm Kw19
 have hba := hba.frm Kw19 jp
 have hbx := hbx.frm Kw19 jp
 have hby := hby.frm Kw19 jp
 have hmbR := hmbR.frm Kw19
 have hbb := hbb.frm Kw19 jp
 have hbg9 := hbg9.frm Kw19 jp
 have hv := hv.frm Kw19
 have K := K.trans Kw19 jp
 generalize w17.heap.size = gg11 at hbg11 ⊢
 refine ja rfl (jO (jN (jv9 2 3 4 5 6 7 8 10 12 ?_)))
 refine jS (jR (je (Run.loadA rfl zc zb hbb.cells (by first | rfl | (simp; done))) ?_))
 refine Ops.cl (jE3 Tryz.call27) (vR mb csT false _ hmbR jd hv) rfl ?_
 rintro e w20 ⟨Bl, dl, ss, rfl, hol, hss, _, hfw20⟩
 refine ⟨_, rfl, ?_⟩
 have hm0R := hm0R.frm hfw20
 have hmaR := hmaR.frm hfw20
 have hba := hba.frm hfw20 jp
 have hbx := hbx.frm hfw20 jp
 have hby := hby.frm hfw20 jp
 have hmbR := hmbR.frm hfw20
 have hbb := hbb.frm hfw20 jp
 have hbg9 := hbg9.frm hfw20 jp
 have hbg11 := hbg11.frm hfw20 jp
 have hv := hv.frm hfw20
 have K := K.trans hfw20 jp
 rw [← hmb, qZ2] at hss
 subst hss
 obtain ⟨adl, rfl, hel0⟩ := hol.rd.elem (k := 0) jd
 obtain ⟨_, h1, hel1⟩ := hol.rd.elem (k := 1) jd
 cases h1
 refine ja rfl (jO (jN (jv9 2 3 4 5 6 8 10 12 13 ?_)))
 refine jS ?_
 refine VC.split1 [] .nil 0 (.bool (decide (True))) ?_ ?_
 ·
  refine jR ?_
  refine jm rfl (jb rfl rfl (Bin.eqlN _ 0) (jM ?_))
  refine jG ?_
  refine je (Run.pickT rfl rfl au) (jM ?_)
  refine jk (Run.fieldAddr rfl zr rfl zk jd) ?_
  refine jk (Run.load rfl zu (hbx.cell 0)) ?_
  refine jk (Run.bin rfl rfl (Bin.eql _ 2)) ?_
  refine je (Run.pickT rfl rfl au) (jM ?_)
  refine jG ?_
  refine je (Run.pickT rfl rfl au) (jM ?_)
  refine jk (Run.fieldAddr rfl zr rfl zk jd) ?_
  refine jk (Run.load rfl zu (hby.cell 0)) ?_
  refine jk (Run.bin rfl rfl (Bin.eql _ 3)) ?_
  refine je (Run.pickT rfl rfl au) (jM ?_)
  refine jG ?_
  refine jk (Run.bin rfl rfl (Bin.eqlN _ 0)) ?_
  refine je (Run.pickT rfl rfl au) (jM ?_)
  refine jG ?_
  refine jk (Run.lenS rfl zd) ?_
  refine jk (Run.bin rfl rfl (Bin.eqlN _ 2)) ?_
  refine je (Run.pickT rfl rfl au) (jM ?_)
  refine jG ?_
  refine jk (Run.indexS 0 rfl rfl zd zl jd) ?_
  refine jk (Run.load rfl zab (hel0 0 (encStr cT) rfl)) ?_
  refine jk (Run.eqlT rfl rfl) ?_
  refine je (Run.pickT rfl rfl au) (jM ?_)
  refine jG ?_
  refine jk (Run.indexS 1 rfl rfl zd zl jd) ?_
  refine jk (Run.load rfl zab (hel1 0 (encStr cbT) rfl)) ?_
  refine jk (Run.eqlT rfl rfl) ?_
  refine je (Run.pickT rfl rfl au) (jM ?_)
  refine jG ?_
  refine jk (Run.bin rfl rfl (Bin.eqlN _ 16)) ?_
  refine je (Run.pickT rfl rfl au) (jM ?_)
  refine jG ?_
  refine jk (Run.bin rfl rfl (Bin.eqlN _ 17)) ?_
  refine je (Run.pickT rfl rfl au) (jm rfl (je (Run.pickT rfl rfl au) (ja rfl (jO ?_))))
  refine jN ⟨(js1 (jC jp)), rfl⟩
 intro Γ hΓ
 refine jN (VC.sub _ hΓ ?_)
 refine jT ?_
 refine qL rfl ?_
 exact ⟨jp, K⟩
end
section
open Go.RowKit Go.Sort
theorem fL (q : Tx) (w : World) : Calls Tryz.prog 12 #[encStr q] w fun e w' => e = .returned (encStr (q.take 70)) ∧ w = w' := by
 refine VC.calls (nt := 9) (res := #[.tmp 2]) Tryz.func12 rfl Tryz.ntmps12 Tryz.results12 rfl ?_
 refine jS (jR (ja rfl (jO (jN (jv1 0 ?_)))))
 refine jS (jS (jR (jm rfl (je (Run.lenT rfl zn) (jb rfl rfl (Bin.gtrN _ 70) (jO (jN (jv2 0 5 ?_))))))))
 refine jD rfl (fun hc1 => ?_) fun hc1 => ?_
 ·
  refine jS (jR (jm rfl (je (Run.sliceT 0 70 rfl zn evB.none_ (evB.some_ rfl) jo jo) ?_)))
  rw [zbs, zbw]
  refine ja rfl (jO (jN (jv1 2 ?_)))
  refine jT ?_
  refine qZ (qL rfl ?_)
  exact ⟨rfl, rfl⟩
 refine jQ (jN (jv1 0 ?_))
 refine jS (jR (jm rfl (ja rfl (jO (jN (jv1 2 ?_))))))
 refine jT ?_
 refine qL rfl ?_
 exact ⟨by rw [zq jo], rfl⟩
end
section
open Go.RowKit Go.Sort
def NmC (m : MlC) (i : Nat) (x : Nc) : Prop := bG (qB m.p) i x.nm ∧ bR x.p.2 ∧ x.v ≤ m.v
instance (m : MlC) (i : Nat) (x : Nc) : Decidable (NmC m i x) := by unfold NmC; infer_instance
end
end Go.Proofs.YtgmbmfpfhcekiaaGreat
