/-
  Lemmas on the way, joined: StoC, BoxD, BoxS, StoD, BoxC, Eng22, StoE, StoF, StoG, StoH, StoI, StoJ, StoK, StoL, StoN, StoR, StoU, StoS, StoT, StoV, StoW, BoxI.
-/
import Derived.Test.YtgmbmfpfhcekiaaGreatPk1
set_option maxRecDepth 100000
set_option linter.unusedVariables false
set_option linter.unusedSimpArgs false
namespace Go.Proofs.YtgmbmfpfhcekiaaGreat
section
open Go.RowKit Go.Sort
theorem tB (z : Int) (h : -9223372036854775808 ≤ z ∧ z ≤ 9223372036854775807) : keyOf Tryz.prog 3 (.int .i64 z) = some (.int .i64 z) := by
 have hw : (Lit.int .i64 z).wf = true := by
  simp [Lit.wf, IntKind.min, IntKind.max, IntKind.signed, IntKind.bits]
  omega
 simp [keyOf, mapKey, zad, hw]
abbrev nY : Int → Value := fun z => .int .i64 z
theorem zO : ∀ a b, nY a = nY b → a = b := fun a b h => by injection h
def MvF (vs : List Int) : Int → Option Value := fun y => if y ∈ vs then some (.bool true) else none
theorem qXq : (fun _ : Int => none) = MvF [] := by funext y; simp [MvF]
theorem qQa (vs : List Int) (x : Int) : (fun y => if y = x then some (.bool true) else MvF vs y) = MvF (vs ++ [x]) := by
 funext y
 unfold MvF
 by_cases h : y = x <;> simp [h]
theorem qXr (vs : List Int) (x : Int) : (MvF vs x).getD (.bool false) = .bool (decide (x ∈ vs)) := by
 unfold MvF
 by_cases h : x ∈ vs <;> simp [h]
def rM (m : MlC) (i : Nat) (x : Nc) : Prop := (bE x.p.2 ∧ x.v ≤ m.v ∧ x.v ∉ (m.l.take i).map Nc.v) ∧ ∀ y ∈ x.l, (y.m.blob : Int) ≤ m.b
theorem qXs (m : MlC) : bZ m.p ↔ cX m.p ∧ ∀ i (h : i < m.l.length), rM m i m.l[i] := by
 have key : ∀ i (h : i < m.l.length), nO m.p.valid m.p.blob m.p.l i (m.l[i]).p ↔ rM m i m.l[i] := by
  intro i h
  unfold nO rM
  have e1 : (∀ y ∈ m.p.l.take i, y.2.valid ≠ (m.l[i]).p.2.valid) ↔ (m.l[i]).v ∉ (m.l.take i).map Nc.v := by
   rw [show m.p.l.take i = (m.l.take i).map Nc.p from zdo.symm]
   constructor
   ·
    intro h1 h2
    obtain ⟨y, hy, e⟩ := List.mem_map.1 h2
    exact h1 y.p (zaq hy) e
   intro h1 y hy e
   obtain ⟨z, hz, rfl⟩ := List.mem_map.1 hy
   exact h1 (List.mem_map.2 ⟨z, hz, e⟩)
  have e2 : (∀ y ∈ (m.l[i]).p.2.l, (y.blob : Int) ≤ m.p.blob) ↔ ∀ y ∈ (m.l[i]).l, (y.m.blob : Int) ≤ m.b := by
   constructor
   · intro h1 y hy; exact h1 y.m (zaq hy)
   intro h1 y hy
   obtain ⟨z, hz, rfl⟩ := List.mem_map.1 hy
   exact h1 z hz
  rw [e1, e2]
  constructor
  · rintro ⟨h1, h2, h3, h4⟩; exact ⟨⟨h1, h2, h3⟩, h4⟩
  rintro ⟨⟨h1, h2, h3⟩, h4⟩; exact ⟨h1, h2, h3, h4⟩
 unfold bZ
 constructor
 ·
  rintro ⟨h1, h2⟩
  refine ⟨h1, fun i h => (key i h).1 ?_⟩
  have := h2 i (by show i < (Ns m.l).length; rw [bD]; exact h)
  rw [show m.p.l[i]'(by show i < (Ns m.l).length; rw [bD]; exact h) = (m.l[i]).p from zbo _] at this
  exact this
 rintro ⟨h1, h2⟩
 refine ⟨h1, fun i h => ?_⟩
 have h' : i < m.l.length := by have : i < (Ns m.l).length := h; rwa [bD] at this
 have := (key i h').2 (h2 i h')
 rw [show m.p.l[i] = (m.l[i]).p from zbo _]
 exact this
theorem gR (m : MlC) : (qD m.p).length = m.l.length := by simp [qD, MlC.p]
theorem oT {w : World} {m : MlC} (h : RdL w m) : ∀ q ∈ qD m.p, q.length ≤ 1000000 := by
 intro q hq
 obtain ⟨x, hx, rfl⟩ := List.mem_map.1 hq
 obtain ⟨y, hy, rfl⟩ := List.mem_map.1 hx
 exact (h.l.el y hy).q
theorem vK (x : Mc) (g nb : Nat) (m : MlC) (w : World) (hb : Blk w g 25 m.cells.toArray) (hm : m.b = (nb : Int)) (hn : nb ≤ 2147483647) :
  Calls Tryz.prog 70 #[.agg x.cells.toArray, .pointer (some ⟨g, 0, none⟩)] w fun e w' => e = .returned (.bool (decide ((nb : Int) < (x.m.blob : Int)))) ∧ Frm [] w w' := by
 refine VC.calls (nt := 10) (res := #[.tmp 3]) Tryz.func70 rfl Tryz.ntmps70 Tryz.results70 rfl ?_
 refine jS (jR ?_)
 refine Ops.m (qH.box rfl) rfl ?_
 rintro _ w1 ⟨rfl, hF1⟩
 have hb1 : Blk w1 w.heap.size 60 x.cells.toArray := hF1.blk
 have hbm := hb.frm hF1.frm jp
 have e3 : m.cells.toArray[3]? = some (.int .i64 ((nb : Nat) : Int)) := by show some (Value.int .i64 m.b) = _; rw [hm]
 have hcm := (hbm.cell 3).trans e3
 refine ja rfl (jO (jN (jv2 1 2 ?_)))
 refine jS (jR (jf rfl zak rfl zc (jl rfl zh (hb1.cell 4) (jf rfl zg rfl zq (jl rfl zy hcm (je (Run.convN nb rfl zad zfa (by show nb ≤ 18446744073709551615; omega)) (jb rfl rfl (Bin.gtrN _ _) (ja rfl (jO (jN (jv1 3 ?_)))))))))))
 refine jT ?_
 refine qF rfl ?_
 exact ⟨by congr 2; exact decide_eq_decide.2 jo, hF1.frm⟩
theorem vV (f : FuncId) (us : List Value) (p : MsgP → Bool) (A : Option Addr) (c : Nat) (l : List Mc) (w : World) (hl : RdM w A l) (hn : l.length ≤ 1000000) (S : List Nat) (hp : qQ6 S w f us p) :
  Calls Tryz.prog 69 #[.slice A l.length c, .func (.func f) #[] us.toArray] w fun e w' => e = .returned (.bool (decide (∃ x ∈ l, p x.m = true))) ∧ Frm [] w w' := by
 refine VC.calls (nt := 9) (res := #[.tmp 4]) Tryz.func69 rfl Tryz.ntmps69 Tryz.results69 rfl ?_
 refine jS (jR (ja rfl (jO (jN (jv2 0 1 ?_)))))
 refine jS (jR (jm rfl (jM ?_)))
 refine Ops.cl (jE2 Tryz.call118) (sR f us p A c l _ hl hn S hp) rfl ?_
 rintro e w1 ⟨hf1, k, hk1, hk2⟩
 obtain ⟨z, rfl, hz⟩ : ∃ z : Int, e = .returned (.int .i64 z) ∧ (0 ≤ z ↔ ∃ x ∈ l, p x.m = true) := by
  rcases hk2 with ⟨h1, h2⟩ | ⟨h1, h2, h3⟩
  ·
   refine ⟨_, h2, ⟨fun h => jo, fun ⟨x, hx, hpx⟩ => ?_⟩⟩
   obtain ⟨j, hj, rfl⟩ := zu hx
   rw [hk1 j hj jo] at hpx
   cases hpx
  exact ⟨_, h3, ⟨fun _ => ⟨_, zm h1, h2⟩, fun _ => jo⟩⟩
 refine ⟨_, rfl, ?_⟩
 refine jb rfl rfl (Bin.geq _ 0) (ja rfl (jO (jN (jv1 4 ?_))))
 refine jT ?_
 refine qF rfl ?_
 exact ⟨by rw [decide_eq_decide.2 hz], hf1⟩
set_option maxHeartbeats 1000000 in
theorem dJ (m : MlC) (w : World) (hm : RdL w m) (hv : cZ w) :
  Calls Tryz.prog 21 #[m.val] w fun e w' => e = .returned (.bool (decide (bZ m.p))) ∧ Frm [] w w' := by
 have hln := hm.ln
 have hH : cX m.p ↔ (cD (qD m.p) ∧ cD m.ss ∧ 1 ≤ m.v ∧ m.v ≤ 2147483647 ∧ 0 ≤ m.b ∧ m.b ≤ 2147483647 ∧ qT ∈ qD m.p) := Iff.rfl
 have hMi := qXs m
 have hnl := gR m
 have hnq := oT hm
 refine VC.calls (nt := 79) (res := #[.tmp 2]) Tryz.func21 rfl Tryz.ntmps21 Tryz.results21 rfl ?_
 refine jS (jR ?_)
 refine Ops.m (qH.box rfl) rfl ?_
 rintro _ w1 ⟨rfl, hF1⟩
 have hb1 : Blk w1 w.heap.size 25 #[.slice m.A m.l.length m.c, .slice m.S m.ss.length m.d, .int .i64 m.v, .int .i64 m.b] := hF1.blk
 have K := hF1.frm
 generalize hg1 : w.heap.size = g1 at hb1 ⊢
 refine ja rfl (jO (jN (jv1 1 ?_)))
 refine jS (jS ?_)
 refine VC.splitR [(1, .pointer (some ⟨g1, 0, none⟩))] (fun wz => Frm [] w wz ∧ Blk wz g1 25 #[.slice m.A m.l.length m.c, .slice m.S m.ss.length m.d, .int .i64 m.v, .int .i64 m.b]) 41 (.bool (decide (¬ cX m.p))) ?_ ?_
 ·
  refine jR (je (Run.loadA rfl zi zb hb1.cells (by first | rfl | (simp; done))) ?_)
  refine Ops.cl (jE1 Tryz.call55) (gP m _ (hm.frm K)) rfl ?_
  rintro e w2 ⟨Bw2, dw2, rfl, how2, _, hfw2⟩
  refine ⟨_, rfl, ?_⟩
  have K := K.trans hfw2 jp
  have hb1 := hb1.frm hfw2 jp
  have hsn := mP Bw2 dw2 (qD m.p) _ (by rw [hnl]; exact how2.rd) jo hnq (hv.frm K)
  rw [hnl] at hsn
  refine Ops.cl (jE1 Tryz.call66) (hsn) rfl ?_
  rintro e w3 ⟨rfl, hf3⟩
  refine ⟨_, rfl, ?_⟩
  have K := K.trans hf3 jp
  have hb1 := hb1.frm hf3 jp
  by_cases hs8 : cD (qD m.p)
  ·
   refine je (Run.not rfl) (jM ?_)
   refine jk (Run.fieldAddr rfl zg rfl zam jd) ?_
   refine jk (Run.load rfl zbb (hb1.cell 1)) ?_
   refine Ops.clg rfl au (jE1 Tryz.call66) (mP m.S m.d m.ss _ (hm.s.frm K jp) hm.sn hm.sq (hv.frm K)) rfl ?_
   rintro e w4 ⟨rfl, hf4⟩
   refine ⟨_, rfl, ?_⟩
   have K := K.trans hf4 jp
   have hb1 := hb1.frm hf4 jp
   by_cases hs13 : cD m.ss
   ·
    refine jk (Run.not rfl) ?_
    refine je (Run.pickF rfl rfl au) (jM ?_)
    refine jk (Run.fieldAddr rfl zg rfl zq jd) ?_
    refine jk (Run.load rfl zy (hb1.cell 2)) ?_
    refine jk (Run.bin rfl rfl (Bin.lss _ 1)) ?_
    by_cases hs19 : m.v < 1
    ·
     refine je (Run.pickF rfl rfl au) (jM ?_)
     refine jU ?_
     refine jU ?_
     refine jU ?_
     refine je (Run.pickT rfl rfl au) (jM ?_)
     refine jU ?_
     refine jU ?_
     refine jU ?_
     refine je (Run.pickT rfl rfl au) (jM ?_)
     refine jU ?_
     refine jU ?_
     refine jU ?_
     refine je (Run.pickT rfl rfl au) (jM ?_)
     refine jU ?_
     refine jU ?_
     refine jU ?_
     refine jU ?_
     refine je (Run.pickT rfl rfl au) (jO ?_)
     refine jN ⟨(js2 (jC (by first | exact (decide_eq_true (p := ¬ cX m.p) (fun h => by obtain ⟨h1, h2, h3, h4, h5, h6, h7⟩ := hH.1 h; first | exact absurd h1 hs8 | exact absurd h2 hs13 | omega)).symm | (rw [decide_eq_false hs39]; exact (decide_eq_true (p := ¬ cX m.p) (fun h => hs39 (hH.1 h).2.2.2.2.2.2)).symm) | (rw [decide_eq_true hs39]; exact (decide_eq_false (p := ¬ cX m.p) (fun h => h (hH.2 ⟨hs8, hs13, jo, jo, jo, jo, hs39⟩))).symm))) rfl), (⟨K, hb1⟩)⟩
    refine je (Run.pickF rfl rfl au) (jM ?_)
    refine jk (Run.fieldAddr rfl zg rfl zq jd) ?_
    refine jk (Run.load rfl zy (hb1.cell 2)) ?_
    refine jk (Run.bin rfl rfl (Bin.gtr _ 2147483647)) ?_
    by_cases hs24 : 2147483647 < m.v
    ·
     refine je (Run.pickF rfl rfl au) (jM ?_)
     refine jU ?_
     refine jU ?_
     refine jU ?_
     refine je (Run.pickT rfl rfl au) (jM ?_)
     refine jU ?_
     refine jU ?_
     refine jU ?_
     refine je (Run.pickT rfl rfl au) (jM ?_)
     refine jU ?_
     refine jU ?_
     refine jU ?_
     refine jU ?_
     refine je (Run.pickT rfl rfl au) (jO ?_)
     refine jN ⟨(js2 (jC (by first | exact (decide_eq_true (p := ¬ cX m.p) (fun h => by obtain ⟨h1, h2, h3, h4, h5, h6, h7⟩ := hH.1 h; first | exact absurd h1 hs8 | exact absurd h2 hs13 | omega)).symm | (rw [decide_eq_false hs39]; exact (decide_eq_true (p := ¬ cX m.p) (fun h => hs39 (hH.1 h).2.2.2.2.2.2)).symm) | (rw [decide_eq_true hs39]; exact (decide_eq_false (p := ¬ cX m.p) (fun h => h (hH.2 ⟨hs8, hs13, jo, jo, jo, jo, hs39⟩))).symm))) rfl), (⟨K, hb1⟩)⟩
    refine je (Run.pickF rfl rfl au) (jM ?_)
    refine jk (Run.fieldAddr rfl zg rfl zq jd) ?_
    refine jk (Run.load rfl zy (hb1.cell 3)) ?_
    refine jk (Run.bin rfl rfl (Bin.lss _ 0)) ?_
    by_cases hs29 : m.b < 0
    ·
     refine je (Run.pickF rfl rfl au) (jM ?_)
     refine jU ?_
     refine jU ?_
     refine jU ?_
     refine je (Run.pickT rfl rfl au) (jM ?_)
     refine jU ?_
     refine jU ?_
     refine jU ?_
     refine jU ?_
     refine je (Run.pickT rfl rfl au) (jO ?_)
     refine jN ⟨(js2 (jC (by first | exact (decide_eq_true (p := ¬ cX m.p) (fun h => by obtain ⟨h1, h2, h3, h4, h5, h6, h7⟩ := hH.1 h; first | exact absurd h1 hs8 | exact absurd h2 hs13 | omega)).symm | (rw [decide_eq_false hs39]; exact (decide_eq_true (p := ¬ cX m.p) (fun h => hs39 (hH.1 h).2.2.2.2.2.2)).symm) | (rw [decide_eq_true hs39]; exact (decide_eq_false (p := ¬ cX m.p) (fun h => h (hH.2 ⟨hs8, hs13, jo, jo, jo, jo, hs39⟩))).symm))) rfl), (⟨K, hb1⟩)⟩
    refine je (Run.pickF rfl rfl au) (jM ?_)
    refine jk (Run.fieldAddr rfl zg rfl zq jd) ?_
    refine jk (Run.load rfl zy (hb1.cell 3)) ?_
    refine jk (Run.bin rfl rfl (Bin.gtr _ 2147483647)) ?_
    by_cases hs34 : 2147483647 < m.b
    ·
     refine je (Run.pickF rfl rfl au) (jM ?_)
     refine jU ?_
     refine jU ?_
     refine jU ?_
     refine jU ?_
     refine je (Run.pickT rfl rfl au) (jO ?_)
     refine jN ⟨(js2 (jC (by first | exact (decide_eq_true (p := ¬ cX m.p) (fun h => by obtain ⟨h1, h2, h3, h4, h5, h6, h7⟩ := hH.1 h; first | exact absurd h1 hs8 | exact absurd h2 hs13 | omega)).symm | (rw [decide_eq_false hs39]; exact (decide_eq_true (p := ¬ cX m.p) (fun h => hs39 (hH.1 h).2.2.2.2.2.2)).symm) | (rw [decide_eq_true hs39]; exact (decide_eq_false (p := ¬ cX m.p) (fun h => h (hH.2 ⟨hs8, hs13, jo, jo, jo, jo, hs39⟩))).symm))) rfl), (⟨K, hb1⟩)⟩
    refine je (Run.pickF rfl rfl au) (jM ?_)
    refine jk (Run.loadA rfl zi zb hb1.cells (by first | rfl | (simp; done))) ?_
    refine Ops.clg rfl au (jE1 Tryz.call55) (gP m _ (hm.frm K)) rfl ?_
    rintro e w5 ⟨Bw5, dw5, rfl, how5, _, hfw5⟩
    refine ⟨_, rfl, ?_⟩
    have K := K.trans hfw5 jp
    have hb1 := hb1.frm hfw5 jp
    have hct := pG Bw5 dw5 (qD m.p) qT _ (by rw [hnl]; exact how5.rd) jo
    rw [hnl] at hct
    refine Ops.clg rfl au (jE2 Tryz.call67) (hct) rfl ?_
    rintro e _ ⟨rfl, rfl⟩
    refine ⟨_, rfl, ?_⟩
    by_cases hs39 : qT ∈ qD m.p
    ·
     refine jk (Run.not rfl) ?_
     refine je (Run.pickF rfl rfl au) (jO ?_)
     refine jN ⟨(js2 (jC (by first | exact (decide_eq_true (p := ¬ cX m.p) (fun h => by obtain ⟨h1, h2, h3, h4, h5, h6, h7⟩ := hH.1 h; first | exact absurd h1 hs8 | exact absurd h2 hs13 | omega)).symm | (rw [decide_eq_false hs39]; exact (decide_eq_true (p := ¬ cX m.p) (fun h => hs39 (hH.1 h).2.2.2.2.2.2)).symm) | (rw [decide_eq_true hs39]; exact (decide_eq_false (p := ¬ cX m.p) (fun h => h (hH.2 ⟨hs8, hs13, jo, jo, jo, jo, hs39⟩))).symm))) rfl), (⟨K, hb1⟩)⟩
    refine jk (Run.not rfl) ?_
    refine je (Run.pickF rfl rfl au) (jO ?_)
    refine jN ⟨(js2 (jC (by first | exact (decide_eq_true (p := ¬ cX m.p) (fun h => by obtain ⟨h1, h2, h3, h4, h5, h6, h7⟩ := hH.1 h; first | exact absurd h1 hs8 | exact absurd h2 hs13 | omega)).symm | (rw [decide_eq_false hs39]; exact (decide_eq_true (p := ¬ cX m.p) (fun h => hs39 (hH.1 h).2.2.2.2.2.2)).symm) | (rw [decide_eq_true hs39]; exact (decide_eq_false (p := ¬ cX m.p) (fun h => h (hH.2 ⟨hs8, hs13, jo, jo, jo, jo, hs39⟩))).symm))) rfl), (⟨K, hb1⟩)⟩
   refine jk (Run.not rfl) ?_
   refine je (Run.pickF rfl rfl au) (jM ?_)
   refine jU ?_
   refine jU ?_
   refine jU ?_
   refine je (Run.pickT rfl rfl au) (jM ?_)
   refine jU ?_
   refine jU ?_
   refine jU ?_
   refine je (Run.pickT rfl rfl au) (jM ?_)
   refine jU ?_
   refine jU ?_
   refine jU ?_
   refine je (Run.pickT rfl rfl au) (jM ?_)
   refine jU ?_
   refine jU ?_
   refine jU ?_
   refine je (Run.pickT rfl rfl au) (jM ?_)
   refine jU ?_
   refine jU ?_
   refine jU ?_
   refine jU ?_
   refine je (Run.pickT rfl rfl au) (jO ?_)
   refine jN ⟨(js2 (jC (by first | exact (decide_eq_true (p := ¬ cX m.p) (fun h => by obtain ⟨h1, h2, h3, h4, h5, h6, h7⟩ := hH.1 h; first | exact absurd h1 hs8 | exact absurd h2 hs13 | omega)).symm | (rw [decide_eq_false hs39]; exact (decide_eq_true (p := ¬ cX m.p) (fun h => hs39 (hH.1 h).2.2.2.2.2.2)).symm) | (rw [decide_eq_true hs39]; exact (decide_eq_false (p := ¬ cX m.p) (fun h => h (hH.2 ⟨hs8, hs13, jo, jo, jo, jo, hs39⟩))).symm))) rfl), (⟨K, hb1⟩)⟩
  refine je (Run.not rfl) (jM ?_)
  refine jU ?_
  refine jU ?_
  refine jU ?_
  refine jU ?_
  refine je (Run.pickT rfl rfl au) (jM ?_)
  refine jU ?_
  refine jU ?_
  refine jU ?_
  refine je (Run.pickT rfl rfl au) (jM ?_)
  refine jU ?_
  refine jU ?_
  refine jU ?_
  refine je (Run.pickT rfl rfl au) (jM ?_)
  refine jU ?_
  refine jU ?_
  refine jU ?_
  refine je (Run.pickT rfl rfl au) (jM ?_)
  refine jU ?_
  refine jU ?_
  refine jU ?_
  refine je (Run.pickT rfl rfl au) (jM ?_)
  refine jU ?_
  refine jU ?_
  refine jU ?_
  refine jU ?_
  refine je (Run.pickT rfl rfl au) (jO ?_)
  refine jN ⟨(js2 (jC (by first | exact (decide_eq_true (p := ¬ cX m.p) (fun h => by obtain ⟨h1, h2, h3, h4, h5, h6, h7⟩ := hH.1 h; first | exact absurd h1 hs8 | exact absurd h2 hs13 | omega)).symm | (rw [decide_eq_false hs39]; exact (decide_eq_true (p := ¬ cX m.p) (fun h => hs39 (hH.1 h).2.2.2.2.2.2)).symm) | (rw [decide_eq_true hs39]; exact (decide_eq_false (p := ¬ cX m.p) (fun h => h (hH.2 ⟨hs8, hs13, jo, jo, jo, jo, hs39⟩))).symm))) rfl), (⟨K, hb1⟩)⟩
 intro Γ wz hΓ ⟨K, hb1⟩
 refine jN (VC.sub _ hΓ ?_)
 refine jD rfl (fun hc1 => ?_) fun hc1 => ?_
 ·
  refine jS (jR (ja rfl (jO (jN (jv1 2 ?_)))))
  refine jT ?_
  refine qZ (qF rfl ?_)
  exact ⟨by rw [decide_eq_false (fun h => hc1 (hMi.1 h).1)], K⟩
 have hc1 := Classical.not_not.1 hc1
 obtain ⟨_, _, hv1, hv2, hb0, hb2, _⟩ := hH.1 hc1
 obtain ⟨nb, hnb⟩ : ∃ nb : Nat, m.b = (nb : Int) := ⟨m.b.toNat, jo⟩
 refine jQ (jN (jv1 1 ?_))
 refine jS (jR ?_)
 refine Ops.m (qH.makeMap (k := 3) (enc := nY)) rfl ?_
 rintro _ w6 ⟨rfl, hmp, hf6, hs6⟩
 have hmp : MpF Tryz.prog 3 nY w6 wz.heap.size (MvF ([])) := by rw [← qXq]; exact hmp
 have hgm : w.heap.size ≤ wz.heap.size := K.size
 have K := K.trans hf6 jp
 have hb1 := hb1.frm hf6 jp
 generalize hgg : wz.heap.size = gm at hmp hgm ⊢
 refine ja rfl (jO (jN (jv2 1 3 ?_)))
 refine jS (jS (jR (jf rfl zg rfl zab (jl rfl zan (hb1.cell 0) (je (Run.lenS rfl zf) ?_)))))
 refine jx .i64 0 ?_
 refine jO (jN (jv5 1 3 44 45 46 ?_))
 refine jB ?_
 refine VC.loop (σ := Nat) (fun s => [(1, .pointer (some ⟨g1, 0, none⟩)), (3, .map (some gm)), (44, .slice m.A m.l.length m.c), (45, .int .i64 ((m.l.length : Nat) : Int)), (46, .int .i64 ((s : Nat) : Int))]) (fun s wr => s ≤ m.l.length ∧ Blk wr g1 25 #[.slice m.A m.l.length m.c, .slice m.S m.ss.length m.d, .int .i64 m.v, .int .i64 m.b] ∧ MpF Tryz.prog 3 nY wr gm (MvF ((m.l.take s).map Nc.v)) ∧ (∀ j (h : j < m.l.length), j < s → rM m j m.l[j]) ∧ Frm [] w wr) (fun s => m.l.length - s) 0 (js5 rfl rfl rfl rfl rfl) ⟨zah _, hb1, by simpa using hmp, fun _ _ h => jo, K⟩ ?_
 rintro i wr ⟨hi, hb1, hmp, hd, K⟩
 refine jS (jR (jb rfl rfl (Bin.lssN _ _) (jO (jN (jS ?_)))))
 refine jD rfl (fun hc2 => ?_) fun hc2 => ?_
 ·
  obtain ⟨ad, hA, hel⟩ := (hm.l.frm K).elem hc2
  have hxa := (hm.l.frm K).el _ (zm hc2)
  have hxm := zm hc2
  have hts : (m.l.take (i + 1)).map Nc.v = (m.l.take i).map Nc.v ++ [(m.l[i]).v] := by rw [zao, ze hc2, zbm]; rfl
  generalize hx : m.l[i] = x at *
  obtain ⟨vs, hvs⟩ : ∃ vs, vs = (m.l.take i).map Nc.v := ⟨_, rfl⟩
  rw [← hvs] at hmp hts
  have hBC : rM m i x ↔ ((bE ⟨x.v, x.n, Ms x.l⟩ ∧ x.v ≤ m.v ∧ x.v ∉ vs) ∧ ∀ y ∈ x.l, (y.m.blob : Int) ≤ m.b) := by rw [hvs]; exact Iff.rfl
  refine jQ (jN (jv5 1 3 44 45 46 ?_))
  refine jS (jB (jS (jR (je (Run.indexS i (show _ = some (Value.slice (some ad) m.l.length m.c) by rw [← hA]; rfl) rfl zf zn hc2) (je (Run.loadA rfl zdy zn hel (by first | rfl | (simp; done))) ?_)))))
  refine Ops.m (qH.alloc cE) rfl ?_
  rintro _ w2 ⟨rfl, hF2⟩
  have hg5 : w.heap.size ≤ wr.heap.size := K.size
  refine Ops.st (qW.storeA rfl rfl zn hF2.blk rfl x.cells_one) ?_
  rintro w3 ⟨hb5, hf3, hs3⟩
  have hb5 : Blk w3 wr.heap.size 45 #[encStr x.nm, .int .i64 x.v, .int .i64 x.n, .slice x.A x.l.length x.c] := hb5
  have K3 : Frm [] wr w3 := hF2.frm.trans hf3 jp
  have K := K.trans K3 jp
  have hb1 := hb1.frm K3 jp
  have hmp := hmp.frm K3 jp
  have hxa := hxa.frm K3
  generalize hgg5 : wr.heap.size = g5 at hb5 hg5 ⊢
  refine jO (jN (jv6 1 3 5 44 45 46 ?_))
  refine jS (jS ?_)
  refine VC.splitR [(1, .pointer (some ⟨g1, 0, none⟩)), (3, .map (some gm)), (5, .pointer (some ⟨g5, 0, none⟩)), (44, .slice m.A m.l.length m.c), (45, .int .i64 ((m.l.length : Nat) : Int)), (46, .int .i64 ((i : Nat) : Int))] (fun wz => Frm [] w wz ∧ Blk wz g1 25 #[.slice m.A m.l.length m.c, .slice m.S m.ss.length m.d, .int .i64 m.v, .int .i64 m.b] ∧ Blk wz g5 45 #[encStr x.nm, .int .i64 x.v, .int .i64 x.n, .slice x.A x.l.length x.c] ∧ MpF Tryz.prog 3 nY wz gm (MvF (vs)) ∧ x.At wz) 68 (.bool (decide (¬ (bE ⟨x.v, x.n, Ms x.l⟩ ∧ x.v ≤ m.v ∧ x.v ∉ vs)))) ?_ ?_
  ·
   refine jR (jf rfl zae rfl zp (je (Run.loadA rfl zat zp (hb5.sub 1 (BVc x.v x.n x.A x.l.length x.c) rfl) (by first | rfl | (simp; done))) ?_))
   refine Ops.cl (jE1 Tryz.call68) (rV x.v x.n x.A x.c x.l _ hxa.rd) rfl ?_
   rintro e w7 ⟨rfl, hf7⟩
   refine ⟨_, rfl, ?_⟩
   have K := K.trans hf7 jp
   have hb1 := hb1.frm hf7 jp
   have hb5 := hb5.frm hf7 jp
   have hmp := hmp.frm hf7 jp
   have hxa := hxa.frm hf7
   by_cases hs52 : bE ⟨x.v, x.n, Ms x.l⟩
   ·
    refine je (Run.not rfl) (jM ?_)
    refine jk (Run.fieldAddr rfl zae rfl zp jd) ?_
    refine jk (Run.fieldAddr rfl zw rfl zq jd) ?_
    refine jk (Run.load rfl zy (show _ = some (Value.int .i64 x.v) from hb5.cell 1)) ?_
    refine jk (Run.fieldAddr rfl zg rfl zq jd) ?_
    refine jk (Run.load rfl zy (show _ = some (Value.int .i64 m.v) from hb1.cell 2)) ?_
    refine jk (Run.bin rfl rfl (Bin.gtr _ _)) ?_
    by_cases hs60 : m.v < x.v
    ·
     refine je (Run.pickF rfl rfl au) (jM ?_)
     refine jU ?_
     refine jU ?_
     refine jU ?_
     refine jU ?_
     refine jU ?_
     refine je (Run.pickT rfl rfl au) (jO ?_)
     refine jN ⟨(js7 (jC (by first | exact (decide_eq_true (p := ¬ (bE ⟨x.v, x.n, Ms x.l⟩ ∧ x.v ≤ m.v ∧ x.v ∉ vs)) (fun h => by have h1 := h.1; have h2 := h.2.1; first | exact hs52 h1 | omega)).symm | (rw [decide_eq_true hs67]; exact (decide_eq_true (p := ¬ (bE ⟨x.v, x.n, Ms x.l⟩ ∧ x.v ≤ m.v ∧ x.v ∉ vs)) (fun h => h.2.2 hs67)).symm) | (rw [decide_eq_false hs67]; exact (decide_eq_false (p := ¬ (bE ⟨x.v, x.n, Ms x.l⟩ ∧ x.v ≤ m.v ∧ x.v ∉ vs)) (fun h => h ⟨hs52, jo, hs67⟩)).symm))) rfl rfl rfl rfl rfl rfl), (⟨K, hb1, hb5, hmp, hxa⟩)⟩
    refine je (Run.pickF rfl rfl au) (jM ?_)
    refine jG ?_
    refine jk (Run.fieldAddr rfl zae rfl zp jd) ?_
    refine jk (Run.fieldAddr rfl zw rfl zq jd) ?_
    refine jk (Run.load rfl zy (show _ = some (Value.int .i64 x.v) from hb5.cell 1)) ?_
    refine jk (Run.lookup (enc := nY) (x := x.v) rfl rfl hmp (Go.Maps.int_keyed zad) Tryz.underlying101 qZx (tB _ (by have := hs52.1; dsimp only at this; omega))) ?_
    rw [qXr]
    by_cases hs67 : x.v ∈ vs
    ·
     refine je (Run.pickF rfl rfl au) (jO ?_)
     refine jN ⟨(js7 (jC (by first | exact (decide_eq_true (p := ¬ (bE ⟨x.v, x.n, Ms x.l⟩ ∧ x.v ≤ m.v ∧ x.v ∉ vs)) (fun h => by have h1 := h.1; have h2 := h.2.1; first | exact hs52 h1 | omega)).symm | (rw [decide_eq_true hs67]; exact (decide_eq_true (p := ¬ (bE ⟨x.v, x.n, Ms x.l⟩ ∧ x.v ≤ m.v ∧ x.v ∉ vs)) (fun h => h.2.2 hs67)).symm) | (rw [decide_eq_false hs67]; exact (decide_eq_false (p := ¬ (bE ⟨x.v, x.n, Ms x.l⟩ ∧ x.v ≤ m.v ∧ x.v ∉ vs)) (fun h => h ⟨hs52, jo, hs67⟩)).symm))) rfl rfl rfl rfl rfl rfl), (⟨K, hb1, hb5, hmp, hxa⟩)⟩
    refine je (Run.pickF rfl rfl au) (jO ?_)
    refine jN ⟨(js7 (jC (by first | exact (decide_eq_true (p := ¬ (bE ⟨x.v, x.n, Ms x.l⟩ ∧ x.v ≤ m.v ∧ x.v ∉ vs)) (fun h => by have h1 := h.1; have h2 := h.2.1; first | exact hs52 h1 | omega)).symm | (rw [decide_eq_true hs67]; exact (decide_eq_true (p := ¬ (bE ⟨x.v, x.n, Ms x.l⟩ ∧ x.v ≤ m.v ∧ x.v ∉ vs)) (fun h => h.2.2 hs67)).symm) | (rw [decide_eq_false hs67]; exact (decide_eq_false (p := ¬ (bE ⟨x.v, x.n, Ms x.l⟩ ∧ x.v ≤ m.v ∧ x.v ∉ vs)) (fun h => h ⟨hs52, jo, hs67⟩)).symm))) rfl rfl rfl rfl rfl rfl), (⟨K, hb1, hb5, hmp, hxa⟩)⟩
   refine je (Run.not rfl) (jM ?_)
   refine jU ?_
   refine jU ?_
   refine jU ?_
   refine jU ?_
   refine jU ?_
   refine jU ?_
   refine je (Run.pickT rfl rfl au) (jM ?_)
   refine jU ?_
   refine jU ?_
   refine jU ?_
   refine jU ?_
   refine jU ?_
   refine je (Run.pickT rfl rfl au) (jO ?_)
   refine jN ⟨(js7 (jC (by first | exact (decide_eq_true (p := ¬ (bE ⟨x.v, x.n, Ms x.l⟩ ∧ x.v ≤ m.v ∧ x.v ∉ vs)) (fun h => by have h1 := h.1; have h2 := h.2.1; first | exact hs52 h1 | omega)).symm | (rw [decide_eq_true hs67]; exact (decide_eq_true (p := ¬ (bE ⟨x.v, x.n, Ms x.l⟩ ∧ x.v ≤ m.v ∧ x.v ∉ vs)) (fun h => h.2.2 hs67)).symm) | (rw [decide_eq_false hs67]; exact (decide_eq_false (p := ¬ (bE ⟨x.v, x.n, Ms x.l⟩ ∧ x.v ≤ m.v ∧ x.v ∉ vs)) (fun h => h ⟨hs52, jo, hs67⟩)).symm))) rfl rfl rfl rfl rfl rfl), (⟨K, hb1, hb5, hmp, hxa⟩)⟩
  intro Γ wz2 hΓ ⟨K, hb1, hb5, hmp, hxa⟩
  refine jN (VC.sub _ hΓ ?_)
  refine jD rfl (fun hc3 => ?_) fun hc3 => ?_
  ·
   have hbad : ¬ bZ m.p := fun h => by
    have := (hMi.1 h).2 i hc2
    rw [hx] at this
    exact hc3 (hBC.1 this).1
   refine jS (jR (ja rfl (jO (jN (jv1 2 ?_)))))
   refine jT ?_
   refine qZ (qP (qZ (qZ (qP (qZ (qF rfl ?_))))))
   exact ⟨by rw [decide_eq_false hbad], K⟩
  have hc3 := Classical.not_not.1 hc3
  refine jQ (jN (jv6 1 3 5 44 45 46 ?_))
  refine jS (jR (jm rfl (jf rfl zae rfl zp (jf rfl zw rfl zq (jl rfl zy (show _ = some (Value.int .i64 x.v) from hb5.cell 1) ?_)))))
  have hne1 := hmp.ne_blk hb1
  have hne5 := hmp.ne_blk hb5
  refine Ops.st (qW.mapUpd (x := x.v) rfl rfl rfl hmp (Go.Maps.int_keyed zad) zO Tryz.underlying101 (tB _ (by have := hc3.1.1; dsimp only at this; omega))) ?_
  rintro w8 ⟨hmp8, hf8, hs8⟩
  rw [qQa, ← hts] at hmp8
  have K := K.own hf8 (fun y hy => by rw [za] at hy; omega)
  have hb1 := hb1.frm hf8 (fun h => hne1 (za.1 h).symm)
  have hb5 := hb5.frm hf8 (fun h => hne5 (za.1 h).symm)
  have hxa := (hm.l.el x hxm).frm K
  refine jO (jN (jv6 1 3 5 44 45 46 ?_))
  refine jS (jR (jf rfl zae rfl zp (jf rfl zw rfl zap (jl rfl zbd (hb5.cell 3) (je (Run.mkFunc evs.nil (evs.cons rfl evs.nil)) ?_)))))
  refine Ops.cl (jE2 Tryz.call69) (vV 70 [.pointer (some ⟨g1, 0, none⟩)] (fun y => decide ((nb : Int) < (y.blob : Int))) x.A x.c x.l _ hxa.rd (by have := hxa.n; omega) [] ⟨Tryz.call70, fun W y hW hy => vK y g1 nb m W (hb1.frm hW jp) hnb jo⟩) rfl ?_
  rintro e w9 ⟨rfl, hf9⟩
  refine ⟨_, rfl, ?_⟩
  have K := K.trans hf9 jp
  have hb1 := hb1.frm hf9 jp
  have hmp8 := hmp8.frm hf9 jp
  refine jO (jN (jv6 1 3 44 45 46 77 ?_))
  refine VC.condB rfl (fun hc4 => ?_) (fun hc4 => ?_)
  ·
   have hbad : ¬ bZ m.p := fun h => by
    have := (hMi.1 h).2 i hc2
    rw [hx] at this
    obtain ⟨y, hy, hpy⟩ := of_decide_eq_true hc4
    have := (hBC.1 this).2 y hy
    simp only [decide_eq_true_eq] at hpy
    omega
   refine jS (jR (ja rfl (jO (jN (jv1 2 ?_)))))
   refine jT ?_
   refine qP (qZ (qZ (qP (qZ (qF rfl ?_)))))
   exact ⟨by rw [decide_eq_false hbad], K⟩
  refine jQ ?_
  refine qN (jN ?_)
  refine jv5 1 3 44 45 46 ?_
  refine jR (jb rfl rfl (Bin.add_i64 _ 1 jo) (jm rfl (jO ?_)))
  refine jN ⟨(i + 1), (js5 rfl rfl rfl rfl rfl), ?_, ?_⟩
  ·
   refine ⟨hc2, hb1, hmp8, fun j hj h => ?_, K⟩
   by_cases e : j = i
   ·
    subst e
    rw [hx]
    refine hBC.2 ⟨hc3, fun y hy => ?_⟩
    rcases Int.lt_or_le m.b (y.m.blob : Int) with h2 | h2
    · exact absurd ⟨y, hy, decide_eq_true jo⟩ (of_decide_eq_false hc4)
    exact h2
   exact hd j hj jo
  first | omega | (dsimp only; omega)
 refine jX ?_
 refine qK (qK (qS ?_))
 refine jN ?_
 refine VC.sub [] .nil ?_
 refine jS (jR (ja rfl (jO (jN (jT ?_)))))
 refine qF rfl ?_
 exact ⟨by rw [decide_eq_true (hMi.2 ⟨hc1, fun j hj => hd j hj jo⟩)], K⟩
end
section
open Go.RowKit Go.Sort
theorem OwM.set {w w' : World} {A : Option Addr} {d i : Nat} {l : List Mc} {x : Mc} (h : OwM w A d l) (ho : Own w' 60 6 A l.length d (MC (l.set i x))) (k : Frm (ob A) w w') (hx : Own w 9 1 x.A x.m.flags.length x.c (SB x.m.flags)) (hf : x.m.flags.length ≤ 500000 ∧ ∀ q ∈ x.m.flags, q.length ≤ 1000000) : OwM w' A d (l.set i x) := by
 refine ⟨by rw [zcl]; exact ho, fun y hy => ?_, fun y hy => ?_⟩
 ·
  rcases zes hy with h1 | h1
  · exact (h.fl y h1).frm k ((h.fl y h1).ne_own h.own jd)
  subst h1; exact hx.frm k (hx.ne_own h.own jd)
 rcases zes hy with h1 | h1
 · exact h.fit y h1
 subst h1; exact hf
end
section
open Go.RowKit Go.Sort
def qQ7 (w : World) (f : FuncId) (us : List Value) (n : Nat) (q : Nat → Bool) : Prop :=
 (∀ args w, (callFunc f args).run Tryz.prog w = .ok (.enter f args) w) ∧ ∀ W (i : Nat), Frm [] w W → i < n → Calls Tryz.prog f (Value.int .i64 ((i : Nat) : Int) :: us).toArray W fun e w' => e = .returned (.bool (q i)) ∧ Frm [] W w'
theorem sS (f : FuncId) (us : List Value) (n : Nat) (q : Nat → Bool) (w : World) (hn : n ≤ 1000000) (hp : qQ7 w f us n q) (hq : ∀ i j, i ≤ j → j < n → q i = true → q j = true) :
  Calls Tryz.prog 102 #[.int .i64 ((n : Nat) : Int), .func (.func f) #[] us.toArray] w fun e w' => Frm [] w w' ∧ ∃ k : Nat, e = .returned (.int .i64 ((k : Nat) : Int)) ∧ k ≤ n ∧ (∀ j, j < k → q j = false) ∧ ∀ j, k ≤ j → j < n → q j = true := by
 refine VC.calls (nt := 26) (res := #[.tmp 4]) Tryz.func102 rfl Tryz.ntmps102 Tryz.results102 rfl ?_
 refine jS (jR (jz 0 (jO (jN (jv2 0 1 ?_)))))
 refine jS (jR (jm rfl (jz 0 (ja rfl (jO (jN (jv3 1 5 6 ?_)))))))
 refine jS (jB ?_)
 refine VC.loop (σ := Nat × Nat) (fun s => [(1, .func (.func f) #[] us.toArray), (5, .int .i64 ((s.1 : Nat) : Int)), (6, .int .i64 ((s.2 : Nat) : Int))]) (fun s wr => s.1 ≤ s.2 ∧ s.2 ≤ n ∧ (∀ j, j < s.1 → q j = false) ∧ (∀ j, s.2 ≤ j → j < n → q j = true) ∧ Frm [] w wr) (fun s => s.2 - s.1) (0, n) (js3 rfl rfl rfl) ⟨by dsimp only; omega, by dsimp only; omega, jp, fun j h1 h2 => by dsimp only at h1; omega, Frm.refl _ _⟩ ?_
 rintro ⟨i, j⟩ wr ⟨hij, hjn, h1, h2, hfr⟩
 dsimp only at hij hjn h1 h2 ⊢
 refine jS (jS (jR (jm rfl (jm rfl (jb rfl rfl (Bin.lssN _ _) (jO (jN (jv4 1 5 6 11 ?_))))))))
 refine jD rfl (fun hc1 => ?_) fun hc1 => ?_
 ·
  refine jQ (jN (jv3 1 5 6 ?_))
  refine jB (jS (jR (jm rfl (jm rfl (jb rfl rfl (Bin.add_i64 _ _ jo) (je (Run.convN _ rfl zad zce (by simp only [bmax]; omega)) ?_))))))
  have hh : (i + j) / 2 ^ 1 = (i + j) / 2 := rfl
  have hmid : i ≤ (i + j) / 2 := jo
  refine jb rfl rfl (Bin.shr_u64 _ 1 jo) (je (Run.convN _ rfl zce zad (by simp only [bmax]; omega)) (ja rfl (jO (jN (jv4 1 5 6 7 ?_)))))
  refine jS (jR (jm rfl (jM ?_)))
  refine Ops.cl (bH.dyn rfl (evs.cons rfl evs.nil) hp.1) (hp.2 _ ((i + j) / 2) hfr jo) rfl ?_
  rintro e w2 ⟨rfl, hf2⟩
  refine ⟨_, rfl, ?_⟩
  have hfr2 := hfr.trans hf2 jp
  refine je (Run.not rfl) (jO (jN (jv5 1 5 6 7 21 ?_)))
  refine VC.condB rfl (fun hc2 => ?_) (fun hc2 => ?_)
  ·
   refine jR (jm rfl (jb rfl rfl (Bin.add_i64 _ 1 jo) (ja rfl (jO ?_))))
   refine qN (jN ⟨((i + j) / 2 + 1, j), (js3 rfl rfl rfl), ?_, ?_⟩)
   ·
    have hqf : q ((i + j) / 2) = false := by simpa using hc2
    refine ⟨by dsimp only; omega, hjn, fun k hk => ?_, h2, hfr2⟩
    cases hqk : q k with
    | false => rfl
    | true =>
     have := hq k ((i + j) / 2) (by dsimp only at hk; omega) jo hqk
     rw [hqf] at this; cases this
   first | omega | (dsimp only; omega)
  refine jR (jm rfl (ja rfl (jO ?_)))
  refine qN (jN ⟨(i, (i + j) / 2), (js3 rfl rfl rfl), ?_, ?_⟩)
  ·
   have hqt : q ((i + j) / 2) = true := by simpa using hc2
   exact ⟨by dsimp only; omega, by dsimp only; omega, h1, fun k hk1 hk2 => hq _ k hk1 hk2 hqt, hfr2⟩
  first | omega | (dsimp only; omega)
 refine jX ?_
 refine qK (qK (qS ?_))
 refine jN (jv1 5 ?_)
 refine jS (jR (jm rfl (ja rfl (jO (jN (jv1 4 ?_))))))
 refine jT ?_
 refine qF rfl ?_
 have hij2 : i = j := jo
 subst hij2
 exact ⟨hfr, i, rfl, hjn, h1, h2⟩
end
section
open Go.RowKit Go.Sort
theorem cS (m : MlC) {i : Nat} (h : i < m.l.length) (h2 : i < m.p.l.length) : m.p.l[i] = (m.l[i]).p := zbo _
theorem cA (m : MlC) : m.p.l.length = m.l.length := bD m.l
theorem sU (i g1 g2 : Nat) (t : Tx) (m : MlC) (w : World) (hi : i < m.l.length) (hb1 : Blk w g1 25 #[.slice m.A m.l.length m.c, .slice m.S m.ss.length m.d, .int .i64 m.v, .int .i64 m.b]) (hb2 : Blk w g2 9 #[encStr t]) (hl : RdN w m.A m.l) :
  Calls Tryz.prog 103 #[.int .i64 ((i : Nat) : Int), .pointer (some ⟨g1, 0, none⟩), .pointer (some ⟨g2, 0, none⟩)] w fun e w' => e = .returned (.bool (!decide ((m.l[i]).nm < t))) ∧ Frm [] w w' := by
 have hd := qV.drew w
 have hb1 := hb1.drawn hd
 have hb2 := hb2.drawn hd
 obtain ⟨ad, hA, hel⟩ := (hl.frm hd.frm).elem hi
 generalize hx : m.l[i] = x at *
 refine VC.calls (nt := 13) (res := #[.tmp 4]) Tryz.func103 rfl Tryz.ntmps103 Tryz.results103 rfl ?_
 refine jS (jR (ja rfl (jO (jN (jv3 0 1 2 ?_)))))
 refine jS ?_
 refine VC.still jK jK ?_
 refine qE (Run.fieldAddr rfl zg rfl zab jd) ?_
 refine qE (Run.load rfl zan (hb1.cell 0)) ?_
 refine qM ?_
 refine qE (Run.indexS i (show _ = some (Value.slice (some ad) m.l.length m.c) by rw [← hA]; rfl) rfl zf zn hi) ?_
 refine qE (Run.fieldAddr rfl zae rfl zx jd) ?_
 refine qE (Run.load rfl zac (hel 0 (encStr x.nm) rfl)) ?_
 refine qE (Run.load rfl zac (hb2.cell 0)) ?_
 refine qE (Run.geqT rfl rfl) ?_
 refine qA ?_
 refine bJ.nil ?_
 refine jN (jv1 4 ?_)
 refine jT ?_
 refine qF rfl ?_
 exact ⟨rfl, hd.frm⟩
theorem cQ (m : MlC) (s : Tx) (w : World) (hl : RdN w m.A m.l) (hln : m.l.length ≤ 1000000) (hs : s.length ≤ 1000000) (hr : bK m.p.l) (hv : cZ w) :
  Calls Tryz.prog 46 #[m.val, encStr s] w fun e w' => ∃ k : Nat, e = .returned (.tuple #[.int .i64 ((k : Nat) : Int), .bool (decide (qJ s ∈ qD m.p))]) ∧ eX m.p.l (qJ s) k ∧ Frm [] w w' := by
 have hpl := cA m
 refine VC.calls (nt := 30) (res := #[.tmp 4, .tmp 5]) Tryz.func46 rfl Tryz.ntmps46 Tryz.results46 rfl ?_
 refine jS (jR ?_)
 refine Ops.m (qH.box rfl) rfl ?_
 rintro _ w1 ⟨rfl, hF_w1⟩
 have hb1 : Blk w1 w.heap.size 25 #[.slice m.A m.l.length m.c, .slice m.S m.ss.length m.d, .int .i64 m.v, .int .i64 m.b] := hF_w1.blk
 have K := hF_w1.frm
 generalize hg1 : w.heap.size = g1 at hb1 ⊢
 refine Ops.m (qH.box rfl) rfl ?_
 rintro _ w2 ⟨rfl, hF2⟩
 have hb2 : Blk w2 w1.heap.size 9 #[encStr s] := hF2.blk
 have hb1 := hb1.frm hF2.frm jp
 have hg2 : w.heap.size ≤ w1.heap.size := K.size
 have hlt := hb1.lt
 have hne : g1 ≠ w1.heap.size := fun e => by have h1 := hF_w1.size; omega
 have K := K.trans hF2.frm jp
 generalize hgg2 : w1.heap.size = g2 at hb2 hg2 hne ⊢
 refine jz 0 (ja rfl (jO (jN (jv2 2 3 ?_))))
 refine jS (jR (jl rfl zac (hb2.cell 0) ?_))
 refine Ops.cl (jE1 zbx) (bS s _ hs (hv.frm K)) rfl ?_
 rintro e w3 ⟨rfl, hf3⟩
 refine ⟨_, rfl, ?_⟩
 have K := K.trans hf3 jp
 have hb1 := hb1.frm hf3 jp
 have hb2 := hb2.frm hf3 jp
 refine Ops.st (qW.store rfl rfl zx hb2 rfl rfl) ?_
 rintro w4 ⟨hb2, hf4, hs4⟩
 have hb2 : Blk w4 g2 9 #[encStr (qJ s)] := hb2
 have K := K.own hf4 (fun y hy => by rw [za] at hy; omega)
 have hb1 := hb1.frm hf4 (fun h => hne (za.1 h))
 generalize htt : qJ s = t at *
 have hTI : qQ7 w4 103 [.pointer (some ⟨g1, 0, none⟩), .pointer (some ⟨g2, 0, none⟩)] m.l.length (fun i => if h : i < m.l.length then !decide ((m.l[i]).nm < t) else true) := ⟨Tryz.call103, fun W i hW hi => by
  have h := sU i g1 g2 t m W hi (hb1.frm hW jp) (hb2.frm hW jp) (hl.frm (K.trans hW jp))
  simpa [hi] using h⟩
 have hmo : ∀ i j, i ≤ j → j < m.l.length → (fun i => if h : i < m.l.length then !decide ((m.l[i]).nm < t) else true) i = true → (fun i => if h : i < m.l.length then !decide ((m.l[i]).nm < t) else true) j = true := fun i j hij hj hi => by
  have hi' : i < m.l.length := jo
  simp only [hi', hj, dif_pos, zcv, decide_eq_false_iff_not] at hi ⊢
  by_cases e : i = j
  · subst e; exact hi
  intro h2
  have h3 := dE hr (i := i) (j := j) jo jo jo
  rw [cS m hi' jo, cS m hj jo] at h3
  exact hi (dW h3 h2)
 refine jO (jN (jv2 2 3 ?_))
 refine jS (jR (jf rfl zg rfl zab (jl rfl zan (hb1.cell 0) (je (Run.lenS rfl zf) (je (Run.mkFunc evs.nil (evs.cons rfl (evs.cons rfl evs.nil))) ?_)))))
 refine Ops.cl (jE2 Tryz.call102) (sS 103 [.pointer (some ⟨g1, 0, none⟩), .pointer (some ⟨g2, 0, none⟩)] m.l.length _ _ hln hTI hmo) rfl ?_
 rintro e w5 ⟨hf5, k, rfl, hk, h1, h2⟩
 refine ⟨_, rfl, ?_⟩
 have K0 := K.trans hf5 jp
 have hd := qV.drew w5
 have hb1 := (hb1.frm hf5 jp).drawn hd
 have hb2 := (hb2.frm hf5 jp).drawn hd
 have K := K0.drawn hd
 have hpos : eX m.p.l t k := ⟨jo, fun j hj hjk => by
  have h3 := h1 j hjk
  have hj' : j < m.l.length := jo
  simp only [hj', dif_pos, Bool.not_eq_false', decide_eq_true_eq] at h3
  rw [cS m hj' hj]; exact h3, fun j hj hkj => by
  have hj' : j < m.l.length := jo
  have h3 := h2 j hkj hj'
  simp only [hj', dif_pos, zcv, decide_eq_false_iff_not] at h3
  rw [cS m hj' hj]; exact h3⟩
 have hth := gM hr hpos
 refine ja rfl (jO (jN (jv3 2 3 6 ?_)))
 refine jS ?_
 refine VC.splitR [(4, .int .i64 ((k : Nat) : Int))] (qV w5) 5 (.bool (decide (t ∈ qD m.p))) ?_ ?_
 ·
  refine VC.still jK jK ?_
  refine qM ?_
  refine qM ?_
  refine qE (Run.fieldAddr rfl zg rfl zab jd) ?_
  refine qE (Run.load rfl zan (hb1.cell 0)) ?_
  refine qE (Run.lenS rfl zf) ?_
  refine qE (Run.bin rfl rfl (Bin.lssN _ _)) ?_
  by_cases hs19 : k < m.l.length
  ·
   obtain ⟨ad, hA, hel⟩ := (hl.frm K).elem hs19
   refine qM ?_
   refine qG (Run.fieldAddr rfl zg rfl zab jd) ?_
   refine qG (Run.load rfl zan (hb1.cell 0)) ?_
   refine qG (Run.mv rfl) ?_
   refine qG (Run.indexS k (show _ = some (Value.slice (some ad) m.l.length m.c) by rw [← hA]; rfl) rfl zf zn hs19) ?_
   refine qG (Run.fieldAddr rfl zae rfl zx jd) ?_
   refine qG (Run.load rfl zac (hel 0 (encStr (m.l[k]).nm) rfl)) ?_
   refine qG (Run.load rfl zac (hb2.cell 0)) ?_
   refine qG (Run.eqlT rfl rfl) ?_
   by_cases hs28 : (m.l[k]).nm = t
   ·
    refine qE (Run.pickT rfl rfl au) ?_
    refine qA ?_
    refine qA ?_
    refine bJ.nil ?_
    refine jN ⟨(js2 (jC (by first | (rw [decide_eq_true hs28]; exact (decide_eq_true (hth.1 ⟨jo, by rw [cS m hs19 jo]; exact hs28⟩)).symm) | (rw [decide_eq_false hs28]; exact (decide_eq_false (fun h => by obtain ⟨h3, h4⟩ := hth.2 h; rw [cS m hs19 h3] at h4; exact hs28 h4)).symm) | exact (decide_eq_false (fun h => by obtain ⟨h3, h4⟩ := hth.2 h; omega)).symm)) rfl), (qV.drew _)⟩
   refine qE (Run.pickT rfl rfl au) ?_
   refine qA ?_
   refine qA ?_
   refine bJ.nil ?_
   refine jN ⟨(js2 (jC (by first | (rw [decide_eq_true hs28]; exact (decide_eq_true (hth.1 ⟨jo, by rw [cS m hs19 jo]; exact hs28⟩)).symm) | (rw [decide_eq_false hs28]; exact (decide_eq_false (fun h => by obtain ⟨h3, h4⟩ := hth.2 h; rw [cS m hs19 h3] at h4; exact hs28 h4)).symm) | exact (decide_eq_false (fun h => by obtain ⟨h3, h4⟩ := hth.2 h; omega)).symm)) rfl), (qV.drew _)⟩
  refine qM ?_
  refine qU ?_
  refine qU ?_
  refine qU ?_
  refine qU ?_
  refine qU ?_
  refine qU ?_
  refine qU ?_
  refine qU ?_
  refine qE (Run.pickF rfl rfl au) ?_
  refine qA ?_
  refine qA ?_
  refine bJ.nil ?_
  refine jN ⟨(js2 (jC (by first | (rw [decide_eq_true hs28]; exact (decide_eq_true (hth.1 ⟨jo, by rw [cS m hs19 jo]; exact hs28⟩)).symm) | (rw [decide_eq_false hs28]; exact (decide_eq_false (fun h => by obtain ⟨h3, h4⟩ := hth.2 h; rw [cS m hs19 h3] at h4; exact hs28 h4)).symm) | exact (decide_eq_false (fun h => by obtain ⟨h3, h4⟩ := hth.2 h; omega)).symm)) rfl), (qV.drew _)⟩
 intro Γ w6 hΓ hd6
 refine jN (VC.sub _ hΓ ?_)
 refine jT ?_
 refine dQ rfl rfl ?_
 exact ⟨k, rfl, hpos, (K0.trans (by exact hd6.frm) jp)⟩
end
section
open Go.RowKit Go.Sort
theorem qXt (l : List Mc) (k : Nat) (hk : k < l.length) (C : Option Addr) (dC : Nat) (r : List Tx) : (MC l).set (k * 6 + 5) (.slice C r.length dC) = MC (l.set k ⟨{ (l[k]).m with flags := r }, C, dC⟩) := by
 apply zbz
 intro j
 have hidx := fun l' => fI Mc.cells 6 jo Mc.cells_len l' j
 have hlen := nI l
 rw [show MC (l.set k ⟨{ (l[k]).m with flags := r }, C, dC⟩) = (l.set k ⟨{ (l[k]).m with flags := r }, C, dC⟩).flatMap Mc.cells from rfl, hidx, zfb, zfb]
 have hdm : j = j / 6 * 6 + j % 6 := jo
 by_cases h2 : k * 6 + 5 = j
 ·
  have h1 : k = j / 6 := jo
  rw [if_pos h2, if_pos (by rw [hlen]; omega), if_pos h1, if_pos hk]
  have : j % 6 = 5 := jo
  rw [this]
  rfl
 rw [if_neg h2, show MC l = l.flatMap Mc.cells from rfl, hidx]
 by_cases h1 : k = j / 6
 ·
  rw [if_pos h1, if_pos hk, ← h1, ze hk]
  have : j % 6 = 0 ∨ j % 6 = 1 ∨ j % 6 = 2 ∨ j % 6 = 3 ∨ j % 6 = 4 := jo
  rcases this with h | h | h | h | h <;> rw [h] <;> rfl
 rw [if_neg h1]
theorem qZe (l : List Mc) (k : Nat) (x : Mc) : Ms (l.set k x) = (Ms l).set k x.m := by simp [Ms, zet]
theorem nG (v : Int) (w : World) : Calls Tryz.prog 82 #[.int .i64 v] w fun e w' => Frm [] w w' ∧ ((bE ⟨v, 1, []⟩ ∧ e = .returned (.tuple #[.agg #[.int .i64 v, .int .i64 1, .slice none 0 0], .int .i64 0])) ∨ (¬ bE ⟨v, 1, []⟩ ∧ e = .returned (.tuple #[.agg #[.int .i64 0, .int .i64 0, .slice none 0 0], .int .i64 1]))) := by
 refine VC.calls (nt := 12) (res := #[.cell 2 43, .tmp 3]) Tryz.func82 rfl Tryz.ntmps82 Tryz.results82 rfl ?_
 refine jS (jR ?_)
 refine Ops.m (qH.alloc cP) rfl ?_
 rintro _ w1 ⟨rfl, hF2⟩
 have hb2 := hF2.blk
 have hf2 := hF2.frm
 have hs2 : w.heap.size ≤ w.heap.size := zv _
 generalize hg2 : w.heap.size = g2 at hb2 ⊢
 refine jz 0 (jO (jN (jv2 0 2 ?_)))
 refine jS (jR (jm rfl (je (Run.build (evs.cons rfl (evs.cons rfl evs.nil)) cP (dU).choose_spec.1 (dU).choose_spec.2 rfl) ?_)))
 refine Ops.m (qH.alloc cP) rfl ?_
 rintro _ w2 ⟨rfl, hF4⟩
 have hb4 := hF4.blk
 have hb2 := hb2.frm hF4.frm jp
 have hf4 := hf2.trans hF4.frm jp
 have hs4 : w.heap.size ≤ w1.heap.size := hf2.size
 generalize hg4 : w1.heap.size = g4 at hb4 hs4 ⊢
 have hn24 : g2 < g4 := by rw [← hg4, ← hg2]; have := hF2.size; omega
 refine Ops.st (qW.storeA rfl rfl zp hb4 rfl (cW v 1 none 0 0)) ?_
 rintro w3 ⟨hb43, hf3, hs3⟩
 have hb23 := hb2.frm hf3 (by simp; omega)
 have hfr3 := hf4.own hf3 (fun y hy => by simp at hy; omega)
 refine jO (jN (jv2 2 4 ?_))
 refine jS (jS (jR (je (Run.loadA rfl zat zp (fun j v hj => hb43.cells j v hj) (by first | rfl | (simp; done))) ?_)))
 refine Ops.cl (jE1 Tryz.call68) (rV v 1 none 0 [] _ (RdM.nil _ _)) rfl ?_
 rintro e w4 ⟨rfl, hf5⟩
 refine ⟨_, rfl, ?_⟩
 have hfr5 := hfr3.trans hf5 jp
 have hb25 := hb23.frm hf5 jp
 have hb45 := hb43.frm hf5 jp
 refine je (Run.not rfl) (jO (jN (jv3 2 4 9 ?_)))
 refine VC.condB rfl (fun hc1 => ?_) (fun hc1 => ?_)
 ·
  have hm : ¬ bE ⟨v, 1, []⟩ := by simpa [Ms] using hc1
  refine jS (jR (je (Run.build evs.nil cP (dU).choose_spec.1 (dU).choose_spec.2 rfl) ?_))
  refine Ops.st (qW.storeA rfl rfl zp hb25 rfl (cW 0 0 none 0 0)) ?_
  rintro w6 ⟨hbz, hfz, hsz⟩
  refine jz 1 (jO (jN (jv2 2 3 ?_)))
  refine jT ?_
  refine qZ (bM ?_)
  refine qC rfl zat zp (fun j v hj => hbz.cells j v hj) (by first | rfl | (simp; done)) ?_
  refine qL rfl ?_
  refine qI ?_
  exact ⟨hfr5.own hfz (fun y hy => by simp at hy; omega), .inr ⟨hm, rfl⟩⟩
 have hm : bE ⟨v, 1, []⟩ := by simpa [Ms] using hc1
 refine jQ (jN (jv2 2 4 ?_))
 refine jS (jR (je (Run.loadA rfl zat zp (fun j v hj => hb45.cells j v hj) (by first | rfl | (simp; done))) ?_))
 refine Ops.st (qW.storeA rfl rfl zp hb25 rfl (cW v 1 none 0 0)) ?_
 rintro w6 ⟨hbz, hfz, hsz⟩
 refine jz 0 (jO (jN (jv2 2 3 ?_)))
 refine jT ?_
 refine bM ?_
 refine qC rfl zat zp (fun j v hj => hbz.cells j v hj) (by first | rfl | (simp; done)) ?_
 refine qL rfl ?_
 refine qI ?_
 exact ⟨hfr5.own hfz (fun y hy => by simp at hy; omega), .inl ⟨hm, rfl⟩⟩
end
section
open Go.RowKit
section
variable {P : Program} {w : World} {g : Nat} {e : TypeId} {Γ : Env} {dst : Option Tmp} {T : TypeId} {pos : String} {after : Array Edge} {gd : Option (Nat × Bool)}
theorem qW.storeSub {t : TypeId} {size N cap o : Nat} {x y : Operand} {xs : List Value} {vs : Array Value} (hx : ev? Γ x = some (.pointer (some ⟨g, o, none⟩))) (hy : ev? Γ y = some (.agg vs))
  (hz : ∀ w, (sizeOf t).run P w = .ok vs.size w) (ho : Own w e size (some ⟨g, 0, none⟩) N cap xs) (hle : o + vs.size ≤ xs.length) (h1 : ∀ v ∈ vs.toList, v.oneCell' = true) :
  qW P ⟨dst, .store t x y, T, pos, after, gd⟩ Γ w (fun w' => Own w' e size (some ⟨g, 0, none⟩) N cap (xs.take o ++ vs.toList ++ xs.drop (o + vs.size)) ∧ Frm [g] w w' ∧ w'.heap.size = w.heap.size) := fun ρ hρ => by
 obtain ⟨h2, h3, h4, h5⟩ := ho.write (P := P) (o := o) (ys := vs.toList) (by rw [zbk]; exact hle) h1
 rw [zbk] at h3
 refine ⟨w.setCells g o vs.toList, ?_, h3, h4, h5⟩
 simp only [execOp, Instr.storeAt, Instr.sureAddr, storeVar, hρ _ _ hx, hρ _ _ hy, Value.cells, Sem.run_bind, Sem.run_pure, Result.andThen_ok, hz, ne_eq, not_true_eq_false, if_false, Sem.run_ite, h2]
theorem qZz (g o n : Nat) : (⟨g, o, none⟩ : Addr).add n = ⟨g, o + n, none⟩ := by unfold Addr.add; split <;> simp_all
theorem qW.storeSubF {t : TypeId} {size N cap o j : Nat} {x y : Operand} {xs : List Value} {vs : Array Value} (hx : ev? Γ x = some (.pointer (some (((⟨g, 0, none⟩ : Addr).add o).add j)))) (hy : ev? Γ y = some (.agg vs))
  (hz : ∀ w, (sizeOf t).run P w = .ok vs.size w) (ho : Own w e size (some ⟨g, 0, none⟩) N cap xs) (hle : o + j + vs.size ≤ xs.length) (h1 : ∀ v ∈ vs.toList, v.oneCell' = true) :
  qW P ⟨dst, .store t x y, T, pos, after, gd⟩ Γ w (fun w' => Own w' e size (some ⟨g, 0, none⟩) N cap (xs.take (o + j) ++ vs.toList ++ xs.drop (o + j + vs.size)) ∧ Frm [g] w w' ∧ w'.heap.size = w.heap.size) := qW.storeSub (by rw [hx, hX, qZz]) hy hz ho hle h1
end
end
section
open Go.RowKit Go.Sort
abbrev MlC.wl (m : MlC) (A : Option Addr) (c : Nat) (l : List Nc) : MlC := { m with A := A, c := c, l := l }
theorem qXu (l : List Nc) (i : Nat) (hi : i < l.length) (v n : Int) (B : Option Addr) (cb : Nat) (lm : List Mc) :
  (NDC l).take (i * 4 + 1) ++ BVc v n B lm.length cb ++ (NDC l).drop (i * 4 + 1 + 3) = NDC (l.set i ⟨(l[i]).nm, v, n, B, cb, lm⟩) := by
 have e1 : l = l.take i ++ l[i] :: l.drop (i + 1) := by
  have h2 := (zbf i l).symm
  rw [zaz hi] at h2
  exact h2
 have hx : NDC l = NDC (l.take i) ++ ((l[i]).cells ++ NDC (l.drop (i + 1))) := by
  conv => lhs; rw [e1]
  rw [cM]
  rfl
 have hl : (NDC (l.take i)).length = i * 4 := by rw [dZ, zk, zal jo]
 have e2 : (NDC l).take (i * 4 + 1) = NDC (l.take i) ++ [encStr (l[i]).nm] := by
  rw [hx, List.take_append, zt jo, hl, show i * 4 + 1 - i * 4 = 1 by omega]
  rfl
 have e3 : (NDC l).drop (i * 4 + 1 + 3) = NDC (l.drop (i + 1)) := by
  rw [show i * 4 + 1 + 3 = (i + 1) * 4 by omega, nW l (i + 1) jo]
 rw [e2, e3, zdv, if_pos hi, cM, show ∀ (x : Nc) (r : List Nc), NDC (x :: r) = x.cells ++ NDC r from fun _ _ => rfl]
 simp [BVc, Nc.cells]
theorem rN {w : World} {l : List Nc} {i : Nat} {x : Nc} (h : ∀ y ∈ l, y.At w) (hx : x.At w) : ∀ y ∈ l.set i x, y.At w := by
 intro y hy
 rcases zes hy with h1 | h1
 · exact h y h1
 rw [h1]; exact hx
theorem MlC.wl_val (m : MlC) (A : Option Addr) (c : Nat) (l : List Nc) {k : Nat} (h : l.length = k) : (m.wl A c l).val = .agg #[.slice A k c, .slice m.S m.ss.length m.d, .int .i64 m.v, .int .i64 m.b] := by
 subst h; rfl
def bA (w w' : World) (S : List Nat) (m m' : MlC) : Prop := (∀ y ∈ S, w.heap.size ≤ y) ∧ ∀ w'' T, Frm T w' w'' → (∀ y ∈ T, y ∉ S) → RdL w'' m → RdL w'' m'
theorem bA.refl (w : World) (m : MlC) : bA w w [] m m := ⟨jp, fun _ _ _ _ h => h⟩
theorem bA.zero (w w' : World) (m : MlC) : bA w w' [] m qR := ⟨jp, fun _ _ _ _ _ => RdL.zero _⟩
theorem bA.now {w w' : World} {S : List Nat} {m m' : MlC} (h : bA w w' S m m') (hm : RdL w' m) : RdL w' m' := h.2 w' [] (Frm.refl _ _) jp hm
theorem bA.frm {w w' w1 : World} {S T : List Nat} {m m' : MlC} (h : bA w w' S m m') (k : Frm T w' w1) (hT : ∀ y ∈ T, y ∉ S) : bA w w1 S m m' :=
 ⟨h.1, fun w'' T2 k2 h2 hm => h.2 w'' (T ++ T2) ((k.mono (fun y hy => .inl (zdf _ hy))).trans k2 (fun y hy => .inl (zco _ hy))) (fun y hy => by rcases List.mem_append.1 hy with h3 | h3; exact hT y h3; exact h2 y h3) hm⟩
theorem bA.trans {w w1 w2 : World} {S S2 : List Nat} {m m1 m2 : MlC} (h : bA w w1 S m m1) (h2 : bA w1 w2 S2 m1 m2) (k : Frm [] w1 w2) (hs : w.heap.size ≤ w1.heap.size) : bA w w2 (S ++ S2) m m2 :=
 ⟨fun y hy => by rcases List.mem_append.1 hy with h3 | h3; exact h.1 y h3; exact zay hs (h2.1 y h3), fun w'' T kT hT hm => h2.2 w'' T kT (fun y hy h3 => hT y hy (zco _ h3)) (h.2 w'' T ((k.mono jp).trans kT (fun y hy => .inl hy)) (fun y hy h3 => hT y hy (zdf _ h3)) hm)⟩
theorem bA.old {w0 w w' : World} {S : List Nat} {m m' : MlC} (h : bA w w' S m m') (hs : w0.heap.size ≤ w.heap.size) : bA w0 w' S m m' := ⟨fun y hy => zay hs (h.1 y hy), h.2⟩
def bI (w w' : World) (m : MlC) (F : Except Nat MailP) (m' : MlC) (k : Nat) : Prop := (∃ S, bA w w' S m m') ∧ ((k = 0 ∧ F = .ok m'.p) ∨ (k ≠ 0 ∧ F = .error k ∧ m' = qR))
theorem bI.err {w w' : World} {m : MlC} {F : Except Nat MailP} {k : Nat} (hk : k ≠ 0) (h : F = .error k) : bI w w' m F qR k := ⟨⟨[], bA.zero _ _ _⟩, .inr ⟨hk, h, rfl⟩⟩
theorem MlC.wl_p (m : MlC) (A : Option Addr) (c : Nat) (l : List Nc) : (m.wl A c l).p = { m.p with l := Ns l } := rfl
set_option maxHeartbeats 1000000 in
theorem oO (m : MlC) (i : Nat) (v n : Int) (B : Option Addr) (cb : Nat) (lm : List Mc) (w : World) (hm : RdL w m) (hi : i < m.l.length) (hb : RdM w B lm) (hbn : lm.length ≤ 900000) :
  Calls Tryz.prog 86 #[m.val, .int .i64 ((i : Nat) : Int), .agg (BVc v n B lm.length cb).toArray] w fun e w' => ∃ A' c', e = .returned (m.wl A' c' (m.l.set i ⟨(m.l[i]).nm, v, n, B, cb, lm⟩)).val ∧ Own w' 45 4 A' m.l.length c' (NDC (m.l.set i ⟨(m.l[i]).nm, v, n, B, cb, lm⟩)) ∧ (∀ b ∈ ob A', w.heap.size ≤ b) ∧ Frm [] w w' := by
 have hln := hm.ln
 have hcl := dZ m.l
 refine VC.calls (nt := 18) (res := #[.cell 6 25]) Tryz.func86 rfl Tryz.ntmps86 Tryz.results86 rfl ?_
 refine jS (jR ?_)
 refine Ops.m (qH.box rfl) rfl ?_
 rintro _ w1 ⟨rfl, hF_w1⟩
 have hb1 : Blk w1 w.heap.size 25 #[.slice m.A m.l.length m.c, .slice m.S m.ss.length m.d, .int .i64 m.v, .int .i64 m.b] := hF_w1.blk
 have K := hF_w1.frm
 generalize hg1 : w.heap.size = g1 at hb1 ⊢
 refine Ops.m (qH.box rfl) rfl ?_
 rintro _ w2 ⟨rfl, hF2⟩
 have hb5 : Blk w2 w1.heap.size 43 #[.int .i64 v, .int .i64 n, .slice B lm.length cb] := hF2.blk
 have hb1 := hb1.frm hF2.frm jp
 have hlt := hb1.lt
 have K := K.trans hF2.frm jp
 generalize hg5 : w1.heap.size = g5 at hb5 ⊢
 refine Ops.m (qH.alloc bQ) rfl ?_
 rintro _ w3 ⟨rfl, hF3⟩
 have hb6 := hF3.blk
 have hg6 : w.heap.size ≤ w2.heap.size := K.size
 have hb1 := hb1.frm hF3.frm jp
 have hb5 := hb5.frm hF3.frm jp
 have hl1 := hb1.lt
 have hl5 := hb5.lt
 have hl6 := hb6.lt
 have K := K.trans hF3.frm jp
 have hne16 : g1 ≠ w2.heap.size := by have := hF_w1.size; omega
 have hne56 : g5 ≠ w2.heap.size := by have := hF2.size; omega
 have hg1s : w.heap.size ≤ g1 := jo
 generalize hg6' : w2.heap.size = g6 at hb6 hg6 hne16 hne56 hl6 ⊢
 refine jO (jN (jv4 1 3 5 6 ?_))
 refine jS (jR (jf rfl zg rfl zab (jl rfl zan (hb1.cell 0) ?_)))
 refine Ops.cl (jE1 Tryz.call59) (gC m.A m.c m.l _ (hm.l.frm K) hln) rfl ?_
 rintro e w4 ⟨B4, d4, rfl, ho4, hob4, hf4⟩
 refine ⟨_, rfl, ?_⟩
 obtain ⟨gn, rfl⟩ : ∃ gn, B4 = some ⟨gn, 0, none⟩ := by
  rcases ho4.own.cases with ⟨_, h0, _⟩ | ⟨g, _, h0, _⟩
  · omega
  exact ⟨g, h0⟩
 have hgn : w3.heap.size ≤ gn := hob4 gn (by simp [ob])
 have hb1 := hb1.frm hf4 jp
 have hb5 := hb5.frm hf4 jp
 have hb6 := hb6.frm hf4 jp
 have K := K.trans hf4 jp
 have hs3 : g1 < w3.heap.size ∧ g5 < w3.heap.size ∧ g6 < w3.heap.size := ⟨hl1, hl5, hl6⟩
 have h15 : g1 ≠ g5 := by have := hF_w1.size; omega
 refine jf rfl zg rfl zab ?_
 refine Ops.st (qW.store rfl rfl zab hb1 rfl rfl) ?_
 rintro w5 ⟨hb1, hf5, hs5⟩
 have hb1 : Blk w5 g1 25 #[.slice (some ⟨gn, 0, none⟩) m.l.length d4, .slice m.S m.ss.length m.d, .int .i64 m.v, .int .i64 m.b] := hb1
 have hb5 := hb5.frm hf5 (by simp; omega)
 have hb6 := hb6.frm hf5 (by simp; omega)
 have K := K.own hf5 (fun y hy => by rw [za] at hy; omega)
 have ho5 := ho4.own.frm hf5 (by simp [ob]; omega)
 refine jO (jN (jv4 1 3 5 6 ?_))
 refine jS (jR (jf rfl zg rfl zab (jl rfl zan (hb1.cell 0) (jm rfl (je (Run.loadA rfl zat zp hb5.cells (by first | rfl | (simp; done))) (je (Run.indexS i rfl rfl zf zn hi) (jf rfl zae rfl zp ?_)))))))
 refine Ops.st (qW.storeSubF (o := i * 4) (j := 1) rfl rfl zp ho5 (by rw [hcl]; show i * 4 + 1 + 3 ≤ _; omega) (fun u hu => by simp only [zbc, zbt, or_false] at hu; rcases hu with rfl | rfl | rfl <;> rfl)) ?_
 rintro w6 ⟨ho6, hf6, hs6⟩
 rw [show (#[Value.int .i64 v, .int .i64 n, .slice B lm.length cb] : Array Value).toList = BVc v n B lm.length cb from rfl, show (#[Value.int .i64 v, .int .i64 n, .slice B lm.length cb] : Array Value).size = 3 from rfl, qXu m.l i hi v n B cb lm] at ho6
 have hb1 := hb1.frm hf6 (by simp; omega)
 have hb6 := hb6.frm hf6 (by simp; omega)
 have K := K.own hf6 (fun y hy => by rw [za] at hy; omega)
 refine jO (jN (jv2 3 6 ?_))
 refine jS (jR (je (Run.loadA rfl zi zb hb1.cells (by first | rfl | (simp; done))) ?_))
 refine Ops.st (qW.storeA rfl rfl zb hb6 rfl (MlC.cells_one (m.wl (some ⟨gn, 0, none⟩) d4 m.l))) ?_
 rintro w7 ⟨hb6, hf7, hs7⟩
 have ho7 := ho6.frm hf7 (by simp [ob]; omega)
 have K := K.own hf7 (fun y hy => by rw [za] at hy; omega)
 refine jO (jN (jv1 6 ?_))
 refine jT ?_
 refine bM ?_
 refine qC rfl zi zb (hb6.cells) (by first | rfl | (simp; done)) ?_
 refine qI ?_
 refine ⟨some ⟨gn, 0, none⟩, d4, ?_, ho7, fun b hb => by simp only [ob, za] at hb; omega, K⟩
 rw [MlC.wl_val _ _ _ _ (zcl ..)]
 rfl
theorem mV (l : List Nc) (x : Nc) (i : Nat) (hi : i ≤ l.length) : (l.take i ++ x :: l.drop i).length = l.length + 1 := by
 rw [zl, zav, zk, zag]
 omega
theorem OwN.lt {w : World} {A : Option Addr} {d : Nat} {l : List Nc} (h : OwN w A d l) : ∀ b ∈ ob A, b < w.heap.size := by
 intro b hb
 rcases h.own.cases with ⟨h0, _⟩ | ⟨g, cur, h0, hbb, _⟩
 · rw [h0] at hb; simp [ob] at hb
 rw [h0] at hb
 simp only [ob, za] at hb
 rw [hb]
 exact hbb.lt
theorem Own.rdNk {w : World} {B : Option Addr} {n d : Nat} {l : List Nc} (h : Own w 45 4 B n d (NDC l)) (hn : l.length = n) : Rd w 4 B l.length (NDC l) := by subst hn; exact h.rd
theorem xE {w : World} {l : List Nc} {x : Nc} (i : Nat) (h : ∀ y ∈ l, y.At w) (hx : x.At w) : ∀ y ∈ l.take i ++ x :: l.drop i, y.At w := by
 intro y hy
 rcases List.mem_append.1 hy with h1 | h1
 · exact h y (zdr h1)
 rcases zbc.1 h1 with rfl | h1
 · exact hx
 exact h y (zcs h1)
set_option maxHeartbeats 1000000 in
theorem pQ (m : MlC) (s : Tx) (v n : Int) (B : Option Addr) (cb : Nat) (lm : List Mc) (w : World) (hm : RdL w m) (hn : m.l.length + 1 ≤ 1000000) (hs : s.length ≤ 1000000) (hr : bK m.p.l) (hb : RdM w B lm) (hbn : lm.length ≤ 900000) (hv : cZ w) :
  Calls Tryz.prog 113 #[m.val, encStr s, .agg (BVc v n B lm.length cb).toArray] w fun e w' => ∃ A' c' k, e = .returned (m.wl A' c' (m.l.take k ++ ⟨qJ s, v, n, B, cb, lm⟩ :: m.l.drop k)).val ∧ k ≤ m.l.length ∧ eX m.p.l (qJ s) k ∧ Own w' 45 4 A' (m.l.length + 1) c' (NDC (m.l.take k ++ ⟨qJ s, v, n, B, cb, lm⟩ :: m.l.drop k)) ∧ (∀ b ∈ ob A', w.heap.size ≤ b) ∧ Frm [] w w' := by
 have hln := hm.ln
 have hcl := dZ m.l
 have hpl := cA m
 refine VC.calls (nt := 27) (res := #[.cell 6 25]) Tryz.func113 rfl Tryz.ntmps113 Tryz.results113 rfl ?_
 refine jS (jR ?_)
 refine Ops.m (qH.box rfl) rfl ?_
 rintro _ w1 ⟨rfl, hF_w1⟩
 have hb1 : Blk w1 w.heap.size 25 #[.slice m.A m.l.length m.c, .slice m.S m.ss.length m.d, .int .i64 m.v, .int .i64 m.b] := hF_w1.blk
 have K := hF_w1.frm
 generalize hg1 : w.heap.size = g1 at hb1 ⊢
 refine Ops.m (qH.box rfl) rfl ?_
 rintro _ w2 ⟨rfl, hF2⟩
 have hb5 : Blk w2 w1.heap.size 43 #[.int .i64 v, .int .i64 n, .slice B lm.length cb] := hF2.blk
 have hb1 := hb1.frm hF2.frm jp
 have hlt := hb1.lt
 have K := K.trans hF2.frm jp
 generalize hg5 : w1.heap.size = g5 at hb5 ⊢
 refine Ops.m (qH.alloc bQ) rfl ?_
 rintro _ w3 ⟨rfl, hF3⟩
 have hb6 := hF3.blk
 have hg6 : w.heap.size ≤ w2.heap.size := K.size
 have hb1 := hb1.frm hF3.frm jp
 have hb5 := hb5.frm hF3.frm jp
 have hl1 := hb1.lt
 have hl5 := hb5.lt
 have hl6 := hb6.lt
 have K := K.trans hF3.frm jp
 have hne16 : g1 ≠ w2.heap.size := by have := hF_w1.size; omega
 have hne56 : g5 ≠ w2.heap.size := by have := hF2.size; omega
 have hg1s : w.heap.size ≤ g1 := jo
 generalize hg6' : w2.heap.size = g6 at hb6 hg6 hne16 hne56 hl6 ⊢
 refine jO (jN (jv4 1 3 5 6 ?_))
 refine jS (jR (je (Run.loadA rfl zi zb hb1.cells (by first | rfl | (simp; done))) (jM ?_)))
 refine Ops.cl (jE2 zcz) (cQ m s _ (hm.frm K).l hln hs hr (hv.frm K)) rfl ?_
 rintro e w4 ⟨k, rfl, hpos, hf4⟩
 refine ⟨_, rfl, ?_⟩
 have hk : k ≤ m.l.length := by have := hpos.1; omega
 have hb1 := hb1.frm hf4 jp
 have hb5 := hb5.frm hf4 jp
 have hb6 := hb6.frm hf4 jp
 have K := K.trans hf4 jp
 have hs4 := hf4.size
 have h15 : g1 ≠ g5 := by have := hF_w1.size; omega
 refine jm rfl (je (Run.extract rfl rfl) (je (Run.extract rfl rfl) (ja rfl (ja rfl (jO (jN (jv5 1 3 5 6 7 ?_)))))))
 refine jS ?_
 refine VC.heldL 11 (fun W => Frm [] w4 W) jK ?_
 have hS : Frm [] w4 w4.drew := (Frm.refl _ _).drew
 refine jH 0 rfl hS (fun w0 hw0 => Run.fieldAddr rfl zg rfl zab jd) ?_
 refine jH 1 rfl hS (fun w0 hw0 => Run.load rfl zan ((hb1.frm hw0 jp).cell 0)) ?_
 refine jH 3 rfl hS (fun w0 hw0 => Run.mv rfl) ?_
 refine jH 4 rfl hS (fun w0 hw0 => Run.mv rfl) ?_
 refine jH 6 rfl hS (fun w0 hw0 => Run.loadA rfl zat zp (fun j v hj => (hb5.frm hw0 jp).cells j v hj) (by first | rfl | (simp; done))) ?_
 refine qQ.cl 2 rfl jK (jE1 Tryz.call59) (gC m.A m.c m.l _ (hm.l.frm (K.trans hS jp)) hln) trivial rfl rfl ?_
 rintro e w5 ⟨B5, d5, rfl, ho5, hob5, hf5⟩
 have hob5 : ∀ b ∈ ob B5, w4.heap.size ≤ b := fun b hb => zay (by exact (show Frm [] w4 w4.drew from (Frm.refl _ _).drew).size) (hob5 b hb)
 have hS5 := hS.trans hf5 jp
 refine ⟨_, rfl, hS5, ?_⟩
 have hS := hS5
 refine qQ.cl 5 rfl jK (jE1 zbx) (bS s _ hs (hv.frm (K.trans hS jp))) trivial rfl rfl ?_
 rintro e w6 ⟨rfl, hf6⟩
 have hS6 := hS.trans hf6 jp
 refine ⟨_, rfl, hS6, ?_⟩
 have hS := hS6
 have ho5 := ho5.frm hf6
 refine qQ.r1 7 rfl jK hS (Run.build (evs.cons rfl (evs.cons rfl evs.nil)) cE (fK).choose_spec.1 (fK).choose_spec.2 rfl) trivial rfl rfl ?_
 refine qQ.m 8 rfl jK (qH.buildS1 rfl zf zn cE jd jd rfl rfl) trivial rfl rfl ?_
 rintro _ w7 ⟨rfl, hF7⟩
 have hS7 := hS.trans hF7.frm jp
 refine ⟨hS7, ?_⟩
 have hS := hS7
 have hgv : w6.heap.size ∉ ob B5 := fun h => Nat.lt_irrefl _ (ho5.lt _ h)
 have ho5 := ho5.frm hF7.frm
 have hb7 : Blk w7 w6.heap.size 45 (⟨qJ s, v, n, B, cb, lm⟩ : Nc).cells.toArray := hF7.blk
 refine qQ.cl 9 rfl jK (jE3 Tryz.call140) (rH B5 d5 k _ m.l ⟨qJ s, v, n, B, cb, lm⟩ _ ho5 hln hk hb7 hgv) trivial rfl rfl ?_
 rintro e w8 ⟨C8, d8, rfl, ho8, hf8, hob8⟩
 have hS8 := hS.own hf8 hob5
 refine ⟨_, rfl, hS8, ?_⟩
 have hS := hS8
 have hC8 : ∀ b ∈ ob C8, w4.heap.size ≤ b := fun b hb => by
  rcases hob8 b hb with h | h
  · exact hob5 b h
  have := hS7.size; omega
 refine qQ.r1 10 rfl jK hS (Run.fieldAddr rfl zg rfl zab jd) trivial rfl rfl ?_
 refine qQ.stL rfl jK (qW.store rfl rfl zab (hb1.frm hS jp) rfl rfl) trivial rfl ?_
 rintro w9 ⟨hb9, hf9, hs9⟩
 have hb9 : Blk w9 g1 25 #[.slice C8 (m.l.length + 1) d8, .slice m.S m.ss.length m.d, .int .i64 m.v, .int .i64 m.b] := hb9
 have hb6 := (hb6.frm hS jp).frm hf9 (by simp; omega)
 have K := (K.trans hS jp).own hf9 (fun y hy => by rw [za] at hy; omega)
 have ho9 := ho8.frm hf9 (fun y hy h => by rw [za] at h; have := hC8 y hy; omega)
 refine qQ.done jK ?_
 refine jN (jv2 3 6 ?_)
 refine jS (jR (je (Run.loadA rfl zi zb hb9.cells (by first | rfl | (simp; done))) ?_))
 refine Ops.st (qW.storeA rfl rfl zb hb6 rfl (by intro u hu; simp only [zbc, zbt, or_false] at hu; rcases hu with rfl | rfl | rfl | rfl <;> rfl)) ?_
 rintro w10 ⟨hb6, hf10, hs10⟩
 have ho10 := ho9.frm hf10 (fun y hy h => by rw [za] at h; have := hC8 y hy; omega)
 have K := K.own hf10 (fun y hy => by rw [za] at hy; omega)
 refine jO (jN (jv1 6 ?_))
 refine jT ?_
 refine bM ?_
 refine qC rfl zi zb (hb6.cells) (by first | rfl | (simp; done)) ?_
 refine qI ?_
 have hll := mV m.l ⟨qJ s, v, n, B, cb, lm⟩ k hk
 refine ⟨C8, d8, k, ?_, hk, hpos, ho10, fun b hb => by have := hC8 b hb; omega, K⟩
 rw [MlC.wl_val _ _ _ _ hll]
 rfl
theorem qQb {w w' : World} {m : MlC} {k : Nat} {x : Nc} {A : Option Addr} {c : Nat} (hk : k ≤ m.l.length) (hn : m.l.length + 1 ≤ 1000000) (ho : Own w' 45 4 A (m.l.length + 1) c (NDC (m.l.take k ++ x :: m.l.drop k))) (hf : ∀ b ∈ ob A, w.heap.size ≤ b)
  (hx : ∀ w'', RdL w'' m → x.At w'') : bA w w' (ob A) m (m.wl A c (m.l.take k ++ x :: m.l.drop k)) := by
 have hll := mV m.l x k hk
 refine ⟨hf, fun w'' T kT hT hm => ?_⟩
 have ho := ho.frm kT (fun y hy h => hT y h hy)
 exact ⟨⟨ho.rdNk hll, xE k hm.l.el (hx w'' hm)⟩, hm.s, by show List.length (_ ++ _) ≤ _; rw [hll]; exact ho.le, hm.sc, by show List.length (_ ++ _) ≤ _; rw [hll]; exact hn, hm.sn, hm.sq⟩
end
section
open Go.RowKit Go.Sort
theorem xF (l : List Nc) (x : Nc) (i : Nat) : Ns (l.take i ++ x :: l.drop i) = (Ns l).take i ++ x.p :: (Ns l).drop i := by
 simp [Ns, zdo, List.map_drop]
theorem rP (A : Option Addr) (c : Nat) (ss : List Tx) (w : World) (h : Own w 9 1 A ss.length c (SB ss)) (hs : ss.length ≤ 1000000) :
  Calls Tryz.prog 105 #[.slice A ss.length c] w fun e w' => e = .returned (.tuple #[]) ∧ Own w' 9 1 A ss.length c (SB ss.reverse) ∧ Frm (ob A) w w' := by
 cases A with
 | none =>
  have h0 : ss = [] := by
   rcases h.cases with ⟨_, h1, _⟩ | ⟨g, cur, h1, _⟩
   · exact zaa h1
   cases h1
  subst h0
  refine (Tryz.slices_Reverse_string_empty none c w).mono fun e w' ⟨he, hw⟩ => ?_
  subst hw
  exact ⟨he, by simpa using h, Frm.refl _ _⟩
 | some ad =>
  obtain ⟨g, rfl⟩ : ∃ g, ad = ⟨g, 0, none⟩ := by
   rcases h.cases with ⟨h1, _⟩ | ⟨g, cur, h1, _⟩
   · cases h1
   cases h1; exact ⟨g, rfl⟩
  obtain ⟨h1, h2⟩ := h.holds
  refine (Tryz.slices_Reverse_string g 0 c ss w h1 jo).mono fun e w' ⟨he, m, hw⟩ => ?_
  subst hw
  obtain ⟨h3, h4⟩ := h.put (m := m) (os := #[]) (ts := ss.reverse) zeq
  rw [Go.Sort.grow_empty] at h3 h4
  exact ⟨he, h3, h4⟩
theorem sB (m : MlC) (s : Tx) (w : World) (hm : RdL w m) (hn : m.l.length + 1 ≤ 1000000) (hs : s.length ≤ 1000000) (hr : bK m.p.l) (h0 : 0 ≤ m.v) (h1 : m.v + 1 ≤ 2147483647) (hnot : qJ s ∉ qD m.p) (hv : cZ w) :
  Calls Tryz.prog 106 #[m.val, encStr s] w fun e w' => ∃ m' : MlC, e = .returned m'.val ∧ m'.p = bU m.p s ∧ (∃ S, bA w w' S m m') ∧ Frm [] w w' := by
 have hmb0 : bE ⟨m.v + 1, 1, []⟩ := ⟨⟨by dsimp only; omega, by dsimp only; omega, by dsimp only; omega, by dsimp only; omega, jp⟩, fun j h => absurd h jp⟩
 refine VC.calls (nt := 21) (res := #[.cell 4 25]) Tryz.func106 rfl Tryz.ntmps106 Tryz.results106 rfl ?_
 refine jS (jR ?_)
 refine Ops.m (qH.box rfl) rfl ?_
 rintro _ w1 ⟨rfl, hF_w1⟩
 have hb1 : Blk w1 w.heap.size 25 #[.slice m.A m.l.length m.c, .slice m.S m.ss.length m.d, .int .i64 m.v, .int .i64 m.b] := hF_w1.blk
 have K := hF_w1.frm
 generalize hg1 : w.heap.size = g1 at hb1 ⊢
 refine Ops.m (qH.alloc bQ) rfl ?_
 rintro _ w2 ⟨rfl, hF2⟩
 have hb4 := hF2.blk
 have hg4 : w.heap.size ≤ w1.heap.size := K.size
 have hb1 := hb1.frm hF2.frm jp
 have hl1 := hb1.lt
 have hl4 := hb4.lt
 have K := K.trans hF2.frm jp
 have hne14 : g1 ≠ w1.heap.size := by have := hF_w1.size; omega
 have hg1s : w.heap.size ≤ g1 := jo
 generalize hg4' : w1.heap.size = g4 at hb4 hg4 hne14 hl4 ⊢
 refine jO (jN (jv3 1 2 4 ?_))
 refine jS (jR (jf rfl zg rfl zq (jl rfl zy (hb1.cell 2) (jb rfl rfl (Bin.addZ _ 1 jo jo) (jf rfl zg rfl zq ?_)))))
 refine Ops.st (qW.store rfl rfl zq hb1 rfl rfl) ?_
 rintro w3 ⟨hb1, (hf3 : Frm [g1] _ _), hs3⟩
 have hb1 : Blk w3 g1 25 #[.slice m.A m.l.length m.c, .slice m.S m.ss.length m.d, .int .i64 (m.v + 1), .int .i64 m.b] := hb1
 have hb4 := hb4.frm hf3 (by simp; omega)
 have K := K.own hf3 (fun y hy => by rw [za] at hy; omega)
 refine jO (jN (jv3 1 2 4 ?_))
 refine jS (jR (jf rfl zg rfl zq (jl rfl zy (hb1.cell 2) ?_)))
 refine Ops.cl (jE1 Tryz.call82) (nG (m.v + 1) _) rfl ?_
 rintro e w5 ⟨hf5, hc5⟩
 obtain rfl : e = .returned (.tuple #[.agg #[.int .i64 (m.v + 1), .int .i64 1, .slice none 0 0], .int .i64 0]) := by
  rcases hc5 with ⟨_, h⟩ | ⟨h, _⟩
  · exact h
  exact absurd hmb0 h
 refine ⟨_, rfl, ?_⟩
 have hb1 := hb1.frm hf5 jp
 have hb4 := hb4.frm hf5 jp
 have K := K.trans hf5 jp
 refine jm rfl (je (Run.extract rfl rfl) (je (Run.extract rfl rfl) ?_))
 refine Ops.m (qH.alloc cP) rfl ?_
 rintro _ w6 ⟨rfl, hF6⟩
 have hb5 := hF6.blk
 have hg5 : w.heap.size ≤ w5.heap.size := K.size
 have hlt5 := hb1.lt
 have hlt54 := hb4.lt
 have hb1 := hb1.frm hF6.frm jp
 have hb4 := hb4.frm hF6.frm jp
 have K := K.trans hF6.frm jp
 generalize hg5' : w5.heap.size = g5 at hb5 hg5 hlt5 hlt54 ⊢
 refine Ops.st (qW.storeA rfl rfl zp hb5 rfl (cW _ _ none 0 0)) ?_
 rintro w7 ⟨hb5, hf7, hs7⟩
 have hb5 : Blk w7 g5 43 #[.int .i64 (m.v + 1), .int .i64 1, .slice none 0 0] := hb5
 have hb1 := hb1.frm hf7 (by simp; omega)
 have hb4 := hb4.frm hf7 (by simp; omega)
 have K := K.own hf7 (fun y hy => by rw [za] at hy; omega)
 have hmk : RdL w7 { m with v := m.v + 1 } := ⟨hm.l.frm K, hm.s.frm K jp, hm.lc, hm.sc, hm.ln, hm.sn, hm.sq⟩
 refine ja rfl (jO (jN (jv4 1 2 4 5 ?_)))
 refine jS (jR (je (Run.loadA rfl zi zb hb1.cells (by first | rfl | (simp; done))) (jm rfl (je (Run.loadA rfl zat zp hb5.cells (by first | rfl | (simp; done))) ?_))))
 refine Ops.cl (jE3 Tryz.call113) (pQ { m with v := m.v + 1 } s (m.v + 1) 1 none 0 [] _ hmk hn hs hr (RdM.nil _ _) jp (hv.frm K)) rfl ?_
 rintro e w8 ⟨A8, c8, k, rfl, hk, hpos, ho8, hA8, hf8⟩
 refine ⟨_, rfl, ?_⟩
 have hl47 := hb4.lt
 have hK7 := K.size
 have hb4 := hb4.frm hf8 jp
 have K := K.trans hf8 jp
 refine Ops.st (qW.storeA rfl rfl zb hb4 rfl (MlC.cells_one _)) ?_
 rintro w9 ⟨hb4, hf9, hs9⟩
 have ho9 := ho8.frm hf9 (fun y hy h => by rw [za] at h; have := hA8 y hy; have := hs7; omega)
 refine jO (jN (jv1 4 ?_))
 refine jT ?_
 refine bM ?_
 refine qC rfl zi zb (hb4.cells) (by first | rfl | (simp; done)) ?_
 refine qI ?_
 refine ⟨_, rfl, ?_, ⟨ob A8, ?_⟩, K.own hf9 (fun y hy => by rw [za] at hy; omega)⟩
 ·
  have e : Ns (m.l.take k ++ ⟨qJ s, m.v + 1, 1, none, 0, []⟩ :: m.l.drop k) = bV (Ns m.l) (qJ s) ⟨m.v + 1, 1, []⟩ := (xF m.l _ k).trans (zB (b := ⟨m.v + 1, 1, []⟩) hpos hnot).symm
  exact congrArg (fun z => MailP.mk z m.ss (m.v + 1) m.b) e
 have hk8 := qQb (w := w) hk hn ho9 (fun b hb => by have := hA8 b hb; omega) (fun w'' h => ⟨RdM.nil _ _, jp, by show (qJ s).length ≤ _; rw [bT]; exact hs⟩)
 exact ⟨hk8.1, fun w'' T kT hT hm => hk8.2 w'' T kT hT ⟨hm.l, hm.s, hm.lc, hm.sc, hm.ln, hm.sn, hm.sq⟩⟩
end
section
open Go.RowKit Go.Sort
set_option maxHeartbeats 1000000 in
theorem eG (m : MlC) (q : Tx) (w : World) (hm : RdL w m) (hs : q.length ≤ 1000000) (hr : bK m.p.l) (hv : cZ w) :
  Calls Tryz.prog 47 #[m.val, encStr q] w fun e w' => ∃ B d, e = .returned (.slice B (qO m.p.l q).length d) ∧ Own w' 9 1 B (qO m.p.l q).length d (SB (qO m.p.l q)) ∧ (∀ b ∈ ob B, w.heap.size ≤ b) ∧ Frm [] w w' := by
 have hln := hm.ln
 refine VC.calls (nt := 27) (res := #[.tmp 4]) Tryz.func47 rfl Tryz.ntmps47 Tryz.results47 rfl ?_
 refine jS (jR ?_)
 refine Ops.m (qH.box rfl) rfl ?_
 rintro _ w1 ⟨rfl, hF_w1⟩
 have hb1 : Blk w1 w.heap.size 25 #[.slice m.A m.l.length m.c, .slice m.S m.ss.length m.d, .int .i64 m.v, .int .i64 m.b] := hF_w1.blk
 have K := hF_w1.frm
 generalize hg1 : w.heap.size = g1 at hb1 ⊢
 refine ja rfl (jO (jN (jv2 1 2 ?_)))
 refine jS (jR (ja rfl (jO (jN (jS (jB ?_))))))
 refine VC.loop (σ := Tx × List Tx × Option Addr × Nat) (fun s => [(1, encStr s.1), (2, .pointer (some ⟨g1, 0, none⟩)), (5, .slice s.2.2.1 s.2.1.length s.2.2.2)]) (fun s wr => s.1.length ≤ 1000000 ∧ Blk wr g1 25 #[.slice m.A m.l.length m.c, .slice m.S m.ss.length m.d, .int .i64 m.v, .int .i64 m.b] ∧ Own wr 9 1 s.2.2.1 s.2.1.length s.2.2.2 (SB s.2.1) ∧ (∀ b ∈ ob s.2.2.1, w.heap.size < b) ∧ (anc q).filter (fun x => decide (qJ x ∉ qD m.p)) = s.2.1 ++ (anc s.1).filter (fun x => decide (qJ x ∉ qD m.p)) ∧ s.2.1.length + s.1.length ≤ 1000000 ∧ Frm [] w wr) (fun s => s.1.length) (q, [], none, 0) (js3 rfl rfl rfl) ⟨hs, hb1, Own.nil _ _ _, by simp [ob], rfl, by simpa using hs, K⟩ ?_
 rintro ⟨r, out, B, d⟩ wr ⟨hr1, hb1, ho, hob, hfl, hol, K⟩
 dsimp only at *
 refine jS (jS (jR (jm rfl (je (Run.neqT rfl rfl) (jO (jN (jv4 1 2 5 9 ?_)))))))
 refine jD rfl (fun hc1 => ?_) fun hc1 => ?_
 ·
  have hup := eQ hc1
  refine jQ (jN (jv3 1 2 5 ?_))
  refine jS (jB (jS (jR (je (Run.loadA rfl zi zb hb1.cells (by first | rfl | (simp; done))) (jM ?_)))))
  refine Ops.cl (jE2 zcz) (cQ m r _ (hm.frm K).l hln hr1 hr (hv.frm K)) rfl ?_
  rintro e w2 ⟨k, rfl, hpos, hf2⟩
  refine ⟨_, rfl, ?_⟩
  have hb1 := hb1.frm hf2 jp
  have ho := ho.frm hf2 jp
  have hks := K.size
  have K := K.trans hf2 jp
  have hl2 := hb1.lt
  refine jm rfl (je (Run.extract rfl rfl) (je (Run.extract rfl rfl) (ja rfl (ja rfl (jO (jN (jv4 1 2 5 7 ?_)))))))
  refine jS (jR (jm rfl (je (Run.not rfl) (jO (jN (jv4 1 2 5 19 ?_))))))
  refine VC.condB rfl (fun hc2 => ?_) (fun hc2 => ?_)
  ·
   refine jR (jm rfl (jM ?_))
   refine Ops.m (qH.buildS1 rfl zj zx mX jd jd rfl rfl) rfl ?_
   rintro _ w4 ⟨rfl, hF4⟩
   have hr4 : Rd w4 1 (some ⟨w2.heap.size, 0, none⟩) 1 (SB [r]) := Rd.of_blk (n := 1) (size := 1) hF4.blk rfl
   have K := K.trans hF4.frm jp
   have hb1 := hb1.frm hF4.frm jp
   have ho4 := ho.frm hF4.frm jp
   refine Ops.m (qH.app rfl rfl zj (nU) rfl jd ho4 hr4 (hZ _) jo jo) rfl ?_
   rintro _ w5 ⟨B5, d5, rfl, ho5, hf5, hob5⟩
   rw [← eT] at ho5
   have hf4s := hF4.size
   have hks5 := K.size
   have hob6 : ∀ b ∈ ob B5, w.heap.size < b := fun b hb => by
    rcases hob5 with h | h
    · rw [h] at hb; exact hob b hb
    rw [h, za] at hb; omega
   have K := K.own hf5 (fun b hb => Nat.le_of_lt (hob b hb))
   have hb1 := hb1.frm hf5 (fun h => by have := hob _ h; omega)
   refine ja rfl (jO ?_)
   refine qN (jN ?_)
   refine jv3 1 2 5 ?_
   refine jR (jM ?_)
   refine Ops.cl (jE1 Tryz.call104) (kN r _ hr1 (hv.frm K)) rfl ?_
   rintro e w6 ⟨rfl, hf6⟩
   refine ⟨_, rfl, ?_⟩
   refine ja rfl (jO ?_)
   refine jN ⟨(upN r, out ++ [r], B5, d5), (js3 rfl rfl (by rw [zl]; rfl)), ?_, ?_⟩
   ·
    refine ⟨by dsimp only; omega, hb1.frm hf6 jp, by rw [zl]; exact ho5.frm hf6 jp, hob6, ?_, by dsimp only; rw [zl]; show out.length + 1 + _ ≤ _; omega, K.trans hf6 jp⟩
    rw [hfl, eM hc1, zdb, if_pos (by simpa using hc2), zci]
    rfl
   first | omega | (dsimp only; omega)
  refine jQ ?_
  refine qN (jN ?_)
  refine jv3 1 2 5 ?_
  refine jR (jM ?_)
  refine Ops.cl (jE1 Tryz.call104) (kN r _ hr1 (hv.frm K)) rfl ?_
  rintro e w6 ⟨rfl, hf6⟩
  refine ⟨_, rfl, ?_⟩
  refine ja rfl (jO ?_)
  refine jN ⟨(upN r, out, B, d), (js3 rfl rfl rfl), ?_, ?_⟩
  ·
   refine ⟨by dsimp only; omega, hb1.frm hf6 jp, ho.frm hf6 jp, hob, ?_, by dsimp only; omega, K.trans hf6 jp⟩
   rw [hfl, eM hc1, zdb, if_neg (by simpa using hc2)]
  first | omega | (dsimp only; omega)
 refine jX ?_
 refine qK (qK (qS ?_))
 refine jN (jv1 5 ?_)
 refine jS (jR (jM ?_))
 refine Ops.cl (jE1 Tryz.call105) (rP B d out _ ho jo) rfl ?_
 rintro e w7 ⟨rfl, ho7, hf7⟩
 refine ⟨_, rfl, ?_⟩
 refine jO (jN (jv1 5 ?_))
 refine jS (jR (jm rfl (ja rfl (jO (jN (jv1 4 ?_))))))
 refine jT ?_
 refine qF rfl ?_
 have hr0 : r = [] := Classical.not_not.1 hc1
 rw [hr0, anc_nil, List.filter_nil, zbq] at hfl
 have e : qO m.p.l q = out.reverse := by rw [← hfl]; rfl
 refine ⟨B, d, by rw [e, zeq], by rw [e, zeq]; exact ho7, fun b hb => by have := hob b hb; omega, K.own hf7 (fun b hb => by have := hob b hb; omega)⟩
end
section
open Go.RowKit Go.Sort
theorem qQc (s : Tx) : (anc s).Pairwise (fun a b => b.length < a.length) ∧ ∀ x ∈ anc s, x.length ≤ s.length := by
 have key : ∀ n (s : Tx), s.length ≤ n → (anc s).Pairwise (fun a b => b.length < a.length) ∧ ∀ x ∈ anc s, x.length ≤ s.length := by
  intro n
  induction n with
  | zero =>
   intro s h
   obtain rfl : s = [] := zaa jo
   rw [anc_nil]
   exact ⟨.nil, jp⟩
  | succ n ih =>
   intro s h
   by_cases h0 : s = []
   · subst h0; rw [anc_nil]; exact ⟨.nil, jp⟩
   have h1 := eQ h0
   obtain ⟨h2, h3⟩ := ih (upN s) jo
   rw [eM h0]
   refine ⟨List.pairwise_cons.2 ⟨fun y hy => by have := h3 y hy; omega, h2⟩, fun x hx => ?_⟩
   rcases zbc.1 hx with rfl | hx
   · exact zv _
   have := h3 x hx; omega
 exact key _ s (zv _)
theorem xA (l : List NmP) (s : Tx) : (qO l s).Pairwise (fun a b => a.length < b.length) ∧ (∀ x ∈ qO l s, x.length ≤ s.length ∧ qJ x ∉ l.map Prod.fst) := by
 obtain ⟨h1, h2⟩ := qQc s
 unfold qO
 refine ⟨List.pairwise_reverse.2 (h1.sublist zcj), fun x hx => ?_⟩
 rw [List.mem_reverse, List.mem_filter] at hx
 exact ⟨h2 x hx.1, by simpa using hx.2⟩
theorem nH {α : Type} (p q : α → Bool) (h : ∀ x, p x = true → q x = false) : ∀ l : List α, (l.filter p).length + (l.filter q).length ≤ l.length
 | [] => jp
 | x :: l => by
  have ih := nH p q h l
  rw [zdb, zdb]
  cases h1 : p x with
  | true =>
   rw [h x h1]
   simp only [if_true, zav, zba, if_false]
   omega
  | false =>
   cases h2 : q x <;> simp only [if_true, zav, zba, if_false] <;> omega
theorem sC (l : List NmP) (t : Tx) (b : BoxV) : (bV l t b).length ≤ l.length + 1 := by
 unfold bV
 rw [zl, zav]
 refine (jo : ∀ a b c : Nat, a + b ≤ c → a + (b + 1) ≤ c + 1) _ _ _ (nH _ _ (fun x h1 => ?_) l)
 simp only [decide_eq_true_eq, decide_eq_false_iff_not] at h1 ⊢
 exact fun h2 => bN _ (dW h1 h2)
theorem oX (p0 : MailP) (hr : bK p0.l) (xs : List Tx) : ∀ i, i ≤ xs.length →
  bK ((xs.take i).foldl bU p0).l ∧ (∀ x, x ∈ qD ((xs.take i).foldl bU p0) ↔ x ∈ qD p0 ∨ x ∈ (xs.take i).map qJ) ∧ ((xs.take i).foldl bU p0).l.length ≤ p0.l.length + i ∧ ((xs.take i).foldl bU p0).valid = p0.valid + i := by
 intro i
 induction i with
 | zero => intro _; exact ⟨by simpa using hr, jp, jp, jp⟩
 | succ i ih =>
  intro hi
  obtain ⟨h1, h2, h3, h4⟩ := ih jo
  have hlt : i < xs.length := hi
  clear ih
  rw [zao, ze hlt, zdg]
  generalize (xs.take i).foldl bU p0 = p at *
  show bK (bV _ _ _) ∧ (∀ x, x ∈ (bV _ _ _).map Prod.fst ↔ _) ∧ (bV _ _ _).length ≤ _ ∧ p.valid + 1 = _
  refine ⟨kG h1, fun x => ?_, ?_, by rw [h4]; omega⟩
  ·
   rw [fB, zbm, List.mem_append]
   have := h2 x
   simp only [Option.toList, zcq, zeh, za]
   constructor
   ·
    rintro (h | h)
    · exact .inr (.inr h)
    rcases this.1 h with h | h
    · exact .inl h
    exact .inr (.inl h)
   rintro (h | h | h)
   · exact .inr (this.2 (.inl h))
   · exact .inr (this.2 (.inr h))
   exact .inl h
  have := sC p.l (qJ xs[i]) ⟨p.valid + 1, 1, []⟩
  omega
theorem xI (p0 : MailP) (xs : List Tx) (i : Nat) (hi : i < xs.length) : (xs.take (i + 1)).foldl bU p0 = bU ((xs.take i).foldl bU p0) xs[i] := by
 rw [zao, ze hi, zdg]
 rfl
theorem kR (m : MlC) (a b : Nat) (w : World) (hm : m.l.length ≤ 1000000) (ha : a ≤ 1000000) (hb : b ≤ 1000000) (h0 : 0 ≤ m.v) (h1 : m.v ≤ 2147483647) :
  Calls Tryz.prog 48 #[m.val, .int .i64 ((a : Nat) : Int), .int .i64 ((b : Nat) : Int)] w fun e w' => e = .returned (.int .i64 ((cV m.p a b : Nat) : Int)) ∧ Frm [] w w' := by
 have hpl := cA m
 obtain ⟨v, hv⟩ : ∃ v : Nat, m.v = (v : Int) := ⟨m.v.toNat, jo⟩
 refine VC.calls (nt := 20) (res := #[.tmp 6]) Tryz.func48 rfl Tryz.ntmps48 Tryz.results48 rfl ?_
 refine jS (jR ?_)
 refine Ops.m (qH.box rfl) rfl ?_
 rintro _ w1 ⟨rfl, hF_w1⟩
 have hb1 : Blk w1 w.heap.size 25 #[.slice m.A m.l.length m.c, .slice m.S m.ss.length m.d, .int .i64 m.v, .int .i64 m.b] := hF_w1.blk
 have K := hF_w1.frm
 generalize hg1 : w.heap.size = g1 at hb1 ⊢
 refine jz 0 (jO (jN (jv3 1 2 3 ?_)))
 refine jS (jB (jS (jR (jf rfl zg rfl zab (jl rfl zan (hb1.cell 0) (je (Run.lenS rfl zf) (jm rfl (jb rfl rfl (Bin.add_i64 _ _ jo) (jb rfl rfl (Bin.gtrN _ 24) (ja rfl (jO (jN (jv3 2 3 7 ?_)))))))))))))
 refine jD rfl (fun hc1 => ?_) fun hc1 => ?_
 ·
  refine jS (jR (jz 5 (jO (jN (jv1 6 ?_)))))
  refine jT ?_
  refine qP (qZ (qF rfl ?_))
  refine ⟨?_, K⟩
  unfold cV
  rw [if_pos jo]
 refine jS (jR (jf rfl zg rfl zq (jl rfl zy (show _ = some (Value.int .i64 (v : Int)) by rw [← hv]; exact hb1.cell 2) (jm rfl (jb rfl rfl (Bin.add_i64 _ _ jo) (jb rfl rfl (Bin.gtrN _ 2147483647) (ja rfl (jO (jN (jv1 14 ?_))))))))))
 refine jD rfl (fun hc2 => ?_) fun hc2 => ?_
 ·
  refine jS (jR (jz 19 (jO (jN (jv1 6 ?_)))))
  refine jT ?_
  refine qP (qZ (qF rfl ?_))
  refine ⟨?_, K⟩
  unfold cV
  rw [if_neg jo, if_pos (by show _ < m.v + _; omega)]
 refine jQ ?_
 refine qN (jN ?_)
 refine VC.sub [] .nil ?_
 refine jS (jR (jz 0 (jO (jN (jT ?_)))))
 refine qF rfl ?_
 refine ⟨?_, K⟩
 unfold cV
 rw [if_neg jo, if_neg (by show ¬ _ < m.v + _; omega)]
set_option maxHeartbeats 1000000 in
theorem gD (m : MlC) (q : Tx) (w : World) (hm : RdL w m) (hs : q.length ≤ 900000) (hr : bK m.p.l) (hn : m.l.length + (qO m.p.l q).length ≤ 900000) (h0 : 0 ≤ m.v) (h1 : m.v + ((qO m.p.l q).length : Int) ≤ 2147483647) (hv : cZ w) :
  Calls Tryz.prog 49 #[m.val, encStr q] w fun e w' => ∃ m' : MlC, e = .returned m'.val ∧ m'.p = bX m.p q ∧ (∃ S, bA w w' S m m') ∧ Frm [] w w' := by
 have hln := hm.ln
 have hml := xA m.p.l q
 have hfo := oX m.p hr (qO m.p.l q)
 have hpl := cA m
 refine VC.calls (nt := 20) (res := #[.cell 4 25]) Tryz.func49 rfl Tryz.ntmps49 Tryz.results49 rfl ?_
 refine jS (jR ?_)
 refine Ops.m (qH.box rfl) rfl ?_
 rintro _ w1 ⟨rfl, hF_w1⟩
 have hb1 : Blk w1 w.heap.size 25 #[.slice m.A m.l.length m.c, .slice m.S m.ss.length m.d, .int .i64 m.v, .int .i64 m.b] := hF_w1.blk
 have K := hF_w1.frm
 generalize hg1 : w.heap.size = g1 at hb1 ⊢
 refine Ops.m (qH.alloc bQ) rfl ?_
 rintro _ w2 ⟨rfl, hF2⟩
 have hb4 := hF2.blk
 have hg4 : w.heap.size ≤ w1.heap.size := K.size
 have hb1 := hb1.frm hF2.frm jp
 have hl1 := hb1.lt
 have hl4 := hb4.lt
 have K := K.trans hF2.frm jp
 have hne14 : g1 ≠ w1.heap.size := by have := hF_w1.size; omega
 have hg1s : w.heap.size ≤ g1 := jo
 generalize hg4' : w1.heap.size = g4 at hb4 hg4 hne14 hl4 ⊢
 refine jO (jN (jv3 1 2 4 ?_))
 refine jS (jS (jR (je (Run.loadA rfl zi zb hb1.cells (by first | rfl | (simp; done))) (jM ?_))))
 refine Ops.cl (jE2 Tryz.call47) (eG m q _ (hm.frm K) jo hr (hv.frm K)) rfl ?_
 rintro e w3 ⟨B, d, rfl, ho, hob, hf3⟩
 refine ⟨_, rfl, ?_⟩
 have hb1 := hb1.frm hf3 jp
 have hb4 := hb4.frm hf3 jp
 have K := K.trans hf3 jp
 have hs3 := hf3.size
 generalize hxs : qO m.p.l q = xs at *
 refine je (Run.lenS rfl zj) ?_
 refine jx .i64 0 ?_
 refine jO (jN (jv5 2 4 9 10 11 ?_))
 refine jB ?_
 refine VC.loop (σ := Nat × MlC) (fun s => [(2, .pointer (some ⟨g1, 0, none⟩)), (4, .pointer (some ⟨g4, 0, none⟩)), (9, .slice B xs.length d), (10, .int .i64 ((xs.length : Nat) : Int)), (11, .int .i64 ((s.1 : Nat) : Int))]) (fun s wr => s.1 ≤ xs.length ∧ Blk wr g1 25 s.2.cells.toArray ∧ Blk wr g4 25 qR.cells.toArray ∧ Own wr 9 1 B xs.length d (SB xs) ∧ s.2.p = (xs.take s.1).foldl bU m.p ∧ (∃ S, bA w wr S m s.2 ∧ g1 ∉ S ∧ g4 ∉ S) ∧ Frm [] w wr) (fun s => xs.length - s.1) (0, m) (js5 rfl rfl rfl rfl rfl) ⟨zah _, hb1, hb4, ho, rfl, ⟨[], (bA.refl w m).frm K jp, jp, jp⟩, K⟩ ?_
 rintro ⟨i, mi⟩ wr ⟨hi, hb1, hb4, ho, hmi, ⟨S, hkS, hg1S, hg4S⟩, K⟩
 dsimp only at *
 refine jS (jR (jb rfl rfl (Bin.lssN _ _) (jO (jN (jS ?_)))))
 refine jD rfl (fun hc1 => ?_) fun hc1 => ?_
 ·
  obtain ⟨ad, hA, hel⟩ := ho.rd.elem hc1
  obtain ⟨hf1, hf2, hf3, hf4⟩ := hfo i hi
  have hmx := hml.2 _ (zm hc1)
  have hx1 := (zcm.1 hml.1)
  have hsn := xI m.p xs i hc1
  rw [← hmi] at hf1 hf2 hf3 hf4 hsn
  have hnot : qJ xs[i] ∉ qD mi.p := fun h => by
   rcases (hf2 _).1 h with h | h
   · exact hmx.2 h
   obtain ⟨y, hy, he⟩ := List.mem_map.1 h
   obtain ⟨j, hj, rfl⟩ := zu hy
   rw [zk] at hj
   rw [zcw] at he
   have h3 := hx1 j i jo hc1 jo
   have h4 := congrArg List.length he
   rw [bT, bT] at h4
   omega
  have hmiR : RdL wr mi := hkS.now (hm.frm K)
  have hpi := cA mi
  have hvi : mi.v = m.v + (i : Int) := hf4
  refine jQ (jN (jv5 2 4 9 10 11 ?_))
  refine jS (jB (jS (jR (je (Run.indexS i (show _ = some (Value.slice (some ad) xs.length d) by rw [← hA]; rfl) rfl zj zx hc1) (jl rfl zac (hel 0 (encStr xs[i]) (by simp [SB, hc1])) (ja rfl (jO (jN (jv6 2 4 6 9 10 11 ?_)))))))))
  refine jR (je (Run.loadA rfl zi zb hb1.cells (by first | rfl | (simp; done))) (jM ?_))
  refine Ops.cl (jE2 Tryz.call106) (sB mi xs[i] _ hmiR jo jo hf1 jo jo hnot (hv.frm K)) rfl ?_
  rintro e w4 ⟨m', rfl, hm'p, ⟨S2, hk2⟩, hf4⟩
  refine ⟨_, rfl, ?_⟩
  have hlr1 := hb1.lt
  have hlr4 := hb4.lt
  have hKs := K.size
  have hS2 : g1 ∉ S2 ∧ g4 ∉ S2 := ⟨fun h => by have := hk2.1 _ h; omega, fun h => by have := hk2.1 _ h; omega⟩
  have hb1 := hb1.frm hf4 jp
  have hb4 := hb4.frm hf4 jp
  have ho := ho.frm hf4 jp
  have K := K.trans hf4 jp
  have hkk := hkS.trans hk2 hf4 hKs
  refine Ops.st (qW.storeA rfl rfl zb hb1 rfl (MlC.cells_one m')) ?_
  rintro w5 ⟨hb1, (hf5 : Frm [g1] _ _), hs5⟩
  have hb1 : Blk w5 g1 25 m'.cells.toArray := hb1
  have hb4 := hb4.frm hf5 (by simp; omega)
  have ho := ho.frm hf5 (fun y hy h => by rw [za] at h; have := hob y hy; omega)
  have hkk := hkk.frm hf5 (fun y hy h => by rw [za] at hy; rw [hy] at h; rcases List.mem_append.1 h with h | h; exact hg1S h; exact hS2.1 h)
  have K := K.own hf5 (fun y hy => by rw [za] at hy; omega)
  refine jO ?_
  refine qN (jN ?_)
  refine jv5 2 4 9 10 11 ?_
  refine jR (jb rfl rfl (Bin.add_i64 _ 1 jo) (jm rfl (jO ?_)))
  refine jN ⟨(i + 1, m'), (js5 rfl rfl rfl rfl rfl), ?_, ?_⟩
  ·
   refine ⟨hc1, hb1, hb4, ho, by rw [hm'p, hsn], ⟨_, hkk, fun h => ?_, fun h => ?_⟩, K⟩
   · rcases List.mem_append.1 h with h | h; exact hg1S h; exact hS2.1 h
   rcases List.mem_append.1 h with h | h; exact hg4S h; exact hS2.2 h
  first | omega | (dsimp only; omega)
 refine jX ?_
 refine qK (qK (qS ?_))
 refine jN (jv2 2 4 ?_)
 refine jS (jR (je (Run.loadA rfl zi zb hb1.cells (by first | rfl | (simp; done))) ?_))
 refine Ops.st (qW.storeA rfl rfl zb hb4 rfl (MlC.cells_one mi)) ?_
 rintro w6 ⟨hb4, (hf6 : Frm [g4] _ _), hs6⟩
 have hb4 : Blk w6 g4 25 mi.cells.toArray := hb4
 refine jO (jN (jv1 4 ?_))
 refine jT ?_
 refine bM ?_
 refine qC rfl zi zb (hb4.cells) (by first | rfl | (simp; done)) ?_
 refine qI ?_
 obtain rfl : i = xs.length := jo
 rw [zaw] at hmi
 refine ⟨mi, rfl, ?_, ⟨S, hkS.frm hf6 (fun y hy h => by rw [za] at hy; rw [hy] at h; exact hg4S h)⟩, K.own hf6 (fun y hy => by rw [za] at hy; omega)⟩
 rw [hmi]
 unfold bX
 rw [hxs]
end
section
open Go.RowKit Go.Sort
theorem cB {m : MlC} (h : bZ m.p) : m.l.length ≤ 24 ∧ 1 ≤ m.v ∧ m.v ≤ 2147483647 ∧ 0 ≤ m.b ∧ m.b ≤ 2147483647 ∧ bK m.p.l ∧ qT ∈ qD m.p := by
 obtain ⟨⟨h1, h2, h3, h4, h5, h6, h7⟩, h8⟩ := h
 have := h1.1
 rw [gR] at this
 exact ⟨this, h3, h4, h5, h6, dD ⟨⟨h1, h2, h3, h4, h5, h6, h7⟩, h8⟩, h7⟩
theorem jW {p : MailP} {a b : Nat} (h : cV p a b = 0) : p.l.length + a ≤ 24 ∧ p.valid + (b : Int) ≤ 2147483647 := by
 unfold cV at h
 split at h
 · cases h
 split at h
 · cases h
 omega
theorem nM (l : List NmP) (s : Tx) : (qO l s).length ≤ s.length := by
 unfold qO
 rw [zeq]
 exact zay (zdc _ _) (qXl s)
set_option maxHeartbeats 1000000 in
theorem rR (m : MlC) (q : Tx) (w : World) (hm : RdL w m) (hs : q.length ≤ 900000) (hv : cZ w) :
  Calls Tryz.prog 13 #[m.val, encStr q] w fun e w' => ∃ (m' : MlC) (k : Nat), e = .returned (.tuple #[m'.val, .int .i64 ((k : Nat) : Int)]) ∧ bI w w' m (fW m.p q) m' k ∧ Frm [] w w' := by
 have hln := hm.ln
 have hml := nM m.p.l q
 have hpl := cA m
 refine VC.calls (nt := 41) (res := #[.cell 4 25, .tmp 5]) Tryz.func13 rfl Tryz.ntmps13 Tryz.results13 rfl ?_
 refine jS (jR ?_)
 refine Ops.m (qH.box rfl) rfl ?_
 rintro _ w1 ⟨rfl, hF_w1⟩
 have hb1 : Blk w1 w.heap.size 25 #[.slice m.A m.l.length m.c, .slice m.S m.ss.length m.d, .int .i64 m.v, .int .i64 m.b] := hF_w1.blk
 have K := hF_w1.frm
 generalize hg1 : w.heap.size = g1 at hb1 ⊢
 refine Ops.m (qH.alloc bQ) rfl ?_
 rintro _ w2 ⟨rfl, hF2⟩
 have hb4 := hF2.blk
 have hg4 : w.heap.size ≤ w1.heap.size := K.size
 have hb1 := hb1.frm hF2.frm jp
 have hl1 := hb1.lt
 have hl4 := hb4.lt
 have K := K.trans hF2.frm jp
 have hne14 : g1 ≠ w1.heap.size := by have := hF_w1.size; omega
 have hg1s : w.heap.size ≤ g1 := jo
 generalize hg4' : w1.heap.size = g4 at hb4 hg4 hne14 hl4 ⊢
 refine jz 0 (jO (jN (jv3 1 2 4 ?_)))
 refine jS (jS (jR (je (Run.loadA rfl zi zb hb1.cells (by first | rfl | (simp; done))) ?_)))
 refine Ops.cl (jE1 zed) (dJ m _ (hm.frm K) (hv.frm K)) rfl ?_
 rintro e w3 ⟨rfl, hf3⟩
 refine ⟨_, rfl, ?_⟩
 have hb1 := hb1.frm hf3 jp
 have hb4 := hb4.frm hf3 jp
 have hKs_hf3 := K.size
 have K := K.trans hf3 jp
 refine je (Run.not rfl) (jO (jN (jv4 1 2 4 12 ?_)))
 refine VC.condB rfl (fun hc1 => ?_) (fun hc1 => ?_)
 ·
  have hc1 : ¬ bZ m.p := by simpa using hc1
  refine jS (jR (je (Run.build evs.nil bQ (qB).choose_spec.1 (qB).choose_spec.2 rfl) ?_))
  refine Ops.st (qW.storeA rfl rfl zb hb4 rfl (MlC.cells_one qR)) ?_
  rintro w4 ⟨hb4, (hfw4 : Frm [g4] _ _), hsw4⟩
  have hb4 : Blk w4 g4 25 qR.cells.toArray := hb4
  have K := K.own hfw4 (fun y hy => by rw [za] at hy; omega)
  refine jz 1 (jO (jN (jv2 4 5 ?_)))
  refine jT ?_
  refine qZ (bM ?_)
  refine qC rfl zi zb (hb4.cells) (by first | rfl | (simp; done)) ?_
  refine qL rfl ?_
  refine qI ?_
  exact ⟨qR, 1, rfl, bI.err jd (by unfold fW; rw [if_pos hc1]), K⟩
 have hc1 : bZ m.p := by simpa using hc1
 obtain ⟨hm24, hv1, hv2, hb0, hb2, hr, hin⟩ := cB hc1
 refine jQ (jN (jv3 1 2 4 ?_))
 refine jS (jS (jR (jM ?_)))
 refine Ops.cl (jE1 zbw) (bF q _ jo (hv.frm K)) rfl ?_
 rintro e _ ⟨rfl, rfl⟩
 refine ⟨_, rfl, ?_⟩
 refine je (Run.not rfl) (jO (jN (jv4 1 2 4 16 ?_)))
 refine VC.condB rfl (fun hc2 => ?_) (fun hc2 => ?_)
 ·
  have hc2 : ¬ isN q := by simpa using hc2
  refine jS (jR (je (Run.build evs.nil bQ (qB).choose_spec.1 (qB).choose_spec.2 rfl) ?_))
  refine Ops.st (qW.storeA rfl rfl zb hb4 rfl (MlC.cells_one qR)) ?_
  rintro w4 ⟨hb4, (hfw4 : Frm [g4] _ _), hsw4⟩
  have hb4 : Blk w4 g4 25 qR.cells.toArray := hb4
  have K := K.own hfw4 (fun y hy => by rw [za] at hy; omega)
  refine jz 18 (jO (jN (jv2 4 5 ?_)))
  refine jT ?_
  refine qZ (bM ?_)
  refine qC rfl zi zb (hb4.cells) (by first | rfl | (simp; done)) ?_
  refine qL rfl ?_
  refine qI ?_
  exact ⟨qR, 18, rfl, bI.err jd (by unfold fW; rw [if_neg (not_not_intro hc1), if_pos hc2]), K⟩
 have hc2 : isN q := by simpa using hc2
 refine jQ (jN (jv3 1 2 4 ?_))
 refine jS (jS (jR (je (Run.loadA rfl zi zb hb1.cells (by first | rfl | (simp; done))) (jM ?_))))
 refine Ops.cl (jE2 zcz) (cQ m q _ (hm.frm K).l hln jo hr (hv.frm K)) rfl ?_
 rintro e w4 ⟨kf, rfl, hpos, hf4⟩
 refine ⟨_, rfl, ?_⟩
 have hb1 := hb1.frm hf4 jp
 have hb4 := hb4.frm hf4 jp
 have hKs_hf4 := K.size
 have K := K.trans hf4 jp
 refine jm rfl (je (Run.extract rfl rfl) (je (Run.extract rfl rfl) (ja rfl (ja rfl (jO (jN (jv4 1 2 4 7 ?_)))))))
 refine jS (jR (jm rfl (jO (jN (jv4 1 2 4 24 ?_)))))
 refine VC.condB rfl (fun hc3 => ?_) (fun hc3 => ?_)
 ·
  have hc3 : qJ q ∈ qD m.p := by simpa using hc3
  refine jS (jR (je (Run.build evs.nil bQ (qB).choose_spec.1 (qB).choose_spec.2 rfl) ?_))
  refine Ops.st (qW.storeA rfl rfl zb hb4 rfl (MlC.cells_one qR)) ?_
  rintro w5 ⟨hb4, (hfw5 : Frm [g4] _ _), hsw5⟩
  have hb4 : Blk w5 g4 25 qR.cells.toArray := hb4
  have K := K.own hfw5 (fun y hy => by rw [za] at hy; omega)
  refine jz 15 (jO (jN (jv2 4 5 ?_)))
  refine jT ?_
  refine qZ (bM ?_)
  refine qC rfl zi zb (hb4.cells) (by first | rfl | (simp; done)) ?_
  refine qL rfl ?_
  refine qI ?_
  exact ⟨qR, 15, rfl, bI.err jd (by unfold fW; rw [if_neg (not_not_intro hc1), if_neg (not_not_intro hc2), if_pos hc3]), K⟩
 have hc3 : qJ q ∉ qD m.p := by simpa using hc3
 refine jQ (jN (jv3 1 2 4 ?_))
 refine jS (jR (je (Run.loadA rfl zi zb hb1.cells (by first | rfl | (simp; done))) (jM ?_)))
 refine Ops.cl (jE2 Tryz.call47) (eG m q _ (hm.frm K) jo hr (hv.frm K)) rfl ?_
 rintro e w5 ⟨B, d, rfl, ho, hob, hf5⟩
 refine ⟨_, rfl, ?_⟩
 have hb1 := hb1.frm hf5 jp
 have hb4 := hb4.frm hf5 jp
 have hKs_hf5 := K.size
 have K := K.trans hf5 jp
 refine je (Run.lenS rfl zj) (ja rfl (jO (jN (jv4 1 2 4 8 ?_))))
 refine jS (jS (jR (je (Run.loadA rfl zi zb hb1.cells (by first | rfl | (simp; done))) (jm rfl (jM ?_)))))
 refine Ops.cl (jE3 Tryz.call48) (kR m _ _ _ hln jo jo jo jo) rfl ?_
 rintro e w6 ⟨rfl, hf6⟩
 refine ⟨_, rfl, ?_⟩
 have hb1 := hb1.frm hf6 jp
 have hb4 := hb4.frm hf6 jp
 have hKs_hf6 := K.size
 have K := K.trans hf6 jp
 refine ja rfl (jO (jN (jv4 1 2 4 9 ?_)))
 refine jS (jR (jm rfl (jb rfl rfl (Bin.neqN _ 0) (jO (jN (jv5 1 2 4 9 35 ?_))))))
 refine jD rfl (fun hc4 => ?_) fun hc4 => ?_
 ·
  refine jS (jR (je (Run.build evs.nil bQ (qB).choose_spec.1 (qB).choose_spec.2 rfl) (jM ?_)))
  refine Ops.st (qW.storeA rfl rfl zb hb4 rfl (MlC.cells_one qR)) ?_
  rintro w7 ⟨hb4, (hfw7 : Frm [g4] _ _), hsw7⟩
  have hb4 : Blk w7 g4 25 qR.cells.toArray := hb4
  have K := K.own hfw7 (fun y hy => by rw [za] at hy; omega)
  refine ja rfl (jO (jN (jv2 4 5 ?_)))
  refine jT ?_
  refine qZ (bM ?_)
  refine qC rfl zi zb (hb4.cells) (by first | rfl | (simp; done)) ?_
  refine qL rfl ?_
  refine qI ?_
  exact ⟨qR, _, rfl, bI.err hc4 (by unfold fW; rw [if_neg (not_not_intro hc1), if_neg (not_not_intro hc2), if_neg hc3, if_pos hc4]), K⟩
 have hc4 : cV m.p (qO m.p.l q).length (qO m.p.l q).length = 0 := jo
 obtain ⟨hro1, hro2⟩ := jW hc4
 have hc4 : ¬ cV m.p (qO m.p.l q).length (qO m.p.l q).length ≠ 0 := jo
 refine jQ (jN (jv3 1 2 4 ?_))
 refine jS (jR (je (Run.loadA rfl zi zb hb1.cells (by first | rfl | (simp; done))) (jM ?_)))
 refine Ops.cl (jE2 Tryz.call49) (gD m q _ (hm.frm K) jo hr jo jo hro2 (hv.frm K)) rfl ?_
 rintro e w7 ⟨m', rfl, hm'p, ⟨S, hkS⟩, hf7⟩
 have hl47 := hb4.lt
 refine ⟨_, rfl, ?_⟩
 have hb1 := hb1.frm hf7 jp
 have hb4 := hb4.frm hf7 jp
 have hKs_hf7 := K.size
 have K := K.trans hf7 jp
 refine Ops.st (qW.storeA rfl rfl zb hb4 rfl (MlC.cells_one m')) ?_
 rintro w8 ⟨hb4, (hf8 : Frm [g4] _ _), hs8⟩
 have hb4 : Blk w8 g4 25 m'.cells.toArray := hb4
 have hkS8 := (hkS.old hKs_hf7).frm hf8 (fun y hy h => by rw [za] at hy; rw [hy] at h; have := hkS.1 _ h; omega)
 have K := K.own hf8 (fun y hy => by rw [za] at hy; omega)
 refine jz 0 (jO (jN (jv2 4 5 ?_)))
 refine jT ?_
 refine bM ?_
 refine qC rfl zi zb (hb4.cells) (by first | rfl | (simp; done)) ?_
 refine qL rfl ?_
 refine qI ?_
 refine ⟨m', 0, rfl, ⟨⟨S, hkS8⟩, .inl ⟨rfl, ?_⟩⟩, K⟩
 unfold fW
 rw [if_neg (not_not_intro hc1), if_neg (not_not_intro hc2), if_neg hc3, if_neg hc4, hm'p]
end
section
open Go.RowKit Go.Sort
def mW (S : List Nat) (w : World) (f : FuncId) (us : List Value) (p : Tx → Bool) : Prop :=
 (∀ args w, (callFunc f args).run Tryz.prog w = .ok (.enter f args) w) ∧ ∀ W (x : Tx), Frm S w W → x.length ≤ 1000000 → Calls Tryz.prog f (encStr x :: us).toArray W fun e w' => e = .returned (.bool (p x)) ∧ Frm [] W w'
theorem vW {q : Tx → Bool} {l cur : List Tx} {i j : Nat} (hj : j < l.length) (hlen : cur.length = l.length) (h1 : cur.take i = (l.take j).filter q) (h2 : cur.drop j = l.drop j) (hij : i < j) (hx : q l[j] = true) :
  (cur.set i l[j]).take (i + 1) = (l.take (j + 1)).filter q ∧ (cur.set i l[j]).drop (j + 1) = l.drop (j + 1) := by
 constructor
 ·
  rw [zao, zao, List.take_set, List.set_eq_of_length_le (by simp; omega), h1, zbv, zby jo, ze hj]
  simp [hx]
 rw [List.drop_set, if_pos jo]
 have := congrArg (List.drop 1) h2
 simpa [List.drop_drop] using this
theorem vY {q : Tx → Bool} {l cur : List Tx} {i j : Nat} (hj : j < l.length) (h1 : cur.take i = (l.take j).filter q) (h2 : cur.drop j = l.drop j) (hx : q l[j] = false) :
  cur.take i = (l.take (j + 1)).filter q ∧ cur.drop (j + 1) = l.drop (j + 1) := by
 constructor
 ·
  rw [zao, zbv, ← h1, ze hj]
  simp [hx]
 have := congrArg (List.drop 1) h2
 simpa [List.drop_drop] using this
theorem xL {l cur : List Tx} {j : Nat} (hj : j < l.length) (hj' : j < cur.length) (h2 : cur.drop j = l.drop j) : cur[j] = l[j] := by
 have := congrArg List.head? h2
 simpa [List.head?_drop, ze hj, ze hj'] using this
theorem mS (f : FuncId) (us : List Value) (p : Tx → Bool) (A : Option Addr) (c : Nat) (l : List Tx) (w : World) (hl : Rd w 1 A l.length (SB l)) (hn : l.length ≤ 1000000) (hq : ∀ q ∈ l, q.length ≤ 1000000) (S : List Nat) (hp : mW S w f us p) :
  Calls Tryz.prog 109 #[.slice A l.length c, .func (.func f) #[] us.toArray] w fun e w' => Frm [] w w' ∧ ∃ k, (∀ j (hj : j < l.length), j < k → p l[j] = false) ∧ ((k = l.length ∧ e = .returned (.int .i64 (-1))) ∨ (∃ hk : k < l.length, p l[k] = true ∧ e = .returned (.int .i64 ((k : Nat) : Int)))) := by
 refine VC.calls (nt := 19) (res := #[.tmp 4]) Tryz.func109 rfl Tryz.ntmps109 Tryz.results109 rfl ?_
 refine jS (jR (jz 0 (jO (jN (jv2 0 1 ?_)))))
 refine jS (jS (jR (jm rfl (je (Run.lenS rfl zj) ?_))))
 refine jx .i64 0 ?_
 refine jO (jN (jv4 0 1 7 8 ?_))
 refine jB ?_
 refine VC.loop (σ := Nat) (fun s => [(0, .slice A l.length c), (1, .func (.func f) #[] us.toArray), (7, .int .i64 ((l.length : Nat) : Int)), (8, .int .i64 ((s : Nat) : Int))]) (fun s wr => s ≤ l.length ∧ Frm [] w wr ∧ ∀ j (hj : j < l.length), j < s → p l[j] = false) (fun s => l.length - s) 0 (js4 rfl rfl rfl rfl) ⟨jo, Frm.refl _ _, jp⟩ ?_
 rintro i wr ⟨hi, hfr, hf⟩
 refine jS (jR (jb rfl rfl (Bin.lssN _ _) (jO (jN (jS ?_)))))
 refine jD rfl (fun hc1 => ?_) fun hc1 => ?_
 ·
  obtain ⟨ad, rfl, hcell⟩ := (hl.frm hfr jp).elem hc1
  have hxa := hq l[i] (zm hc1)
  refine jQ (jN (jv4 0 1 7 8 ?_))
  refine jS (jB (jS (jR (jm rfl (ja rfl (jO (jN (jv5 0 1 5 7 8 ?_))))))))
  refine jS (jR (jm rfl (jm rfl (jm rfl (je (Run.indexS i rfl rfl zj zx hc1) (jl rfl zac (hcell 0 (encStr l[i]) (by simp [SB, hc1])) ?_))))))
  refine Ops.cl (bH.dyn rfl (evs.cons rfl evs.nil) hp.1) (hp.2 _ l[i] (hfr.mono jp) hxa) rfl ?_
  rintro e w2 ⟨rfl, hf2⟩
  refine ⟨_, rfl, ?_⟩
  have hfr2 := hfr.trans hf2 jp
  refine jO (jN (jv6 0 1 5 7 8 16 ?_))
  refine VC.condB rfl (fun hc2 => ?_) (fun hc2 => ?_)
  ·
   refine jS (jR (jm rfl (ja rfl (jO (jN (jv1 4 ?_))))))
   refine jT ?_
   refine qP (qZ (qZ (qP (qZ (qF rfl ?_)))))
   exact ⟨hfr2, i, hf, .inr ⟨hc1, hc2, rfl⟩⟩
  refine jQ ?_
  refine qN (jN ?_)
  refine jv4 0 1 7 8 ?_
  refine jR (jb rfl rfl (Bin.add_i64 _ 1 jo) (jm rfl (jO ?_)))
  refine jN ⟨(i + 1), (js4 rfl rfl rfl rfl), ?_, ?_⟩
  ·
   refine ⟨hc1, hfr2, fun j hj hji => ?_⟩
   rcases zbs j i with h | h
   · exact hf j hj h
   obtain rfl : j = i := jo
   simpa using hc2
  first | omega | (dsimp only; omega)
 refine jX ?_
 refine qK (qK (qS ?_))
 refine jN ?_
 refine VC.sub [] .nil ?_
 refine jS (jR ?_)
 refine Ops.r (v := .int .i64 (-1)) (Run.asg rfl) rfl ?_
 refine jO (jN (jT ?_))
 refine qF rfl ?_
 exact ⟨hfr, i, hf, .inl ⟨jo, rfl⟩⟩
theorem vG (f : FuncId) (us : List Value) (p : Tx → Bool) (A : Option Addr) (c : Nat) (l : List Tx) (w : World) (hl : Rd w 1 A l.length (SB l)) (hn : l.length ≤ 1000000) (hq : ∀ q ∈ l, q.length ≤ 1000000) (S : List Nat) (hp : mW S w f us p) :
  Calls Tryz.prog 54 #[.slice A l.length c, .func (.func f) #[] us.toArray] w fun e w' => e = .returned (.bool (decide (∃ x ∈ l, p x = true))) ∧ Frm [] w w' := by
 refine VC.calls (nt := 9) (res := #[.tmp 4]) Tryz.func54 rfl Tryz.ntmps54 Tryz.results54 rfl ?_
 refine jS (jR (ja rfl (jO (jN (jv2 0 1 ?_)))))
 refine jS (jR (jm rfl (jM ?_)))
 refine Ops.cl (jE2 Tryz.call109) (mS f us p A c l _ hl hn hq S hp) rfl ?_
 rintro e w1 ⟨hf1, k, hk1, hk2⟩
 obtain ⟨z, rfl, hz⟩ : ∃ z : Int, e = .returned (.int .i64 z) ∧ (0 ≤ z ↔ ∃ x ∈ l, p x = true) := by
  rcases hk2 with ⟨h1, h2⟩ | ⟨h1, h2, h3⟩
  ·
   refine ⟨_, h2, ⟨fun h => jo, fun ⟨x, hx, hpx⟩ => ?_⟩⟩
   obtain ⟨j, hj, rfl⟩ := zu hx
   rw [hk1 j hj jo] at hpx
   cases hpx
  exact ⟨_, h3, ⟨fun _ => ⟨_, zm h1, h2⟩, fun _ => jo⟩⟩
 refine ⟨_, rfl, ?_⟩
 refine jb rfl rfl (Bin.geq _ 0) (ja rfl (jO (jN (jv1 4 ?_))))
 refine jT ?_
 refine qF rfl ?_
 exact ⟨by rw [decide_eq_decide.2 hz], hf1⟩
theorem pX (f : FuncId) (us : List Value) (p : Tx → Bool) (B : Option Addr) (d : Nat) (l : List Tx) (w : World) (hl : Own w 9 1 B l.length d (SB l)) (hn : l.length ≤ 1000000) (hq : ∀ q ∈ l, q.length ≤ 1000000) (hp : mW (ob B) w f us p) :
  Calls Tryz.prog 79 #[.slice B l.length d, .func (.func f) #[] us.toArray] w fun e w' => e = .returned (.slice B (l.filter fun x => !p x).length d) ∧ Own w' 9 1 B (l.filter fun x => !p x).length d (SB (l.filter fun x => !p x)) ∧ Frm (ob B) w w' := by
 refine VC.calls (nt := 42) (res := #[.tmp 4]) Tryz.func79 rfl Tryz.ntmps79 Tryz.results79 rfl ?_
 refine jS (jR (ja rfl (jO (jN (jv2 0 1 ?_)))))
 refine jS (jR (jm rfl (jM ?_)))
 refine Ops.cl (jE2 Tryz.call109) (mS f us p B d l _ hl.rd hn hq (ob B) hp) rfl ?_
 rintro e w1 ⟨hf1, k, hk1, hk2⟩
 obtain ⟨z, rfl, hz⟩ : ∃ z : Int, e = .returned (.int .i64 z) ∧ ((z = -1 ∧ k = l.length) ∨ (z = ((k : Nat) : Int) ∧ ∃ hk : k < l.length, p l[k] = true)) := by
  rcases hk2 with ⟨h1, h2⟩ | ⟨h1, h2, h3⟩
  · exact ⟨_, h2, .inl ⟨rfl, h1⟩⟩
  exact ⟨_, h3, .inr ⟨rfl, h1, h2⟩⟩
 refine ⟨_, rfl, ?_⟩
 refine ja rfl (jO (jN (jv3 0 1 5 ?_)))
 refine jS (jS (jR (jm rfl (jb rfl rfl (Bin.eql _ (-1)) (jO (jN (jv4 0 1 5 12 ?_)))))))
 refine jD rfl (fun hc1 => ?_) fun hc1 => ?_
 ·
  have hkl : k = l.length := jo
  have hall : l.filter (fun x => !p x) = l := List.filter_eq_self.2 fun x hx => by
   obtain ⟨j, hj, rfl⟩ := zu hx
   simp [hk1 j hj jo]
  refine jS (jR (jm rfl (ja rfl (jO (jN (jv1 4 ?_))))))
  refine jT ?_
  refine qZ (qF rfl ?_)
  rw [hall]
  exact ⟨rfl, hl.frm hf1 jp, hf1.mono jp⟩
 obtain ⟨rfl, hkl, hkp⟩ : z = ((k : Nat) : Int) ∧ ∃ hk : k < l.length, p l[k] = true := by
  rcases hz with ⟨h1, _⟩ | ⟨h1, h2⟩
  · exact absurd h1 hc1
  exact ⟨h1, h2⟩
 obtain ⟨g, rfl⟩ : ∃ g, B = some ⟨g, 0, none⟩ := by
  rcases hl.cases with ⟨_, h0, _⟩ | ⟨g, _, h0, _⟩
  · omega
  exact ⟨g, h0⟩
 have hob : ob (some (⟨g, 0, none⟩ : Addr)) = [g] := rfl
 have hgw := hl.lt g (by simp [ob])
 have hled := hl.le
 refine jQ (jN (jv3 0 1 5 ?_))
 refine jS (jS (jR (jm rfl (jb rfl rfl (Bin.addZ _ 1 jo jo) (ja rfl (jO (jN (jv4 0 1 5 6 ?_))))))))
 refine jB ?_
 refine VC.loop (σ := Nat × Nat × List Tx) (fun s => [(0, .slice (some ⟨g, 0, none⟩) l.length d), (1, .func (.func f) #[] us.toArray), (5, .int .i64 ((s.1 : Nat) : Int)), (6, .int .i64 ((s.2.1 : Nat) : Int))]) (fun s wr => s.1 < s.2.1 ∧ s.2.1 ≤ l.length ∧ s.2.2.length = l.length ∧ Own wr 9 1 (some ⟨g, 0, none⟩) l.length d (SB s.2.2) ∧ s.2.2.take s.1 = (l.take s.2.1).filter (fun x => !p x) ∧ s.2.2.drop s.2.1 = l.drop s.2.1 ∧ Frm [g] w wr) (fun s => l.length - s.2.1) (k, k + 1, l) (js4 rfl rfl rfl rfl) ⟨by dsimp only; omega, hkl, rfl, hl.frm hf1 jp, by
  dsimp only
  rw [zao, zbv, ze hkl]
  rw [List.filter_eq_self.2 (fun x hx => by
   obtain ⟨j, hj, rfl⟩ := zu hx
   have hj2 : j < k := by simpa [zal (Nat.le_of_lt hkl)] using hj
   simp [hk1 j jo hj2])]
  simp [hkp], rfl, hf1.mono jp⟩ ?_
 rintro ⟨i, j, cur⟩ wr ⟨hij, hjl, hlen, hown, ht1, ht2, hfr⟩
 dsimp only at hij hjl hlen hown ht1 ht2 ⊢
 refine jS (jS (jR (jm rfl (jm rfl (je (Run.lenS rfl zj) (jb rfl rfl (Bin.lssN _ _) (jO (jN (jv5 0 1 5 6 19 ?_)))))))))
 refine jD rfl (fun hc2 => ?_) fun hc2 => ?_
 ·
  have hjc : j < cur.length := jo
  obtain ⟨ad, had, hcell⟩ := hown.rd.elem hc2
  injection had with had
  subst had
  have hxj : (SB cur)[j]? = some (encStr cur[j]) := by simp [SB, hjc]
  have hcl := xL hc2 hjc ht2
  have hxq := hq l[j] (zm hc2)
  refine jQ (jN (jv4 0 1 5 6 ?_))
  refine jS (jB (jS (jR (jm rfl (jm rfl (je (Run.indexS j rfl rfl zj zx hc2) (jl rfl zac (hcell 0 (encStr cur[j]) (by simp [SB, hjc])) (ja rfl (jO (jN (jv5 0 1 5 6 7 ?_)))))))))))
  refine jS (jR (jm rfl (jM ?_)))
  refine Ops.cl (bH.dyn rfl (evs.cons rfl evs.nil) hp.1) (hp.2 _ cur[j] hfr (by rw [hcl]; exact hxq)) rfl ?_
  rintro e w4 ⟨rfl, hf4⟩
  refine ⟨_, rfl, ?_⟩
  have hown4 := hown.frm hf4 jp
  have hfr4 := hfr.trans hf4 jp
  refine je (Run.not rfl) (jO (jN (jv6 0 1 5 6 7 29 ?_)))
  refine VC.condB rfl (fun hc3 => ?_) (fun hc3 => ?_)
  ·
   refine jS (jR (jm rfl (jm rfl (jm rfl (je (Run.indexS i rfl rfl zj zx jo) ?_)))))
   refine Ops.st (qW.storeOwn i (by rw [zbj]; rfl) rfl zx hown4 rfl jo rfl) ?_
   rintro w5 ⟨hown5, hf5, hs5⟩
   have hown5 : Own w5 9 1 (some ⟨g, 0, none⟩) l.length d (SB (cur.set i cur[j])) := by
    have e : SB (cur.set i cur[j]) = (SB cur).set i (encStr cur[j]) := by simp [SB, zet]
    rw [e]
    exact hown5
   have hfr5 : Frm [g] w w5 := hfr4.trans hf5 (by simp [ob])
   refine jO (jN (jv4 0 1 5 6 ?_))
   refine jR (jm rfl (jb rfl rfl (Bin.add_i64 _ 1 jo) (ja rfl (jO ?_))))
   refine qN (jN ?_)
   refine jv4 0 1 5 6 ?_
   refine jR (jm rfl (jb rfl rfl (Bin.add_i64 _ 1 jo) (ja rfl (jO ?_))))
   refine jN ⟨(i + 1, j + 1, cur.set i cur[j]), (js4 rfl rfl rfl rfl), ?_, ?_⟩
   ·
    have hq2 : (fun x : Tx => !p x) l[j] = true := by rw [← hcl]; simpa using hc3
    have hk := vW (q := fun x => !p x) hc2 hlen ht1 ht2 hij hq2
    rw [← hcl] at hk
    exact ⟨by dsimp only; omega, hc2, by simpa using hlen, hown5, hk.1, hk.2, hfr5⟩
   first | omega | (dsimp only; omega)
  refine jQ ?_
  refine qN (jN ?_)
  refine jv4 0 1 5 6 ?_
  refine jR (jm rfl (jb rfl rfl (Bin.add_i64 _ 1 jo) (ja rfl (jO ?_))))
  refine jN ⟨(i, j + 1, cur), (js4 rfl rfl rfl rfl), ?_, ?_⟩
  ·
   have hq2 : (fun x : Tx => !p x) l[j] = false := by rw [← hcl]; simpa using hc3
   have hk := vY (q := fun x => !p x) hc2 ht1 ht2 hq2
   exact ⟨by dsimp only; omega, hc2, hlen, hown4, hk.1, hk.2, hfr4⟩
  first | omega | (dsimp only; omega)
 refine jX ?_
 refine qK (qK (qS ?_))
 refine jN (jv2 0 5 ?_)
 refine jS (jR (jm rfl (jm rfl (je (Run.sliceS _ _ rfl zj zx (evB.some_ rfl) evB.none_ jo jo) ?_))))
 have hjl2 : j = l.length := jo
 subst hjl2
 rw [zaw] at ht1
 have hli : (l.filter fun x => !p x).length = i := by rw [← ht1, zk]; omega
 have hfl : (l.filter fun x => !p x).length ≤ l.length := zdc _ _
 refine Ops.m0 (qH.clearCut (m := l.length) (size := 1) rfl zj mX rfl jd hown jo) ?_
 rintro _ w6 ⟨hown6, hf6⟩
 have hMC : (SB cur).take (i * 1) = SB (l.filter fun x => !p x) := by
  rw [← ht1, zbj]
  simp [SB, zdo]
 rw [hMC] at hown6
 refine jO (jN (jv2 0 5 ?_))
 refine jS (jR (jm rfl (jm rfl (je (Run.sliceS 0 _ rfl zj zx evB.none_ (evB.some_ rfl) jo jo) (ja rfl (jO (jN (jv1 4 ?_))))))))
 refine jT ?_
 refine qF rfl ?_
 rw [hli]
 refine ⟨?_, hown6, hfr.trans hf6 (by simp [ob])⟩
 rw [eL]
 rfl
end
section
open Go.RowKit Go.Sort
def newM : MailP := ⟨[(qT, ⟨1, 1, []⟩)], [], 1, 0⟩
theorem tC (l : List Nc) (i : Nat) (hi : i < l.length) : (l.take i ++ l.drop (i + 1)).length = l.length - 1 := by
 rw [zl, zk, zag]
 omega
theorem qZf (l : List Nc) (i : Nat) : Ns (l.take i ++ l.drop (i + 1)) = (Ns l).take i ++ (Ns l).drop (i + 1) := by
 simp [Ns, zdo, List.map_drop]
theorem qQd {w w' : World} {m : MlC} {i : Nat} {A : Option Addr} {c : Nat} (hi : i < m.l.length) (ho : Own w' 45 4 A (m.l.length - 1) c (NDC (m.l.take i ++ m.l.drop (i + 1)))) (hf : ∀ b ∈ ob A, w.heap.size ≤ b) :
  bA w w' (ob A) m (m.wl A c (m.l.take i ++ m.l.drop (i + 1))) := by
 have hll := tC m.l i hi
 refine ⟨hf, fun w'' T kT hT hm => ?_⟩
 have ho := ho.frm kT (fun y hy h => hT y h hy)
 have hln := hm.ln
 refine ⟨⟨ho.rdNk hll, fun y hy => ?_⟩, hm.s, by show List.length (_ ++ _) ≤ _; rw [hll]; exact ho.le, hm.sc, by show List.length (_ ++ _) ≤ _; rw [hll]; omega, hm.sn, hm.sq⟩
 rcases List.mem_append.1 hy with h1 | h1
 · exact hm.l.el y (zdr h1)
 exact hm.l.el y (zcs h1)
theorem xO (w : World) : Calls Tryz.prog 28 #[] w fun e w' => ∃ m' : MlC, e = .returned m'.val ∧ m'.p = newM ∧ (∃ S, bA w w' S qR m') ∧ Frm [] w w' := by
 have K := Frm.refl [] w
 have hmb0 : bE ⟨1, 1, []⟩ := jd
 refine VC.calls (nt := 11) (res := #[.cell 0 25]) Tryz.func28 rfl Tryz.ntmps28 Tryz.results28 rfl ?_
 refine jS (jR ?_)
 refine Ops.m (qH.alloc bQ) rfl ?_
 rintro _ w1 ⟨rfl, hF1⟩
 have hb0 := hF1.blk
 have hl0 := hb0.lt
 have hg0 : w.heap.size ≤ w.heap.size := zv _
 have K := K.trans hF1.frm jp
 generalize hg0' : w.heap.size = g0 at hb0 hg0 hl0 ⊢
 refine jO (jN (jS (jR ?_)))
 refine Ops.cl (jE1 Tryz.call82) (nG 1 _) rfl ?_
 rintro e w5 ⟨hf5, hc5⟩
 obtain rfl : e = .returned (.tuple #[.agg #[.int .i64 1, .int .i64 1, .slice none 0 0], .int .i64 0]) := by
  rcases hc5 with ⟨_, h⟩ | ⟨h, _⟩
  · exact h
  exact absurd hmb0 h
 refine ⟨_, rfl, ?_⟩
 have hb0 := hb0.frm hf5 jp
 have K := K.trans hf5 jp
 refine jm rfl (je (Run.extract rfl rfl) (je (Run.extract rfl rfl) ?_))
 refine Ops.m (qH.alloc cP) rfl ?_
 rintro _ w6 ⟨rfl, hF6⟩
 have hb1 := hF6.blk
 have hg1 : w.heap.size ≤ w5.heap.size := K.size
 have hl05 := hb0.lt
 have hb0 := hb0.frm hF6.frm jp
 have K := K.trans hF6.frm jp
 generalize hg1' : w5.heap.size = g1 at hb1 hg1 hl05 ⊢
 refine Ops.st (qW.storeA rfl rfl zp hb1 rfl (cW _ _ none 0 0)) ?_
 rintro w7 ⟨hb1, (hf7 : Frm [g1] _ _), hs7⟩
 have hb1 : Blk w7 g1 43 #[.int .i64 1, .int .i64 1, .slice none 0 0] := hb1
 have hb0 := hb0.frm hf7 (by simp; omega)
 have K := K.own hf7 (fun y hy => by rw [za] at hy; omega)
 refine ja rfl (jO (jN (jv2 0 1 ?_)))
 refine jS (jR (je (Run.loadA rfl zat zp hb1.cells (by first | rfl | (simp; done))) (je (Run.build (evs.cons rfl (evs.cons rfl evs.nil)) cE (fK).choose_spec.1 (fK).choose_spec.2 rfl) ?_)))
 refine Ops.m (qH.buildS1 rfl zf zn cE jd jd rfl rfl) rfl ?_
 rintro _ w8 ⟨rfl, hF8⟩
 have hl07 := hb0.lt
 have ho8 : Own w8 45 4 (some ⟨w7.heap.size, 0, none⟩) 1 1 (NDC [⟨qT, 1, 1, none, 0, []⟩]) := Own.of_blk (n := 1) (size := 4) hF8.blk rfl jd
 have hb0 := hb0.frm hF8.frm jp
 have hK7 := K.size
 have K := K.trans hF8.frm jp
 refine je (Run.build (evs.cons rfl (evs.cons rfl evs.nil)) bQ (qB).choose_spec.1 (qB).choose_spec.2 rfl) ?_
 refine Ops.st (qW.storeA rfl rfl zb hb0 rfl (MlC.cells_one ⟨some ⟨w7.heap.size, 0, none⟩, 1, [⟨qT, 1, 1, none, 0, []⟩], none, 0, [], 1, 0⟩)) ?_
 rintro w9 ⟨hb0, (hf9 : Frm [g0] _ _), hs9⟩
 have ho9 := ho8.frm hf9 (by simp [ob]; omega)
 refine jO (jN (jv1 0 ?_))
 refine jT ?_
 refine bM ?_
 refine qC rfl zi zb (hb0.cells) (by first | rfl | (simp; done)) ?_
 refine qI ?_
 refine ⟨⟨some ⟨w7.heap.size, 0, none⟩, 1, [⟨qT, 1, 1, none, 0, []⟩], none, 0, [], 1, 0⟩, rfl, rfl, ⟨[w7.heap.size], fun y hy => by rw [za] at hy; omega, fun w'' T kT hT _ => ?_⟩, K.own hf9 (fun y hy => by rw [za] at hy; omega)⟩
 have ho := ho9.frm kT (fun y hy h => hT y h (by simpa [ob] using hy))
 exact ⟨⟨ho.rd, fun y hy => by rw [za] at hy; subst hy; exact ⟨RdM.nil _ _, jp, by simp [qT]⟩⟩, Rd.nil _ _ _, jp, jp, jp, jp, jp⟩
theorem vH (x q : Tx) (g : Nat) (w : World) (hb : Blk w g 9 #[encStr q]) (hx : x.length ≤ 1000000) (hq : q.length ≤ 1000000) (hv : cZ w) :
  Calls Tryz.prog 56 #[encStr x, .pointer (some ⟨g, 0, none⟩)] w fun e w' => e = .returned (.bool (decide (bO x q))) ∧ Frm [] w w' := by
 refine VC.calls (nt := 7) (res := #[.tmp 3]) Tryz.func56 rfl Tryz.ntmps56 Tryz.results56 rfl ?_
 refine jS (jR (ja rfl (jO (jN (jv2 0 1 ?_)))))
 refine jS (jR (jm rfl (jl rfl zac (hb.cell 0) ?_)))
 refine Ops.cl (jE2 Tryz.call57) (eY x q _ hx hq hv) rfl ?_
 rintro e w2 ⟨rfl, hf2⟩
 refine ⟨_, rfl, ?_⟩
 refine ja rfl (jO (jN (jv1 3 ?_)))
 refine jT ?_
 refine qF rfl ?_
 exact ⟨rfl, hf2⟩
set_option maxHeartbeats 1000000 in
theorem lP (m : MlC) (q : Tx) (w : World) (hm : RdL w m) (hs : q.length ≤ 900000) (hv : cZ w) :
  Calls Tryz.prog 17 #[m.val, encStr q] w fun e w' => ∃ (m' : MlC) (k : Nat), e = .returned (.tuple #[m'.val, .int .i64 ((k : Nat) : Int)]) ∧ bI w w' m (eZ m.p q) m' k ∧ Frm [] w w' := by
 have hln := hm.ln
 have hpl := cA m
 have hnl := gR m
 have hnq := oT hm
 refine VC.calls (nt := 47) (res := #[.cell 4 25, .tmp 5]) Tryz.func17 rfl Tryz.ntmps17 Tryz.results17 rfl ?_
 refine jS (jR ?_)
 refine Ops.m (qH.box rfl) rfl ?_
 rintro _ w1 ⟨rfl, hF_w1⟩
 have hb1 : Blk w1 w.heap.size 25 #[.slice m.A m.l.length m.c, .slice m.S m.ss.length m.d, .int .i64 m.v, .int .i64 m.b] := hF_w1.blk
 have K := hF_w1.frm
 generalize hg1 : w.heap.size = g1 at hb1 ⊢
 refine Ops.m (qH.box rfl) rfl ?_
 rintro _ w2 ⟨rfl, hF2⟩
 have hb3 : Blk w2 w1.heap.size 9 #[encStr q] := hF2.blk
 have hb1 := hb1.frm hF2.frm jp
 have hg3 : w.heap.size ≤ w1.heap.size := K.size
 have hne13 : g1 ≠ w1.heap.size := by have := hF_w1.size; omega
 have hg1s : w.heap.size ≤ g1 := jo
 have K := K.trans hF2.frm jp
 generalize hg3' : w1.heap.size = g3 at hb3 hg3 hne13 ⊢
 refine Ops.m (qH.alloc bQ) rfl ?_
 rintro _ w3 ⟨rfl, hF3⟩
 have hb4 := hF3.blk
 have hg4 : w.heap.size ≤ w2.heap.size := K.size
 have hl1 := hb1.lt
 have hl3 := hb3.lt
 have hb1 := hb1.frm hF3.frm jp
 have hb3 := hb3.frm hF3.frm jp
 have K := K.trans hF3.frm jp
 generalize hg4' : w2.heap.size = g4 at hb4 hg4 hl1 hl3 ⊢
 refine jz 0 (jO (jN (jv3 2 3 4 ?_)))
 refine jS (jS (jR (je (Run.loadA rfl zi zb hb1.cells (by first | rfl | (simp; done))) ?_)))
 refine Ops.cl (jE1 zed) (dJ m _ (hm.frm K) (hv.frm K)) rfl ?_
 rintro e w4 ⟨rfl, hf4⟩
 refine ⟨_, rfl, ?_⟩
 have hb1 := hb1.frm hf4 jp
 have hb3 := hb3.frm hf4 jp
 have hb4 := hb4.frm hf4 jp
 have hKs_hf4 := K.size
 have K := K.trans hf4 jp
 refine je (Run.not rfl) (jO (jN (jv4 2 3 4 10 ?_)))
 refine VC.condB rfl (fun hc1 => ?_) (fun hc1 => ?_)
 ·
  have hc1 : ¬ bZ m.p := by simpa using hc1
  refine jS (jR (je (Run.build evs.nil bQ (qB).choose_spec.1 (qB).choose_spec.2 rfl) ?_))
  refine Ops.st (qW.storeA rfl rfl zb hb4 rfl (MlC.cells_one qR)) ?_
  rintro w5 ⟨hb4, (hfw5 : Frm [g4] _ _), hsw5⟩
  have hb4 : Blk w5 g4 25 qR.cells.toArray := hb4
  have K := K.own hfw5 (fun y hy => by rw [za] at hy; omega)
  refine jz 1 (jO (jN (jv2 4 5 ?_)))
  refine jT ?_
  refine qZ (bM ?_)
  refine qC rfl zi zb (hb4.cells) (by first | rfl | (simp; done)) ?_
  refine qL rfl ?_
  refine qI ?_
  exact ⟨qR, 1, rfl, bI.err jd (by unfold eZ; rw [if_pos hc1]), K⟩
 have hc1 : bZ m.p := by simpa using hc1
 obtain ⟨hm24, hv1, hv2, hb0, hb2, hr, hin⟩ := cB hc1
 refine jQ (jN (jv3 2 3 4 ?_))
 refine jS (jR (je (Run.loadA rfl zi zb hb1.cells (by first | rfl | (simp; done))) (jl rfl zac (hb3.cell 0) ?_)))
 refine Ops.cl (jE2 zcz) (cQ m q _ (hm.frm K).l hln jo hr (hv.frm K)) rfl ?_
 rintro e w5 ⟨k, rfl, hpos, hf5⟩
 refine ⟨_, rfl, ?_⟩
 have hb1 := hb1.frm hf5 jp
 have hb3 := hb3.frm hf5 jp
 have hb4 := hb4.frm hf5 jp
 have hKs_hf5 := K.size
 have K := K.trans hf5 jp
 refine jm rfl (je (Run.extract rfl rfl) (je (Run.extract rfl rfl) (ja rfl (ja rfl (jO (jN (jv5 2 3 4 6 7 ?_)))))))
 refine jS (jB (jS (jR (jl rfl zac (hb3.cell 0) ?_))))
 refine Ops.cl (jE1 zbw) (bF q _ jo (hv.frm K)) rfl ?_
 rintro e _ ⟨rfl, rfl⟩
 refine ⟨_, rfl, ?_⟩
 refine je (Run.not rfl) (ja rfl (jO (jN (jv6 2 3 4 6 7 18 ?_))))
 refine VC.condB rfl (fun hc2 => ?_) (fun hc2 => ?_)
 ·
  have hc2 : ¬ isN q := by simpa using hc2
  refine jS (jR (je (Run.build evs.nil bQ (qB).choose_spec.1 (qB).choose_spec.2 rfl) ?_))
  refine Ops.st (qW.storeA rfl rfl zb hb4 rfl (MlC.cells_one qR)) ?_
  rintro w6 ⟨hb4, (hfw6 : Frm [g4] _ _), hsw6⟩
  have hb4 : Blk w6 g4 25 qR.cells.toArray := hb4
  have K := K.own hfw6 (fun y hy => by rw [za] at hy; omega)
  refine jz 18 (jO (jN (jv2 4 5 ?_)))
  refine jT ?_
  refine qP (qZ (bM ?_))
  refine qC rfl zi zb (hb4.cells) (by first | rfl | (simp; done)) ?_
  refine qL rfl ?_
  refine qI ?_
  exact ⟨qR, 18, rfl, bI.err jd (by unfold eZ; rw [if_neg (not_not_intro hc1), if_pos hc2]), K⟩
 have hc2 : isN q := by simpa using hc2
 refine jS (jR (jm rfl (je (Run.not rfl) (ja rfl (jO (jN (jv5 2 3 4 6 23 ?_)))))))
 refine VC.condB rfl (fun hc3 => ?_) (fun hc3 => ?_)
 ·
  have hc3 : qJ q ∉ qD m.p := by simpa using hc3
  refine jS (jR (je (Run.build evs.nil bQ (qB).choose_spec.1 (qB).choose_spec.2 rfl) ?_))
  refine Ops.st (qW.storeA rfl rfl zb hb4 rfl (MlC.cells_one qR)) ?_
  rintro w6 ⟨hb4, (hfw6 : Frm [g4] _ _), hsw6⟩
  have hb4 : Blk w6 g4 25 qR.cells.toArray := hb4
  have K := K.own hfw6 (fun y hy => by rw [za] at hy; omega)
  refine jz 6 (jO (jN (jv2 4 5 ?_)))
  refine jT ?_
  refine qP (qZ (bM ?_))
  refine qC rfl zi zb (hb4.cells) (by first | rfl | (simp; done)) ?_
  refine qL rfl ?_
  refine qI ?_
  exact ⟨qR, 6, rfl, bI.err jd (by unfold eZ; rw [if_neg (not_not_intro hc1), if_neg (not_not_intro hc2), if_pos hc3]), K⟩
 have hc3 : qJ q ∈ qD m.p := by simpa using hc3
 refine jS (jR (jl rfl zac (hb3.cell 0) ?_))
 refine Ops.cl (jE1 zbx) (bS q _ jo (hv.frm K)) rfl ?_
 rintro e w6 ⟨rfl, hf6⟩
 refine ⟨_, rfl, ?_⟩
 have hb1 := hb1.frm hf6 jp
 have hb3 := hb3.frm hf6 jp
 have hb4 := hb4.frm hf6 jp
 have hKs_hf6 := K.size
 have K := K.trans hf6 jp
 refine je (Run.eqlT rfl rfl) (ja rfl (jO (jN (jv5 2 3 4 6 27 ?_))))
 refine jD rfl (fun hc4 => ?_) fun hc4 => ?_
 ·
  have hc4 : qJ q = qT := hc4
  refine jS (jR (je (Run.build evs.nil bQ (qB).choose_spec.1 (qB).choose_spec.2 rfl) ?_))
  refine Ops.st (qW.storeA rfl rfl zb hb4 rfl (MlC.cells_one qR)) ?_
  rintro w7 ⟨hb4, (hfw7 : Frm [g4] _ _), hsw7⟩
  have hb4 : Blk w7 g4 25 qR.cells.toArray := hb4
  have K := K.own hfw7 (fun y hy => by rw [za] at hy; omega)
  refine jz 17 (jO (jN (jv2 4 5 ?_)))
  refine jT ?_
  refine qP (qZ (bM ?_))
  refine qC rfl zi zb (hb4.cells) (by first | rfl | (simp; done)) ?_
  refine qL rfl ?_
  refine qI ?_
  exact ⟨qR, 17, rfl, bI.err jd (by unfold eZ; rw [if_neg (not_not_intro hc1), if_neg (not_not_intro hc2), if_neg (not_not_intro hc3), if_pos hc4]), K⟩
 have hc4 : qJ q ≠ qT := hc4
 refine jS (jR (je (Run.loadA rfl zi zb hb1.cells (by first | rfl | (simp; done))) ?_))
 refine Ops.cl (jE1 Tryz.call55) (gP m _ (hm.frm K)) rfl ?_
 rintro e w7 ⟨B7, d7, rfl, ho7, _, hf7⟩
 refine ⟨_, rfl, ?_⟩
 have hb1 := hb1.frm hf7 jp
 have hb3 := hb3.frm hf7 jp
 have hb4 := hb4.frm hf7 jp
 have hKs_hf7 := K.size
 have K := K.trans hf7 jp
 rw [← hnl] at ho7 ⊢
 have hTT : mW [] w7 56 [.pointer (some ⟨g3, 0, none⟩)] (fun x => decide (bO x q)) := ⟨Tryz.call56, fun W x hW hx => vH x q g3 W (hb3.frm hW jp) hx jo (hv.frm (K.trans hW jp))⟩
 refine je (Run.mkFunc evs.nil (evs.cons rfl evs.nil)) ?_
 refine Ops.cl (jE2 Tryz.call54) (vG 56 [.pointer (some ⟨g3, 0, none⟩)] _ B7 d7 (qD m.p) _ ho7.rd jo hnq [] hTT) rfl ?_
 rintro e w8 ⟨rfl, hf8⟩
 refine ⟨_, rfl, ?_⟩
 have hb1 := hb1.frm hf8 jp
 have hb3 := hb3.frm hf8 jp
 have hb4 := hb4.frm hf8 jp
 have hKs_hf8 := K.size
 have K := K.trans hf8 jp
 refine ja rfl (jO (jN (jv4 2 4 6 32 ?_)))
 refine VC.condB rfl (fun hc5 => ?_) (fun hc5 => ?_)
 ·
  have hc5 : ∃ x ∈ qD m.p, bO x q := by simpa using hc5
  refine jS (jR (je (Run.build evs.nil bQ (qB).choose_spec.1 (qB).choose_spec.2 rfl) ?_))
  refine Ops.st (qW.storeA rfl rfl zb hb4 rfl (MlC.cells_one qR)) ?_
  rintro w9 ⟨hb4, (hfw9 : Frm [g4] _ _), hsw9⟩
  have hb4 : Blk w9 g4 25 qR.cells.toArray := hb4
  have K := K.own hfw9 (fun y hy => by rw [za] at hy; omega)
  refine jz 16 (jO (jN (jv2 4 5 ?_)))
  refine jT ?_
  refine qP (qZ (bM ?_))
  refine qC rfl zi zb (hb4.cells) (by first | rfl | (simp; done)) ?_
  refine qL rfl ?_
  refine qI ?_
  exact ⟨qR, 16, rfl, bI.err jd (by unfold eZ; rw [if_neg (not_not_intro hc1), if_neg (not_not_intro hc2), if_neg (not_not_intro hc3), if_neg hc4, if_pos hc5]), K⟩
 have hc5 : ¬ ∃ x ∈ qD m.p, bO x q := by simpa using hc5
 obtain ⟨hk, hke⟩ := (gM hr hpos).2 hc3
 have hkl : k < m.l.length := jo
 refine jQ ?_
 refine qN (jN ?_)
 refine jv3 2 4 6 ?_
 refine jS (jR (jf rfl zg rfl zab (jl rfl zan (hb1.cell 0) ?_)))
 refine Ops.cl (jE1 Tryz.call59) (gC m.A m.c m.l _ (hm.l.frm K) hln) rfl ?_
 rintro e w9 ⟨B9, d9, rfl, ho9, hob9, hf9⟩
 have hl18 := hb1.lt
 have hl48 := hb4.lt
 refine ⟨_, rfl, ?_⟩
 have hb1 := hb1.frm hf9 jp
 have hb3 := hb3.frm hf9 jp
 have hb4 := hb4.frm hf9 jp
 have hKs_hf9 := K.size
 have K := K.trans hf9 jp
 refine jm rfl (jm rfl (jb rfl rfl (Bin.add_i64 _ 1 jo) ?_))
 refine Ops.cl (jE3 Tryz.call58) (rG B9 d9 k m.l _ ho9 hln hkl) rfl ?_
 rintro e w10 ⟨rfl, ho10, hf10⟩
 refine ⟨_, rfl, ?_⟩
 have hb1 := hb1.frm hf10 (fun h => by have := hob9 _ h; omega)
 have hb4 := hb4.frm hf10 (fun h => by have := hob9 _ h; omega)
 have K := K.own hf10 (fun y hy => by have := hob9 _ hy; omega)
 refine jf rfl zg rfl zab ?_
 refine Ops.st (qW.store rfl rfl zab hb1 rfl rfl) ?_
 rintro w11 ⟨hb1, (hf11 : Frm [g1] _ _), hs11⟩
 have hb1 : Blk w11 g1 25 #[.slice B9 (m.l.length - 1) d9, .slice m.S m.ss.length m.d, .int .i64 m.v, .int .i64 m.b] := hb1
 have hb4 := hb4.frm hf11 (by simp; omega)
 have ho11 := ho10.frm hf11 (fun y hy h => by rw [za] at h; have := hob9 y hy; omega)
 have K := K.own hf11 (fun y hy => by rw [za] at hy; omega)
 refine jO (jN (jv2 2 4 ?_))
 refine jS (jR (je (Run.loadA rfl zi zb hb1.cells (by first | rfl | (simp; done))) ?_))
 refine Ops.st (qW.storeA rfl rfl zb hb4 rfl (by intro u hu; simp only [zbc, zbt, or_false] at hu; rcases hu with rfl | rfl | rfl | rfl <;> rfl)) ?_
 rintro w12 ⟨hb4, (hf12 : Frm [g4] _ _), hs12⟩
 have ho12 := ho11.frm hf12 (fun y hy h => by rw [za] at h; have := hob9 y hy; omega)
 have K := K.own hf12 (fun y hy => by rw [za] at hy; omega)
 refine jz 0 (jO (jN (jv2 4 5 ?_)))
 refine jT ?_
 refine bM ?_
 refine qC rfl zi zb (hb4.cells) (by first | rfl | (simp; done)) ?_
 refine qL rfl ?_
 refine qI ?_
 refine ⟨m.wl B9 d9 (m.l.take k ++ m.l.drop (k + 1)), 0, ?_, ⟨⟨ob B9, qQd hkl ho12 (fun b hb => by have := hob9 b hb; omega)⟩, .inl ⟨rfl, ?_⟩⟩, K⟩
 ·
  rw [MlC.wl_val _ _ _ _ (tC m.l k hkl)]
  rfl
 unfold eZ
 rw [if_neg (not_not_intro hc1), if_neg (not_not_intro hc2), if_neg (not_not_intro hc3), if_neg hc4, if_neg hc5, uD hr hpos hk hke]
 exact congrArg (fun z => Except.ok (MailP.mk z m.ss m.v m.b)) (qZf m.l k).symm
end
section
open Go.RowKit Go.Sort
theorem nN {w : World} {g e size n d k j : Nat} {xs : List Value} {v : Value} (h : Own w e size (some ⟨g, 0, none⟩) n d xs) (hk : k < n) (hj : ((xs.drop (k * size)).take size)[j]? = some v) : w.cell? (((⟨g, 0, none⟩ : Addr).add (k * size)).add j) = some v := by
 obtain ⟨ad, h1, hc⟩ := h.rd.elem hk
 cases h1
 exact hc j v hj
theorem sD (A : Option Addr) (c : Nat) (l : List Mc) (w : World) (hl : RdM w A l) (hn : l.length ≤ 1000000) :
  Calls Tryz.prog 119 #[.slice A l.length c] w fun e w' => ∃ B d, e = .returned (.slice B l.length d) ∧ Own w' 60 6 B l.length d (MC l) ∧ (∀ b ∈ ob B, w.heap.size ≤ b) ∧ Frm [] w w' := by
 refine VC.calls (nt := 8) (res := #[.tmp 2]) Tryz.func119 rfl Tryz.ntmps119 Tryz.results119 rfl ?_
 refine jS (jR (ja rfl (jO (jN (jv1 0 ?_)))))
 refine jS (jS (jR (jm rfl (je (Run.eqNilS rfl rfl zaf) (jO (jN (jv2 0 4 ?_)))))))
 refine VC.condB rfl (fun hc1 => ?_) (fun hc1 => ?_)
 ·
  refine jS (jR (ja rfl (jO (jN (jv1 2 ?_)))))
  refine jT ?_
  refine qZ (qF rfl ?_)
  obtain rfl : A = none := by cases A with | none => rfl | some a => cases hc1
  have hn0 : l.length = 0 := by
   rcases zbu l.length with h | h
   · exact h
   obtain ⟨_, h1, _⟩ := hl.rd.2 h; cases h1
  obtain rfl : l = [] := zaa hn0
  exact ⟨none, 0, rfl, Own.nil _ _ _, by simp [ob], Frm.refl _ _⟩
 refine jQ (jN (jv1 0 ?_))
 refine jS (jR ?_)
 refine Ops.m (qH.buildS0 zaf zar) rfl ?_
 rintro _ w1 ⟨rfl, hF1⟩
 have ho1 : Own w1 60 6 (some ⟨w.heap.size, 0, none⟩) 0 0 (MC []) := Own.of_blk hF1.blk rfl (by simp [maxLen])
 refine jM ?_
 refine Ops.m (qH.app rfl rfl zaf (wI) rfl jd ho1 (hl.rd.frm hF1.frm jp) (nZ Mc.cells Mc.cells_one _) jo jo) rfl ?_
 rintro _ w2 ⟨B, d, rfl, ho2, hf2, hob⟩
 rw [zeg] at ho2
 rw [zeg]
 have hs1 := hF1.size
 have hf := hF1.frm.own hf2 (by simp [ob])
 refine ja rfl (jO (jN (jv1 2 ?_)))
 refine jT ?_
 refine qF rfl ?_
 refine ⟨B, d, rfl, ho2, fun x hx => ?_, hf⟩
 rcases hob with h | h
 · rw [h] at hx; simp [ob] at hx; omega
 rw [h, za] at hx; omega
set_option maxHeartbeats 1000000 in
theorem vM (v n : Int) (A : Option Addr) (c : Nat) (l : List Mc) (w : World) (hl : RdM w A l) (hn : l.length ≤ 1000000) :
  Calls Tryz.prog 72 #[.agg (BVc v n A l.length c).toArray] w fun e w' => ∃ B d, ∃ l' : List Mc, e = .returned (.agg (BVc v n B l'.length d).toArray) ∧ OwM w' B d l' ∧ Ms l' = Ms l ∧ (∀ b ∈ ob B, w.heap.size ≤ b) ∧ Frm [] w w' := by
 refine VC.calls (nt := 28) (res := #[.cell 2 43]) Tryz.func72 rfl Tryz.ntmps72 Tryz.results72 rfl ?_
 refine jS (jR ?_)
 refine Ops.m (qH.box rfl) rfl ?_
 rintro _ w1 ⟨rfl, hF1⟩
 have hb1 : Blk w1 w.heap.size 43 (BVc v n A l.length c).toArray := hF1.blk
 have K := hF1.frm
 have hF1s := hF1.size
 generalize hg1 : w.heap.size = g1 at hb1 ⊢
 refine Ops.m (qH.alloc cP) rfl ?_
 rintro _ w2 ⟨rfl, hF2⟩
 have hb2 : Blk w2 w1.heap.size 43 (BVc 0 0 none 0 0).toArray := hF2.blk
 have hl1 := hb1.lt
 have hb1 := hb1.frm hF2.frm jp
 have K := K.trans hF2.frm jp
 have hne12 : g1 ≠ w1.heap.size := jo
 have hg2s : w.heap.size ≤ w1.heap.size := jo
 generalize hg2 : w1.heap.size = g2 at hb2 hne12 hg2s ⊢
 refine jO (jN (jv2 1 2 ?_))
 refine jS (jR (jf rfl zw rfl zap (jl rfl zbd (hb1.cell 2) ?_)))
 refine Ops.cl (jE1 Tryz.call119) (sD A c l _ (hl.frm K) hn) rfl ?_
 rintro e w3 ⟨B, d, rfl, ho, hob, hf3⟩
 refine ⟨_, rfl, ?_⟩
 have hb1 := hb1.frm hf3 jp
 have hb2 := hb2.frm hf3 jp
 have hKs := K.size
 have K := K.trans hf3 jp
 have hob : ∀ b ∈ ob B, w.heap.size ≤ b := fun b hb => zay hKs (hob b hb)
 refine jf rfl zw rfl zap ?_
 refine Ops.st (qW.store rfl rfl zap hb1 rfl rfl) ?_
 have hb1x := hb1
 rintro w4 ⟨hb1, (hf4 : Frm [g1] _ _), hs4⟩
 have ho := ho.frm hf4 (fun y hy => by have := ho.ne_blk (hb1x) jd; simp; rintro rfl; exact this hy)
 have hb1 : Blk w4 g1 43 (BVc v n B l.length d).toArray := hb1
 have hb2 := hb2.frm hf4 (by simp; omega)
 have K := K.own hf4 (fun y hy => by rw [za] at hy; omega)
 refine jO (jN (jv2 1 2 ?_))
 refine jS (jS (jR (jf rfl zw rfl zap (jl rfl zbd (hb1.cell 2) (je (Run.lenS rfl zaf) ?_)))))
 refine jx .i64 0 ?_
 refine jO (jN (jv4 1 2 10 11 ?_))
 refine jB ?_
 refine VC.loop (σ := Nat × List Mc) (fun s => [(1, .pointer (some ⟨g1, 0, none⟩)), (2, .pointer (some ⟨g2, 0, none⟩)), (10, .int .i64 ((l.length : Nat) : Int)), (11, .int .i64 ((s.1 : Nat) : Int))]) (fun s wr => s.1 ≤ l.length ∧ s.2.length = l.length ∧ Ms s.2 = Ms l ∧ Own wr 60 6 B l.length d (MC s.2) ∧ (∀ j (h : j < s.2.length), j < s.1 → Own wr 9 1 (s.2[j]).A (s.2[j]).m.flags.length (s.2[j]).c (SB (s.2[j]).m.flags)) ∧ (∀ j (h : j < s.2.length) (h2 : j < l.length), s.1 ≤ j → s.2[j] = l[j]) ∧ Blk wr g1 43 (BVc v n B l.length d).toArray ∧ Blk wr g2 43 (BVc 0 0 none 0 0).toArray ∧ Frm [] w wr) (fun s => l.length - s.1) (0, l) (js4 rfl rfl rfl rfl) ⟨zah _, rfl, rfl, ho, fun _ _ h => by simp at h, fun _ _ _ _ => rfl, hb1, hb2, K⟩ ?_
 rintro ⟨i, cur⟩ wr ⟨hi, hlen, hms, ho, hfl, hre, hb1, hb2, K⟩
 dsimp only at hi hlen hms ho hfl hre hb1 hb2 ⊢
 refine jS (jR (jb rfl rfl (Bin.lssN _ _) (jO (jN (jS ?_)))))
 refine jD rfl (fun hc1 => ?_) fun hc1 => ?_
 ·
  obtain ⟨gn, rfl⟩ : ∃ g, B = some ⟨g, 0, none⟩ := by
   rcases ho.cases with ⟨_, h0, _⟩ | ⟨g, _, h0, _⟩
   · omega
   exact ⟨g, h0⟩
  have hic : i < cur.length := jo
  have hci := hre i hic hc1 (zv _)
  have hxa := (hl.frm K).fl (l[i]) (zm hc1)
  have hmc : ((MC cur).drop (i * 6)).take 6 = (cur[i]).cells := fJ Mc.cells 6 Mc.cells_len cur i hic
  rw [← hci] at hxa
  have hset := fun C dC r => qXt cur i hic C dC r
  refine jQ (jN (jv4 1 2 10 11 ?_))
  refine jS (jB (jS (jR (jm rfl (ja rfl (jO (jN (jv5 1 2 3 10 11 ?_))))))))
  refine VC.heldL 12 (fun W => Frm [] wr W) jK ?_
  have hS : Frm [] wr wr.drew := (Frm.refl _ _).drew
  refine jH 0 rfl hS (fun w0 hw0 => Run.fieldAddr rfl zw rfl zap jd) ?_
  refine jH 1 rfl hS (fun w0 hw0 => Run.load rfl zbd ((hb1.frm hw0 jp).cell 2)) ?_
  refine jH 2 rfl hS (fun w0 hw0 => Run.mv rfl) ?_
  refine jH 3 rfl hS (fun w0 hw0 => Run.fieldAddr rfl zw rfl zap jd) ?_
  refine jH 4 rfl hS (fun w0 hw0 => Run.load rfl zbd ((hb1.frm hw0 jp).cell 2)) ?_
  refine qQ.r1 5 rfl jK hS (Run.mv rfl) trivial rfl rfl ?_
  refine qQ.r1 6 rfl jK hS (Run.indexS i rfl rfl zaf zar hc1) trivial rfl rfl ?_
  refine qQ.r1 7 rfl jK hS (Run.fieldAddr rfl zak rfl zam jd) trivial rfl rfl ?_
  refine qQ.r1 8 rfl jK hS (Run.load rfl zbb (nN (ho.frm hS jp) hc1 (j := 5) (v := .slice (cur[i]).A (cur[i]).m.flags.length (cur[i]).c) (by rw [hmc]; rfl))) trivial rfl rfl ?_
  refine qQ.cl 9 rfl jK (jE1 Tryz.call75) (nC (cur[i]).A (cur[i]).c (cur[i]).m.flags _ (hxa.rd.frm hS jp) (by have := hxa.n; omega)) trivial rfl rfl ?_
  rintro e w5 ⟨C, dC, rfl, hoC, hgC, hf5⟩
  have hS5 := hS.trans hf5 jp
  refine ⟨_, rfl, hS5, ?_⟩
  have hS := hS5
  refine qQ.r1 10 rfl jK hS (Run.indexS i rfl rfl zaf zar hc1) trivial rfl rfl ?_
  refine qQ.r1 11 rfl jK hS (Run.fieldAddr rfl zak rfl zam jd) trivial rfl rfl ?_
  refine qQ.stL rfl jK (qW.storeOwn (i * 6 + 5) (by rw [← Go.Proofs.YtgmbmfpfhcekiaaGreat.add_add]; rfl) rfl zam (ho.frm hS jp) rfl jo rfl) trivial rfl ?_
  rintro w6 ⟨ho6, hf6, hs6⟩
  have ho6 := (hset C dC (cur[i]).m.flags) ▸ (show Own w6 60 6 (some ⟨gn, 0, none⟩) l.length d ((MC cur).set (i * 6 + 5) (.slice C (cur[i]).m.flags.length dC)) from ho6)
  have hoS := ho.frm hS jp
  have hoC6 := hoC.frm hf6 (hoC.ne_own hoS jd)
  have hb16 := (hb1.frm hS jp).frm hf6 (hoS.ne_blk (hb1.frm hS jp) jd)
  have hb26 := (hb2.frm hS jp).frm hf6 (hoS.ne_blk (hb2.frm hS jp) jd)
  have K6 := (K.trans hS jp).own hf6 (fun y hy => hob y hy)
  refine qQ.done jK ?_
  refine qN (jN ?_)
  refine jv4 1 2 10 11 ?_
  refine jR (jb rfl rfl (Bin.add_i64 _ 1 jo) (jm rfl (jO ?_)))
  refine jN ⟨(i + 1, cur.set i ⟨(cur[i]).m, C, dC⟩), (js4 rfl rfl rfl rfl), ?_, ?_⟩
  ·
   refine ⟨hc1, by rw [zcl]; exact hlen, ?_, ho6, fun j hj hji => ?_, fun j hj h2 hji => ?_, hb16, hb26, K6⟩
   ·
    rw [qZe, ← hms]
    have e : (Ms cur)[i]'(by simpa [Ms] using hic) = (cur[i]).m := zbo _
    rw [← e, List.set_getElem_self]
   ·
    rw [zcl] at hj
    by_cases e : j = i
    ·
     subst e
     rw [List.getElem_set_self]
     exact hoC6
    rw [List.getElem_set_ne (fun h => e h.symm)]
    have h3 := (hfl j hj jo).frm hS jp
    exact h3.frm hf6 (h3.ne_own hoS jd)
   rw [zcl] at hj
   rw [List.getElem_set_ne jo]
   exact hre j hj h2 jo
  first | omega | (dsimp only; omega)
 refine jX ?_
 refine qK (qK (qS ?_))
 refine jN (jv2 1 2 ?_)
 refine jS (jR (je (Run.loadA rfl zat zp hb1.cells (by first | rfl | (simp; done))) ?_))
 refine Ops.st (qW.storeA rfl rfl zp hb2 rfl (cW _ _ _ _ _)) ?_
 have hb2x := hb2
 rintro w7 ⟨hb2, (hf7 : Frm [g2] _ _), hs7⟩
 have K := K.own hf7 (fun y hy => by rw [za] at hy; omega)
 refine jO (jN (jv1 2 ?_))
 refine jT ?_
 refine bM ?_
 refine qC rfl zat zp (hb2.cells) (by first | rfl | (simp; done)) ?_
 refine qI ?_
 obtain rfl : i = l.length := jo
 have hOM : OwM wr B d cur := ⟨by rw [hlen]; exact ho, fun x hx => by obtain ⟨j, hj, rfl⟩ := zu hx; exact hfl j hj jo, fun x hx => by
  have h1 : x.m ∈ Ms l := by rw [← hms]; exact zaq hx
  obtain ⟨y, hy, he⟩ := List.mem_map.1 h1
  have := hl.fl y hy
  rw [← he]
  exact ⟨this.n, this.q⟩⟩
 exact ⟨B, d, cur, by rw [hlen]; rfl, hOM.blk hf7 hb2x jd jd, hms, fun b hb => by have := hob b hb; omega, K⟩
set_option maxHeartbeats 1000000 in
theorem kS (m : MlC) (q : Tx) (w : World) (hm : RdL w m) (hs : q.length ≤ 900000) (hv : cZ w) :
  Calls Tryz.prog 23 #[m.val, encStr q] w fun e w' => ∃ (v n : Int) (B : Option Addr) (d : Nat) (l : List Mc) (b : Bool), e = .returned (.tuple #[.agg (BVc v n B l.length d).toArray, .bool b]) ∧ OwM w' B d l ∧ ((b = true ∧ gN m.p q = some ⟨v, n, Ms l⟩) ∨ (b = false ∧ gN m.p q = none ∧ v = 0 ∧ n = 0 ∧ B = none ∧ d = 0 ∧ l = [])) ∧ Frm [] w w' := by
 have hln := hm.ln
 have hpl := cA m
 refine VC.calls (nt := 28) (res := #[.cell 4 43, .tmp 5]) Tryz.func23 rfl Tryz.ntmps23 Tryz.results23 rfl ?_
 refine jS (jR ?_)
 refine Ops.m (qH.box rfl) rfl ?_
 rintro _ w1 ⟨rfl, hF_w1⟩
 have hb1 : Blk w1 w.heap.size 25 #[.slice m.A m.l.length m.c, .slice m.S m.ss.length m.d, .int .i64 m.v, .int .i64 m.b] := hF_w1.blk
 have K := hF_w1.frm
 generalize hg1 : w.heap.size = g1 at hb1 ⊢
 refine Ops.m (qH.alloc cP) rfl ?_
 rintro _ w2 ⟨rfl, hF2⟩
 have hb4 := hF2.blk
 have hg4 : w.heap.size ≤ w1.heap.size := K.size
 have hb1 := hb1.frm hF2.frm jp
 have hl1 := hb1.lt
 have hl4 := hb4.lt
 have K := K.trans hF2.frm jp
 have hne14 : g1 ≠ w1.heap.size := by have := hF_w1.size; omega
 have hg1s : w.heap.size ≤ g1 := jo
 generalize hg4' : w1.heap.size = g4 at hb4 hg4 hne14 hl4 ⊢
 refine ja rfl (jO (jN (jv3 1 2 4 ?_)))
 refine jS (jS (jR (je (Run.loadA rfl zi zb hb1.cells (by first | rfl | (simp; done))) ?_)))
 refine Ops.cl (jE1 zed) (dJ m _ (hm.frm K) (hv.frm K)) rfl ?_
 rintro e w4 ⟨rfl, hf4⟩
 refine ⟨_, rfl, ?_⟩
 have hb1 := hb1.frm hf4 jp
 have hb4 := hb4.frm hf4 jp
 have hKs_hf4 := K.size
 have K := K.trans hf4 jp
 refine je (Run.not rfl) (jO (jN (jv4 1 2 4 10 ?_)))
 refine VC.condB rfl (fun hc1 => ?_) (fun hc1 => ?_)
 ·
  have hc1 : ¬ bZ m.p := by simpa using hc1
  refine jS (jR (je (Run.build evs.nil cP (dU).choose_spec.1 (dU).choose_spec.2 rfl) ?_))
  refine Ops.st (qW.storeA rfl rfl zp hb4 rfl (cW 0 0 none 0 0)) ?_
  rintro w5 ⟨hb4, (hf4z : Frm [g4] _ _), hs4z⟩
  have K := K.own hf4z (fun y hy => by rw [za] at hy; omega)
  refine ja rfl (jO (jN (jv2 4 5 ?_)))
  refine jT ?_
  refine qZ (bM ?_)
  refine qC rfl zat zp (hb4.cells) (by first | rfl | (simp; done)) ?_
  refine qL rfl ?_
  refine qI ?_
  exact ⟨0, 0, none, 0, [], false, rfl, OwM.nil _, .inr ⟨rfl, by unfold gN; rw [if_neg hc1], rfl, rfl, rfl, rfl, rfl⟩, K⟩
 have hc1 : bZ m.p := by simpa using hc1
 obtain ⟨hm24, hv1, hv2, hb0, hb2, hr, hin⟩ := cB hc1
 refine jQ (jN (jv3 1 2 4 ?_))
 refine jS (jR (je (Run.loadA rfl zi zb hb1.cells (by first | rfl | (simp; done))) (jM ?_)))
 refine Ops.cl (jE2 zcz) (cQ m q _ (hm.frm K).l hln jo hr (hv.frm K)) rfl ?_
 rintro e w5 ⟨k, rfl, hpos, hf5⟩
 refine ⟨_, rfl, ?_⟩
 have hb1 := hb1.frm hf5 jp
 have hb4 := hb4.frm hf5 jp
 have hKs_hf5 := K.size
 have K := K.trans hf5 jp
 refine jm rfl (je (Run.extract rfl rfl) (je (Run.extract rfl rfl) (ja rfl (ja rfl (jO (jN (jv4 2 4 6 7 ?_)))))))
 refine jS (jS (jR (jm rfl (je (Run.not rfl) (jO (jN (jv4 2 4 6 19 ?_)))))))
 refine VC.condB rfl (fun hc2 => ?_) (fun hc2 => ?_)
 ·
  have hc2 : qJ q ∉ qD m.p := by simpa using hc2
  refine jS (jR (je (Run.build evs.nil cP (dU).choose_spec.1 (dU).choose_spec.2 rfl) ?_))
  refine Ops.st (qW.storeA rfl rfl zp hb4 rfl (cW 0 0 none 0 0)) ?_
  rintro w6 ⟨hb4, (hf4z : Frm [g4] _ _), hs4z⟩
  have K := K.own hf4z (fun y hy => by rw [za] at hy; omega)
  refine ja rfl (jO (jN (jv2 4 5 ?_)))
  refine jT ?_
  refine qZ (bM ?_)
  refine qC rfl zat zp (hb4.cells) (by first | rfl | (simp; done)) ?_
  refine qL rfl ?_
  refine qI ?_
  exact ⟨0, 0, none, 0, [], false, rfl, OwM.nil _, .inr ⟨rfl, by unfold gN; rw [if_pos hc1, uE hc2], rfl, rfl, rfl, rfl, rfl⟩, K⟩
 have hc2 : qJ q ∈ qD m.p := by simpa using hc2
 obtain ⟨hk, hke⟩ := (gM hr hpos).2 hc2
 have hkl : k < m.l.length := jo
 obtain ⟨ad, hA, hel⟩ := (hm.frm K).l.elem hkl
 have hxa := (hm.frm K).l.el _ (zm hkl)
 have hNg := cS m hkl hk
 refine jQ (jN (jv3 2 4 6 ?_))
 refine jS (jR (jf rfl zg rfl zab (jl rfl zan (hb1.cell 0) (jm rfl (je (Run.indexS k (show _ = some (Value.slice (some ad) m.l.length m.c) by rw [← hA]; rfl) rfl zf zn hkl) (jf rfl zae rfl zp (je (Run.loadA rfl zat zp (cs := BVc (m.l[k]).v (m.l[k]).n (m.l[k]).A (m.l[k]).l.length (m.l[k]).c) (fun j v hj => by rw [Go.Proofs.YtgmbmfpfhcekiaaGreat.add_add]; exact hel (1 + j) v (by rw [zdj]; exact hj)) (by first | rfl | (simp; done))) ?_)))))))
 refine Ops.cl (jE1 Tryz.call72) (vM (m.l[k]).v (m.l[k]).n (m.l[k]).A (m.l[k]).c (m.l[k]).l _ hxa.rd (by have := hxa.n; omega)) rfl ?_
 rintro e w6 ⟨B, d, l', rfl, hOM, hms, hgB, hf6⟩
 have hl46 := hb4.lt
 have hb4x := hb4.frm hf6 jp
 refine ⟨_, rfl, ?_⟩
 have hb1 := hb1.frm hf6 jp
 have hb4 := hb4.frm hf6 jp
 have hKs_hf6 := K.size
 have K := K.trans hf6 jp
 refine Ops.st (qW.storeA rfl rfl zp hb4 rfl (cW _ _ _ _ _)) ?_
 rintro w7 ⟨hb4, (hf7 : Frm [g4] _ _), hs7⟩
 have hOM7 := hOM.blk hf7 hb4x jd jd
 have K := K.own hf7 (fun y hy => by rw [za] at hy; omega)
 refine ja rfl (jO (jN (jv2 4 5 ?_)))
 refine jT ?_
 refine bM ?_
 refine qC rfl zat zp (hb4.cells) (by first | rfl | (simp; done)) ?_
 refine qL rfl ?_
 refine qI ?_
 refine ⟨_, _, B, d, l', true, rfl, hOM7, .inl ⟨rfl, ?_⟩, K⟩
 unfold gN
 rw [if_pos hc1, fV hr hk hke, hNg, hms]
 rfl
end
section
open Go.RowKit Go.Sort
def BoL (l : List Bool) : List Value := l.map Value.bool
theorem jY (l : List Bool) : (BoL l).length = l.length := zaj _
theorem qXv (l : List Bool) : ∀ v ∈ BoL l, v.oneCell' = true := by
 intro v hv
 obtain ⟨b, _, rfl⟩ := List.mem_map.1 hv
 rfl
theorem qXw (l : List Bool) (i : Nat) (b : Bool) : (BoL l).set i (.bool b) = BoL (l.set i b) := by simp [BoL, zet]
def atB (l : List Bool) (k : Nat) : Bool := l.getD k false
def dR (c : UInt8) : Prop := c.toNat = 42 ∨ c.toNat = 37
instance (c : UInt8) : Decidable (dR c) := by unfold dR; infer_instance
def nxM (t : Tx) (row : List Bool) (c : UInt8) : Nat → Bool
 | 0 => decide (atB row 0 = true ∧ dR c)
 | k + 1 => if dR c then decide (atB row (k + 1) = true ∨ (nxM t row c k = true ∧ (c.toNat = 42 ∨ kM t[k]? ≠ 47))) else decide (atB row k = true ∧ kM t[k]? = c.toNat)
def stM (t : Tx) (row : List Bool) (c : UInt8) : List Bool := (List.range (t.length + 1)).map (nxM t row c)
def nP (t : Tx) : List Bool := true :: List.replicate t.length false
def rowM (t p : Tx) : List Bool := p.foldl (stM t) (nP t)
def meetsN (s p : Tx) : Prop := isN s ∧ p.length ≤ 60 ∧ atB (rowM (qJ s) (cF p)) s.length = true
instance (s p : Tx) : Decidable (meetsN s p) := by unfold meetsN; infer_instance
theorem gK {w : World} {g n d : Nat} {l : List Bool} (h : Own w 4 1 (some ⟨g, 0, none⟩) n d (BoL l)) {k : Nat} (hk : k < n) : w.cell? ((⟨g, 0, none⟩ : Addr).add (k * 1)) = some (.bool (atB l k)) := by
 have hln := h.len
 rw [jY, zbj] at hln
 obtain ⟨ad, h1, hc⟩ := h.rd.elem hk
 cases h1
 have h2 := hc 0 (.bool (atB l k)) (by simp [BoL, atB, List.getD, hln, hk])
 rw [Go.Proofs.YtgmbmfpfhcekiaaGreat.add_add, Nat.add_zero] at h2
 exact h2
theorem eJ {w : World} {A : Option Addr} {n d k : Nat} {l : List Bool} {b b' : Bool} (e : b = b') (h : Own w 4 1 A n d ((BoL l).set k (.bool b))) : Own w 4 1 A n d (BoL (l.set k b')) := by
 subst e
 rw [← qXw]
 exact h
theorem vN (t : Tx) (p : Tx) (i : Nat) {c : UInt8} (hi : p[i]? = some c) : (p.take (i + 1)).foldl (stM t) (nP t) = stM t ((p.take i).foldl (stM t) (nP t)) c := by
 rw [zao, hi, zdg]
 rfl
def kU (t p : Tx) (i : Nat) (r : List Bool) : Prop := r = (p.take i).foldl (stM t) (nP t)
theorem kU.next {t p : Tx} {i : Nat} {r : List Bool} {c : UInt8} (h : kU t p i r) (hc : p[i]? = some c) (x : List Bool) (hx : x = stM t r c) : kU t p (i + 1) x := by
 unfold kU at *
 rw [vN t p i hc, ← h]
 exact hx
theorem qZg {t : Tx} {row nx : List Bool} {c : UInt8} (h : nx.length = t.length + 1) (hn : ∀ j, j ≤ t.length → nx[j]? = some (nxM t row c j)) : nx = stM t row c := by
 refine zbz fun j => ?_
 unfold stM
 rcases zbs t.length j with h1 | h1
 · rw [zbe jo, zbe (by simp; omega)]
 rw [hn j h1]
 simp [zca, List.getElem?_range (jo : j < t.length + 1)]
set_option maxHeartbeats 1000000 in
theorem sE (q p : Tx) (w : World) (hq : q.length ≤ 1000000) (hp : p.length ≤ 1000000) (hv : cZ w) :
  Calls Tryz.prog 81 #[encStr q, encStr p] w fun e w' => e = .returned (.bool (decide (meetsN q p))) ∧ Frm [] w w' := by
 have K := Frm.refl [] w
 refine VC.calls (nt := 112) (res := #[.tmp 4]) Tryz.func81 rfl Tryz.ntmps81 Tryz.results81 rfl ?_
 refine jS (jR (ja rfl (jO (jN (jv2 0 1 ?_)))))
 refine jS (jS ?_)
 refine VC.split1 [(0, _), (1, _)] (js2 rfl rfl) 18 (.bool (decide (¬ isN q ∨ 60 < p.length))) ?_ ?_
 ·
  refine jR (jM ?_)
  refine Ops.cl (jE1 zbw) (bF q _ jo hv) rfl ?_
  rintro e _ ⟨rfl, rfl⟩
  refine ⟨_, rfl, ?_⟩
  by_cases hs12 : isN q
  ·
   refine je (Run.not rfl) (jM ?_)
   refine jG ?_
   refine jk (Run.lenT rfl zo) ?_
   refine jk (Run.bin rfl rfl (Bin.gtrN _ 60)) ?_
   by_cases hs17 : 60 < p.length
   ·
    refine je (Run.pickF rfl rfl au) (jO ?_)
    refine jN ⟨(js3 (jC (by simp [*])) rfl rfl), rfl⟩
   refine je (Run.pickF rfl rfl au) (jO ?_)
   refine jN ⟨(js3 (jC (by simp [*])) rfl rfl), rfl⟩
  refine je (Run.not rfl) (jM ?_)
  refine jU ?_
  refine jU ?_
  refine jU ?_
  refine je (Run.pickT rfl rfl au) (jO ?_)
  refine jN ⟨(js3 (jC (by simp [*])) rfl rfl), rfl⟩
 intro Γ hΓ
 refine jN (VC.sub _ hΓ ?_)
 refine jD rfl (fun hc1 => ?_) fun hc1 => ?_
 ·
  refine jS (jR (ja rfl (jO (jN (jv1 4 ?_)))))
  refine jT ?_
  refine qZ (qF rfl ?_)
  exact ⟨by rw [decide_eq_false (fun h : meetsN q p => by rcases hc1 with h1 | h1; exact h1 h.1; have := h.2.1; omega)], K⟩
 refine jQ (jN (jv2 0 1 ?_))
 refine jS (jR (jM ?_))
 refine Ops.cl (jE1 zbx) (bS q _ jo (hv.frm K)) rfl ?_
 rintro e w1 ⟨rfl, hf1⟩
 refine ⟨_, rfl, ?_⟩
 have K := K.trans hf1 jp
 refine jM ?_
 refine Ops.cl (jE1 Tryz.call108) (mN p _ jo) rfl ?_
 rintro e w2 ⟨rfl, hf2⟩
 refine ⟨_, rfl, ?_⟩
 have K := K.trans hf2 jp
 have htl := bT q
 have hil := oM p
 generalize htt : qJ q = t at *
 generalize hpp : cF p = pp at *
 refine ja rfl (ja rfl (jO (jN (jv2 0 1 ?_))))
 refine jS (jR (jm rfl (je (Run.lenT rfl zo) (jb rfl rfl (Bin.add_i64 _ 1 jo) ?_))))
 refine Ops.m (qH.makeS rfl rfl zau (qQz) rfl jo jo) rfl ?_
 rintro _ w3 ⟨rfl, ho5, hf3, hs3⟩
 have ho5 : Own w3 4 1 (some ⟨w2.heap.size, 0, none⟩) (t.length + 1) (t.length + 1) (BoL (List.replicate (t.length + 1) false)) := by
  have e : (List.replicate (t.length + 1) (Value.bool false).cells.toList).flatten = BoL (List.replicate (t.length + 1) false) := by
   simp [BoL, Value.cells]
  rw [← e]; exact ho5
 have hg5 : w.heap.size ≤ w2.heap.size := K.size
 have K := K.trans hf3 jp
 generalize hgg5 : w2.heap.size = g5 at ho5 hg5 hs3 ⊢
 refine ja rfl (jO (jN (jv3 0 1 5 ?_)))
 refine jS (jR (jm rfl (je (Run.indexS 0 rfl rfl zau zai jo) ?_)))
 refine Ops.st (qW.storeOwn 0 (by rw [zbj]; rfl) rfl zai ho5 rfl jo rfl) ?_
 rintro w4 ⟨ho5, hf4, hs4⟩
 have ho5 : Own w4 4 1 (some ⟨g5, 0, none⟩) (t.length + 1) (t.length + 1) (BoL (nP t)) := eJ (l := List.replicate (t.length + 1) false) (k := 0) (b' := true) rfl ho5
 have K := K.own hf4 (fun y hy => by simp only [ob, za] at hy; omega)
 refine jO (jN (jv3 0 1 5 ?_))
 refine jS (jR (jm rfl (je (Run.lenT rfl zo) (jb rfl rfl (Bin.add_i64 _ 1 jo) ?_))))
 refine Ops.m (qH.makeS rfl rfl zau (qQz) rfl jo jo) rfl ?_
 rintro _ w5 ⟨rfl, ho6, hf5, hs5⟩
 have ho6 : Own w5 4 1 (some ⟨w4.heap.size, 0, none⟩) (t.length + 1) (t.length + 1) (BoL (List.replicate (t.length + 1) false)) := by
  have e : (List.replicate (t.length + 1) (Value.bool false).cells.toList).flatten = BoL (List.replicate (t.length + 1) false) := by
   simp [BoL, Value.cells]
  rw [← e]; exact ho6
 have ho5 := ho5.frm hf5 jp
 have hg6 : w.heap.size ≤ w4.heap.size := K.size
 have h56 : g5 ≠ w4.heap.size := jo
 have K := K.trans hf5 jp
 generalize hgg6 : w4.heap.size = g6 at ho6 hg6 hs5 h56 ⊢
 obtain ⟨nx0, hnx0⟩ : ∃ l, l = List.replicate (t.length + 1) false := ⟨_, rfl⟩
 rw [← hnx0] at ho6
 refine ja rfl (jO (jN (jv4 0 1 5 6 ?_)))
 refine jS (jS (jR (jm rfl (je (Run.lenT rfl zo) ?_))))
 refine jx .i64 0 ?_
 refine jO (jN (jv6 0 1 5 6 34 35 ?_))
 refine jB ?_
 refine VC.loop (σ := Nat × List Bool × List Bool) (fun s => [(0, encStr t), (1, encStr pp), (5, .slice (some ⟨g5, 0, none⟩) (t.length + 1) (t.length + 1)), (6, .slice (some ⟨g6, 0, none⟩) (t.length + 1) (t.length + 1)), (34, .int .i64 ((pp.length : Nat) : Int)), (35, .int .i64 ((s.1 : Nat) : Int))]) (fun s wr => s.1 ≤ pp.length ∧ s.2.1.length = t.length + 1 ∧ s.2.2.length = t.length + 1 ∧ kU t pp s.1 s.2.1 ∧ Own wr 4 1 (some ⟨g5, 0, none⟩) (t.length + 1) (t.length + 1) (BoL s.2.1) ∧ Own wr 4 1 (some ⟨g6, 0, none⟩) (t.length + 1) (t.length + 1) (BoL s.2.2) ∧ Frm [] w wr) (fun s => pp.length - s.1) (0, nP t, nx0) (js6 rfl rfl rfl rfl rfl rfl) ⟨zah _, by simp [nP], by rw [hnx0]; simp, rfl, ho5, ho6, K⟩ ?_
 rintro ⟨i, r, nx⟩ wr ⟨hi, hrl, hnl, hre, ho5, ho6, K⟩
 dsimp only at hi hrl hnl hre ho5 ho6 ⊢
 refine jS (jR (jb rfl rfl (Bin.lssN _ _) (jO (jN (jS ?_)))))
 refine jD rfl (fun hc2 => ?_) fun hc2 => ?_
 ·
  obtain ⟨c, hcx⟩ := jV hc2
  have hfs := kU.next hre hcx
  refine jQ (jN (jv6 0 1 5 6 34 35 ?_))
  refine jS (jB (jS (jR (jm rfl (ja rfl (jO (jN (jv7 0 1 5 6 7 34 35 ?_))))))))
  refine jS (jR (jm rfl (jm rfl (je (Run.indexT _ rfl rfl zo hcx) (ja rfl (jO (jN (jv7 0 1 5 6 8 34 35 ?_))))))))
  refine jS ?_
  refine VC.split1 [(0, _), (1, _), (5, _), (6, _), (8, _), (34, _), (35, _)] (js7 rfl rfl rfl rfl rfl rfl rfl) 9 (.bool (decide (dR c))) ?_ ?_
  ·
   refine jR ?_
   refine jm rfl (jb rfl rfl (Bin.eqlN _ 42) (jM ?_))
   by_cases hs43 : c.toNat = 42
   ·
    refine jU ?_
    refine jU ?_
    refine je (Run.pickT rfl rfl au) (ja rfl (jO ?_))
    refine jN ⟨(js8 (jC (by simp [dR, *])) rfl rfl rfl rfl rfl rfl rfl), rfl⟩
   refine jG ?_
   refine jk (Run.bin rfl rfl (Bin.eqlN _ 37)) ?_
   refine je (Run.pickF rfl rfl au) (ja rfl (jO ?_))
   refine jN ⟨(js8 (jC (by simp [dR, *])) rfl rfl rfl rfl rfl rfl rfl), rfl⟩
  intro Γ hΓ
  refine jN (VC.sub _ hΓ (jS ?_))
  refine VC.splitR [(0, encStr t), (1, encStr pp), (5, .slice (some ⟨g5, 0, none⟩) (t.length + 1) (t.length + 1)), (6, .slice (some ⟨g6, 0, none⟩) (t.length + 1) (t.length + 1)), (8, .int .u8 ((c.toNat : Nat) : Int)), (9, .bool (decide (dR c))), (34, .int .i64 ((pp.length : Nat) : Int)), (35, .int .i64 ((i : Nat) : Int))] (fun wz => Own wz 4 1 (some ⟨g5, 0, none⟩) (t.length + 1) (t.length + 1) (BoL r) ∧ Own wz 4 1 (some ⟨g6, 0, none⟩) (t.length + 1) (t.length + 1) (BoL (nx.set 0 (decide (atB r 0 = true ∧ dR c)))) ∧ Frm [] w wz) 53 (.bool (decide (atB r 0 = true ∧ dR c))) ?_ ?_
  ·
   refine jR ?_
   refine jm rfl (jm rfl (je (Run.indexS 0 rfl rfl zau zai jo) (jl rfl zbp (gK ho5 jo) (jM ?_))))
   by_cases hs51 : atB r 0 = true
   ·
    refine jG ?_
    refine je (Run.pickT rfl rfl au) (je (Run.indexS 0 rfl rfl zau zai jo) ?_)
    refine Ops.st (qW.storeOwn (0) (by rw [zbj]; rfl) rfl zai ho6 rfl jo rfl) ?_
    rintro wz ⟨hoz, hfz, hsz⟩
    refine jO ?_
    refine jN ⟨(js9 (jC (by simp [*])) rfl rfl rfl rfl rfl rfl rfl rfl), (⟨ho5.frm hfz (by simp [ob]; omega), eJ (by simp [*]) hoz, K.own hfz (fun y hy => by simp only [ob, za] at hy; omega)⟩)⟩
   refine jU ?_
   refine je (Run.pickF rfl rfl au) (je (Run.indexS 0 rfl rfl zau zai jo) ?_)
   refine Ops.st (qW.storeOwn (0) (by rw [zbj]; rfl) rfl zai ho6 rfl jo rfl) ?_
   rintro wz ⟨hoz, hfz, hsz⟩
   refine jO ?_
   refine jN ⟨(js9 (jC (by simp [*])) rfl rfl rfl rfl rfl rfl rfl rfl), (⟨ho5.frm hfz (by simp [ob]; omega), eJ (by simp [*]) hoz, K.own hfz (fun y hy => by simp only [ob, za] at hy; omega)⟩)⟩
  intro Γ w6 hΓ ⟨ho5, ho6, K⟩
  refine jN (VC.sub _ hΓ (jS (jS (jR (jm rfl (je (Run.lenT rfl zo) ?_))))))
  refine jx .i64 0 ?_
  refine jO (jN (jv10 0 1 5 6 8 9 34 35 56 57 ?_))
  refine jB ?_
  refine VC.loop (σ := Nat × List Bool) (fun s => [(0, encStr t), (1, encStr pp), (5, .slice (some ⟨g5, 0, none⟩) (t.length + 1) (t.length + 1)), (6, .slice (some ⟨g6, 0, none⟩) (t.length + 1) (t.length + 1)), (8, .int .u8 ((c.toNat : Nat) : Int)), (9, .bool (decide (dR c))), (34, .int .i64 ((pp.length : Nat) : Int)), (35, .int .i64 ((i : Nat) : Int)), (56, .int .i64 ((t.length : Nat) : Int)), (57, .int .i64 ((s.1 : Nat) : Int))]) (fun s wr => s.1 ≤ t.length ∧ s.2.length = t.length + 1 ∧ (∀ j, j ≤ s.1 → s.2[j]? = some (nxM t r c j)) ∧ Own wr 4 1 (some ⟨g5, 0, none⟩) (t.length + 1) (t.length + 1) (BoL r) ∧ Own wr 4 1 (some ⟨g6, 0, none⟩) (t.length + 1) (t.length + 1) (BoL s.2) ∧ Frm [] w wr) (fun s => t.length - s.1) (0, nx.set 0 (decide (atB r 0 = true ∧ dR c))) (js10 rfl rfl rfl rfl rfl rfl rfl rfl rfl rfl) ⟨zah _, by simpa using hnl, fun j hj => (by have hj0 : j = 0 := (by simpa using hj); subst hj0; dsimp only; rw [zby jo]; rfl), ho5, ho6, K⟩ ?_
  rintro ⟨k, x⟩ wr ⟨hk, hxl, hxk, ho5, ho6, K⟩
  dsimp only at hk hxl hxk ho5 ho6 ⊢
  refine jS (jR (jb rfl rfl (Bin.lssN _ _) (jO (jN (jS ?_)))))
  refine jD rfl (fun hc3 => ?_) fun hc3 => ?_
  ·
   obtain ⟨d, hdx⟩ := jV hc3
   refine jQ (jN (jv10 0 1 5 6 8 9 34 35 56 57 ?_))
   refine jS (jB (jS (jR (jm rfl (ja rfl (jO (jN (jv11 0 1 5 6 8 9 10 34 35 56 57 ?_))))))))
   refine jB (jS (jR (jm rfl (ja rfl (jO (jN (jv12 0 1 5 6 8 9 10 34 35 56 57 75 ?_)))))))
   refine jD rfl (fun hc4 => ?_) fun hc4 => ?_
   ·
    refine VC.splitR [(0, encStr t), (1, encStr pp), (5, .slice (some ⟨g5, 0, none⟩) (t.length + 1) (t.length + 1)), (6, .slice (some ⟨g6, 0, none⟩) (t.length + 1) (t.length + 1)), (8, .int .u8 ((c.toNat : Nat) : Int)), (9, .bool (decide (dR c))), (34, .int .i64 ((pp.length : Nat) : Int)), (35, .int .i64 ((i : Nat) : Int)), (56, .int .i64 ((t.length : Nat) : Int)), (57, .int .i64 ((k : Nat) : Int))] (fun wz => Own wz 4 1 (some ⟨g5, 0, none⟩) (t.length + 1) (t.length + 1) (BoL r) ∧ Own wz 4 1 (some ⟨g6, 0, none⟩) (t.length + 1) (t.length + 1) (BoL (x.set (k + 1) (decide (atB r (k + 1) = true ∨ (atB x k = true ∧ (c.toNat = 42 ∨ d.toNat ≠ 47)))))) ∧ Frm [] w wz) 100 (.bool (decide (atB r (k + 1) = true ∨ (atB x k = true ∧ (c.toNat = 42 ∨ d.toNat ≠ 47))))) ?_ ?_
    ·
     refine jR ?_
     refine jm rfl (jm rfl (jb rfl rfl (Bin.add_i64 _ 1 jo) (jm rfl (jm rfl (jb rfl rfl (Bin.add_i64 _ 1 jo) (je (Run.indexS (k + 1) rfl rfl zau zai jo) (jl rfl zbp (gK ho5 jo) ?_)))))))
     refine jM ?_
     by_cases hs85 : atB r (k + 1) = true
     ·
      refine jU ?_
      refine jU ?_
      refine jU ?_
      refine jU ?_
      refine jU ?_
      refine Ops.skU rfl rfl ?_
      refine Ops.skU rfl rfl ?_
      refine Ops.skU rfl rfl ?_
      refine Ops.skU rfl rfl ?_
      refine Ops.skU rfl rfl ?_
      refine Ops.skU rfl rfl ?_
      refine Ops.skU rfl rfl ?_
      refine Ops.skU rfl rfl ?_
      refine jU ?_
      refine je (Run.pickT rfl rfl au) (je (Run.indexS (k + 1) rfl rfl zau zai jo) ?_)
      refine Ops.st (qW.storeOwn ((k + 1)) (by rw [zbj]; rfl) rfl zai ho6 rfl jo rfl) ?_
      rintro wz ⟨hoz, hfz, hsz⟩
      refine jO ?_
      refine jN ⟨(js11 (jC (by simp [*])) rfl rfl rfl rfl rfl rfl rfl rfl rfl rfl), (⟨ho5.frm hfz (by simp [ob]; omega), eJ (by simp [*]) hoz, K.own hfz (fun y hy => by simp only [ob, za] at hy; omega)⟩)⟩
     refine jG ?_
     refine jG ?_
     refine jk (Run.indexS k rfl rfl zau zai jo) ?_
     refine jk (Run.load rfl zbp (gK ho6 jo)) ?_
     refine jG ?_
     by_cases hs90 : atB x k = true
     ·
      refine jG ?_
      refine jk (Run.bin rfl rfl (Bin.eqlN _ 42)) ?_
      refine jG ?_
      by_cases hs93 : c.toNat = 42
      ·
       refine jU ?_
       refine jU ?_
       refine jU ?_
       refine jU ?_
       refine jk (Run.pickT rfl rfl au) ?_
       refine jk (Run.pickT rfl rfl au) ?_
       refine je (Run.pickF rfl rfl au) (je (Run.indexS (k + 1) rfl rfl zau zai jo) ?_)
       refine Ops.st (qW.storeOwn ((k + 1)) (by rw [zbj]; rfl) rfl zai ho6 rfl jo rfl) ?_
       rintro wz ⟨hoz, hfz, hsz⟩
       refine jO ?_
       refine jN ⟨(js11 (jC (by simp [*])) rfl rfl rfl rfl rfl rfl rfl rfl rfl rfl), (⟨ho5.frm hfz (by simp [ob]; omega), eJ (by simp [*]) hoz, K.own hfz (fun y hy => by simp only [ob, za] at hy; omega)⟩)⟩
      refine jG ?_
      refine jG ?_
      refine jk (Run.indexT _ rfl rfl zo hdx) ?_
      refine jk (Run.bin rfl rfl (Bin.neqN _ 47)) ?_
      refine jk (Run.pickF rfl rfl au) ?_
      refine jk (Run.pickT rfl rfl au) ?_
      refine je (Run.pickF rfl rfl au) (je (Run.indexS (k + 1) rfl rfl zau zai jo) ?_)
      refine Ops.st (qW.storeOwn ((k + 1)) (by rw [zbj]; rfl) rfl zai ho6 rfl jo rfl) ?_
      rintro wz ⟨hoz, hfz, hsz⟩
      refine jO ?_
      refine jN ⟨(js11 (jC (by simp [*])) rfl rfl rfl rfl rfl rfl rfl rfl rfl rfl), (⟨ho5.frm hfz (by simp [ob]; omega), eJ (by simp [*]) hoz, K.own hfz (fun y hy => by simp only [ob, za] at hy; omega)⟩)⟩
     refine jU ?_
     refine jU ?_
     refine jU ?_
     refine Ops.skU rfl rfl ?_
     refine Ops.skU rfl rfl ?_
     refine Ops.skU rfl rfl ?_
     refine Ops.skU rfl rfl ?_
     refine jU ?_
     refine jk (Run.pickF rfl rfl au) ?_
     refine je (Run.pickF rfl rfl au) (je (Run.indexS (k + 1) rfl rfl zau zai jo) ?_)
     refine Ops.st (qW.storeOwn ((k + 1)) (by rw [zbj]; rfl) rfl zai ho6 rfl jo rfl) ?_
     rintro wz ⟨hoz, hfz, hsz⟩
     refine jO ?_
     refine jN ⟨(js11 (jC (by simp [*])) rfl rfl rfl rfl rfl rfl rfl rfl rfl rfl), (⟨ho5.frm hfz (by simp [ob]; omega), eJ (by simp [*]) hoz, K.own hfz (fun y hy => by simp only [ob, za] at hy; omega)⟩)⟩
    intro Γ w7 hΓ ⟨ho5, ho6, K⟩
    refine qN (qN (jN (VC.sub _ hΓ ?_)))
    refine jR (jb rfl rfl (Bin.add_i64 _ 1 jo) (jm rfl (jO ?_)))
    refine jN ⟨(k + 1, x.set (k + 1) (decide (atB r (k + 1) = true ∨ (atB x k = true ∧ (c.toNat = 42 ∨ d.toNat ≠ 47))))), (js10 rfl rfl rfl rfl rfl rfl rfl rfl rfl rfl), ?_, ?_⟩
    ·
     have hxg : atB x k = nxM t r c k := by rw [atB, List.getD, hxk k (zv _)]; rfl
     refine ⟨hc3, by rw [zcl]; exact hxl, fun j hj => ?_, ho5, ho6, K⟩
     by_cases e : j = k + 1
     ·
      subst e
      dsimp only
      rw [zby jo]
      simp only [nxM, if_pos hc4, hdx, kM, zcx, zem, hxg]
     dsimp only
     rw [zde (fun h => e h.symm)]
     exact hxk j (by dsimp only at hj; omega)
    first | omega | (dsimp only; omega)
   refine VC.splitR [(0, encStr t), (1, encStr pp), (5, .slice (some ⟨g5, 0, none⟩) (t.length + 1) (t.length + 1)), (6, .slice (some ⟨g6, 0, none⟩) (t.length + 1) (t.length + 1)), (8, .int .u8 ((c.toNat : Nat) : Int)), (9, .bool (decide (dR c))), (34, .int .i64 ((pp.length : Nat) : Int)), (35, .int .i64 ((i : Nat) : Int)), (56, .int .i64 ((t.length : Nat) : Int)), (57, .int .i64 ((k : Nat) : Int))] (fun wz => Own wz 4 1 (some ⟨g5, 0, none⟩) (t.length + 1) (t.length + 1) (BoL r) ∧ Own wz 4 1 (some ⟨g6, 0, none⟩) (t.length + 1) (t.length + 1) (BoL (x.set (k + 1) (decide (atB r k = true ∧ d.toNat = c.toNat)))) ∧ Frm [] w wz) 73 (.bool (decide (atB r k = true ∧ d.toNat = c.toNat))) ?_ ?_
   ·
    refine jR ?_
    refine jm rfl (jm rfl (jb rfl rfl (Bin.add_i64 _ 1 jo) (jm rfl (jm rfl (je (Run.indexS k rfl rfl zau zai jo) (jl rfl zbp (gK ho5 jo) (jM ?_)))))))
    by_cases hs67 : atB r k = true
    ·
     refine jG ?_
     refine jG ?_
     refine jk (Run.indexT _ rfl rfl zo hdx) ?_
     refine jG ?_
     refine jk (Run.bin rfl rfl (Bin.eqlN _ _)) ?_
     refine je (Run.pickT rfl rfl au) (je (Run.indexS (k + 1) rfl rfl zau zai jo) ?_)
     refine Ops.st (qW.storeOwn ((k + 1)) (by rw [zbj]; rfl) rfl zai ho6 rfl jo rfl) ?_
     rintro wz ⟨hoz, hfz, hsz⟩
     refine jO ?_
     refine jN ⟨(js11 (jC (by simp [*])) rfl rfl rfl rfl rfl rfl rfl rfl rfl rfl), (⟨ho5.frm hfz (by simp [ob]; omega), eJ (by simp [*]) hoz, K.own hfz (fun y hy => by simp only [ob, za] at hy; omega)⟩)⟩
    refine jU ?_
    refine jU ?_
    refine jU ?_
    refine jU ?_
    refine jU ?_
    refine je (Run.pickF rfl rfl au) (je (Run.indexS (k + 1) rfl rfl zau zai jo) ?_)
    refine Ops.st (qW.storeOwn ((k + 1)) (by rw [zbj]; rfl) rfl zai ho6 rfl jo rfl) ?_
    rintro wz ⟨hoz, hfz, hsz⟩
    refine jO ?_
    refine jN ⟨(js11 (jC (by simp [*])) rfl rfl rfl rfl rfl rfl rfl rfl rfl rfl), (⟨ho5.frm hfz (by simp [ob]; omega), eJ (by simp [*]) hoz, K.own hfz (fun y hy => by simp only [ob, za] at hy; omega)⟩)⟩
   intro Γ w7 hΓ ⟨ho5, ho6, K⟩
   refine qN (qN (jN (VC.sub _ hΓ ?_)))
   refine jR (jb rfl rfl (Bin.add_i64 _ 1 jo) (jm rfl (jO ?_)))
   refine jN ⟨(k + 1, x.set (k + 1) (decide (atB r k = true ∧ d.toNat = c.toNat))), (js10 rfl rfl rfl rfl rfl rfl rfl rfl rfl rfl), ?_, ?_⟩
   ·
    refine ⟨hc3, by rw [zcl]; exact hxl, fun j hj => ?_, ho5, ho6, K⟩
    by_cases e : j = k + 1
    ·
     subst e
     dsimp only
     rw [zby jo]
     simp only [nxM, if_neg hc4, hdx, kM, zcx, zem]
    dsimp only
    rw [zde (fun h => e h.symm)]
    exact hxk j (by dsimp only at hj; omega)
   first | omega | (dsimp only; omega)
  refine jX ?_
  refine qK (qK (qS ?_))
  refine jN (jv6 0 1 5 6 34 35 ?_)
  refine jR (jm rfl (jM ?_))
  obtain rfl : k = t.length := jo
  have hxs := qZg hxl hxk
  refine Ops.m (qH.copyOwn (g := g5) (o := 0) rfl rfl zau zai ho5 (t.length + 1) ho6.rd (Nat.min_self _) (by rw [jY, jY]; omega) (qXv _)) rfl ?_
  rintro _ w8 ⟨rfl, ho8, hf8, hs8⟩
  rw [zdw, zcd, zas (by rw [jY, jY]; omega), zbq] at ho8
  have ho6 := ho6.frm hf8 (by simp [ob]; omega)
  have K := K.own hf8 (fun y hy => by rw [za] at hy; omega)
  refine jO ?_
  refine qN (jN ?_)
  refine jv6 0 1 5 6 34 35 ?_
  refine jR (jb rfl rfl (Bin.add_i64 _ 1 jo) (jm rfl (jO ?_)))
  refine jN ⟨(i + 1, x, x), (js6 rfl rfl rfl rfl rfl rfl), ?_, ?_⟩
  · exact ⟨hc2, hxl, hxl, hfs _ hxs, ho8, ho6, K⟩
  first | omega | (dsimp only; omega)
 refine jX ?_
 refine qK (qK (qS ?_))
 refine jN (jv2 0 5 ?_)
 refine jS (jR (jm rfl (jm rfl (je (Run.lenT rfl zo) (je (Run.indexS t.length rfl rfl zau zai jo) (jl rfl zbp (gK ho5 jo) (ja rfl (jO (jN (jv1 4 ?_))))))))))
 refine jT ?_
 refine qF rfl ?_
 obtain rfl : i = pp.length := jo
 unfold kU at hre
 rw [zaw] at hre
 refine ⟨?_, K⟩
 have e : meetsN q p ↔ atB r t.length = true := by
  unfold meetsN rowM
  rw [htt, hpp, ← hre, ← htl]
  exact ⟨fun h => h.2.2, fun h => ⟨Classical.not_not.1 (fun h2 => hc1 (.inl h2)), jo, h⟩⟩
 have e2 : decide (meetsN q p) = atB r t.length := by rw [zck, decide_eq_true_iff]; exact e
 rw [e2]
end
section
open Go.RowKit Go.Sort
def kB (m : MailP) (p : Tx) (subs : Bool) : List Tx := if bZ m then (if subs = true then m.subs else qD m).filter (fun x => decide (meetsN x p)) else []
theorem mT (x q : Tx) (g : Nat) (w : World) (hb : Blk w g 9 #[encStr q]) (hx : x.length ≤ 1000000) (hq : q.length ≤ 1000000) (hv : cZ w) :
  Calls Tryz.prog 80 #[encStr x, .pointer (some ⟨g, 0, none⟩)] w fun e w' => e = .returned (.bool (!decide (meetsN x q))) ∧ Frm [] w w' := by
 refine VC.calls (nt := 8) (res := #[.tmp 3]) Tryz.func80 rfl Tryz.ntmps80 Tryz.results80 rfl ?_
 refine jS (jR (ja rfl (jO (jN (jv2 0 1 ?_)))))
 refine jS (jR (jm rfl (jl rfl zac (hb.cell 0) ?_)))
 refine Ops.cl (jE2 Tryz.call81) (sE x q _ hx hq hv) rfl ?_
 rintro e w2 ⟨rfl, hf2⟩
 refine ⟨_, rfl, ?_⟩
 refine je (Run.not rfl) (ja rfl (jO (jN (jv1 3 ?_))))
 refine jT ?_
 refine qF rfl ?_
 exact ⟨rfl, hf2⟩
set_option maxHeartbeats 1000000 in
theorem vP (m : MlC) (q : Tx) (subs : Bool) (w : World) (hm : RdL w m) (hq : q.length ≤ 1000000) (hv : cZ w) :
  Calls Tryz.prog 27 #[m.val, encStr q, .bool subs] w fun e w' => ∃ B d, ∃ ss : List Tx, e = .returned (.slice B ss.length d) ∧ Own w' 9 1 B ss.length d (SB ss) ∧ ss = kB m.p q subs ∧ (∀ b ∈ ob B, w.heap.size ≤ b) ∧ Frm [] w w' := by
 have hln := hm.ln
 have hnl := gR m
 have hnq := oT hm
 refine VC.calls (nt := 20) (res := #[.tmp 6]) Tryz.func27 rfl Tryz.ntmps27 Tryz.results27 rfl ?_
 refine jS (jR ?_)
 refine Ops.m (qH.box rfl) rfl ?_
 rintro _ w1 ⟨rfl, hF_w1⟩
 have hb1 : Blk w1 w.heap.size 25 #[.slice m.A m.l.length m.c, .slice m.S m.ss.length m.d, .int .i64 m.v, .int .i64 m.b] := hF_w1.blk
 have K := hF_w1.frm
 generalize hg1 : w.heap.size = g1 at hb1 ⊢
 refine Ops.m (qH.box rfl) rfl ?_
 rintro _ w2 ⟨rfl, hF2⟩
 have hb4 : Blk w2 w1.heap.size 9 #[encStr q] := hF2.blk
 have hb1 := hb1.frm hF2.frm jp
 have hg4 : w.heap.size ≤ w1.heap.size := K.size
 have K := K.trans hF2.frm jp
 generalize hg4' : w1.heap.size = g4 at hb4 hg4 ⊢
 refine ja rfl (jO (jN (jv3 2 3 4 ?_)))
 refine jS (jS (jR (je (Run.loadA rfl zi zb hb1.cells (by first | rfl | (simp; done))) ?_)))
 refine Ops.cl (jE1 zed) (dJ m _ (hm.frm K) (hv.frm K)) rfl ?_
 rintro e w4 ⟨rfl, hf4⟩
 refine ⟨_, rfl, ?_⟩
 have hb1 := hb1.frm hf4 jp
 have hb4 := hb4.frm hf4 jp
 have hKs_hf4 := K.size
 have K := K.trans hf4 jp
 refine je (Run.not rfl) (jO (jN (jv4 2 3 4 10 ?_)))
 refine VC.condB rfl (fun hc1 => ?_) (fun hc1 => ?_)
 ·
  have hc1 : ¬ bZ m.p := by simpa using hc1
  refine jS (jR (ja rfl (jO (jN (jv1 6 ?_)))))
  refine jT ?_
  refine qZ (qF rfl ?_)
  exact ⟨none, 0, [], rfl, Own.nil _ _ _, by unfold kB; rw [if_neg hc1], by simp [ob], K⟩
 have hc1 : bZ m.p := by simpa using hc1
 obtain ⟨hm24, hv1, hv2, hb0, hb2, hr, hin⟩ := cB hc1
 refine jQ (jN (jv3 2 3 4 ?_))
 refine jS (jR (je (Run.loadA rfl zi zb hb1.cells (by first | rfl | (simp; done))) ?_))
 refine Ops.cl (jE1 Tryz.call55) (gP m _ (hm.frm K)) rfl ?_
 rintro e w5 ⟨B, d, rfl, hoL, hgB, hf5⟩
 have hl45 := hb4.lt
 refine ⟨_, rfl, ?_⟩
 have hb1 := hb1.frm hf5 jp
 have hb4 := hb4.frm hf5 jp
 have hKs_hf5 := K.size
 have K := K.trans hf5 jp
 rw [← hnl] at hoL ⊢
 refine ja rfl (jO (jN (jv4 2 3 4 7 ?_)))
 refine jS (jS (jR (jm rfl (jO (jN (jv4 3 4 7 13 ?_))))))
 refine VC.condB rfl (fun hc2 => ?_) (fun hc2 => ?_)
 ·
  have hlp : kB m.p q subs = m.ss.filter (fun x => decide (meetsN x q)) := by unfold kB; rw [if_pos hc1, if_pos hc2]; rfl
  refine jR (jf rfl zg rfl zam (jl rfl zbb (hb1.cell 1) ?_))
  refine Ops.cl (jE1 Tryz.call75) (nC m.S m.d m.ss _ (hm.s.frm K jp) (by have := hm.sn; omega)) rfl ?_
  rintro e w6 ⟨B, d, rfl, hoL, hgB, hf6⟩
  have hl46 := hb4.lt
  refine ⟨_, rfl, ?_⟩
  have hb1 := hb1.frm hf6 jp
  have hb4 := hb4.frm hf6 jp
  have hKs_hf6 := K.size
  have K := K.trans hf6 jp
  obtain ⟨hln2, hlq⟩ : m.ss.length ≤ 1000000 ∧ ∀ q ∈ m.ss, q.length ≤ 1000000 := ⟨hm.sn, hm.sq⟩
  obtain ⟨wl, hwl⟩ : ∃ wl, wl = w6 := ⟨_, rfl⟩
  subst hwl
  have hTT : mW (ob B) wl 80 [.pointer (some ⟨g4, 0, none⟩)] (fun x => !decide (meetsN x q)) := ⟨Tryz.call80, fun W x hW hx => mT x q g4 W (hb4.frm hW (fun h => by have := hgB _ h; omega)) hx hq (hv.frm (K.own hW (fun b hb => by have := hgB b hb; omega)))⟩
  refine ja rfl (jO (jN (jv2 4 7 ?_)))
  refine jS (jR (jm rfl (je (Run.mkFunc evs.nil (evs.cons rfl evs.nil)) ?_)))
  refine Ops.cl (jE2 Tryz.call79) (pX 80 [.pointer (some ⟨g4, 0, none⟩)] _ B d m.ss _ hoL hln2 hlq hTT) rfl ?_
  rintro e w9 ⟨rfl, ho9, hf9⟩
  refine ⟨_, rfl, ?_⟩
  have K := K.own hf9 (fun b hb => by have := hgB b hb; omega)
  refine ja rfl (jO (jN (jv1 6 ?_)))
  refine jT ?_
  refine qF rfl ?_
  have e : (fun x : Tx => !(!decide (meetsN x q))) = fun x => decide (meetsN x q) := by funext x; simp
  rw [e] at ho9
  refine ⟨B, d, _, ?_, ho9, hlp.symm, fun b hb => by have := hgB b hb; omega, K⟩
  rw [e]
 have hlp : kB m.p q subs = (qD m.p).filter (fun x => decide (meetsN x q)) := by unfold kB; rw [if_pos hc1, if_neg (by simp [hc2])]
 obtain ⟨hln2, hlq⟩ : (qD m.p).length ≤ 1000000 ∧ ∀ q ∈ qD m.p, q.length ≤ 1000000 := ⟨jo, hnq⟩
 obtain ⟨wl, hwl⟩ : ∃ wl, wl = w5 := ⟨_, rfl⟩
 subst hwl
 have hTT : mW (ob B) wl 80 [.pointer (some ⟨g4, 0, none⟩)] (fun x => !decide (meetsN x q)) := ⟨Tryz.call80, fun W x hW hx => mT x q g4 W (hb4.frm hW (fun h => by have := hgB _ h; omega)) hx hq (hv.frm (K.own hW (fun b hb => by have := hgB b hb; omega)))⟩
 refine jQ (jN (jv2 4 7 ?_))
 refine jS (jR (jm rfl (je (Run.mkFunc evs.nil (evs.cons rfl evs.nil)) ?_)))
 refine Ops.cl (jE2 Tryz.call79) (pX 80 [.pointer (some ⟨g4, 0, none⟩)] _ B d (qD m.p) _ hoL hln2 hlq hTT) rfl ?_
 rintro e w9 ⟨rfl, ho9, hf9⟩
 refine ⟨_, rfl, ?_⟩
 have K := K.own hf9 (fun b hb => by have := hgB b hb; omega)
 refine ja rfl (jO (jN (jv1 6 ?_)))
 refine jT ?_
 refine qF rfl ?_
 have e : (fun x : Tx => !(!decide (meetsN x q))) = fun x => decide (meetsN x q) := by funext x; simp
 rw [e] at ho9
 refine ⟨B, d, _, ?_, ho9, hlp.symm, fun b hb => by have := hgB b hb; omega, K⟩
 rw [e]
end
section
open Go.RowKit Go.Sort
def goP (f nm : Tx) : Prop := qJ f = nm ∨ bO nm f
instance (f nm : Tx) : Decidable (goP f nm) := by unfold goP; infer_instance
def vR (l : List NmP) (x : NmP) : List NmP := l.filter (fun y => decide (y.1 < x.1)) ++ x :: l.filter (fun y => decide (¬ y.1 < x.1))
theorem qXx {l : List NmP} {x : NmP} {k : Nat} (h : eX l x.1 k) : vR l x = l.take k ++ x :: l.drop k := by
 unfold vR
 rw [kY h]
 congr 2
 obtain ⟨h1, h2, h3⟩ := h
 conv => lhs; rw [← zbf k l]
 rw [zbv, List.filter_eq_nil_iff.2, List.filter_eq_self.2, zcd]
 ·
  intro y hy
  obtain ⟨j, hj, rfl⟩ := zu hy
  rw [zag] at hj
  rw [zee]
  simpa using h3 (k + j) jo jo
 intro y hy
 obtain ⟨j, hj, rfl⟩ := zu hy
 rw [zk] at hj
 rw [zcw]
 simpa using h2 j jo jo
def fR (m : MailP) (x : NmP) : MailP := { m with l := vR m.l (qJ x.1, x.2) }
def dY (stay : List NmP) (f t : Tx) : List NmP → Except Nat (List NmP)
 | [] => .ok []
 | x :: r => match cH x.1 f t with
  | .error e => .error e
  | .ok s => if qJ s ∈ stay.map Prod.fst then .error 15 else match dY stay f t r with
   | .error e => .error e
   | .ok r' => .ok ((s, x.2) :: r')
def okD (r : Except Nat Tx) : Tx := match r with | .ok s => s | .error _ => []
def bC (f t : Tx) (x : NmP) : NmP := (okD (cH x.1 f t), x.2)
def eH (stay : List NmP) (f t : Tx) (x : NmP) : Prop := ∃ s, cH x.1 f t = .ok s ∧ qJ s ∉ stay.map Prod.fst
theorem kC (stay : List NmP) (f t : Tx) : ∀ (l : List NmP) (k : Nat), (∀ j (h : j < l.length), j < k → eH stay f t l[j]) →
  dY stay f t l = match dY stay f t (l.drop k) with | .error e => .error e | .ok r => .ok ((l.take k).map (bC f t) ++ r)
 | l, 0, _ => by
  rw [zch, zdw, zeh]
  cases dY stay f t l <;> rfl
 | [], k + 1, _ => by simp [dY]
 | x :: l, k + 1, h => by
  obtain ⟨s, hs, hn⟩ := h 0 jp jo
  have ih := kC stay f t l k (fun j hj hjk => h (j + 1) (by simpa using hj) jo)
  have hs' : cH x.1 f t = .ok s := hs
  rw [zea, zcy, zcq]
  rw [dY, hs']
  dsimp only
  rw [if_neg hn, ih]
  have e : bC f t x = (s, x.2) := by unfold bC; rw [hs']; rfl
  cases dY stay f t (l.drop k) with
  | error e => rfl
  | ok r => dsimp only; rw [e]; rfl
theorem kD {stay l : List NmP} {f t : Tx} (h : ∀ j (h : j < l.length), eH stay f t l[j]) : dY stay f t l = .ok (l.map (bC f t)) := by
 rw [kC stay f t l l.length (fun j hj _ => h j hj), List.drop_length, zaw]
 simp [dY]
theorem qQe {stay l : List NmP} {f t : Tx} {k e : Nat} (hk : k < l.length) (h : ∀ j (h : j < l.length), j < k → eH stay f t l[j]) (he : cH (l[k]).1 f t = .error e) : dY stay f t l = .error e := by
 rw [kC stay f t l k h, zaz hk, dY, he]
theorem vS {stay l : List NmP} {f t s : Tx} {k : Nat} (hk : k < l.length) (h : ∀ j (h : j < l.length), j < k → eH stay f t l[j]) (he : cH (l[k]).1 f t = .ok s) (hs : qJ s ∈ stay.map Prod.fst) : dY stay f t l = .error 15 := by
 rw [kC stay f t l k h, zaz hk, dY, he]
 dsimp only
 rw [if_pos hs]
def goF (f : Tx) (l : List NmP) : List NmP := l.filter fun x => decide (goP f x.1)
def stF (f : Tx) (l : List NmP) : List NmP := l.filter fun x => !decide (goP f x.1)
def dM (m : MailP) (f t : Tx) : Except Nat MailP :=
 match dY (stF f m.l) f t (goF f m.l) with
 | .error e => .error e
 | .ok g => if cV m (qO (stF f m.l) (upN t)).length (qO (stF f m.l) (upN t)).length ≠ 0 then .error (cV m (qO (stF f m.l) (upN t)).length (qO (stF f m.l) (upN t)).length)
  else .ok (g.foldl fR (bX { m with l := stF f m.l } (upN t)))
def oZ (m : MailP) (f t : Tx) : Prop := ∀ j, j ≤ ((goF f m.l).map (bC f t)).length → bK ((((goF f m.l).map (bC f t)).take j).foldl fR (bX { m with l := stF f m.l } (upN t))).l
def bP (m : MailP) (f t : Tx) (emptyP : Except Nat MailP) : Except Nat MailP :=
 if ¬ bZ m then .error 1 else if ¬ isN f ∨ ¬ isN t then .error 18 else if qJ f ∉ qD m then .error 6 else if qJ t ∈ qD m then .error 15
 else if qJ f = qT then emptyP else if bO t f then .error 16 else dM m f t
theorem rS {q f t s : Tx} (h : cH q f t = .ok s) : s.length ≤ 60 := by
 unfold cH at h
 have hc : ∀ x : Tx, kK x = .ok s → s.length ≤ 60 := by
  intro x hx
  unfold kK at hx
  split at hx
  ·
   rename_i h1
   cases hx
   exact h1.2.1
  cases hx
 split at h
 · cases h
 split at h
 · exact hc _ h
 split at h
 · exact hc _ h
 cases h
def goC (f : Tx) (l : List Nc) : List Nc := l.filter fun x => decide (goP f x.nm)
def stC (f : Tx) (l : List Nc) : List Nc := l.filter fun x => !decide (goP f x.nm)
theorem qZ0 (f : Tx) (l : List Nc) : Ns (goC f l) = goF f (Ns l) := by
 unfold goC goF Ns
 rw [List.filter_map]
 rfl
theorem qZ1 (f : Tx) (l : List Nc) : Ns (stC f l) = stF f (Ns l) := by
 unfold stC stF Ns
 rw [List.filter_map]
 rfl
def eV (f t : Tx) (x : Nc) : Nc := { x with nm := okD (cH x.nm f t) }
theorem qQf (l : List Nc) (k : Nat) (hk : k < l.length) (s : Tx) : (NDC l).set (k * 4) (encStr s) = NDC (l.set k { l[k] with nm := s }) := by
 apply zbz
 intro j
 have hidx := fun l' => fI Nc.cells 4 jo Nc.cells_len l' j
 have hlen := dZ l
 rw [show NDC (l.set k { l[k] with nm := s }) = (l.set k { l[k] with nm := s }).flatMap Nc.cells from rfl, hidx, zfb, zfb]
 have hdm : j = j / 4 * 4 + j % 4 := jo
 by_cases h2 : k * 4 = j
 ·
  have h1 : k = j / 4 := jo
  rw [if_pos h2, if_pos (by rw [hlen]; omega), if_pos h1, if_pos hk]
  have : j % 4 = 0 := jo
  rw [this]
  rfl
 rw [if_neg h2, show NDC l = l.flatMap Nc.cells from rfl, hidx]
 by_cases h1 : k = j / 4
 ·
  rw [if_pos h1, if_pos hk, ← h1, ze hk]
  have : j % 4 = 1 ∨ j % 4 = 2 ∨ j % 4 = 3 := jo
  rcases this with h | h | h <;> rw [h] <;> rfl
 rw [if_neg h1]
def eN (f t : Tx) (l : List Nc) (k : Nat) : List Nc := (l.take k).map (eV f t) ++ l.drop k
theorem qQg (f t : Tx) (l : List Nc) (k : Nat) (hk : k ≤ l.length) : (eN f t l k).length = l.length := by
 unfold eN
 rw [zl, zaj, zk, zag]
 omega
theorem qXy (f t : Tx) (l : List Nc) (k : Nat) (hk : k < l.length) (h2 : k < (eN f t l k).length) : (eN f t l k)[k] = l[k] := by
 have e : (eN f t l k)[k]? = some l[k] := by
  unfold eN
  rw [zbi (by rw [zaj, zk]; omega), zaj, zk, zal (Nat.le_of_lt hk), zdd, zdl, Nat.add_zero, ze hk]
 rw [ze h2] at e
 exact Option.some.inj e
theorem yQ (f t : Tx) (l : List Nc) (k : Nat) (hk : k < l.length) (s : Tx) (hs : cH (l[k]).nm f t = .ok s) : (eN f t l k).set k { l[k] with nm := s } = eN f t l (k + 1) := by
 unfold eN
 rw [List.set_append_right _ _ (by rw [zaj, zk]; omega)]
 have e : k - ((l.take k).map (eV f t)).length = 0 := by rw [zaj, zk]; omega
 rw [e, zaz hk, List.set_cons_zero, zao, ze hk, zbm]
 have e2 : eV f t l[k] = { l[k] with nm := s } := by unfold eV; rw [hs]; rfl
 simp [e2]
theorem qQh (f t : Tx) (l : List Nc) : eN f t l l.length = l.map (eV f t) := by
 unfold eN
 rw [zaw, List.drop_length, zbq]
theorem yX {m : MlC} {x : Nc} {k : Nat} {A : Option Addr} {c : Nat} (h : eX m.p.l (qJ x.nm) k) : (m.wl A c (m.l.take k ++ ⟨qJ x.nm, x.v, x.n, x.A, x.c, x.l⟩ :: m.l.drop k)).p = fR m.p x.p := by
 have e := qXx (x := (qJ x.nm, ⟨x.v, x.n, Ms x.l⟩)) h
 have e2 := xF m.l ⟨qJ x.nm, x.v, x.n, x.A, x.c, x.l⟩ k
 exact congrArg (fun z => MailP.mk z m.ss m.v m.b) (e2.trans e.symm)
theorem yZ {w w1 w2 : World} {S : List Nat} {m mo : MlC} {k : Nat} {x : Nc} {A : Option Addr} {c : Nat} (h : bA w w1 S m mo) (kf : Frm [] w1 w2) (hs : w.heap.size ≤ w1.heap.size) (hk : k ≤ mo.l.length) (hn : mo.l.length + 1 ≤ 1000000)
  (ho : Own w2 45 4 A (mo.l.length + 1) c (NDC (mo.l.take k ++ x :: mo.l.drop k))) (hf : ∀ b ∈ ob A, w1.heap.size ≤ b) (hx : ∀ w'', RdL w'' m → x.At w'') : bA w w2 (S ++ ob A) m (mo.wl A c (mo.l.take k ++ x :: mo.l.drop k)) := by
 have hll := mV mo.l x k hk
 refine ⟨fun y hy => by rcases List.mem_append.1 hy with h3 | h3; exact h.1 y h3; exact zay hs (hf y h3), fun w'' T kT hT hm => ?_⟩
 have ho := ho.frm kT (fun y hy h => hT y h (zco _ hy))
 have hmo := h.2 w'' T ((kf.mono jp).trans kT (fun y hy => .inl hy)) (fun y hy h3 => hT y hy (zdf _ h3)) hm
 exact ⟨⟨ho.rdNk hll, xE k hmo.l.el (hx w'' hm)⟩, hmo.s, by show List.length (_ ++ _) ≤ _; rw [hll]; exact ho.le, hmo.sc, by show List.length (_ ++ _) ≤ _; rw [hll]; exact hn, hmo.sn, hmo.sq⟩
end
section
open Go.RowKit Go.Sort
theorem qQi {w w' : World} {m : MlC} {A : Option Addr} {c : Nat} {l : List Nc} (ho : Own w' 45 4 A l.length c (NDC l)) (hf : ∀ b ∈ ob A, w.heap.size ≤ b) (hl : l.length ≤ 1000000) (hx : ∀ w'', RdL w'' m → ∀ y ∈ l, y.At w'') : bA w w' (ob A) m (m.wl A c l) := by
 refine ⟨hf, fun w'' T kT hT hm => ?_⟩
 have ho := ho.frm kT (fun y hy h => hT y h hy)
 exact ⟨⟨ho.rd, hx w'' hm⟩, hm.s, ho.le, hm.sc, hl, hm.sn, hm.sq⟩
theorem qQj {q : Tx} {l : List Nc} {x : Nc} (h : goP q x.nm) : goC q (l ++ [x]) = goC q l ++ [x] ∧ stC q (l ++ [x]) = stC q l := by
 unfold goC stC
 simp [zbv, h]
theorem qQk {q : Tx} {l : List Nc} {x : Nc} (h : ¬ goP q x.nm) : goC q (l ++ [x]) = goC q l ∧ stC q (l ++ [x]) = stC q l ++ [x] := by
 unfold goC stC
 simp [zbv, h]
theorem qZh {w : World} {x : Nc} (q t : Tx) (h : x.At w) : (eV q t x).At w := ⟨h.rd, h.n, by
 show (okD (cH x.nm q t)).length ≤ _
 cases e : cH x.nm q t with
 | error k => simp [okD]
 | ok s => have := rS e; show s.length ≤ _; omega⟩
set_option maxHeartbeats 2000000 in
theorem mU (m : MlC) (q t : Tx) (w : World) (hm : RdL w m) (hq : q.length ≤ 400000) (ht : t.length ≤ 400000) (hr : bK m.p.l) (h24 : m.l.length ≤ 24) (h0 : 1 ≤ m.v) (h1 : m.v ≤ 2147483647) (hL : (∀ x ∈ goF q m.p.l, eH (stF q m.p.l) q t x) → cV m.p (qO (stF q m.p.l) (upN t)).length (qO (stF q m.p.l) (upN t)).length = 0 → oZ m.p q t) (hv : cZ w) :
  Calls Tryz.prog 63 #[m.val, encStr q, encStr t] w fun e w' => ∃ (m' : MlC) (k : Nat), e = .returned (.tuple #[m'.val, .int .i64 ((k : Nat) : Int)]) ∧ bI w w' m (dM m.p q t) m' k ∧ Frm [] w w' := by
 have hln := hm.ln
 have hpl := cA m
 have hdl : (goC q m.l).length + (stC q m.l).length ≤ m.l.length := nH _ _ (fun x h => by simp only [decide_eq_true_eq] at h; simp [h]) m.l
 have hgm : ∀ y ∈ goC q m.l, y ∈ m.l := fun y hy => (List.mem_filter.1 hy).1
 have hsm : ∀ y ∈ stC q m.l, y ∈ m.l := fun y hy => (List.mem_filter.1 hy).1
 have hgF : Ns (goC q m.l) = goF q m.p.l := qZ0 q m.l
 have hsF : Ns (stC q m.l) = stF q m.p.l := qZ1 q m.l
 have hsr : bK (stF q m.p.l) := hr.sublist (zcj.map _)
 have hul : (upN t).length ≤ t.length := by
  by_cases h : t = []
  · subst h; decide
  have := eQ h; omega
 refine VC.calls (nt := 119) (res := #[.cell 6 25, .tmp 7]) Tryz.func63 rfl Tryz.ntmps63 Tryz.results63 rfl ?_
 refine jS (jR ?_)
 refine Ops.m (qH.box rfl) rfl ?_
 rintro _ w1 ⟨rfl, hF_w1⟩
 have hb1 : Blk w1 w.heap.size 25 #[.slice m.A m.l.length m.c, .slice m.S m.ss.length m.d, .int .i64 m.v, .int .i64 m.b] := hF_w1.blk
 have K := hF_w1.frm
 generalize hg1 : w.heap.size = g1 at hb1 ⊢
 refine Ops.m (qH.alloc bQ) rfl ?_
 rintro _ w2 ⟨rfl, hF2⟩
 have hb4 := hF2.blk
 have hg4 : w.heap.size ≤ w1.heap.size := K.size
 have hb1 := hb1.frm hF2.frm jp
 have hl1 := hb1.lt
 have hl4 := hb4.lt
 have K := K.trans hF2.frm jp
 have hne14 : g1 ≠ w1.heap.size := by have := hF_w1.size; omega
 have hg1s : w.heap.size ≤ g1 := jo
 generalize hg4' : w1.heap.size = g4 at hb4 hg4 hne14 hl4 ⊢
 refine jz 0 (jO (jN (jv4 1 2 3 6 ?_)))
 refine jS (jR (ja rfl (ja rfl (jO (jN (jS (jS (jR (jf rfl zg rfl zab (jl rfl zan (hb1.cell 0) (je (Run.lenS rfl zf) ?_)))))))))))
 refine jx .i64 0 ?_
 refine jO (jN (jv9 1 2 3 6 8 9 24 25 26 ?_))
 refine jB ?_
 refine VC.loop (σ := (Nat × Option Addr × Nat) × (Option Addr × Nat)) (fun s => [(1, encStr q), (2, encStr t), (3, .pointer (some ⟨g1, 0, none⟩)), (6, .pointer (some ⟨g4, 0, none⟩)), (8, .slice s.1.2.1 (goC q (m.l.take s.1.1)).length s.1.2.2), (9, .slice s.2.1 (stC q (m.l.take s.1.1)).length s.2.2), (24, .slice m.A m.l.length m.c), (25, .int .i64 ((m.l.length : Nat) : Int)), (26, .int .i64 ((s.1.1 : Nat) : Int))]) (fun s wr => s.1.1 ≤ m.l.length ∧ Blk wr g1 25 #[.slice m.A m.l.length m.c, .slice m.S m.ss.length m.d, .int .i64 m.v, .int .i64 m.b] ∧ Blk wr g4 25 qR.cells.toArray ∧ Own wr 45 4 s.1.2.1 (goC q (m.l.take s.1.1)).length s.1.2.2 (NDC (goC q (m.l.take s.1.1))) ∧ Own wr 45 4 s.2.1 (stC q (m.l.take s.1.1)).length s.2.2 (NDC (stC q (m.l.take s.1.1))) ∧ (∀ b ∈ ob s.1.2.1, w.heap.size ≤ b) ∧ (∀ b ∈ ob s.2.1, w.heap.size ≤ b) ∧ (∀ b ∈ ob s.1.2.1, b ∉ ob s.2.1) ∧ Frm [] w wr) (fun s => m.l.length - s.1.1) ((0, none, 0), (none, 0)) (js9 rfl rfl rfl rfl rfl rfl rfl rfl rfl) ⟨zah _, hb1, hb4, Own.nil _ _ _, Own.nil _ _ _, by simp [ob], by simp [ob], by simp [ob], K⟩ ?_
 rintro ⟨⟨i, Ag, cg⟩, ⟨As, cs⟩⟩ wr ⟨hi, hb1, hb4, hog, hos, hgg, hgs, hdis, K⟩
 dsimp only at *
 refine jS (jR (jb rfl rfl (Bin.lssN _ _) (jO (jN (jS ?_)))))
 refine jD rfl (fun hc1 => ?_) fun hc1 => ?_
 ·
  obtain ⟨ad, hA, hel⟩ := (hm.frm K).l.elem hc1
  have hxa := (hm.frm K).l.el _ (zm hc1)
  have hts : m.l.take (i + 1) = m.l.take i ++ [m.l[i]] := by rw [zao, ze hc1]; rfl
  have hbg : (goC q (m.l.take i)).length ≤ (m.l.take i).length := zdc _ _
  have hbs : (stC q (m.l.take i)).length ≤ (m.l.take i).length := zdc _ _
  have htk : (m.l.take i).length ≤ i := zdh _ _
  generalize hx : m.l[i] = x at *
  refine jQ (jN (jv9 1 2 3 6 8 9 24 25 26 ?_))
  refine jS (jB (jS (jR (je (Run.indexS i (show _ = some (Value.slice (some ad) m.l.length m.c) by rw [← hA]; rfl) rfl zf zn hc1) (je (Run.loadA rfl zdy zn hel (by first | rfl | (simp; done))) ?_)))))
  refine Ops.m (qH.alloc cE) rfl ?_
  rintro _ w3 ⟨rfl, hF3⟩
  refine Ops.st (qW.storeA rfl rfl zn hF3.blk rfl x.cells_one) ?_
  rintro w4 ⟨hb11, hf4, hs4⟩
  have hb11 : Blk w4 wr.heap.size 45 x.cells.toArray := hb11
  have K3 : Frm [] wr w4 := hF3.frm.trans hf4 jp
  have hb1 := hb1.frm K3 jp
  have hb4 := hb4.frm K3 jp
  have hog := hog.frm K3 jp
  have hos := hos.frm K3 jp
  have hKs_K3 := K.size
  have K := K.trans K3 jp
  have hxa := hxa.frm K3
  generalize hg11 : wr.heap.size = g11 at hb11 hKs_K3 ⊢
  refine jO (jN (jv10 1 2 3 6 8 9 11 24 25 26 ?_))
  refine jS ?_
  refine VC.meet (σ := Unit) (fun s => [(1, encStr q), (2, encStr t), (3, .pointer (some ⟨g1, 0, none⟩)), (6, .pointer (some ⟨g4, 0, none⟩)), (8, .slice Ag (goC q (m.l.take i)).length cg), (9, .slice As (stC q (m.l.take i)).length cs), (11, .pointer (some ⟨g11, 0, none⟩)), (24, .slice m.A m.l.length m.c), (25, .int .i64 ((m.l.length : Nat) : Int)), (26, .int .i64 ((i : Nat) : Int)), (40, .bool (decide (goP q x.nm)))]) (fun s wz => Frm [] w4 wz) ?_ ?_
  ·
   refine VC.held (fun W => Frm [] w4 W) jK ?_
   have hS : Frm [] w4 w4.drew := (Frm.refl _ _).drew
   refine jH 0 rfl hS (fun w0 hw0 => Run.mv rfl) ?_
   refine jH 2 rfl hS (fun w0 hw0 => Run.fieldAddr rfl zae rfl zx jd) ?_
   refine jH 3 rfl hS (fun w0 hw0 => Run.load rfl zac ((hb11.frm hw0 jp).cell 0)) ?_
   refine qQ.cl 1 rfl jK (jE1 zbx) (bS q _ jo (hv.frm (K.trans hS jp))) trivial rfl rfl ?_
   rintro e wA ⟨rfl, hfA⟩
   have hSA := hS.trans hfA jp
   refine ⟨_, rfl, hSA, ?_⟩
   have hS := hSA
   refine jH 4 rfl hS (fun w0 hw0 => Run.eqlT rfl rfl) ?_
   refine jH 5 rfl hS (fun w0 hw0 => Run.mv rfl) ?_
   by_cases hs35 : qJ q = x.nm
   ·
    refine qQ.skip 6 rfl jK jK jK hS rfl rfl (decide_eq_true hs35) rfl rfl ?_
    refine qQ.skip 7 rfl jK jK jK hS rfl rfl (decide_eq_true hs35) rfl rfl ?_
    refine qQ.skip 8 rfl jK jK jK hS rfl rfl (decide_eq_true hs35) rfl rfl ?_
    refine qQ.skip 9 rfl jK jK jK hS rfl rfl (decide_eq_true hs35) rfl rfl ?_
    refine jH 10 rfl hS (fun w0 hw0 => Run.pickT rfl rfl (decide_eq_true hs35)) ?_
    refine qQ.done jK ?_
    refine jN ⟨(), (js11 rfl rfl rfl rfl rfl rfl rfl rfl rfl rfl (by rw [show decide (goP q x.nm) = true from decide_eq_true (.inl hs35)]; rfl)), ?_⟩
    exact hS
   refine qQ.take 6 rfl jK jK jK hS (fun w0 hw0 => Run.fieldAddr rfl zae rfl zx jd) (Up.g rfl ((decide_eq_false hs35))) rfl rfl ?_
   refine qQ.take 7 rfl jK jK jK hS (fun w0 hw0 => Run.load rfl zac ((hb11.frm hw0 jp).cell 0)) (Up.g rfl ((decide_eq_false hs35))) rfl rfl ?_
   refine qQ.take 8 rfl jK jK jK hS (fun w0 hw0 => Run.mv rfl) (Up.g rfl ((decide_eq_false hs35))) rfl rfl ?_
   refine qQ.cl 9 rfl jK (jE2 Tryz.call57) (eY x.nm q _ hxa.q jo (hv.frm (K.trans hS jp))) (Up.g rfl ((decide_eq_false hs35))) rfl rfl ?_
   rintro e wB ⟨rfl, hfB⟩
   have hSB := hS.trans hfB jp
   refine ⟨_, rfl, hSB, ?_⟩
   have hS := hSB
   refine jH 10 rfl hS (fun w0 hw0 => Run.pickF rfl rfl (decide_eq_false hs35)) ?_
   refine qQ.done jK ?_
   refine jN ⟨(), (js11 rfl rfl rfl rfl rfl rfl rfl rfl rfl rfl (by rw [show decide (goP q x.nm) = decide (bO x.nm q) from decide_eq_decide.2 ⟨fun h => h.resolve_left hs35, .inr⟩]; rfl)), ?_⟩
   exact hS
  rintro _ wz hfz Γ hΓ
  have hb1 := hb1.frm hfz jp
  have hb4 := hb4.frm hfz jp
  have hb11 := hb11.frm hfz jp
  have hog := hog.frm hfz jp
  have hos := hos.frm hfz jp
  have hKs_hfz := K.size
  have K := K.trans hfz jp
  refine jN (VC.sub _ hΓ ?_)
  refine VC.condB rfl (fun hc2 => ?_) (fun hc2 => ?_)
  ·
   have hc2 : goP q x.nm := of_decide_eq_true hc2
   refine jR (jm rfl (je (Run.loadA rfl zdy zn hb11.cells (by first | rfl | (simp; done))) ?_))
   refine Ops.m (qH.buildS1 rfl zf zn cE jd jd rfl rfl) rfl ?_
   rintro _ w5 ⟨rfl, hF5⟩
   have hr5 : Rd w5 4 (some ⟨wz.heap.size, 0, none⟩) 1 (NDC [x]) := vQ hF5
   have hF5f := hF5.frm
   have hb1 := hb1.frm hF5f jp
   have hb4 := hb4.frm hF5f jp
   have hog := hog.frm hF5f jp
   have hos := hos.frm hF5f jp
   have hKs_hF5f := K.size
   have K := K.trans hF5f jp
   refine Ops.m (qH.app rfl rfl zf (hY) rfl jd hog hr5 (fY _) jo jo) rfl ?_
   rintro _ w6 ⟨B6, c6, rfl, ho6, hf6, hob6⟩
   rw [← cM] at ho6
   obtain ⟨hg1', hg2'⟩ := qQj (l := m.l.take i) hc2
   rw [← hts] at hg1' hg2'
   have hgl : (goC q (m.l.take (i + 1))).length = (goC q (m.l.take i)).length + 1 := by rw [hg1', zl]; rfl
   have hb1 := hb1.frm hf6 (hog.ne_blk hb1 jd)
   have hb4 := hb4.frm hf6 (hog.ne_blk hb4 jd)
   have hol := hos.lt
   have hos := hos.frm hf6 (fun y hy h => hdis y h hy)
   have hKs5 := K.size
   have K := K.own hf6 hgg
   have hgg6 : ∀ b ∈ ob B6, w.heap.size ≤ b := fun b hb => by
    rcases hob6 with h | h
    · rw [h] at hb; exact hgg b hb
    rw [h, za] at hb; omega
   have hdis6 : ∀ b ∈ ob B6, b ∉ ob As := fun b hb h2 => by
    rcases hob6 with h | h
    · rw [h] at hb; exact hdis b hb h2
    rw [h, za] at hb; have := hol b h2; omega
   refine ja rfl (jO ?_)
   refine qN (jN ?_)
   refine jv9 1 2 3 6 8 9 24 25 26 ?_
   refine jR (jb rfl rfl (Bin.add_i64 _ 1 jo) (jm rfl (jO ?_)))
   refine jN ⟨((i + 1, B6, c6), (As, cs)), (js9 rfl rfl rfl rfl (by rw [hgl]; rfl) (by rw [hg2']; rfl) rfl rfl rfl), ?_, ?_⟩
   · exact ⟨hc1, hb1, hb4, by rw [hgl, hg1']; exact ho6, by rw [hg2']; exact hos, hgg6, hgs, hdis6, K⟩
   first | omega | (dsimp only; omega)
  have hc2 : ¬ goP q x.nm := of_decide_eq_false hc2
  refine jR (jm rfl (je (Run.loadA rfl zdy zn hb11.cells (by first | rfl | (simp; done))) ?_))
  refine Ops.m (qH.buildS1 rfl zf zn cE jd jd rfl rfl) rfl ?_
  rintro _ w5 ⟨rfl, hF5⟩
  have hr5 : Rd w5 4 (some ⟨wz.heap.size, 0, none⟩) 1 (NDC [x]) := vQ hF5
  have hF5f := hF5.frm
  have hb1 := hb1.frm hF5f jp
  have hb4 := hb4.frm hF5f jp
  have hog := hog.frm hF5f jp
  have hos := hos.frm hF5f jp
  have hKs_hF5f := K.size
  have K := K.trans hF5f jp
  refine Ops.m (qH.app rfl rfl zf (hY) rfl jd hos hr5 (fY _) jo jo) rfl ?_
  rintro _ w6 ⟨B6, c6, rfl, ho6, hf6, hob6⟩
  rw [← cM] at ho6
  obtain ⟨hg1', hg2'⟩ := qQk (l := m.l.take i) hc2
  rw [← hts] at hg1' hg2'
  have hgl : (stC q (m.l.take (i + 1))).length = (stC q (m.l.take i)).length + 1 := by rw [hg2', zl]; rfl
  have hb1 := hb1.frm hf6 (hos.ne_blk hb1 jd)
  have hb4 := hb4.frm hf6 (hos.ne_blk hb4 jd)
  have hol := hog.lt
  have hog := hog.frm hf6 (fun y hy h => hdis y hy h)
  have hKs5 := K.size
  have K := K.own hf6 hgs
  have hgs6 : ∀ b ∈ ob B6, w.heap.size ≤ b := fun b hb => by
   rcases hob6 with h | h
   · rw [h] at hb; exact hgs b hb
   rw [h, za] at hb; omega
  have hdis6 : ∀ b ∈ ob Ag, b ∉ ob B6 := fun b hb h2 => by
   rcases hob6 with h | h
   · rw [h] at h2; exact hdis b hb h2
   rw [h, za] at h2; have := hol b hb; omega
  refine ja rfl (jO ?_)
  refine qN (jN ?_)
  refine jv9 1 2 3 6 8 9 24 25 26 ?_
  refine jR (jb rfl rfl (Bin.add_i64 _ 1 jo) (jm rfl (jO ?_)))
  refine jN ⟨((i + 1, Ag, cg), (B6, c6)), (js9 rfl rfl rfl rfl (by rw [hg1']; rfl) (by rw [hgl]; rfl) rfl rfl rfl), ?_, ?_⟩
  · exact ⟨hc1, hb1, hb4, by rw [hg1']; exact hog, by rw [hgl, hg2']; exact ho6, hgg, hgs6, hdis6, K⟩
  first | omega | (dsimp only; omega)
 obtain rfl : i = m.l.length := jo
 rw [zaw] at hog hos ⊢
 generalize hgd : goC q m.l = gs at *
 generalize hsd : stC q m.l = ss at *
 refine jX ?_
 refine qK (qK (qS ?_))
 refine jN (jv6 1 2 3 6 8 9 ?_)
 refine jS (jR (je (Run.loadA rfl zi zb hb1.cells (by first | rfl | (simp; done))) ?_))
 refine Ops.m (qH.alloc bQ) rfl ?_
 rintro _ w7 ⟨rfl, hF7⟩
 refine Ops.st (qW.storeA rfl rfl zb hF7.blk rfl (MlC.cells_one m)) ?_
 rintro w8 ⟨hb12, hf8, hs8⟩
 have hb12 : Blk w8 wr.heap.size 25 #[.slice m.A m.l.length m.c, .slice m.S m.ss.length m.d, .int .i64 m.v, .int .i64 m.b] := hb12
 have K8 : Frm [] wr w8 := hF7.frm.trans hf8 jp
 have hl1w := hb1.lt
 have hl4w := hb4.lt
 have hb1 := hb1.frm K8 jp
 have hb4 := hb4.frm K8 jp
 have hog := hog.frm K8 jp
 have hos := hos.frm K8 jp
 have hKs_K8 := K.size
 have K := K.trans K8 jp
 generalize hg12 : wr.heap.size = g12 at hb12 hKs_K8 hl1w hl4w ⊢
 refine jO (jN (jv7 1 2 3 6 8 9 12 ?_))
 refine jS (jR (jm rfl (jf rfl zg rfl zab ?_)))
 refine Ops.st (qW.store rfl rfl zab hb12 rfl rfl) ?_
 have hb12x := hb12
 rintro w9 ⟨hb12, (hf9 : Frm [g12] _ _), hs9⟩
 have hb12 : Blk w9 g12 25 (m.wl As cs ss).cells.toArray := hb12
 have hb1 := hb1.frm hf9 (by simp; omega)
 have hb4 := hb4.frm hf9 (by simp; omega)
 have hog := hog.frm hf9 (fun y hy h => by rw [za] at h; rw [h] at hy; exact hog.ne_blk hb12x jd hy)
 have hos := hos.frm hf9 (fun y hy h => by rw [za] at h; rw [h] at hy; exact hos.ne_blk hb12x jd hy)
 have K := K.own hf9 (fun y hy => by rw [za] at hy; omega)
 refine jO (jN (jv7 1 2 3 6 8 9 12 ?_))
 refine jS (jS (jR (jm rfl (je (Run.lenS rfl zf) ?_))))
 refine jx .i64 0 ?_
 refine jO (jN (jB ?_))
 refine VC.loop (σ := Nat) (fun s => [(1, encStr q), (2, encStr t), (3, .pointer (some ⟨g1, 0, none⟩)), (6, .pointer (some ⟨g4, 0, none⟩)), (8, .slice Ag gs.length cg), (9, .slice As ss.length cs), (12, .pointer (some ⟨g12, 0, none⟩)), (53, .slice Ag gs.length cg), (54, .int .i64 ((gs.length : Nat) : Int)), (55, .int .i64 ((s : Nat) : Int))]) (fun s wr => s ≤ gs.length ∧ Blk wr g1 25 #[.slice m.A m.l.length m.c, .slice m.S m.ss.length m.d, .int .i64 m.v, .int .i64 m.b] ∧ Blk wr g4 25 qR.cells.toArray ∧ Blk wr g12 25 (m.wl As cs ss).cells.toArray ∧ Own wr 45 4 Ag gs.length cg (NDC (eN q t gs s)) ∧ Own wr 45 4 As ss.length cs (NDC ss) ∧ (∀ j (h : j < gs.length), j < s → eH (Ns ss) q t (gs[j]).p) ∧ Frm [] w wr) (fun s => gs.length - s) 0 (js10 rfl rfl rfl rfl rfl rfl rfl rfl rfl rfl) ⟨zah _, hb1, hb4, hb12, hog, hos, fun _ _ h => jo, K⟩ ?_
 rintro k wr ⟨hk, hb1, hb4, hb12, hog, hos, hok, K⟩
 refine jS (jR (jb rfl rfl (Bin.lssN _ _) (jO (jN (jS ?_)))))
 refine jD rfl (fun hc3 => ?_) fun hc3 => ?_
 ·
  obtain ⟨gg, rfl⟩ : ∃ g, Ag = some ⟨g, 0, none⟩ := by
   rcases hog.cases with ⟨_, h0, _⟩ | ⟨g, _, h0, _⟩
   · omega
   exact ⟨g, h0⟩
  have hcl := qQg q t gs k hk
  have hkc : k < (eN q t gs k).length := jo
  have hcat := qXy q t gs k hc3 hkc
  have hsetn := fun s => qQf (eN q t gs k) k hkc s
  rw [hcat] at hsetn
  have hnext := yQ q t gs k hc3
  have hmem := hgm gs[k] (zm hc3)
  have hxa := (hm.frm K).l.el _ hmem
  have hcell : ∀ j v, (gs[k]).cells[j]? = some v → wr.cell? (((⟨gg, 0, none⟩ : Addr).add (k * 4)).add j) = some v := fun j v hj => nN hog hc3 (by rw [xR hkc, hcat]; exact hj)
  obtain ⟨x, hx⟩ : ∃ x, x = gs[k] := ⟨_, rfl⟩
  rw [← hx] at hsetn hnext hmem hxa hcell
  refine jQ (jN (jv10 1 2 3 6 8 9 12 53 54 55 ?_))
  refine jS (jB (jS (jR (jm rfl (je (Run.indexS k rfl rfl zf zn hc3) (je (Run.loadA rfl zdy zn hcell (by first | rfl | (simp; done))) ?_))))))
  refine Ops.m (qH.alloc cE) rfl ?_
  rintro _ wa ⟨rfl, hFa⟩
  refine jA ?_
  refine Ops.st (qW.storeA rfl rfl zn hFa.blk rfl x.cells_one) ?_
  rintro wb ⟨hb14, hfb, hsb⟩
  have hb14 : Blk wb wr.heap.size 45 x.cells.toArray := hb14
  have Kb : Frm [] wr wb := hFa.frm.trans hfb jp
  have hb1 := hb1.frm Kb jp
  have hb4 := hb4.frm Kb jp
  have hb12 := hb12.frm Kb jp
  have hog := hog.frm Kb jp
  have hos := hos.frm Kb jp
  have hKs_Kb := K.size
  have K := K.trans Kb jp
  generalize hg14 : wr.heap.size = g14 at hb14 hKs_Kb ⊢
  refine jO (jN (jv12 1 2 3 6 8 9 12 13 14 53 54 55 ?_))
  refine jS (jR (jf rfl zae rfl zx (jl rfl zac (hb14.cell 0) (jm rfl (jM ?_)))))
  refine Ops.cl (jE3 Tryz.call112) (vJ x.nm q t _ hxa.q jo jo (hv.frm K)) rfl ?_
  rintro e wc ⟨r, ke, rfl, hfc, hmv⟩
  refine ⟨_, rfl, ?_⟩
  have hb1 := hb1.frm hfc jp
  have hb4 := hb4.frm hfc jp
  have hb12 := hb12.frm hfc jp
  have hog := hog.frm hfc jp
  have hos := hos.frm hfc jp
  have hKs_hfc := K.size
  have K := K.trans hfc jp
  refine jm rfl (je (Run.extract rfl rfl) (je (Run.extract rfl rfl) (ja rfl (ja rfl (jO (jN (jv13 1 2 3 6 8 9 12 13 15 16 53 54 55 ?_)))))))
  refine jS (jS (jR (jm rfl (jb rfl rfl (Bin.neqN _ 0) (jO (jN (jv14 1 2 3 6 8 9 12 13 15 16 53 54 55 69 ?_)))))))
  refine jD rfl (fun hc4 => ?_) fun hc4 => ?_
  ·
   have hbad := qQe (k := k) (stay := Ns ss) (l := Ns gs) (f := q) (t := t) (e := ke) (by rw [bD]; exact hc3) (fun j hj hjk => by rw [show (Ns gs)[j] = (gs[j]'(by rw [bD] at hj; exact hj)).p from zbo _]; exact hok j _ hjk) (by rw [show (Ns gs)[k]'(by rw [bD]; exact hc3) = (gs[k]).p from zbo _, ← hx]; exact (hmv.resolve_left (fun h => hc4 h.1)).2.1)
   refine jS (jR (je (Run.build evs.nil bQ (qB).choose_spec.1 (qB).choose_spec.2 rfl) (jM ?_)))
   refine Ops.st (qW.storeA rfl rfl zb hb4 rfl (MlC.cells_one qR)) ?_
   rintro wd ⟨hb4, (hfwd : Frm [g4] _ _), hswd⟩
   have hb4 : Blk wd g4 25 qR.cells.toArray := hb4
   have K := K.own hfwd (fun y hy => by rw [za] at hy; omega)
   refine ja rfl (jO (jN (jv2 6 7 ?_)))
   refine jT ?_
   refine qZ (qP (qZ (qZ (qP (qZ (bM ?_))))))
   refine qC rfl zi zb (hb4.cells) (by first | rfl | (simp; done)) ?_
   refine qL rfl ?_
   refine qI ?_
   refine ⟨qR, ke, rfl, bI.err hc4 ?_, K⟩
   unfold dM
   rw [← hgF, ← hsF, hbad]
  have hmv : cH x.nm q t = .ok r := (hmv.resolve_right (fun h => h.1 jo)).2
  have hrl := rS hmv
  refine jQ (jN (jv12 1 2 3 6 8 9 12 13 15 53 54 55 ?_))
  refine jS (jS (jR (jm rfl (je (Run.build (evs.cons rfl evs.nil) bQ (qB).choose_spec.1 (qB).choose_spec.2 rfl) (jM ?_)))))
  refine Ops.cl (jE2 zcz) (cQ ⟨As, cs, ss, none, 0, [], 0, 0⟩ r _ ⟨hos.rd, fun y hy => (hm.frm K).l.el y (hsm y hy)⟩ (by show ss.length ≤ _; omega) jo (by show bK (Ns ss); rw [hsF]; exact hsr) (hv.frm K)) rfl ?_
  rintro e wd ⟨kk, rfl, hpos, hfd⟩
  refine ⟨_, rfl, ?_⟩
  have hb1 := hb1.frm hfd jp
  have hb4 := hb4.frm hfd jp
  have hb12 := hb12.frm hfd jp
  have hog := hog.frm hfd jp
  have hos := hos.frm hfd jp
  have hKs_hfd := K.size
  have K := K.trans hfd jp
  refine jm rfl (je (Run.extract rfl rfl) (je (Run.extract rfl rfl) (ja rfl (ja rfl (jO (jN (jv13 1 2 3 6 8 9 12 13 15 18 53 54 55 ?_)))))))
  refine jS (jR (jm rfl (jO (jN (jv13 1 2 3 6 8 9 12 13 15 53 54 55 79 ?_)))))
  refine VC.condB rfl (fun hc5 => ?_) (fun hc5 => ?_)
  ·
   have hc5 : qJ r ∈ (Ns ss).map Prod.fst := of_decide_eq_true hc5
   have hbad := vS (k := k) (stay := Ns ss) (l := Ns gs) (f := q) (t := t) (s := r) (by rw [bD]; exact hc3) (fun j hj hjk => by rw [show (Ns gs)[j] = (gs[j]'(by rw [bD] at hj; exact hj)).p from zbo _]; exact hok j _ hjk) (by rw [show (Ns gs)[k]'(by rw [bD]; exact hc3) = (gs[k]).p from zbo _, ← hx]; exact hmv) hc5
   refine jS (jR (je (Run.build evs.nil bQ (qB).choose_spec.1 (qB).choose_spec.2 rfl) ?_))
   refine Ops.st (qW.storeA rfl rfl zb hb4 rfl (MlC.cells_one qR)) ?_
   rintro we ⟨hb4, (hfwe : Frm [g4] _ _), hswe⟩
   have hb4 : Blk we g4 25 qR.cells.toArray := hb4
   have K := K.own hfwe (fun y hy => by rw [za] at hy; omega)
   refine jz 15 (jO (jN (jv2 6 7 ?_)))
   refine jT ?_
   refine qZ (qP (qZ (qZ (qP (qZ (bM ?_))))))
   refine qC rfl zi zb (hb4.cells) (by first | rfl | (simp; done)) ?_
   refine qL rfl ?_
   refine qI ?_
   refine ⟨qR, 15, rfl, bI.err jd ?_, K⟩
   unfold dM
   rw [← hgF, ← hsF, hbad]
  have hc5 : qJ r ∉ (Ns ss).map Prod.fst := of_decide_eq_false hc5
  refine jQ (jN (jv12 1 2 3 6 8 9 12 13 15 53 54 55 ?_))
  refine jR (jm rfl (jm rfl (jm rfl (je (Run.indexS k rfl rfl zf zn hc3) (jf rfl zae rfl zx ?_)))))
  refine Ops.st (qW.storeOwn (k * 4 + 0) (by rw [← Go.Proofs.YtgmbmfpfhcekiaaGreat.add_add]; rfl) rfl zx hog rfl jo rfl) ?_
  rintro we ⟨hoe, (hfe : Frm [gg] _ _), hse⟩
  have hoe : Own we 45 4 (some ⟨gg, 0, none⟩) gs.length cg (NDC (eN q t gs (k + 1))) := by
   rw [← hnext r hmv, ← hsetn r]
   exact hoe
  have hb1 := hb1.frm hfe (hog.ne_blk hb1 jd)
  have hb4 := hb4.frm hfe (hog.ne_blk hb4 jd)
  have hb12 := hb12.frm hfe (hog.ne_blk hb12 jd)
  have hos := hos.frm hfe (fun y hy h => hdis y (by simpa [ob] using h) hy)
  have K := K.own hfe (fun y hy => hgg y (by simpa [ob] using hy))
  refine jO ?_
  refine qN (jN ?_)
  refine jv10 1 2 3 6 8 9 12 53 54 55 ?_
  refine jR (jb rfl rfl (Bin.add_i64 _ 1 jo) (jm rfl (jO ?_)))
  refine jN ⟨(k + 1), (js10 rfl rfl rfl rfl rfl rfl rfl rfl rfl rfl), ?_, ?_⟩
  ·
   refine ⟨hc3, hb1, hb4, hb12, hoe, hos, fun j hj hjk => ?_, K⟩
   by_cases e : j = k
   ·
    subst e
    exact ⟨r, by rw [← hx]; exact hmv, hc5⟩
   exact hok j hj jo
  first | omega | (dsimp only; omega)
 obtain rfl : k = gs.length := jo
 rw [qQh] at hog
 refine jX ?_
 refine qK (qK (qS ?_))
 refine jN (jv5 2 3 6 8 12 ?_)
 refine jS ?_
 refine VC.held (fun W => Frm [] wr W) jK ?_
 have hS : Frm [] wr wr.drew := (Frm.refl _ _).drew
 refine jH 0 rfl hS (fun w0 hw0 => Run.loadA rfl zi zb (fun j v hj => (hb12.frm hw0 jp).cells j v hj) (by first | rfl | (simp; done))) ?_
 refine jH 1 rfl hS (fun w0 hw0 => Run.mv rfl) ?_
 refine qQ.cl 2 rfl jK (jE1 Tryz.call104) (kN t _ jo (hv.frm (K.trans hS jp))) trivial rfl rfl ?_
 rintro e wf ⟨rfl, hff⟩
 have hSf := hS.trans hff jp
 refine ⟨_, rfl, hSf, ?_⟩
 have hS := hSf
 have hkm : bA w wr (ob As) m (m.wl As cs ss) := qQi hos hgs jo (fun w'' h y hy => h.l.el y (hsm y hy))
 have hmoS := (hkm.frm hS jp).now (hm.frm (K.trans hS jp))
 have hrS : bK (m.wl As cs ss).p.l := by show bK (Ns ss); rw [hsF]; exact hsr
 refine qQ.cl 3 rfl jK (jE2 Tryz.call47) (eG (m.wl As cs ss) (upN t) _ hmoS jo hrS (hv.frm (K.trans hS jp))) trivial rfl rfl ?_
 rintro e wg ⟨B, d, rfl, hob, hobb, hfg⟩
 have hSg := hS.trans hfg jp
 refine ⟨_, rfl, hSg, ?_⟩
 have hS := hSg
 have hb1 := hb1.frm hS jp
 have hb4 := hb4.frm hS jp
 have hb12 := hb12.frm hS jp
 have hog := hog.frm hS jp
 have hos := hos.frm hS jp
 have hkm := hkm.frm hS jp
 have hKs := K.size
 have K := K.trans hS jp
 have hnm := nM (m.wl As cs ss).p.l (upN t)
 have hmF : (m.wl As cs ss).p = { m.p with l := stF q m.p.l } := by show MailP.mk (Ns ss) _ _ _ = _; rw [hsF]; rfl
 generalize hnn : qO (m.wl As cs ss).p.l (upN t) = ms at *
 refine jH 4 rfl hS (fun w0 hw0 => Run.asg rfl) ?_
 refine qQ.done jK ?_
 refine jN (jv6 2 3 6 8 12 19 ?_)
 refine jS (jS (jR (je (Run.loadA rfl zi zb hb1.cells (by first | rfl | (simp; done))) (jm rfl (je (Run.lenS rfl zj) (jm rfl (je (Run.lenS rfl zj) ?_)))))))
 refine Ops.cl (jE3 Tryz.call48) (kR m ms.length ms.length _ hln jo jo jo jo) rfl ?_
 rintro e wh ⟨rfl, hfh⟩
 refine ⟨_, rfl, ?_⟩
 have hb1 := hb1.frm hfh jp
 have hb4 := hb4.frm hfh jp
 have hb12 := hb12.frm hfh jp
 have hog := hog.frm hfh jp
 have hos := hos.frm hfh jp
 have hKs_hfh := K.size
 have K := K.trans hfh jp
 have hkm := hkm.frm hfh jp
 have hro : qO (stF q m.p.l) (upN t) = ms := by rw [← hnn, hmF]
 refine ja rfl (jO (jN (jv5 2 6 8 12 20 ?_)))
 refine jS (jR (jm rfl (jb rfl rfl (Bin.neqN _ 0) (jO (jN (jv6 2 6 8 12 20 98 ?_))))))
 refine jD rfl (fun hc6 => ?_) fun hc6 => ?_
 ·
  refine jS (jR (je (Run.build evs.nil bQ (qB).choose_spec.1 (qB).choose_spec.2 rfl) (jM ?_)))
  refine Ops.st (qW.storeA rfl rfl zb hb4 rfl (MlC.cells_one qR)) ?_
  rintro wi ⟨hb4, (hfwi : Frm [g4] _ _), hswi⟩
  have hb4 : Blk wi g4 25 qR.cells.toArray := hb4
  have K := K.own hfwi (fun y hy => by rw [za] at hy; omega)
  refine ja rfl (jO (jN (jv2 6 7 ?_)))
  refine jT ?_
  refine qZ (bM ?_)
  refine qC rfl zi zb (hb4.cells) (by first | rfl | (simp; done)) ?_
  refine qL rfl ?_
  refine qI ?_
  refine ⟨qR, _, rfl, bI.err hc6 ?_, K⟩
  unfold dM
  rw [← hgF, ← hsF, kD (fun j hj => by rw [show (Ns gs)[j] = (gs[j]'(by rw [bD] at hj; exact hj)).p from zbo _]; exact hok j _ (by rw [bD] at hj; exact hj))]
  dsimp only
  rw [hsF, hro, if_pos hc6]
 have hc6 : cV m.p ms.length ms.length = 0 := by omega
 obtain ⟨hro1, hro2⟩ := jW hc6
 have hsl : (m.wl As cs ss).p.l.length = ss.length := bD ss
 have hfo := oX (m.wl As cs ss).p (by show bK (Ns ss); rw [hsF]; exact hsr) ms ms.length (zv _)
 rw [zaw] at hfo
 obtain ⟨wj, hwj⟩ : ∃ wj, wj = wh := ⟨_, rfl⟩
 subst hwj
 refine jQ (jN (jv4 2 6 8 12 ?_))
 refine jS ?_
 refine VC.heldL 4 (fun W => Frm [] wj W) jK ?_
 have hS : Frm [] wj wj.drew := (Frm.refl _ _).drew
 refine jH 0 rfl hS (fun w0 hw0 => Run.loadA rfl zi zb (fun j v hj => (hb12.frm hw0 jp).cells j v hj) (by first | rfl | (simp; done))) ?_
 refine qQ.r1 1 rfl jK hS (Run.mv rfl) trivial rfl rfl ?_
 refine qQ.cl 2 rfl jK (jE1 Tryz.call104) (kN t _ jo (hv.frm (K.trans hS jp))) trivial rfl rfl ?_
 rintro e wk ⟨rfl, hfk⟩
 have hSk := hS.trans hfk jp
 refine ⟨_, rfl, hSk, ?_⟩
 have hS := hSk
 have hmoS := (hkm.frm hS jp).now (hm.frm (K.trans hS jp))
 have hrS : bK (m.wl As cs ss).p.l := by show bK (Ns ss); rw [hsF]; exact hsr
 refine qQ.cl 3 rfl jK (jE2 Tryz.call49) (gD (m.wl As cs ss) (upN t) _ hmoS jo hrS (by rw [hnn]; show ss.length + _ ≤ _; omega) (by show 0 ≤ m.v; omega) (by rw [hnn]; exact hro2) (hv.frm (K.trans hS jp))) trivial rfl rfl ?_
 rintro e wl ⟨mq, rfl, hmq, ⟨S2, hk2⟩, hfl⟩
 have hlt12 := (hb12.frm hS jp).lt
 have hlt4 := (hb4.frm hS jp).lt
 have hkk := (hkm.frm hS jp).trans hk2 hfl (zay K.size hS.size)
 have h12S : g12 ∉ ob As ++ S2 ∧ g4 ∉ ob As ++ S2 := ⟨fun h => by rcases List.mem_append.1 h with h | h; exact hos.ne_blk hb12 jd h; have := hk2.1 _ h; omega, fun h => by rcases List.mem_append.1 h with h | h; exact hos.ne_blk hb4 jd h; have := hk2.1 _ h; omega⟩
 have hSl := hS.trans hfl jp
 refine ⟨_, rfl, hSl, ?_⟩
 have hS := hSl
 refine qQ.stL rfl jK (qW.storeA rfl rfl zb (hb12.frm hS jp) rfl (MlC.cells_one mq)) trivial rfl ?_
 rintro wm ⟨hb12m, (hfm : Frm [g12] _ _), hsm'⟩
 have hb12m : Blk wm g12 25 mq.cells.toArray := hb12m
 have hne412 : g4 ≠ g12 := by omega
 have hb4 := (hb4.frm hS jp).frm hfm (by simpa using hne412)
 have hogS := hog.frm hS jp
 have hog := hogS.frm hfm (fun y hy h => by rw [za] at h; rw [h] at hy; exact hogS.ne_blk (hb12.frm hS jp) jd hy)
 have hkk := hkk.frm hfm (fun y hy h => by rw [za] at hy; rw [hy] at h; exact h12S.1 h)
 have K := (K.trans hS jp).own hfm (fun y hy => by rw [za] at hy; omega)
 have hmql : mq.l.length ≤ ss.length + ms.length := by
  have := hfo.2.2.1
  have e2 : mq.p = ms.foldl bU (m.wl As cs ss).p := by rw [hmq]; unfold bX; rw [hnn]
  rw [← e2, cA mq, hsl] at this
  exact this
 have hlay : ∀ j, j ≤ gs.length → bK ((((Ns gs).map (bC q t)).take j).foldl fR (bX (m.wl As cs ss).p (upN t))).l := fun j hj => by
  have hLL := hL (fun x hx => by
   rw [← hgF] at hx
   obtain ⟨y, hy, rfl⟩ := List.mem_map.1 hx
   obtain ⟨i, hi, rfl⟩ := zu hy
   rw [← hsF]
   exact hok i hi hi) (by rw [hro]; exact hc6)
  have := hLL j (by rw [zaj, ← hgF, bD]; exact hj)
  rw [← hgF, ← hmF] at this
  exact this
 refine qQ.done jK ?_
 refine jN (jv3 6 8 12 ?_)
 refine jS (jS (jR (jm rfl (je (Run.lenS rfl zf) ?_))))
 refine jx .i64 0 ?_
 refine jO (jN (jv5 6 12 105 106 107 ?_))
 refine jB ?_
 refine VC.loop (σ := Nat × MlC) (fun s => [(6, .pointer (some ⟨g4, 0, none⟩)), (12, .pointer (some ⟨g12, 0, none⟩)), (105, .slice Ag gs.length cg), (106, .int .i64 ((gs.length : Nat) : Int)), (107, .int .i64 ((s.1 : Nat) : Int))]) (fun s wr => s.1 ≤ gs.length ∧ Blk wr g4 25 qR.cells.toArray ∧ Blk wr g12 25 s.2.cells.toArray ∧ Own wr 45 4 Ag gs.length cg (NDC (gs.map (eV q t))) ∧ (∃ S, bA w wr S m s.2 ∧ g12 ∉ S ∧ g4 ∉ S) ∧ s.2.p = (((Ns gs).map (bC q t)).take s.1).foldl fR (bX (m.wl As cs ss).p (upN t)) ∧ s.2.l.length ≤ ss.length + ms.length + s.1 ∧ Frm [] w wr) (fun s => gs.length - s.1) (0, mq) (js5 rfl rfl rfl rfl rfl) ⟨zah _, hb4, hb12m, hog, ⟨_, hkk, h12S.1, h12S.2⟩, hmq, by dsimp only; omega, K⟩ ?_
 rintro ⟨j, mo⟩ wr ⟨hj, hb4, hb12, hog, ⟨S, hkS, hg12S, hg4S⟩, hmo, hmol, K⟩
 dsimp only at *
 refine jS (jR (jb rfl rfl (Bin.lssN _ _) (jO (jN (jS ?_)))))
 refine jD rfl (fun hc7 => ?_) fun hc7 => ?_
 ·
  obtain ⟨gg, rfl⟩ : ∃ g, Ag = some ⟨g, 0, none⟩ := by
   rcases hog.cases with ⟨_, h0, _⟩ | ⟨g, _, h0, _⟩
   · omega
   exact ⟨g, h0⟩
  have hgl : (gs.map (eV q t)).length = gs.length := zaj _
  have hjc : j < (gs.map (eV q t)).length := by omega
  have hmem := hgm gs[j] (zm hc7)
  have hge : (gs.map (eV q t))[j] = eV q t gs[j] := zbo _
  have hya : ∀ w'', RdL w'' m → (eV q t gs[j]).At w'' := fun w'' h => qZh q t (h.l.el _ hmem)
  have hcell : ∀ i v, (eV q t gs[j]).cells[i]? = some v → wr.cell? (((⟨gg, 0, none⟩ : Addr).add (j * 4)).add i) = some v := fun i v hi => nN hog hc7 (by rw [xR hjc, hge]; exact hi)
  have hfs : (((Ns gs).map (bC q t)).take (j + 1)).foldl fR (bX (m.wl As cs ss).p (upN t)) = fR mo.p (eV q t gs[j]).p := by
   rw [zao, zdg, ← hmo]
   have e : ((Ns gs).map (bC q t))[j]? = some (eV q t gs[j]).p := by
    rw [zca, show (Ns gs)[j]? = some (gs[j]).p by simp [Ns, hc7]]
    rfl
   rw [e]
   rfl
  have hrj := hlay j hj
  rw [← hmo] at hrj
  have hmoR := hkS.now (hm.frm K)
  generalize hy : eV q t gs[j] = y at *
  refine jQ (jN (jv5 6 12 105 106 107 ?_))
  refine jS (jB (jS (jR (je (Run.indexS j rfl rfl zf zn hc7) (je (Run.loadA rfl zdy zn hcell (by first | rfl | (simp; done))) ?_)))))
  refine Ops.m (qH.alloc cE) rfl ?_
  rintro _ wa ⟨rfl, hFa⟩
  refine Ops.st (qW.storeA rfl rfl zn hFa.blk rfl y.cells_one) ?_
  rintro wb ⟨hb22, hfb, hsb⟩
  have hb22 : Blk wb wr.heap.size 45 #[encStr y.nm, .int .i64 y.v, .int .i64 y.n, .slice y.A y.l.length y.c] := hb22
  have Kb : Frm [] wr wb := hFa.frm.trans hfb jp
  have hb4 := hb4.frm Kb jp
  have hb12 := hb12.frm Kb jp
  have hog := hog.frm Kb jp
  have hKs_Kb := K.size
  have K := K.trans Kb jp
  have hkS := hkS.frm Kb jp
  have hyb := hya _ (hm.frm K)
  have hmoR := hkS.now (hm.frm K)
  generalize hg22 : wr.heap.size = g22 at hb22 hKs_Kb ⊢
  refine jO (jN (jv6 6 12 22 105 106 107 ?_))
  refine jR (je (Run.loadA rfl zi zb hb12.cells (by first | rfl | (simp; done))) (jf rfl zae rfl zx (jl rfl zac (hb22.cell 0) (jf rfl zae rfl zp (je (Run.loadA rfl zat zp (hb22.sub 1 (BVc y.v y.n y.A y.l.length y.c) rfl) (by first | rfl | (simp; done))) ?_)))))
  refine Ops.cl (jE3 Tryz.call113) (pQ mo y.nm y.v y.n y.A y.c y.l _ hmoR jo hyb.q hrj hyb.rd hyb.n (hv.frm K)) rfl ?_
  rintro e wc ⟨A', c', kk, rfl, hkk, hpos, hoA, hobA, hfc⟩
  have hl12 := hb12.lt
  have hl4 := hb4.lt
  have hkS2 := yZ hkS hfc K.size hkk jo hoA hobA (fun w'' h => ⟨(hya w'' h).rd, (hya w'' h).n, by show (qJ y.nm).length ≤ _; rw [bT]; exact (hya w'' h).q⟩)
  have hstep := yX (x := y) (A := A') (c := c') hpos
  have hll := mV mo.l ⟨qJ y.nm, y.v, y.n, y.A, y.c, y.l⟩ kk hkk
  have hS2n : g12 ∉ S ++ ob A' ∧ g4 ∉ S ++ ob A' := ⟨fun h => by rcases List.mem_append.1 h with h | h; exact hg12S h; have := hobA _ h; omega, fun h => by rcases List.mem_append.1 h with h | h; exact hg4S h; have := hobA _ h; omega⟩
  refine ⟨_, rfl, ?_⟩
  have hb4 := hb4.frm hfc jp
  have hb12 := hb12.frm hfc jp
  have hog := hog.frm hfc jp
  have hKs_hfc := K.size
  have K := K.trans hfc jp
  obtain ⟨mn, hmn⟩ : ∃ mn, mn = mo.wl A' c' (mo.l.take kk ++ ⟨qJ y.nm, y.v, y.n, y.A, y.c, y.l⟩ :: mo.l.drop kk) := ⟨_, rfl⟩
  have hmnl : mn.l.length = mo.l.length + 1 := by rw [hmn]; exact hll
  rw [← hmn] at hkS2 hstep ⊢
  refine Ops.st (qW.storeA rfl rfl zb hb12 rfl (MlC.cells_one mn)) ?_
  have hb12x := hb12
  rintro wd ⟨hb12, (hfd : Frm [g12] _ _), hsd⟩
  have hb12 : Blk wd g12 25 mn.cells.toArray := hb12
  have hb4 := hb4.frm hfd (by simpa using hne412)
  have hog := hog.frm hfd (fun y hy h => by rw [za] at h; rw [h] at hy; exact hog.ne_blk hb12x jd hy)
  have hkS2 := hkS2.frm hfd (fun y hy h => by rw [za] at hy; rw [hy] at h; exact hS2n.1 h)
  have K := K.own hfd (fun y hy => by rw [za] at hy; omega)
  refine jO ?_
  refine qN (jN ?_)
  refine jv5 6 12 105 106 107 ?_
  refine jR (jb rfl rfl (Bin.add_i64 _ 1 jo) (jm rfl (jO ?_)))
  refine jN ⟨(j + 1, mn), (js5 rfl rfl rfl rfl rfl), ?_, ?_⟩
  · exact ⟨hc7, hb4, hb12, hog, ⟨_, hkS2, hS2n.1, hS2n.2⟩, by rw [hfs]; exact hstep, by dsimp only; omega, K⟩
  first | omega | (dsimp only; omega)
 refine jX ?_
 refine qK (qK (qS ?_))
 refine jN (jv2 6 12 ?_)
 refine jS (jR (je (Run.loadA rfl zi zb hb12.cells (by first | rfl | (simp; done))) ?_))
 refine Ops.st (qW.storeA rfl rfl zb hb4 rfl (MlC.cells_one mo)) ?_
 rintro we ⟨hb4, (hfe : Frm [g4] _ _), hse⟩
 have hb4 : Blk we g4 25 mo.cells.toArray := hb4
 refine jz 0 (jO (jN (jv2 6 7 ?_)))
 refine jT ?_
 refine bM ?_
 refine qC rfl zi zb (hb4.cells) (by first | rfl | (simp; done)) ?_
 refine qL rfl ?_
 refine qI ?_
 obtain rfl : j = gs.length := by omega
 have hfull : ((Ns gs).map (bC q t)).take gs.length = (Ns gs).map (bC q t) := zt (by rw [zaj, bD]; exact zv _)
 rw [hfull] at hmo
 refine ⟨mo, 0, rfl, ⟨⟨S, hkS.frm hfe (fun y hy h => by rw [za] at hy; rw [hy] at h; exact hg4S h)⟩, .inl ⟨rfl, ?_⟩⟩, K.own hfe (fun y hy => by rw [za] at hy; omega)⟩
 unfold dM
 rw [← hgF, ← hsF, kD (fun j hj => by rw [show (Ns gs)[j] = (gs[j]'(by rw [bD] at hj; exact hj)).p from zbo _]; exact hok j _ (by rw [bD] at hj; exact hj))]
 dsimp only
 rw [hsF, hro, if_neg jo, hmo, hmF]
end
section
open Go.RowKit Go.Sort
set_option maxHeartbeats 1000000 in
theorem rT (m : MlC) (q t : Tx) (w : World) (hm : RdL w m) (hq : q.length ≤ 400000) (ht : t.length ≤ 400000) (hL : bZ m.p → isN q → isN t → (∀ x ∈ goF q m.p.l, eH (stF q m.p.l) q t x) → cV m.p (qO (stF q m.p.l) (upN t)).length (qO (stF q m.p.l) (upN t)).length = 0 → oZ m.p q t) (hin : qJ q ≠ qT) (E : Except Nat MailP) (hv : cZ w) :
  Calls Tryz.prog 19 #[m.val, encStr q, encStr t] w fun e w' => ∃ (m' : MlC) (k : Nat), e = .returned (.tuple #[m'.val, .int .i64 ((k : Nat) : Int)]) ∧ bI w w' m (bP m.p q t E) m' k ∧ Frm [] w w' := by
 have hln := hm.ln
 have hpl := cA m
 refine VC.calls (nt := 65) (res := #[.cell 6 25, .tmp 7]) Tryz.func19 rfl Tryz.ntmps19 Tryz.results19 rfl ?_
 refine jS (jR ?_)
 refine Ops.m (qH.box rfl) rfl ?_
 rintro _ w1 ⟨rfl, hF_w1⟩
 have hb1 : Blk w1 w.heap.size 25 #[.slice m.A m.l.length m.c, .slice m.S m.ss.length m.d, .int .i64 m.v, .int .i64 m.b] := hF_w1.blk
 have K := hF_w1.frm
 generalize hg1 : w.heap.size = g1 at hb1 ⊢
 refine Ops.m (qH.alloc bQ) rfl ?_
 rintro _ w2 ⟨rfl, hF2⟩
 have hb4 := hF2.blk
 have hg4 : w.heap.size ≤ w1.heap.size := K.size
 have hb1 := hb1.frm hF2.frm jp
 have hl1 := hb1.lt
 have hl4 := hb4.lt
 have K := K.trans hF2.frm jp
 have hne14 : g1 ≠ w1.heap.size := by have := hF_w1.size; omega
 have hg1s : w.heap.size ≤ g1 := jo
 generalize hg4' : w1.heap.size = g4 at hb4 hg4 hne14 hl4 ⊢
 refine jz 0 (jO (jN (jv4 1 2 3 6 ?_)))
 refine jS (jS (jR (je (Run.loadA rfl zi zb hb1.cells (by first | rfl | (simp; done))) ?_)))
 refine Ops.cl (jE1 zed) (dJ m _ (hm.frm K) (hv.frm K)) rfl ?_
 rintro e w3 ⟨rfl, hf3⟩
 refine ⟨_, rfl, ?_⟩
 have hb1 := hb1.frm hf3 jp
 have hb4 := hb4.frm hf3 jp
 have hKs_hf3 := K.size
 have K := K.trans hf3 jp
 refine je (Run.not rfl) (jO (jN (jv5 1 2 3 6 14 ?_)))
 refine VC.condB rfl (fun hc1 => ?_) (fun hc1 => ?_)
 ·
  have hc1 : ¬ bZ m.p := by simpa using hc1
  refine jS (jR (je (Run.build evs.nil bQ (qB).choose_spec.1 (qB).choose_spec.2 rfl) ?_))
  refine Ops.st (qW.storeA rfl rfl zb hb4 rfl (MlC.cells_one qR)) ?_
  rintro w4 ⟨hb4, (hfw4 : Frm [g4] _ _), hsw4⟩
  have hb4 : Blk w4 g4 25 qR.cells.toArray := hb4
  have K := K.own hfw4 (fun y hy => by rw [za] at hy; omega)
  refine jz 1 (jO (jN (jv2 6 7 ?_)))
  refine jT ?_
  refine qZ (bM ?_)
  refine qC rfl zi zb (hb4.cells) (by first | rfl | (simp; done)) ?_
  refine qL rfl ?_
  refine qI ?_
  exact ⟨qR, 1, rfl, bI.err jd (by unfold bP; rw [if_pos hc1]), K⟩
 have hc1 : bZ m.p := by simpa using hc1
 obtain ⟨hm24, hv1, hv2, hb0, hb2, hr, hinb⟩ := cB hc1
 refine jQ (jN (jv4 1 2 3 6 ?_))
 refine jS (jS ?_)
 refine VC.split1 [(1, _), (2, _), (3, _), (6, _)] (js4 rfl rfl rfl rfl) 23 (.bool (decide (¬ isN q ∨ ¬ isN t))) ?_ ?_
 ·
  refine jR (jM ?_)
  refine Ops.cl (jE1 zbw) (bF q _ jo (hv.frm K)) rfl ?_
  rintro e _ ⟨rfl, rfl⟩
  refine ⟨_, rfl, ?_⟩
  by_cases hs17 : isN q
  ·
   refine je (Run.not rfl) (jM ?_)
   refine jG ?_
   refine Ops.clg rfl au (jE1 zbw) (bF t _ jo (hv.frm K)) rfl ?_
   rintro e _ ⟨rfl, rfl⟩
   refine ⟨_, rfl, ?_⟩
   refine jk (Run.not rfl) ?_
   refine je (Run.pickF rfl rfl au) (jO ?_)
   refine jN ⟨(js5 (jC (by simp [*])) rfl rfl rfl rfl), rfl⟩
  refine je (Run.not rfl) (jM ?_)
  refine jU ?_
  refine jU ?_
  refine jU ?_
  refine je (Run.pickT rfl rfl au) (jO ?_)
  refine jN ⟨(js5 (jC (by simp [*])) rfl rfl rfl rfl), rfl⟩
 intro Γ hΓ
 refine jN (VC.sub _ hΓ ?_)
 refine jD rfl (fun hc2 => ?_) fun hc2 => ?_
 ·
  refine jS (jR (je (Run.build evs.nil bQ (qB).choose_spec.1 (qB).choose_spec.2 rfl) ?_))
  refine Ops.st (qW.storeA rfl rfl zb hb4 rfl (MlC.cells_one qR)) ?_
  rintro w4 ⟨hb4, (hfw4 : Frm [g4] _ _), hsw4⟩
  have hb4 : Blk w4 g4 25 qR.cells.toArray := hb4
  have K := K.own hfw4 (fun y hy => by rw [za] at hy; omega)
  refine jz 18 (jO (jN (jv2 6 7 ?_)))
  refine jT ?_
  refine qZ (bM ?_)
  refine qC rfl zi zb (hb4.cells) (by first | rfl | (simp; done)) ?_
  refine qL rfl ?_
  refine qI ?_
  exact ⟨qR, 18, rfl, bI.err jd (by unfold bP; rw [if_neg (not_not_intro hc1), if_pos hc2]), K⟩
 obtain ⟨hc2a, hc2b⟩ : isN q ∧ isN t := ⟨Classical.not_not.1 (fun h => hc2 (.inl h)), Classical.not_not.1 (fun h => hc2 (.inr h))⟩
 refine jQ (jN (jv4 1 2 3 6 ?_))
 refine jS (jR (je (Run.loadA rfl zi zb hb1.cells (by first | rfl | (simp; done))) (jM ?_)))
 refine Ops.cl (jE2 zcz) (cQ m q _ (hm.frm K).l hln jo hr (hv.frm K)) rfl ?_
 rintro e w4 ⟨kf, rfl, hpos, hf4⟩
 refine ⟨_, rfl, ?_⟩
 have hb1 := hb1.frm hf4 jp
 have hb4 := hb4.frm hf4 jp
 have hKs_hf4 := K.size
 have K := K.trans hf4 jp
 refine jm rfl (je (Run.extract rfl rfl) (je (Run.extract rfl rfl) (ja rfl (ja rfl (jO (jN (jv6 1 2 3 6 8 9 ?_)))))))
 refine jS (jR (je (Run.loadA rfl zi zb hb1.cells (by first | rfl | (simp; done))) (jM ?_)))
 refine Ops.cl (jE2 zcz) (cQ m t _ (hm.frm K).l hln jo hr (hv.frm K)) rfl ?_
 rintro e w5 ⟨kt, rfl, hpos2, hf5⟩
 refine ⟨_, rfl, ?_⟩
 have hb1 := hb1.frm hf5 jp
 have hb4 := hb4.frm hf5 jp
 have hKs_hf5 := K.size
 have K := K.trans hf5 jp
 refine jm rfl (je (Run.extract rfl rfl) (je (Run.extract rfl rfl) (ja rfl (ja rfl (jO (jN (jv7 1 2 3 6 8 9 11 ?_)))))))
 refine jS (jB (jS (jR (jm rfl (je (Run.not rfl) (ja rfl (jO (jN (jv7 1 2 3 6 8 11 37 ?_)))))))))
 refine VC.condB rfl (fun hc3 => ?_) (fun hc3 => ?_)
 ·
  have hc3 : qJ q ∉ qD m.p := by simpa using hc3
  refine jS (jR (je (Run.build evs.nil bQ (qB).choose_spec.1 (qB).choose_spec.2 rfl) ?_))
  refine Ops.st (qW.storeA rfl rfl zb hb4 rfl (MlC.cells_one qR)) ?_
  rintro w6 ⟨hb4, (hfw6 : Frm [g4] _ _), hsw6⟩
  have hb4 : Blk w6 g4 25 qR.cells.toArray := hb4
  have K := K.own hfw6 (fun y hy => by rw [za] at hy; omega)
  refine jz 6 (jO (jN (jv2 6 7 ?_)))
  refine jT ?_
  refine qP (qZ (bM ?_))
  refine qC rfl zi zb (hb4.cells) (by first | rfl | (simp; done)) ?_
  refine qL rfl ?_
  refine qI ?_
  exact ⟨qR, 6, rfl, bI.err jd (by unfold bP; rw [if_neg (not_not_intro hc1), if_neg hc2, if_pos hc3]), K⟩
 have hc3 : qJ q ∈ qD m.p := by simpa using hc3
 refine jS (jR (jm rfl (ja rfl (jO (jN (jv6 1 2 3 6 8 41 ?_))))))
 refine VC.condB rfl (fun hc4 => ?_) (fun hc4 => ?_)
 ·
  have hc4 : qJ t ∈ qD m.p := by simpa using hc4
  refine jS (jR (je (Run.build evs.nil bQ (qB).choose_spec.1 (qB).choose_spec.2 rfl) ?_))
  refine Ops.st (qW.storeA rfl rfl zb hb4 rfl (MlC.cells_one qR)) ?_
  rintro w6 ⟨hb4, (hfw6 : Frm [g4] _ _), hsw6⟩
  have hb4 : Blk w6 g4 25 qR.cells.toArray := hb4
  have K := K.own hfw6 (fun y hy => by rw [za] at hy; omega)
  refine jz 15 (jO (jN (jv2 6 7 ?_)))
  refine jT ?_
  refine qP (qZ (bM ?_))
  refine qC rfl zi zb (hb4.cells) (by first | rfl | (simp; done)) ?_
  refine qL rfl ?_
  refine qI ?_
  exact ⟨qR, 15, rfl, bI.err jd (by unfold bP; rw [if_neg (not_not_intro hc1), if_neg hc2, if_neg (not_not_intro hc3), if_pos hc4]), K⟩
 have hc4 : qJ t ∉ qD m.p := by simpa using hc4
 refine jS (jR (jM ?_))
 refine Ops.cl (jE1 zbx) (bS q _ jo (hv.frm K)) rfl ?_
 rintro e w6 ⟨rfl, hf6⟩
 refine ⟨_, rfl, ?_⟩
 have hb1 := hb1.frm hf6 jp
 have hb4 := hb4.frm hf6 jp
 have hKs_hf6 := K.size
 have K := K.trans hf6 jp
 refine je (Run.eqlT rfl rfl) (ja rfl (jO (jN (jv6 1 2 3 6 8 44 ?_))))
 refine VC.condF rfl (decide_eq_false hin) ?_
 refine jS (jR (jm rfl (jM ?_)))
 refine Ops.cl (jE2 Tryz.call57) (eY t q _ jo jo (hv.frm K)) rfl ?_
 rintro e w7 ⟨rfl, hf7⟩
 refine ⟨_, rfl, ?_⟩
 have hb1 := hb1.frm hf7 jp
 have hb4 := hb4.frm hf7 jp
 have hKs_hf7 := K.size
 have K := K.trans hf7 jp
 refine ja rfl (jO (jN (jv5 1 2 3 6 54 ?_)))
 refine VC.condB rfl (fun hc6 => ?_) (fun hc6 => ?_)
 ·
  have hc6 : bO t q := by simpa using hc6
  refine jS (jR (je (Run.build evs.nil bQ (qB).choose_spec.1 (qB).choose_spec.2 rfl) ?_))
  refine Ops.st (qW.storeA rfl rfl zb hb4 rfl (MlC.cells_one qR)) ?_
  rintro w8 ⟨hb4, (hfw8 : Frm [g4] _ _), hsw8⟩
  have hb4 : Blk w8 g4 25 qR.cells.toArray := hb4
  have K := K.own hfw8 (fun y hy => by rw [za] at hy; omega)
  refine jz 16 (jO (jN (jv2 6 7 ?_)))
  refine jT ?_
  refine qP (qZ (bM ?_))
  refine qC rfl zi zb (hb4.cells) (by first | rfl | (simp; done)) ?_
  refine qL rfl ?_
  refine qI ?_
  exact ⟨qR, 16, rfl, bI.err jd (by unfold bP; rw [if_neg (not_not_intro hc1), if_neg hc2, if_neg (not_not_intro hc3), if_neg hc4, if_neg hin, if_pos hc6]), K⟩
 have hc6 : ¬ bO t q := by simpa using hc6
 refine jQ ?_
 refine qN (jN ?_)
 refine jv4 1 2 3 6 ?_
 refine jS (jR (je (Run.loadA rfl zi zb hb1.cells (by first | rfl | (simp; done))) (jm rfl (jM ?_))))
 refine Ops.cl (jE3 Tryz.call63) (mU m q t _ (hm.frm K) hq ht hr hm24 hv1 hv2 (hL hc1 hc2a hc2b) (hv.frm K)) rfl ?_
 rintro e w8 ⟨m', k, rfl, ⟨⟨S, hkS⟩, hres⟩, hf8⟩
 have hl47 := hb4.lt
 refine ⟨_, rfl, ?_⟩
 have hb1 := hb1.frm hf8 jp
 have hb4 := hb4.frm hf8 jp
 have hKs_hf8 := K.size
 have K := K.trans hf8 jp
 refine je (Run.extract rfl rfl) (je (Run.extract rfl rfl) ?_)
 refine Ops.st (qW.storeA rfl rfl zb hb4 rfl (MlC.cells_one m')) ?_
 rintro w9 ⟨hb4, (hf9 : Frm [g4] _ _), hs9⟩
 have hb4 : Blk w9 g4 25 m'.cells.toArray := hb4
 have hkS9 := (hkS.old hKs_hf8).frm hf9 (fun y hy h => by rw [za] at hy; rw [hy] at h; have := hkS.1 _ h; omega)
 have K := K.own hf9 (fun y hy => by rw [za] at hy; omega)
 refine ja rfl (jO (jN (jv2 6 7 ?_)))
 refine jT ?_
 refine bM ?_
 refine qC rfl zi zb (hb4.cells) (by first | rfl | (simp; done)) ?_
 refine qL rfl ?_
 refine qI ?_
 refine ⟨m', k, rfl, ⟨⟨S, hkS9⟩, ?_⟩, K⟩
 have e : bP m.p q t E = dM m.p q t := by
  unfold bP
  rw [if_neg (not_not_intro hc1), if_neg hc2, if_neg (not_not_intro hc3), if_neg hc4, if_neg hin, if_neg hc6]
 rw [e]
 exact hres
end
section
open Go.RowKit
def aT : Tx := [97]
def abT : Tx := [97, 47, 98]
def cT : Tx := [99]
def cbT : Tx := [99, 47, 98]
def csT : Tx := [99, 42]
def qQ8 : Tx := [105, 110, 98, 111, 120]
def mA : MailP := ⟨[(qT, ⟨1, 1, []⟩), (aT, ⟨2, 1, []⟩), (abT, ⟨3, 1, []⟩)], [], 3, 0⟩
def mB : MailP := ⟨[(qT, ⟨1, 1, []⟩), (cT, ⟨2, 1, []⟩), (cbT, ⟨3, 1, []⟩)], [], 3, 0⟩
theorem qZ2 : fW newM abT = .ok mA := by kernel_rfl
theorem qZ3 : gN mA aT = some ⟨2, 1, []⟩ := by kernel_rfl
theorem qZi : gN mA abT = some ⟨3, 1, []⟩ := by kernel_rfl
theorem qZj : bP mA aT cT (.error 0) = .ok mB := by kernel_rfl
theorem qZk : (goF aT mA.l).map (bC aT cT) = [(cT, ⟨2, 1, []⟩), (cbT, ⟨3, 1, []⟩)] := by kernel_rfl
theorem qZl : oZ mA aT cT := by
 unfold oZ
 rw [qZk]
 intro j hj
 have hj2 : j ≤ 2 := hj
 have h : j = 0 ∨ j = 1 ∨ j = 2 := jo
 unfold bK
 rcases h with rfl | rfl | rfl
 · exact of_decide_eq_true jK
 · exact of_decide_eq_true jK
 exact of_decide_eq_true jK
theorem qZ4 : qJ aT ≠ qT := of_decide_eq_true jK
theorem qZ5 : eZ mB cT = .error 16 := by kernel_rfl
theorem qZ6 : eZ mB qQ8 = .error 17 := by kernel_rfl
theorem qZ7 : kB mB csT false = [cT, cbT] := by kernel_rfl
end
section
open Go.RowKit Go.Sort
set_option maxHeartbeats 1000000 in
theorem lR (w : World) (hv : cZ w) : Calls Tryz.prog 16 #[] w fun e w' => e = .returned (.bool true) ∧ Frm [] w w' := by
 have K := Frm.refl [] w
 refine VC.calls (nt := 95) (res := #[.tmp 0]) Tryz.func16 rfl Tryz.ntmps16 Tryz.results16 rfl ?_
 refine jS (jR (ja rfl (jO (jN ?_))))
 refine VC.sub [] .nil ?_
 refine jS (jR ?_)
 refine Ops.cl (jE0 Tryz.call28) (xO _) rfl ?_
 rintro e w1 ⟨m0, rfl, hm0, ⟨S0, hk0⟩, hfw1⟩
 refine ⟨_, rfl, ?_⟩
 have hv := hv.frm hfw1
 have K := K.trans hfw1 jp
 have hm0R := hk0.now (RdL.zero _)
 refine Ops.cl (jE2 Tryz.call13) (rR m0 abT _ hm0R jd hv) rfl ?_
 rintro e w2 ⟨ma, ke, rfl, ⟨⟨Sa, hka⟩, hra⟩, hfw2⟩
 refine ⟨_, rfl, ?_⟩
 have hm0R := hm0R.frm hfw2
 have hv := hv.frm hfw2
 have K := K.trans hfw2 jp
 have hmaR := hka.now hm0R
 rw [hm0, qZ2] at hra
 obtain ⟨rfl, hma⟩ : ke = 0 ∧ mA = ma.p := by
  rcases hra with ⟨h1, h2⟩ | ⟨h1, h2, _⟩
  · exact ⟨h1, Except.ok.inj h2⟩
  cases h2
 refine jm rfl (je (Run.extract rfl rfl) (je (Run.extract rfl rfl) ?_))
 refine Ops.m (qH.alloc bQ) rfl ?_
 rintro _ w3 ⟨rfl, hFw3⟩
 refine Ops.st (qW.storeA rfl rfl zb hFw3.blk rfl (MlC.cells_one ma)) ?_
 rintro w4 ⟨hba, hfw4, hsw4⟩
 have hba : Blk w4 w2.heap.size 25 (ma.cells.toArray) := hba
 have Kw4 : Frm [] w2 w4 := hFw3.frm.trans hfw4 jp
 have hm0R := hm0R.frm Kw4
 have hmaR := hmaR.frm Kw4
 have hv := hv.frm Kw4
 have K := K.trans Kw4 jp
 generalize w2.heap.size = ga at hba ⊢
 refine ja rfl (jO (jN (jv2 1 2 ?_)))
 refine jS (jR (je (Run.loadA rfl zi zb hba.cells (by first | rfl | (simp; done))) ?_))
 refine Ops.cl (jE2 Tryz.call23) (kS ma aT _ hmaR jd hv) rfl ?_
 rintro e w5 ⟨vx, nx, Bx, dx, lx, bx, rfl, hOMx, hcx, hfw5⟩
 refine ⟨_, rfl, ?_⟩
 have hm0R := hm0R.frm hfw5
 have hmaR := hmaR.frm hfw5
 have hba := hba.frm hfw5 jp
 have hv := hv.frm hfw5
 have K := K.trans hfw5 jp
 rw [← hma, qZ3] at hcx
 obtain ⟨rfl, rfl⟩ : bx = true ∧ vx = 2 := by
  rcases hcx with ⟨h1, h2⟩ | ⟨_, h2, _⟩
  · exact ⟨h1, (BoxV.mk.inj (Option.some.inj h2)).1.symm⟩
  cases h2
 refine jm rfl (je (Run.extract rfl rfl) (je (Run.extract rfl rfl) ?_))
 refine Ops.m (qH.alloc cP) rfl ?_
 rintro _ w6 ⟨rfl, hFw6⟩
 refine Ops.st (qW.storeA rfl rfl zp hFw6.blk rfl (cW _ _ _ _ _)) ?_
 rintro w7 ⟨hbx, hfw7, hsw7⟩
 have hbx : Blk w7 w5.heap.size 43 ((BVc 2 nx Bx lx.length dx).toArray) := hbx
 have Kw7 : Frm [] w5 w7 := hFw6.frm.trans hfw7 jp
 have hm0R := hm0R.frm Kw7
 have hmaR := hmaR.frm Kw7
 have hba := hba.frm Kw7 jp
 have hv := hv.frm Kw7
 have K := K.trans Kw7 jp
 generalize w5.heap.size = gx at hbx ⊢
 refine ja rfl (jO (jN (jv4 1 2 3 4 ?_)))
 refine jS (jR (je (Run.loadA rfl zi zb hba.cells (by first | rfl | (simp; done))) ?_))
 refine Ops.cl (jE2 Tryz.call23) (kS ma abT _ hmaR jd hv) rfl ?_
 rintro e w8 ⟨vz, nz, Bz, dz, lz, bz, rfl, hOMz, hcz, hfw8⟩
 refine ⟨_, rfl, ?_⟩
 have hm0R := hm0R.frm hfw8
 have hmaR := hmaR.frm hfw8
 have hba := hba.frm hfw8 jp
 have hbx := hbx.frm hfw8 jp
 have hv := hv.frm hfw8
 have K := K.trans hfw8 jp
 rw [← hma, qZi] at hcz
 obtain ⟨rfl, rfl⟩ : bz = true ∧ vz = 3 := by
  rcases hcz with ⟨h1, h2⟩ | ⟨_, h2, _⟩
  · exact ⟨h1, (BoxV.mk.inj (Option.some.inj h2)).1.symm⟩
  cases h2
 refine jm rfl (je (Run.extract rfl rfl) (je (Run.extract rfl rfl) ?_))
 refine Ops.m (qH.alloc cP) rfl ?_
 rintro _ w9 ⟨rfl, hFw9⟩
 refine Ops.st (qW.storeA rfl rfl zp hFw9.blk rfl (cW _ _ _ _ _)) ?_
 rintro w10 ⟨hby, hfw10, hsw10⟩
 have hby : Blk w10 w8.heap.size 43 ((BVc 3 nz Bz lz.length dz).toArray) := hby
 have Kw10 : Frm [] w8 w10 := hFw9.frm.trans hfw10 jp
 have hm0R := hm0R.frm Kw10
 have hmaR := hmaR.frm Kw10
 have hba := hba.frm Kw10 jp
 have hbx := hbx.frm Kw10 jp
 have hv := hv.frm Kw10
 have K := K.trans Kw10 jp
 generalize w8.heap.size = gy at hby ⊢
 refine ja rfl (jO (jN (jv6 1 2 3 4 5 6 ?_)))
 refine jS (jR (je (Run.loadA rfl zi zb hba.cells (by first | rfl | (simp; done))) ?_))
 refine Ops.cl (jE3 Tryz.call19) (rT ma aT cT _ hmaR jd jd (fun _ _ _ _ _ => by rw [← hma]; exact qZl) qZ4 (.error 0) hv) rfl ?_
 rintro e w11 ⟨mb, kf, rfl, ⟨⟨Sb, hkb⟩, hrb⟩, hfw11⟩
 refine ⟨_, rfl, ?_⟩
 have hm0R := hm0R.frm hfw11
 have hmaR := hmaR.frm hfw11
 have hba := hba.frm hfw11 jp
 have hbx := hbx.frm hfw11 jp
 have hby := hby.frm hfw11 jp
 have hv := hv.frm hfw11
 have K := K.trans hfw11 jp
 have hmbR := hkb.now hmaR
 rw [← hma, qZj] at hrb
 obtain ⟨rfl, hmb⟩ : kf = 0 ∧ mB = mb.p := by
  rcases hrb with ⟨h1, h2⟩ | ⟨h1, h2, _⟩
  · exact ⟨h1, Except.ok.inj h2⟩
  cases h2
 refine jm rfl (je (Run.extract rfl rfl) (je (Run.extract rfl rfl) ?_))
 refine Ops.m (qH.alloc bQ) rfl ?_
 rintro _ w12 ⟨rfl, hFw12⟩
 refine Ops.st (qW.storeA rfl rfl zb hFw12.blk rfl (MlC.cells_one mb)) ?_
 rintro w13 ⟨hbb, hfw13, hsw13⟩
 have hbb : Blk w13 w11.heap.size 25 (mb.cells.toArray) := hbb
 have Kw13 : Frm [] w11 w13 := hFw12.frm.trans hfw13 jp
 have hm0R := hm0R.frm Kw13
 have hmaR := hmaR.frm Kw13
 have hba := hba.frm Kw13 jp
 have hbx := hbx.frm Kw13 jp
 have hby := hby.frm Kw13 jp
 have hmbR := hmbR.frm Kw13
 have hv := hv.frm Kw13
 have K := K.trans Kw13 jp
 generalize w11.heap.size = gb at hbb ⊢
 refine ja rfl (jO (jN (jv7 2 3 4 5 6 7 8 ?_)))
 refine jS (jR (je (Run.loadA rfl zi zb hbb.cells (by first | rfl | (simp; done))) ?_))
 refine Ops.cl (jE2 Tryz.call17) (lP mb cT _ hmbR jd hv) rfl ?_
 rintro e w14 ⟨mg, kg, rfl, ⟨⟨Sg, hkg⟩, hrg⟩, hfw14⟩
 refine ⟨_, rfl, ?_⟩
 have hm0R := hm0R.frm hfw14
 have hmaR := hmaR.frm hfw14
 have hba := hba.frm hfw14 jp
 have hbx := hbx.frm hfw14 jp
 have hby := hby.frm hfw14 jp
 have hmbR := hmbR.frm hfw14
 have hbb := hbb.frm hfw14 jp
 have hv := hv.frm hfw14
 have K := K.trans hfw14 jp
 rw [← hmb, qZ5] at hrg
 obtain rfl : kg = 16 := by
  rcases hrg with ⟨_, h2⟩ | ⟨_, h2, _⟩
  · cases h2
  injection h2 with h2; exact h2.symm
 refine jm rfl (je (Run.extract rfl rfl) (je (Run.extract rfl rfl) ?_))
 refine Ops.m (qH.alloc bQ) rfl ?_
 rintro _ w15 ⟨rfl, hFw15⟩
 refine Ops.st (qW.storeA rfl rfl zb hFw15.blk rfl (MlC.cells_one mg)) ?_
 rintro w16 ⟨hbg9, hfw16, hsw16⟩
 have hbg9 : Blk w16 w14.heap.size 25 (mg.cells.toArray) := hbg9
 have Kw16 : Frm [] w14 w16 := hFw15.frm.trans hfw16 jp
 have hm0R := hm0R.frm Kw16
 have hmaR := hmaR.frm Kw16
 have hba := hba.frm Kw16 jp
 have hbx := hbx.frm Kw16 jp
 have hby := hby.frm Kw16 jp
 have hmbR := hmbR.frm Kw16
 have hbb := hbb.frm Kw16 jp
 have hv := hv.frm Kw16
 have K := K.trans Kw16 jp
 generalize w14.heap.size = gg9 at hbg9 ⊢
 refine ja rfl (jO (jN (jv8 2 3 4 5 6 7 8 10 ?_)))
 refine jS (jR (je (Run.loadA rfl zi zb hbb.cells (by first | rfl | (simp; done))) ?_))
 refine Ops.cl (jE2 Tryz.call17) (lP mb qQ8 _ hmbR jd hv) rfl ?_
 rintro e w17 ⟨mh, kh, rfl, ⟨⟨Sh, hkh⟩, hrh⟩, hfw17⟩
 refine ⟨_, rfl, ?_⟩
 have hm0R := hm0R.frm hfw17
 have hmaR := hmaR.frm hfw17
 have hba := hba.frm hfw17 jp
 have hbx := hbx.frm hfw17 jp
 have hby := hby.frm hfw17 jp
 have hmbR := hmbR.frm hfw17
 have hbb := hbb.frm hfw17 jp
 have hbg9 := hbg9.frm hfw17 jp
 have hv := hv.frm hfw17
 have K := K.trans hfw17 jp
 rw [← hmb, qZ6] at hrh
 obtain rfl : kh = 17 := by
  rcases hrh with ⟨_, h2⟩ | ⟨_, h2, _⟩
  · cases h2
  injection h2 with h2; exact h2.symm
 refine jm rfl (je (Run.extract rfl rfl) (je (Run.extract rfl rfl) ?_))
 refine Ops.m (qH.alloc bQ) rfl ?_
 rintro _ w18 ⟨rfl, hFw18⟩
 refine Ops.st (qW.storeA rfl rfl zb hFw18.blk rfl (MlC.cells_one mh)) ?_
 rintro w19 ⟨hbg11, hfw19, hsw19⟩
 have hbg11 : Blk w19 w17.heap.size 25 (mh.cells.toArray) := hbg11
 have Kw19 : Frm [] w17 w19 := hFw18.frm.trans hfw19 jp
 have hm0R := hm0R.frm Kw19
 have hmaR := hmaR.frm Kw19
 have hba := hba.frm Kw19 jp
 have hbx := hbx.frm Kw19 jp
 have hby := hby.frm Kw19 jp
 have hmbR := hmbR.frm Kw19
 have hbb := hbb.frm Kw19 jp
 have hbg9 := hbg9.frm Kw19 jp
 have hv := hv.frm Kw19
 have K := K.trans Kw19 jp
 generalize w17.heap.size = gg11 at hbg11 ⊢
 refine ja rfl (jO (jN (jv9 2 3 4 5 6 7 8 10 12 ?_)))
 refine jS (jR (je (Run.loadA rfl zi zb hbb.cells (by first | rfl | (simp; done))) ?_))
 refine Ops.cl (jE3 Tryz.call27) (vP mb csT false _ hmbR jd hv) rfl ?_
 rintro e w20 ⟨Bl, dl, ss, rfl, hol, hss, _, hfw20⟩
 refine ⟨_, rfl, ?_⟩
 have hm0R := hm0R.frm hfw20
 have hmaR := hmaR.frm hfw20
 have hba := hba.frm hfw20 jp
 have hbx := hbx.frm hfw20 jp
 have hby := hby.frm hfw20 jp
 have hmbR := hmbR.frm hfw20
 have hbb := hbb.frm hfw20 jp
 have hbg9 := hbg9.frm hfw20 jp
 have hbg11 := hbg11.frm hfw20 jp
 have hv := hv.frm hfw20
 have K := K.trans hfw20 jp
 rw [← hmb, qZ7] at hss
 subst hss
 obtain ⟨adl, rfl, hel0⟩ := hol.rd.elem (k := 0) jd
 obtain ⟨_, h1, hel1⟩ := hol.rd.elem (k := 1) jd
 cases h1
 refine ja rfl (jO (jN (jv9 2 3 4 5 6 8 10 12 13 ?_)))
 refine jS ?_
 refine VC.split1 [] .nil 0 (.bool (decide (True))) ?_ ?_
 ·
  refine jR ?_
  refine jm rfl (jb rfl rfl (Bin.eqlN _ 0) (jM ?_))
  refine jG ?_
  refine je (Run.pickT rfl rfl au) (jM ?_)
  refine jk (Run.fieldAddr rfl zw rfl zq jd) ?_
  refine jk (Run.load rfl zy (hbx.cell 0)) ?_
  refine jk (Run.bin rfl rfl (Bin.eql _ 2)) ?_
  refine je (Run.pickT rfl rfl au) (jM ?_)
  refine jG ?_
  refine je (Run.pickT rfl rfl au) (jM ?_)
  refine jk (Run.fieldAddr rfl zw rfl zq jd) ?_
  refine jk (Run.load rfl zy (hby.cell 0)) ?_
  refine jk (Run.bin rfl rfl (Bin.eql _ 3)) ?_
  refine je (Run.pickT rfl rfl au) (jM ?_)
  refine jG ?_
  refine jk (Run.bin rfl rfl (Bin.eqlN _ 0)) ?_
  refine je (Run.pickT rfl rfl au) (jM ?_)
  refine jG ?_
  refine jk (Run.lenS rfl zj) ?_
  refine jk (Run.bin rfl rfl (Bin.eqlN _ 2)) ?_
  refine je (Run.pickT rfl rfl au) (jM ?_)
  refine jG ?_
  refine jk (Run.indexS 0 rfl rfl zj zx jd) ?_
  refine jk (Run.load rfl zac (hel0 0 (encStr cT) rfl)) ?_
  refine jk (Run.eqlT rfl rfl) ?_
  refine je (Run.pickT rfl rfl au) (jM ?_)
  refine jG ?_
  refine jk (Run.indexS 1 rfl rfl zj zx jd) ?_
  refine jk (Run.load rfl zac (hel1 0 (encStr cbT) rfl)) ?_
  refine jk (Run.eqlT rfl rfl) ?_
  refine je (Run.pickT rfl rfl au) (jM ?_)
  refine jG ?_
  refine jk (Run.bin rfl rfl (Bin.eqlN _ 16)) ?_
  refine je (Run.pickT rfl rfl au) (jM ?_)
  refine jG ?_
  refine jk (Run.bin rfl rfl (Bin.eqlN _ 17)) ?_
  refine je (Run.pickT rfl rfl au) (jm rfl (je (Run.pickT rfl rfl au) (ja rfl (jO ?_))))
  refine jN ⟨(js1 (jC jp)), rfl⟩
 intro Γ hΓ
 refine jN (VC.sub _ hΓ ?_)
 refine jT ?_
 refine qF rfl ?_
 exact ⟨jp, K⟩
end
section
open Go.RowKit Go.Sort
theorem qXz (a b c d : Int) (w : World) : (Op.eqFields 9999 #[.int .i64 a, .int .i64 b] #[.int .i64 c, .int .i64 d] (Tryz.prog.fieldsOf 58).toList).run Tryz.prog w = .ok (decide (a = c ∧ b = d)) w := by
 obtain ⟨f0, f1, hf, ⟨n0, t0, o0⟩, n1, t1, o1⟩ := zM
 rw [hf]
 have h := tG (P := Tryz.prog) (w := w) (d := 9998) (xs := #[.int .i64 a, .int .i64 b]) (ys := #[.int .i64 c, .int .i64 d]) (f := f0) (fs := [f1]) (k := .i64) (k' := .i64) (a := a) (b := c) (by rw [n0]; decide) (by rw [t0]; exact Tryz.isAgg2) (by rw [t0]; exact Tryz.underlying2) (by rw [o0]; rfl) (by rw [o0]; rfl)
  (tG (k := .i64) (k' := .i64) (a := b) (b := d) (by rw [n1]; decide) (by rw [t1]; exact zy) (by rw [t1]; exact zad) (by rw [o1]; rfl) (by rw [o1]; rfl) qXb)
 have e : decide (a = c ∧ b = d) = (decide (a = c) && (decide (b = d) && true)) := by
  rw [zck]
  simp
 rw [e]
 exact h
theorem qZm (x y : MsgP) : x = y ↔ (x.uid = y.uid ∧ (x.sec = y.sec ∧ x.zone = y.zone) ∧ x.size = y.size ∧ x.blob = y.blob ∧ x.flags = y.flags) := by
 cases x; cases y
 simp [and_assoc]
end
end Go.Proofs.YtgmbmfpfhcekiaaGreat
