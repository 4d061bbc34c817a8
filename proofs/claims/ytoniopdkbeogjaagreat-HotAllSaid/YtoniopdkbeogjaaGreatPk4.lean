/-
  Lemmas on the way, joined: HotWa, HotAp, HotAw, HotWb, HotQ0, HotWs, OpnA, OpnB, OpnC, OpnD, OpnE, OpnF, AllA, AllB, HotAllW, HotQ1.
-/
import Derived.Test.YtoniopdkbeogjaaGreatPk3
set_option maxRecDepth 100000
set_option linter.unusedVariables false
set_option linter.unusedSimpArgs false
namespace Go.Proofs.YtoniopdkbeogjaaGreat
section
open Go.RowKit
theorem qJn (l : List Bq) (c : Ch) (x : Bq) : x ∈ mI l c ↔ (x ∈ l ∧ x.1 ≠ c.1) ∨ (c.2.2 = false ∧ x = (c.1, c.2.1)) := by
 unfold mI
 rw [zcb, List.mem_filter, decide_eq_true_eq]
 cases h : c.2.2 <;> simp
theorem qQi {l : List Bq} (h : (l.map (·.1)).Nodup) (c : Ch) : ((mI l c).map (·.1)).Nodup := by
 unfold mI
 rw [zy, zef]
 refine ⟨h.sublist (zdq.map _), ?_, fun a ha b hb e => ?_⟩
 · cases c.2.2 <;> simp
 obtain ⟨x, hx, rfl⟩ := List.mem_map.1 ha
 have h1 := (List.mem_filter.1 hx).2
 rw [decide_eq_true_eq] at h1
 cases hc : c.2.2 with
 | true => rw [hc] at hb; simp at hb
 | false =>
  rw [hc] at hb
  simp at hb
  exact h1 (by rw [e, hb])
theorem mX : ∀ (cs : List Ch) (l : List Bq), (cs.map (·.1)).Nodup → ∀ x, x ∈ jP l cs ↔ (x ∈ l ∧ x.1 ∉ cs.map (·.1)) ∨ ∃ c ∈ cs, c.2.2 = false ∧ x = (c.1, c.2.1)
 | [], l, _, x => by simp [jP]
 | c :: r, l, hn, x => by
  rw [zau, zet] at hn
  rw [show jP l (c :: r) = jP (mI l c) r from rfl, mX r (mI l c) hn.2 x, qJn]
  simp only [zau, zx, not_or, exists_eq_or_imp]
  constructor
  ·
   rintro (⟨h1 | h1, h2⟩ | h1)
   · exact .inl ⟨h1.1, h1.2, h2⟩
   · exact .inr (.inl h1)
   exact .inr (.inr h1)
  rintro (⟨h1, h2, h3⟩ | h1 | h1)
  · exact .inl ⟨.inl ⟨h1, h2⟩, h3⟩
  ·
   refine .inl ⟨.inr h1, ?_⟩
   rw [h1.2]
   exact hn.1
  exact .inr h1
theorem uK : ∀ (cs : List Ch) {l : List Bq}, (l.map (·.1)).Nodup → ((jP l cs).map (·.1)).Nodup
 | [], l, h => h
 | c :: r, l, h => uK r (qQi h c)
structure HasI (H : Hm) (B : Nat → List Nat) (l : List Bq) : Prop where
 nod : (l.map (·.1)).Nodup
 key : ∀ id, id ∈ H.pairs.map (·.1) ↔ id ∈ l.map (·.1)
 oct : ∀ x ∈ l, B x.1 = x.2
theorem yO {H H' : Hm} {B : Nat → List Nat} {l : List Bq} {cs : List Ch} (h : HasI H B l) (hm : cX cs) (hk : ∀ id, id ∈ H'.pairs.map (·.1) ↔ (id ∈ H.pairs.map (·.1) ∧ id ∉ cs.map (·.1)) ∨ ∃ c ∈ cs, c.2.2 = false ∧ c.1 = id) : HasI H' (eR B cs) (jP l cs) := by
 refine ⟨uK cs h.nod, fun id => ?_, fun x hx => ?_⟩
 ·
  rw [hk id, h.key id]
  constructor
  ·
   rintro (⟨h1, h2⟩ | ⟨c, hc, hg, rfl⟩)
   ·
    obtain ⟨x, hx, rfl⟩ := List.mem_map.1 h1
    exact List.mem_map.2 ⟨x, (mX cs l hm.1 x).2 (.inl ⟨hx, h2⟩), rfl⟩
   exact List.mem_map.2 ⟨(c.1, c.2.1), (mX cs l hm.1 _).2 (.inr ⟨c, hc, hg, rfl⟩), rfl⟩
  intro h1
  obtain ⟨x, hx, rfl⟩ := List.mem_map.1 h1
  rcases (mX cs l hm.1 x).1 hx with ⟨h2, h3⟩ | ⟨c, hc, hg, rfl⟩
  · exact .inl ⟨List.mem_map.2 ⟨x, h2, rfl⟩, h3⟩
  exact .inr ⟨c, hc, hg, rfl⟩
 rcases (mX cs l hm.1 x).1 hx with ⟨h2, h3⟩ | ⟨c, hc, hg, rfl⟩
 · rw [yI h3, h.oct x h2]
 exact sL hm.1 hc hg
theorem kU {H : Hm} {B : Nat → List Nat} {l : List Bq} (hI : InvH H B) (h : HasI H B l) : uJ H l ∧ H.pairs.length = l.length := by
 refine ⟨fun x hx => ?_, ?_⟩
 · rw [qQ8 hI ((h.key x.1).2 (List.mem_map.2 ⟨x, hx, rfl⟩)), h.oct x hx]
 have hn : (H.pairs.map (·.1)).Nodup := by
  rw [zeb, List.pairwise_map]
  exact hI.ok.srt.imp fun hlt => jo
 have := ((List.perm_ext_iff_of_nodup hn h.nod).2 h.key).length_eq
 simpa using this
end
section
open Go.RowKit
theorem qK2 {H : Hm} {l : List Ch} (hm : cX l) (hg : ¬ cM H l) : (qN H l).1 = 6 := by
 unfold qN
 rw [if_neg (not_not_intro hm), if_pos hg]
def bV : Hm := (qN (cZ (bU (Dk.new 51)).2) []).2
def exL (D : List Nat) : List Ch := [(5, D, false)]
theorem qJo : (∃ B, InvH bV B) ∧ bV.N = 9 ∧ bD bV = [0] ∧ bV.pairs = [] := by
 have hl : (Dk.new 51).has.length = 51 := by simp [Dk.new]
 have hp : Pow (Dk.new 51) := ⟨rfl, rfl⟩
 obtain ⟨f1, f2, f3, f4, f5, f6, f7, f8, f9⟩ := oE hp jo jo
 obtain ⟨u1, u2, u3⟩ := yL hp jo
 have hlf := oB (Dk.new 51)
 have hi := sO u2 u3 jo jo (fun _ => [])
 obtain ⟨g1, -⟩ := wY hi f5 (fun c hc => by cases hc)
 have hN0 : (cZ (bU (Dk.new 51)).2).N = 9 := by unfold Hm.N cZ; dsimp only; omega
 have hbn : bQ (cZ (bU (Dk.new 51)).2) [] = 1 := by
  have hpm : pagesM 0 = 1 := by unfold pagesM; rw [show abvM 0 7 = 1 from rfl, kC, dif_pos jo]
  unfold bQ
  rw [show cJ (cZ (bU (Dk.new 51)).2) [] = 0 from rfl, pagesT, if_pos jo, hpm]
  rfl
 have hps : bV.pairs = [] := by
  cases hc : bV.pairs with
  | nil => rfl
  | cons a r => exact absurd (List.mem_map.2 ⟨a, by rw [show (qN (cZ (bU (Dk.new 51)).2) []).2.pairs = a :: r from hc]; simp, rfl⟩) (f9 a.1)
 have hN : bV.N = 9 := by unfold Hm.N bV; omega
 have hd : bV.dir = [0] := by
  unfold bV
  rw [g1, hN0, hbn]
  rfl
 refine ⟨⟨_, f6⟩, hN, ?_, hps⟩
 unfold bD
 rw [hd, hps]
 rfl
theorem qWz {D : List Nat} (hD : D.length = 200) (hb : ∀ b ∈ D, b < 256) : ∃ B, InvH (qN bV (exL D)).2 B ∧ (qN bV (exL D)).1 = 0 ∧ (qN bV (exL D)).2.N = 9 ∧ bD (qN bV (exL D)).2 = [3, 1, 2] ∧ eZ (qN bV (exL D)).2 5 = (0, D) ∧ (qN (qN bV (exL D)).2 [(5, [], true), (6, [], true)]).1 = 6 := by
 obtain ⟨⟨B, hi⟩, hN, hw, hps⟩ := qJo
 have hm : cX (exL D) := ⟨by simp [exL], fun x hx => by rw [exL, za] at hx; subst hx; exact ⟨by dsimp only; omega, fun h => by cases h⟩⟩
 have hg : cM bV (exL D) := fun x hx h => by rw [exL, za] at hx; subst hx; cases h
 have hbb : ∀ c ∈ exL D, c.1 < 18446744073709551616 ∧ ∀ b ∈ c.2.1, b < 256 := fun c hc => by rw [exL, za] at hc; subst hc; exact ⟨by dsimp only; omega, hb⟩
 have hnd : needsM D.length = 2 := by rw [hD]; rfl
 have hbp : cJ bV (exL D) = 1 := by
  unfold cJ bK exL
  rw [hps]
  rfl
 have hsn : sumN (exL D) = 2 := by simp [sumN, exL, hnd]
 have hbn : bQ bV (exL D) = 3 := by
  have hpm : pagesM 1 = 1 := by unfold pagesM; rw [show abvM 1 7 = 1 from rfl, kC, dif_pos jo]
  unfold bQ
  rw [hbp, hsn, pagesT, if_pos jo, hpm]
 have hc : cntS bV.N bV.used = 1 := by rw [(lV hi).1, hw]; rfl
 obtain ⟨s1, s2, s3, s4, s5, s6⟩ := fS hi hm hbb jo jo jo
 have e : qN bV (exL D) = (0, (bV.plan (qF bV.dk (qD bV (exL D)).puts).2 (qD bV (exL D))).count) := by unfold qN; rw [if_neg (not_not_intro hm), if_neg (not_not_intro hg), if_neg jo, if_neg jo, if_neg (not_not_intro s1)]
 have h0 : (qN bV (exL D)).1 = 0 := by rw [e]
 obtain ⟨g1, g2, g3, g4⟩ := wY hi h0 hbb
 have hfr : (bG bV.N bV.used).take (bQ bV (exL D)) = [1, 2, 3] := by
  rw [qV8 hi, hw, hN, hbn]
  rfl
 rw [hfr, hsn] at g1
 rw [hfr] at g2 g4
 have hnw : bA (exL D) [1, 2, 3] = [(5, D, [1, 2])] := by
  rw [exL, bA, if_neg jp]
  dsimp only
  rw [hnd]
  rfl
 rw [hnw] at g2 g4
 have hl5 := g4 (5, D, [1, 2]) jp
 have hmem : cW 5 D [1, 2] ∈ (qN bV (exL D)).2.pairs := (g2 _).2 (.inr ⟨(5, D, [1, 2]), jp, rfl⟩)
 have hI2 : InvH (qN bV (exL D)).2 (eR B (exL D)) := by rw [e]; exact s4
 have hp2 : (qN bV (exL D)).2.pairs = [cW 5 D [1, 2]] := by
  have hln : (qN bV (exL D)).2.pairs.length = 1 := by
   rw [e]
   show (qD bV (exL D)).pairs.length = 1
   exact (uX bV (exL D) _ []).trans hbp
  match hq : (qN bV (exL D)).2.pairs with
  | [] => rw [hq] at hln; cases hln
  | [a] => rw [hq] at hmem; rw [za] at hmem; rw [hmem]
  | a :: b :: r => rw [hq] at hln; simp at hln
 have hk5 : 5 ∈ (qN bV (exL D)).2.pairs.map (·.1) := List.mem_map.2 ⟨_, hmem, rfl⟩
 refine ⟨_, hI2, h0, ?_, ?_, ?_, ?_⟩
 ·
  rw [e]
  show (qF bV.dk (qD bV (exL D)).puts).2.has.length - 42 = 9
  rw [dJ]
  exact hN
 ·
  unfold bD dZ
  rw [g1, hp2]
  show [3] ++ ((qN bV (exL D)).2.lies 5 ++ []) = _
  rw [hl5]
  rfl
 ·
  rw [qQ8 hI2 hk5]
  have := sL (B := B) (l := exL D) hm.1 (c := (5, D, false)) (by simp [exL]) rfl
  rw [show eR B (exL D) 5 = D from this]
 have hm2 : cX [(5, [], true), (6, [], true)] := ⟨jp, fun x hx => by simp at hx; rcases hx with rfl | rfl <;> exact ⟨jp, fun _ => rfl⟩⟩
 have hg2 : ¬ cM (qN bV (exL D)).2 [(5, [], true), (6, [], true)] := fun hg => by
  have := hg (6, [], true) jp rfl
  rw [hp2] at this
  simp [cW] at this
 exact qK2 hm2 hg2
end
section
open Go.RowKit
set_option maxHeartbeats 1000000 in
theorem nN (w : World) : Calls Tryz.prog 14 #[] w fun e w' => e = .returned (.bool true) ∧ Frm [] w w' := by
 have hl : (Dk.new 51).has.length = 51 := by simp [Dk.new]
 have hp : Pow (Dk.new 51) := ⟨rfl, rfl⟩
 obtain ⟨f1, f2, f3, f4, f5, f6, f7, f8, f9⟩ := oE hp jo jo
 obtain ⟨⟨B1, hi1⟩, hN1, hw1, hps1⟩ := qJo
 refine VC.calls (nt := 124) (res := #[.tmp 0]) Tryz.func14 rfl Tryz.ntmps14 Tryz.results14 rfl ?_
 refine jS (jR (ja rfl (jO (jN ?_))))
 refine VC.sub [] .nil ?_
 refine jS (jR ?_)
 refine Ops.cl (jE1 Tryz.call6) (vP 51 w jo jo) rfl ?_
 rintro e w1 ⟨g, F, rfl, hD, K, hupF⟩
 refine ⟨_, rfl, ?_⟩
 have K0 := K
 refine jm rfl (je (Run.extract rfl rfl) (je (Run.extract rfl rfl) (ja rfl (ja rfl (jO (jN (jv2 1 2 ?_)))))))
 refine jS (jS (jR (jm rfl (jb rfl rfl (Bin.neqN _ 0) (jM ?_)))))
 refine Ops.rg rfl (rfl) (Run.mv rfl) rfl ?_
 refine Ops.rg rfl (rfl) (Run.eqlNilP rfl rfl Tryz.underlying23) rfl ?_
 refine je (Run.pickF rfl rfl (rfl)) (jO (jN (jv2 1 23 ?_)))
 refine VC.condF rfl (rfl) ?_
 refine jQ (jN (jv1 1 ?_))
 refine jS (jR (jM ?_))
 refine Ops.cl (jE1 Tryz.call7) (rZ g F (Dk.new 51) w1 hD jo (zg _) f1 f2 f3 f4 f5) rfl ?_
 rintro e w2 ⟨h, F2, q, rfl, hH, hk2⟩
 refine ⟨_, rfl, ?_⟩
 have hH : IsHt w2 h g F2 bV q := hH
 have hup2 : ∀ x ∈ h :: F2, w.heap.size ≤ x := fun x hx => by
  rcases hk2.2 x hx with h1 | h1
  · exact hupF x h1
  exact zaw K.size h1
 have K := K.own hk2.1 hupF
 have hc1 : bV.N - cntS bV.N bV.used = 8 := by rw [(lV hi1).1, hw1, hN1]; rfl
 have hu1 : (List.range bV.N).filter bV.used = [0] := by rw [qXa hi1, hw1, hN1]; rfl
 refine jm rfl (je (Run.extract rfl rfl) (je (Run.extract rfl rfl) (ja rfl (ja rfl (jO (jN (jv2 3 4 ?_)))))))
 refine jS (jS (jR (jm rfl (jb rfl rfl (Bin.neqN _ 0) (jM ?_)))))
 refine Ops.rg rfl (rfl) (Run.mv rfl) rfl ?_
 refine Ops.rg rfl (rfl) (Run.eqlNilP rfl rfl Tryz.underlying27) rfl ?_
 refine je (Run.pickF rfl rfl (rfl)) (jO (jN (jv2 3 34 ?_)))
 refine VC.condF rfl (rfl) ?_
 refine jQ (jN (jv1 3 ?_))
 refine jS (jR (jM ?_))
 refine Ops.cl (jE1 Tryz.call39) (kG h g F2 _ q w2 hH) rfl ?_
 rintro e _ ⟨rfl, rfl⟩
 refine ⟨_, rfl, ?_⟩
 rw [hN1]
 refine jM ?_
 refine Ops.cl (jE1 Tryz.call51) (tL h g F2 _ q w2 hH) rfl ?_
 rintro e w3 ⟨rfl, hf3⟩
 refine ⟨_, rfl, ?_⟩
 rw [hc1]
 refine jM ?_
 refine Ops.cl (jE1 Tryz.call9) (tO h g F2 _ q w3 (hH.frm hf3)) rfl ?_
 rintro e w4 ⟨UB, ud, rfl, hoU, hf4, hupU⟩
 refine ⟨_, rfl, ?_⟩
 rw [hu1, show ([0] : List Nat).length = 1 from rfl] at hoU
 rw [hu1, show ([0] : List Nat).length = 1 from rfl]
 have hf24 : Frm [] w2 w4 := hf3.trans hf4 jp
 refine ja rfl (ja rfl (ja rfl (jO (jN (jv4 3 5 6 7 ?_)))))
 refine jS (jR ?_)
 refine Ops.cl (jE1 Tryz.call52) (wV 7 w4 jo) rfl ?_
 rintro e w5 ⟨ga, rfl, hoa, hf5, hga⟩
 refine ⟨_, rfl, ?_⟩
 refine Ops.cl (jE1 Tryz.call52) (wV 8 w5 jo) rfl ?_
 rintro e w6 ⟨gb, rfl, hob8, hf6, hgb⟩
 refine ⟨_, rfl, ?_⟩
 refine Ops.m (qZ.app rfl rfl ze (dG) rfl jd (hoa.frm hf6 jp) hob8.rd (cB _) jo jo) rfl ?_
 rintro _ w7 ⟨DA, dc, rfl, hoD, hf7, hobD⟩
 rw [← cP] at hoD
 obtain ⟨Dx, hDx⟩ : ∃ Dx, Dx = (tQ 7 ++ tQ 8).take 200 := ⟨_, rfl⟩
 have hDl : Dx.length = 200 := by rw [hDx, tQ, tQ]; simp
 have hDb : ∀ b ∈ Dx, b < 256 := fun b hb => by
  rw [hDx, tQ, tQ] at hb
  rcases zcb.1 (zn hb) with hb | hb <;> have := List.eq_of_mem_replicate hb <;> omega
 have hDc := hoD.le
 have hDr : Rd w7 1 DA 200 (NB Dx) := by
  have h1 := hoD.rd.cut (l := 0) (r := 200) (cap := dc) jo jo hDc
  rw [cT, zcz, zbb, zbk, zcm, (lO _ _).1, ← hDx] at h1
  exact h1
 have hf57 : Frm [] w4 w7 := (hf5.trans hf6 jp).own hf7 (by simp [ob]; have := hf5.size; omega)
 have hf27 : Frm [] w2 w7 := hf24.trans hf57 jp
 obtain ⟨B2, hi2, hz2, hN2, hw2, hg2, hz3⟩ := qWz hDl hDb
 obtain ⟨m1, m2, -⟩ := oZ hi1 (l := exL Dx) (fun c hc => by rw [exL, za] at hc; subst hc; exact ⟨by dsimp only; omega, hDb⟩)
 obtain ⟨m3, m4, m5⟩ := oZ hi2 (l := [(5, [], true), (6, [], true)]) (fun c hc => by simp at hc; rcases hc with rfl | rfl <;> exact ⟨by dsimp only; omega, fun b hb => by cases hb⟩)
 refine je (Run.sliceS 0 200 rfl ze zae evB.none_ (evB.some_ rfl) jo jo) ?_
 rw [cT]
 refine ja rfl (jO (jN (jv5 3 5 6 7 8 ?_)))
 refine jS (jR (jm rfl (jm rfl (je (Run.build (evs.cons rfl (evs.cons rfl evs.nil)) fJ (jL).choose_spec.1 (jL).choose_spec.2 (cells := (cqC (5, (DA, dc - 0, Dx), false)).toArray) (by rw [cqC, SL, hDl]; rfl)) ?_))))
 refine Ops.m (qZ.buildS1 rfl zan zba fJ jd jd rfl rfl) rfl ?_
 rintro _ w8 ⟨rfl, hF8⟩
 have hr8 : RdC w8 (some ⟨w7.heap.size, 0, none⟩) 1 [(5, (DA, dc - 0, Dx), false)] := ⟨rfl, Rd.of_blk (n := 1) (size := 3) hF8.blk rfl, fun x hx => by rw [za] at hx; subst hx; exact ⟨by dsimp only; rw [hDl]; exact hDr.frm hF8.frm jp, by dsimp only; omega⟩, fun x hx => by rw [za] at hx; subst hx; exact ⟨by dsimp only; omega, by dsimp only; omega⟩, fun x hx => by rw [za] at hx; subst hx; exact hDb⟩
 have hf28 : Frm [] w2 w8 := hf27.trans hF8.frm jp
 refine Ops.cl (jE2 Tryz.call10) (gK (some ⟨w7.heap.size, 0, none⟩) 1 1 [(5, (DA, dc - 0, Dx), false)] h g F2 bV q w8 (hH.frm hf28) jo hr8 m1 m2) rfl ?_
 rintro e w9 ⟨F3, q3, rfl, hH3, hk9⟩
 refine ⟨_, rfl, ?_⟩
 have hH3 : IsHt w9 h g F3 (qN bV (exL Dx)).2 q3 := hH3
 rw [show (qN bV (chL [(5, (DA, dc - 0, Dx), false)])).1 = 0 from hz2]
 have K := (K.trans hf28 jp).own hk9.1 hup2
 have hup3 : ∀ x ∈ h :: F3, w.heap.size ≤ x := fun x hx => by
  rcases hk9.2 x hx with h1 | h1
  · exact hup2 x h1
  have h2 := hk2.1.size; have h3 := hf28.size; have h4 := K0.size; omega
 refine ja rfl (jO (jN (jv6 3 5 6 7 8 9 ?_)))
 refine jS (jR (jM ?_))
 refine Ops.cl (jE2 Tryz.call22) (wZ 5 h g F3 _ q3 w9 hH3 jo) rfl ?_
 rintro e w10 ⟨GB, gd, rfl, hrG, hf10, hupG⟩
 refine ⟨_, rfl, ?_⟩
 rw [hg2] at hrG ⊢
 refine jm rfl (je (Run.extract rfl rfl) (je (Run.extract rfl rfl) (ja rfl (ja rfl (jO (jN (jv8 3 5 6 7 8 9 10 11 ?_)))))))
 refine jS (jR (jM ?_))
 refine Ops.cl (jE1 Tryz.call9) (tO h g F3 _ q3 w10 (hH3.frm hf10)) rfl ?_
 rintro e w11 ⟨VB, vd, rfl, hoV, hf11, hupV⟩
 refine ⟨_, rfl, ?_⟩
 have hu2 : (List.range (qN bV (exL Dx)).2.N).filter (qN bV (exL Dx)).2.used = [1, 2, 3] := by rw [qXa hi2, hw2, hN2]; rfl
 rw [hu2, show ([1, 2, 3] : List Nat).length = 3 from rfl] at hoV
 rw [hu2, show ([1, 2, 3] : List Nat).length = 3 from rfl]
 have hf911 : Frm [] w9 w11 := hf10.trans hf11 jp
 refine ja rfl (jO (jN (jv9 3 5 6 7 8 9 10 11 12 ?_)))
 refine jS (jR (jm rfl (je (Run.build (evs.cons rfl (evs.cons rfl evs.nil)) fJ (jL).choose_spec.1 (jL).choose_spec.2 (cells := (cqC (5, (none, 0, []), true)).toArray) rfl) (je (Run.build (evs.cons rfl (evs.cons rfl evs.nil)) fJ (jL).choose_spec.1 (jL).choose_spec.2 (cells := (cqC (6, (none, 0, []), true)).toArray) rfl) ?_))))
 refine Ops.m (qZ.buildN (cells := #[.int .u64 ((5 : Nat) : Int), .slice none 0 0, .bool true, .int .u64 ((6 : Nat) : Int), .slice none 0 0, .bool true]) (evs.cons rfl (evs.cons rfl evs.nil)) zan zba fJ rfl rfl jK) rfl ?_
 rintro _ w12 ⟨rfl, hF12⟩
 have hr12 : RdC w12 (some ⟨w11.heap.size, 0, none⟩) 2 [(5, (none, 0, []), true), (6, (none, 0, []), true)] := ⟨rfl, Rd.of_blk (n := 2) (size := 3) hF12.blk rfl, fun x hx => by simp at hx; rcases hx with rfl | rfl <;> exact ⟨Rd.nil _ _ _, zp _⟩, fun x hx => by simp at hx; rcases hx with rfl | rfl <;> exact ⟨by dsimp only; omega, jp⟩, fun x hx => by simp at hx; rcases hx with rfl | rfl <;> exact fun b hb => (by cases hb)⟩
 have hf912 : Frm [] w9 w12 := hf911.trans hF12.frm jp
 refine Ops.cl (jE2 Tryz.call10) (gK (some ⟨w11.heap.size, 0, none⟩) 2 2 [(5, (none, 0, []), true), (6, (none, 0, []), true)] h g F3 _ q3 w12 (hH3.frm hf912) jo hr12 m3 m4) rfl ?_
 rintro e w13 ⟨F4, q4, rfl, hH4, hk13⟩
 refine ⟨_, rfl, ?_⟩
 have e4 : (qN (qN bV (exL Dx)).2 [(5, [], true), (6, [], true)]).2 = (qN bV (exL Dx)).2 := by
  rcases m5 with ⟨h1, _⟩ | ⟨_, h1⟩
  · rw [hz3] at h1; cases h1
  exact h1
 have hH4 : IsHt w13 h g F4 (qN bV (exL Dx)).2 q4 := by rw [← e4]; exact hH4
 rw [show (qN (qN bV (exL Dx)).2 (chL [(5, (none, 0, []), true), (6, (none, 0, []), true)])).1 = 6 from hz3]
 have K := (K.trans hf912 jp).own hk13.1 hup3
 have hF2l := hH.lt
 have hF3l := hH3.lt
 have s24 := hf24.size
 have s28 := hf28.size
 have offU : ∀ y, w2.heap.size ≤ y → y < w8.heap.size → y ∉ h :: F2 ∧ y ∉ h :: F3 := fun y h1 h2 => by
  have h3 : y ∉ h :: F2 := fun hx => by have := hF2l y hx; omega
  exact ⟨h3, hk9.out h2 h3⟩
 have hUl := hoU.lt
 have hDl7 := hoD.lt
 have hf48 : Frm [] w4 w8 := hf57.trans hF8.frm jp
 have s48 := hf48.size
 have s78 := hF8.frm.size
 have s3 := hf3.size
 have s46 := (hf5.trans hf6 jp).size
 have s5 := hf5.size
 have hoU13 : Own w13 3 1 UB [0].length ud (ZN [0]) := (((hoU.frm hf48 jp).frm hk9.1 (fun y hy => (offU y (by have := hupU y hy; omega) (by have := hUl y hy; omega)).1)).frm hf912 jp).frm hk13.1 (fun y hy => (offU y (by have := hupU y hy; omega) (by have := hUl y hy; omega)).2)
 have hDA : ∀ y ∈ ob DA, w4.heap.size ≤ y := fun y hy => by
  rcases hobD with h1 | h1
  · rw [h1] at hy; simp [ob] at hy; omega
  rw [h1, za] at hy; omega
 have hDr13 : Rd w13 1 DA 200 (NB Dx) := (((hDr.frm hF8.frm jp).frm hk9.1 (fun _ y hy => (offU y (by have := hDA y hy; omega) (by have := hDl7 y hy; omega)).1)).frm hf912 jp).frm hk13.1 (fun _ y hy => (offU y (by have := hDA y hy; omega) (by have := hDl7 y hy; omega)).2)
 have hoV13 : Own w13 3 1 VB [1, 2, 3].length vd (ZN [1, 2, 3]) := (hoV.frm hF12.frm jp).frm hk13.1 (fun y hy hx => by have := hF3l y hx; have := hupV y hy; have := hf10.size; omega)
 have hrG13 : Rd w13 1 GB Dx.length (NB Dx) := ((hrG.frm hf11 jp).frm hF12.frm jp).frm hk13.1 (fun _ y hy hx => by have := hF3l y hx; have := hupG y hy; omega)
 obtain ⟨adU, hUA, hUc⟩ := rdZ hoU13.rd rfl (show 0 < [0].length by decide)
 obtain ⟨adV, hVA, hVc⟩ := rdZ hoV13.rd rfl (show 0 < [1, 2, 3].length by decide)
 obtain ⟨adV2, hVA2, hVc2⟩ := rdZ hoV13.rd rfl (show 2 < [1, 2, 3].length by decide)
 subst hUA hVA
 cases hVA2
 rw [hDl] at hrG13
 have hc2 : (qN bV (exL Dx)).2.N - cntS (qN bV (exL Dx)).2.N (qN bV (exL Dx)).2.used = 6 := by rw [(lV hi2).1, hw2, hN2]; rfl
 refine ja rfl (jO (jN (jv10 3 5 6 7 8 9 10 11 12 13 ?_)))
 refine jS (jR (jm rfl (jb rfl rfl (Bin.eqlN _ 9) (jM ?_))))
 refine jG ?_
 refine jk (Run.bin rfl rfl (Bin.eqlN _ 8)) ?_
 refine je (Run.pickT rfl rfl (rfl)) (jM ?_)
 refine jG ?_
 refine jk (Run.lenS rfl zt) ?_
 refine jk (Run.bin rfl rfl (Bin.eqlN _ 1)) ?_
 refine je (Run.pickT rfl rfl (rfl)) (jM ?_)
 refine jG ?_
 refine jk (Run.index1 0 rfl rfl zt zq jo) ?_
 refine jk (Run.load rfl zag hUc) ?_
 refine jk (Run.bin rfl rfl (Bin.eqlN _ 0)) ?_
 refine je (Run.pickT rfl rfl (rfl)) (jM ?_)
 refine jG ?_
 refine jk (Run.bin rfl rfl (Bin.eqlN _ 0)) ?_
 refine je (Run.pickT rfl rfl (rfl)) (jM ?_)
 refine jG ?_
 refine Ops.clg rfl au (jE1 Tryz.call51) (tL h g F4 _ q4 w13 hH4) rfl ?_
 rintro e w14 ⟨rfl, hf14⟩
 refine ⟨_, rfl, ?_⟩
 rw [hc2]
 refine jk (Run.bin rfl rfl (Bin.eqlN _ 6)) ?_
 refine je (Run.pickT rfl rfl (rfl)) (jM ?_)
 refine jG ?_
 refine jk (Run.lenS rfl zt) ?_
 refine jk (Run.bin rfl rfl (Bin.eqlN _ 3)) ?_
 refine je (Run.pickT rfl rfl (rfl)) (jM ?_)
 refine jG ?_
 refine jk (Run.index1 0 rfl rfl zt zq jo) ?_
 refine jk (Run.load rfl zag (by have := (hoV13.frm hf14 jp).rd; obtain ⟨a, e1, e2⟩ := rdZ this rfl (show 0 < [1, 2, 3].length by decide); cases e1; exact e2)) ?_
 refine jk (Run.bin rfl rfl (Bin.eqlN _ 1)) ?_
 refine je (Run.pickT rfl rfl (rfl)) (jM ?_)
 refine jG ?_
 refine jk (Run.index1 2 rfl rfl zt zq jo) ?_
 refine jk (Run.load rfl zag (by have := (hoV13.frm hf14 jp).rd; obtain ⟨a, e1, e2⟩ := rdZ this rfl (show 2 < [1, 2, 3].length by decide); cases e1; exact e2)) ?_
 refine jk (Run.bin rfl rfl (Bin.eqlN _ 3)) ?_
 refine je (Run.pickT rfl rfl (rfl)) (jM ?_)
 refine jG ?_
 refine jk (Run.strOf rfl ze zaz zdr (rdU (hDl ▸ hrG13.frm hf14 jp) hDb)) ?_
 refine jG ?_
 refine jk (Run.strOf rfl ze zaz zdr (rdU (hDr13.frm hf14 jp) hDb)) ?_
 refine jk (Run.eqlStr rfl rfl) ?_
 refine je (Run.pickT rfl rfl (rfl)) (jM ?_)
 refine jG ?_
 refine jk (Run.bin rfl rfl (Bin.eqlN _ 0)) ?_
 refine je (Run.pickT rfl rfl (decide_eq_true rfl)) (jM ?_)
 refine jG ?_
 refine jk (Run.bin rfl rfl (Bin.eqlN _ 6)) ?_
 refine je (Run.pickT rfl rfl (rfl)) (jm rfl (je (Run.pickT rfl rfl (rfl)) (jm rfl (je (Run.pickT rfl rfl (rfl)) (ja rfl (jO (jN (jv1 0 ?_))))))))
 refine jT ?_
 refine qB rfl ?_
 exact ⟨rfl, K.trans hf14 jp⟩
end
section
open Go.RowKit
theorem OwQ.rdc {b : Nat} {w : World} {X : List Nat} {S : Option Addr} {n : Nat} {l : List Cq} (h : OwQ b w X l) (hl : l.length = n) (hr : Rd w 3 S n (l.flatMap cqC)) (hn : ∀ x ∈ l, x.1 < 18446744073709551616 ∧ x.2.1.2.2.length ≤ 1000000) (ho : ∀ x ∈ l, ∀ b ∈ x.2.1.2.2, b < 256) : RdC w S n l :=
 ⟨hl, hr, fun x hx => ⟨(h.1 x hx).1.rd, (h.1 x hx).1.le⟩, hn, ho⟩
theorem OwQ.set {b : Nat} {w w' : World} {X : List Nat} {l : List Cq} (h : OwQ b w X l) {i : Nat} (hi : i < l.length) {ys : List Nat} (hy : ys.length = (l.getD i cq0).2.1.2.2.length)
  (ho : Own w' 5 1 (l.getD i cq0).2.1.1 (l.getD i cq0).2.1.2.2.length (l.getD i cq0).2.1.2.1 (NB ys)) (k : Frm (ob (l.getD i cq0).2.1.1) w w') :
  OwQ b w' X (l.set i ((l.getD i cq0).1, ((l.getD i cq0).2.1.1, (l.getD i cq0).2.1.2.1, ys), (l.getD i cq0).2.2)) := by
 have hg : l.getD i cq0 = l[i] := by rw [zc, zb hi]; rfl
 have hp := List.pairwise_iff_getElem.1 h.2
 have hob : ∀ j (hj : j < l.length), ob ((l.set i ((l.getD i cq0).1, ((l.getD i cq0).2.1.1, (l.getD i cq0).2.1.2.1, ys), (l.getD i cq0).2.2))[j]'(by simpa using hj)).2.1.1 = ob (l[j]).2.1.1 := fun j hj => by
  rw [zfk]
  by_cases e : i = j
  ·
   subst e
   rw [if_pos rfl, hg]
  rw [if_neg e]
 refine ⟨fun x hx => ?_, List.pairwise_iff_getElem.2 fun a c ha hc hac => ?_⟩
 ·
  obtain ⟨j, hj, rfl⟩ := zbn hx
  have hj' : j < l.length := by simpa using hj
  rw [zfk]
  by_cases e : i = j
  ·
   subst e
   rw [if_pos rfl]
   have h1 := (h.1 _ (lL hi)).2
   refine ⟨by dsimp only; rw [hy]; exact ho, fun y hy2 => ?_⟩
   have h2 := h1 y hy2
   exact ⟨⟨zz h2.1.1 k.size, h2.1.2⟩, h2.2⟩
  rw [if_neg e]
  have h1 := h.1 _ (zbe hj')
  refine ⟨h1.1.frm k (fun y hy2 hy3 => ?_), fun y hy2 => ⟨⟨zz (h1.2 y hy2).1.1 k.size, (h1.2 y hy2).1.2⟩, (h1.2 y hy2).2⟩⟩
  rw [hg] at hy3
  rcases zdg e with h3 | h3
  · exact hp i j hi hj' h3 y hy3 hy2
  exact hp j i hj' hi h3 y hy2 hy3
 have ha' : a < l.length := by simpa using ha
 have hc' : c < l.length := by simpa using hc
 rw [hob a ha', hob c hc']
 exact hp a c ha' hc' hac
theorem zQ {w : World} {S : Option Addr} {n : Nat} {l0 l : List Cq} (h : RdQ w S n l0) (hl : chL l = kD (chL l0)) : (∀ x ∈ l, x.1 < 18446744073709551616 ∧ x.2.1.2.2.length ≤ 1000000) ∧ (∀ x ∈ l, ∀ b ∈ x.2.1.2.2, b < 256) ∧ l.length ≤ 12 := by
 have key : ∀ x ∈ l, ∃ y ∈ l0, x.1 = y.1 ∧ x.2.1.2.2 = y.2.1.2.2.take 4040 := fun x hx => by
  have h1 : chO x ∈ kD (chL l0) := by rw [← hl]; exact List.mem_map.2 ⟨x, hx, rfl⟩
  obtain ⟨c, hc, he⟩ := List.mem_map.1 h1
  obtain ⟨y, hy, rfl⟩ := List.mem_map.1 (zn hc)
  have e1 := congrArg (·.1) he
  have e2 := congrArg (·.2.1) he
  exact ⟨y, hy, e1.symm, e2.symm⟩
 refine ⟨fun x hx => ?_, fun x hx b hb => ?_, ?_⟩
 ·
  obtain ⟨y, hy, e1, e2⟩ := key x hx
  rw [e1, e2, zi]
  exact ⟨(h.num y hy).1, jo⟩
 ·
  obtain ⟨y, hy, e1, e2⟩ := key x hx
  rw [e2] at hb
  exact h.oct y hy b (zn hb)
 rw [← lK, hl]
 exact qK0 _
end
section
open Go.RowKit Go.ChangeShapes Go.WideShapes Go.Deep
section
variable {H : Type} {enc : TypeId × Value → H} {w : World} {base : Nat} {spare : Nat → Bool} {held : Bool} {n : Nat} {cs : List Value} {x : DataW H × List MemPlace}
theorem wG (h : DataW.trod enc Tryz.prog w base spare held n 4 cs = some x) : ∃ b : Bool, cs = [.bool b] ∧ True := by
 obtain ⟨b, h1, _⟩ := DataW.trod_bool Tryz.underlying4 h
 exact ⟨b, h1, trivial⟩
theorem qX7 (h : DataW.trod enc Tryz.prog w base spare held n 63 cs = some x) : ∃ (A : Option Addr) (c : Nat) (bs : List Nat), cs = [.slice A bs.length c] ∧ bs.length ≤ c ∧ c ≤ 9223372036854775807 ∧ (∀ b ∈ bs, b < 256) ∧ Rd w 1 A bs.length (NB bs) := by
 obtain ⟨A, len, c, rfl⟩ := oH ze h
 obtain ⟨bs, rfl, h1, h2, h3, h4⟩ := qJ7 ze zaz jK h
 exact ⟨A, c, bs, rfl, h1, h2, h3, h4⟩
end
theorem qQj {H : Type} {enc : TypeId × Value → H} {w : World} {base : Nat} {spare : Nat → Bool} {held : Bool} {n : Nat} {cs : List Value} {x : DataW H × List MemPlace} (h : DataW.trod enc Tryz.prog w base spare held n 93 cs = some x) :
  ∃ (id : Int) (A : Option Addr) (c : Nat) (bs : List Nat) (gg : Bool), cs = ([.int .u64 id] ++ ([.slice A bs.length c] ++ ([.bool gg] ++ [] : List Value) : List Value) : List Value) ∧ ((Lit.int .u64 id).wf = true) ∧ (bs.length ≤ c ∧ c ≤ 9223372036854775807 ∧ (∀ b ∈ bs, b < 256) ∧ Rd w 1 A bs.length (NB bs)) ∧ (True) := by
 obtain ⟨hlen, n', hf⟩ := tM zac h
 have hl : cs.length = 3 := hlen.trans jK
 obtain ⟨a0, a1, a2, rfl⟩ : ∃ a0 a1 a2, cs = [a0, a1, a2] := by
  match cs, hl with
  | [a0, a1, a2], _ => exact ⟨a0, a1, a2, rfl⟩
 clear h hlen hl
 obtain ⟨y0, h0⟩ := hf 0 _ rfl
 have h0 : DataW.trod enc Tryz.prog w base spare held n' 54 ([a0, a1, a2].take (Tryz.prog.cellsOf 54)) = some y0 := h0
 rw [show Tryz.prog.cellsOf 54 = 1 by kernel_rfl] at h0
 have h0 : DataW.trod enc Tryz.prog w base spare held n' 54 [a0] = some y0 := h0
 obtain ⟨id, e0, q0⟩ := xJ zu h0
 obtain ⟨y1, h1⟩ := hf 1 _ rfl
 have h1 : DataW.trod enc Tryz.prog w base spare held n' 63 ([a1, a2].take (Tryz.prog.cellsOf 63)) = some y1 := h1
 rw [show Tryz.prog.cellsOf 63 = 1 by kernel_rfl] at h1
 have h1 : DataW.trod enc Tryz.prog w base spare held n' 63 [a1] = some y1 := h1
 obtain ⟨A, c, bs, e1, q1⟩ := qX7 h1
 obtain ⟨y2, h2⟩ := hf 2 _ rfl
 have h2 : DataW.trod enc Tryz.prog w base spare held n' 4 ([a2].take (Tryz.prog.cellsOf 4)) = some y2 := h2
 rw [show Tryz.prog.cellsOf 4 = 1 by kernel_rfl] at h2
 have h2 : DataW.trod enc Tryz.prog w base spare held n' 4 [a2] = some y2 := h2
 obtain ⟨gg, e2, q2⟩ := wG h2
 refine ⟨id, A, c, bs, gg, ?_, q0, q1, q2⟩
 show ([a0] ++ ([a1] ++ ([a2] ++ [] : List Value) : List Value) : List Value) = _
 rw [e0, e1, e2]
 try rfl
section
variable {H : Type} {enc : TypeId × Value → H} {w : World} {base : Nat} {spare : Nat → Bool} {held : Bool}
def zX (w : World) (y : Cq) : Prop := (y.1 < 18446744073709551616 ∧ y.2.1.2.2.length ≤ 9223372036854775807) ∧ (∀ b ∈ y.2.1.2.2, b < 256) ∧ Rd w 1 y.2.1.1 y.2.1.2.2.length (NB y.2.1.2.2) ∧ y.2.1.2.2.length ≤ y.2.1.2.1
theorem qQk {n : Nat} {cs : List Value} {x : DataW H × List MemPlace} (h : DataW.trod enc Tryz.prog w base spare held n 93 cs = some x) : ∃ y : Cq, cs = cqC y ∧ zX w y := by
 obtain ⟨id, A, c, bs, gg, rfl, h0, ⟨h1, h2, h3, h4⟩, -⟩ := qQj h
 have hid : 0 ≤ id ∧ id < 18446744073709551616 := by
  simp [Lit.wf, IntKind.min, IntKind.max, IntKind.signed, IntKind.bits] at h0
  omega
 refine ⟨(id.toNat, (A, c, bs), gg), ?_, ⟨by dsimp only; omega, by dsimp only; omega⟩, h3, h4, h1⟩
 show [Value.int .u64 id, .slice A bs.length c, .bool gg] = [.int .u64 ((id.toNat : Nat) : Int), SL (A, c, bs), .bool gg]
 rw [zfq hid.1]
 rfl
theorem uV {fuel len cap : Nat} {a : Option Addr} {x : DataW H × List MemPlace} (h : DataW.trod enc Tryz.prog w base spare held fuel 31 [.slice a len cap] = some x) :
  ∃ l : List Cq, l.length = len ∧ len ≤ cap ∧ cap ≤ 9223372036854775807 ∧ Rd w 3 a l.length (l.flatMap cqC) ∧ ∀ y ∈ l, zX w y := by
 have hC : Tryz.prog.cellsOf 93 = 3 := by kernel_rfl
 rcases open_slice zan h with ⟨hcs, _⟩ | ⟨ad, l, c, m, n, D, Pl, hcs, _, hl, hm, hmm, _, hi⟩
 ·
  simp only [List.cons.injEq, Value.slice.injEq, and_true] at hcs
  obtain ⟨rfl, rfl, rfl⟩ := hcs
  exact ⟨[], rfl, zp _, jo, Rd.nil _ _ _, jp⟩
 simp only [List.cons.injEq, Value.slice.injEq, and_true] at hcs
 obtain ⟨rfl, rfl, rfl⟩ := hcs
 have hml : len ≤ m := by rw [hmm]; split <;> omega
 rw [hC] at hi
 have key : ∀ i, i < len → ∃ y : Cq, (∀ j, j < 3 → w.cell? ((ad.add (i * 3)).add j) = (cqC y)[j]?) ∧ zX w y := by
  intro i hil
  obtain ⟨cs', hc, ht'⟩ := hi i jo
  obtain ⟨_, hcl, hat⟩ := World.cells?_some hc
  obtain ⟨y, rfl, h1⟩ := qQk ht'
  exact ⟨y, fun j hj => hat j hj, h1⟩
 obtain ⟨ls, hll, hq⟩ := kY len key
 have hlen : (ls.flatMap cqC).length = ls.length * 3 := lG cqC 3 oX ls
 have hcell : ∀ j u, (ls.flatMap cqC)[j]? = some u → w.cell? (ad.add j) = some u := by
  intro j u hu
  rw [sP cqC 3 jo oX] at hu
  obtain ⟨y, hy, hu'⟩ := Option.bind_eq_some_iff.1 hu
  have := (hq _ y hy).1 (j % 3) (Nat.mod_lt _ jo)
  rw [Go.Proofs.YtoniopdkbeogjaaGreat.add_add, zdj, Nat.div_add_mod] at this
  rw [this, hu']
 refine ⟨ls, hll, hl, by simpa [maxLen] using hm, ⟨by rw [hlen], fun hn => ⟨ad, rfl, ?_, hcell⟩⟩, fun y hy => ?_⟩
 ·
  have h0 : 0 < (ls.flatMap cqC).length := by rw [hlen]; omega
  have := World.block_lt_of_cell? w _ (hcell 0 _ (zb h0))
  rwa [eJ] at this
 obtain ⟨i, hi', hli⟩ := zbn hy
 exact (hq i y (by rw [zb hi', hli])).2
theorem zZ {n : Nat} {cs : List Value} {x : DataW H × List MemPlace} (h : DataW.trod enc Tryz.prog w base spare held n 31 cs = some x) : ∃ (A : Option Addr) (c : Nat) (l : List Cq), cs = [.slice A l.length c] ∧ l.length ≤ c ∧ c ≤ 9223372036854775807 ∧ Rd w 3 A l.length (l.flatMap cqC) ∧ ∀ y ∈ l, zX w y := by
 obtain ⟨A, len, c, rfl⟩ := oH zan h
 obtain ⟨l, rfl, h1, h4, h2, h3⟩ := uV h
 exact ⟨A, c, l, rfl, h1, h4, h2, h3⟩
end
abbrev Bt := Option Addr × Nat × List Cq
def btV (x : Bt) : Value := .slice x.1 x.2.2.length x.2.1
section
variable {H : Type} {enc : TypeId × Value → H} {w : World} {base : Nat} {spare : Nat → Bool} {held : Bool}
theorem qX8 {fuel len cap : Nat} {a : Option Addr} {x : DataW H × List MemPlace} (h : DataW.trod enc Tryz.prog w base spare held fuel 22 [.slice a len cap] = some x) :
  ∃ l : List Bt, l.length = len ∧ len ≤ cap ∧ cap ≤ 9223372036854775807 ∧ (∀ y ∈ l, y.2.2.length ≤ y.2.1 ∧ y.2.1 ≤ 9223372036854775807 ∧ RdQ w y.1 y.2.2.length y.2.2) ∧ Rd w 1 a len (l.map btV) := by
 obtain ⟨l, h1, h2, h3, h4, h5⟩ := vW btV (fun y => y.2.2.length ≤ y.2.1 ∧ y.2.1 ≤ 9223372036854775807 ∧ RdQ w y.1 y.2.2.length y.2.2) zgk jK (fun v n y hh => by
  obtain ⟨A, c, l, hc, h1, h4, h2, h3⟩ := zZ hh
  exact ⟨(A, c, l), (List.cons.inj hc).1, h1, h4, rfl, h2, fun z hz => ⟨(h3 z hz).2.2.1, (h3 z hz).2.2.2⟩, fun z hz => (h3 z hz).1, fun z hz => (h3 z hz).2.1⟩) h
 exact ⟨l, h1, h2, h3, h5, h4⟩
end
end
section
open Go.RowKit
def bt0 : Bt := (none, 0, [])
theorem qVe {w : World} {S : Option Addr} {n : Nat} {L : List Bt} (h : Rd w 1 S n (L.map btV)) (hn : L.length = n) {k : Nat} (hk : k < n) : ∃ ad, S = some ad ∧ w.cell? (ad.add k) = some (btV (L.getD k bt0)) := by
 obtain ⟨ad, h1, _, hc⟩ := h.2 jo
 exact ⟨ad, h1, hc k _ (by simp [zc, zb (jo : k < L.length)])⟩
theorem qW0 {L : List Bt} {k : Nat} (hk : k < L.length) : L.getD k bt0 ∈ L := by
 rw [zc, zb hk]
 exact zbe hk
end
section
open Go.RowKit
def ndV (A kA : Option Addr) (n pc kn kc : Nat) (i : Bool) : Array Value := #[.slice A n pc, .slice kA kn kc, .bool i]
theorem uL (A kA : Option Addr) (n pc kn kc : Nat) (i : Bool) : ∀ u ∈ (ndV A kA n pc kn kc i).toList, u.oneCell' = true := by
 intro u hu
 simp only [ndV, zx, zaf, or_false] at hu
 rcases hu with rfl | rfl | rfl <;> rfl
structure NdQ where
 i : Nat
 pA : Option Addr
 pc : Nat
 ps : List Pr
 kA : Option Addr
 kc : Nat
 ks : List Kd
structure IsNd (w0 w : World) (g2 g8 : Nat) (b : List Nat) (s : NdQ) : Prop where
 b2 : Blk w g2 222 (ndV none none 0 0 0 0 false)
 b8 : Blk w g8 222 (ndV s.pA s.kA s.ps.length s.pc s.ks.length s.kc (decide (b.getD 0 0 = 2)))
 P : Own w 128 2 s.pA s.ps.length s.pc (PC2 s.ps)
 Kr : Own w 214 2 s.kA s.ks.length s.kc (KC s.ks)
 eq : s.ps = if b.getD 0 0 = 2 then [] else (List.range s.i).map fun i => (fM b (2 + 16 * i), fM b (10 + 16 * i))
 lp : s.ps.length ≤ s.i ∧ s.ks.length ≤ s.i
 K : Frm [] w0 w
 up : (∀ x ∈ ob s.pA, g8 < x) ∧ ∀ x ∈ ob s.kA, g8 < x
theorem qXb {b : List Nat} {a : Nat} (h : a + 8 ≤ b.length) : numV b a 8 = fM b a := (kJ h).2
theorem mL (A : Option Addr) (c L a n : Nat) (bs : List Nat) (w : World) (hl : bs.length = L) (hLb : L ≤ 1000000) (ha : a ≤ 1000000) (h1 : 1 ≤ n) (h8 : n ≤ 8) (hB : ∀ b ∈ bs, b < 256) (hr : Rd w 1 A L (NB bs)) :
  Calls Tryz.prog 160 #[.slice A L c, .int .i64 ((a : Nat) : Int), .int .i64 ((n : Nat) : Int)] w fun e w' => e = .returned (.int .u64 ((numV bs a n : Nat) : Int)) ∧ w = w' := by
 refine VC.calls (nt := 17) (res := #[.tmp 6]) Tryz.func160 rfl Tryz.ntmps160 Tryz.results160 rfl ?_
 refine jS (jR ?_)
 refine jy .u64 0 ?_
 refine jO (jN (jv3 0 1 2 ?_))
 refine jS (jR (jm rfl (jm rfl (jM ?_))))
 refine Ops.cl (jE3 zfw) (gU A c L a n bs w hl jo jo h1 h8 hB hr) rfl ?_
 rintro e _ ⟨rfl, rfl⟩
 refine ⟨_, rfl, ?_⟩
 refine jm rfl (je (Run.extract rfl rfl) (je (Run.extract rfl rfl) (ja rfl (ja rfl (jO (jN (jv1 7 ?_)))))))
 refine jS (jR (jm rfl (ja rfl (jO (jN (jv1 6 ?_))))))
 refine jT ?_
 refine qB rfl ?_
 exact ⟨rfl, rfl⟩
set_option maxHeartbeats 1000000 in
theorem qX9 (A : Option Addr) (c : Nat) (b : List Nat) (w : World) (hp : nK b) (hc : 128 ≤ c) (hB : ∀ x ∈ b, x < 256) (hr : Rd w 1 A 128 (NB b)) :
  Calls Tryz.prog 148 #[.slice A 128 c] w fun e w' => Frm [] w w' ∧ ∃ PA pc kA kn kc inn, e = .returned (.tuple #[.agg (ndV PA kA (cO b).length pc kn kc inn), .bool true]) ∧ Rd w' 2 PA (cO b).length (PC2 (cO b)) ∧ ∀ x ∈ ob PA, w.heap.size ≤ x := by
 obtain ⟨hl, hk, hpg⟩ := hp
 obtain ⟨ad, rfl, _, _⟩ := hr.2 jo
 have hcl : ∀ V, Frm [] w V → ∀ i, i < 128 → V.cell? (ad.add i) = some (.int .u8 ((b.getD i 0 : Nat) : Int)) := fun V hV i hi => by
  obtain ⟨ad2, he, h2⟩ := kZ (hr.frm hV jp) hl hi
  cases he
  exact h2
 have hrV : ∀ V, Frm [] w V → Rd V 1 (some ad) 128 (NB b) := fun V hV => hr.frm hV jp
 obtain ⟨k0, hk0⟩ : ∃ k0, k0 = b.getD 0 0 := ⟨_, rfl⟩
 obtain ⟨k1, hk1⟩ : ∃ k1, k1 = b.getD 1 0 := ⟨_, rfl⟩
 rw [← hk0, ← hk1] at hpg
 rw [← hk0, ← hk1] at hk
 have hc0 : ∀ V, Frm [] w V → V.cell? (ad.add 0) = some (.int .u8 ((k0 : Nat) : Int)) := fun V hV => by rw [hk0]; exact hcl V hV 0 jo
 have hc1 : ∀ V, Frm [] w V → V.cell? (ad.add 1) = some (.int .u8 ((k1 : Nat) : Int)) := fun V hV => by rw [hk1]; exact hcl V hV 1 jo
 have hp1 : cO b = if k0 = 2 then [] else (List.range k1).map fun i => (fM b (2 + 16 * i), fM b (10 + 16 * i)) := by rw [hk0, hk1]; rfl
 refine VC.calls (nt := 100) (res := #[.cell 2 222, .tmp 3]) Tryz.func148 rfl Tryz.ntmps148 Tryz.results148 rfl ?_
 refine jS (jR ?_)
 refine Ops.m (qZ.alloc rR) rfl ?_
 rintro _ w1 ⟨rfl, hF1⟩
 have hb2 : Blk w1 w.heap.size 222 (ndV none none 0 0 0 0 false) := hF1.blk
 have K := hF1.frm
 have q1 := hF1.size
 generalize hg2 : w.heap.size = g2 at hb2 q1 ⊢
 refine ja rfl (jO (jN (jv2 0 2 ?_)))
 refine jS (jS (jR (jm rfl (je (Run.lenS rfl ze) (jb rfl rfl (Bin.neqN _ 128) (jO (jN (jv3 0 2 13 ?_))))))))
 refine VC.condF rfl (rfl) ?_
 refine jQ (jN (jv2 0 2 ?_))
 refine jS (jR (jm rfl (je (Run.index1 1 rfl rfl ze zae jo) (jl rfl zcv (hc1 _ K) (je (Run.convN _ rfl zaz zab (by simp only [bmax]; omega)) (ja rfl (jO (jN (jv3 0 2 4 ?_)))))))))
 refine jS (jR (jz 16 (jz 7 (jO (jN (jS (jB (jS (jR (jm rfl (je (Run.index1 0 rfl rfl ze zae jo) (jl rfl zcv (hc0 _ K) (jb rfl rfl (Bin.eqlN _ 2) (ja rfl (jO (jN (jv6 0 2 4 5 6 19 ?_)))))))))))))))))
 refine VC.meet (σ := Nat × Nat) (fun s => [(0, .slice (some ad) 128 c), (2, .pointer (some ⟨g2, 0, none⟩)), (4, .int .i64 ((k1 : Nat) : Int)), (5, .int .i64 ((s.1 : Nat) : Int)), (6, .int .i64 ((s.2 : Nat) : Int))]) (fun s wz => w1 = wz ∧ (k0 = 2 ∧ s.1 = 10 ∧ s.2 = 12 ∨ k0 = 1 ∧ s.1 = 16 ∧ s.2 = 7)) ?_ ?_
 ·
  refine jD rfl (fun hc2 => ?_) fun hc2 => ?_
  ·
   refine jR (jz 10 (jz 12 (jO ?_)))
   refine jN ⟨(10, 12), (js5 rfl rfl rfl rfl rfl), ?_⟩
   exact ⟨rfl, .inl ⟨hc2, rfl, rfl⟩⟩
  refine jS (jR (jm rfl (je (Run.index1 0 rfl rfl ze zae jo) (jl rfl zcv (hc0 _ K) (jb rfl rfl (Bin.neqN _ 1) (ja rfl (jO (jN (jv6 0 2 4 5 6 24 ?_)))))))))
  refine VC.condF rfl (decide_eq_false jo) ?_
  refine jQ ?_
  refine jN ⟨(16, 7), (js5 rfl rfl rfl rfl rfl), ?_⟩
  exact ⟨rfl, .inr ⟨jo, rfl, rfl⟩⟩
 rintro ⟨ea, mo⟩ _ ⟨rfl, hem⟩ Γ hΓ
 dsimp only at hem hΓ
 have hsz : ea * k1 ≤ 120 := by
  rcases hem with ⟨_, h, _⟩ | ⟨_, h, _⟩
  · rw [h]; omega
  rw [h]; omega
 have hcut : Rd w1 1 (some ad) (2 + ea * k1) (NB (b.take (2 + ea * k1))) := by
  have h1 := (hrV _ K).cut (l := 0) (r := 2 + ea * k1) (cap := c) (zg _) jo hc
  rw [cT, zbk, zcz, zbb, zcm, (lO _ _).1] at h1
  exact h1
 have hea : ea = qXy k0 := by
  rcases hem with ⟨h0, h, _⟩ | ⟨h0, h, _⟩ <;> rw [h, h0] <;> rfl
 rw [← hea] at hpg
 refine qH (jN (VC.sub _ hΓ ?_))
 refine jS (jS ?_)
 refine VC.split1 [(0, _), (2, _), (4, _), (5, _)] (js4 rfl rfl rfl rfl) 42 (.bool (decide (mo < k1 ∨ k0 = 2 ∧ k1 = 0))) ?_ ?_
 ·
  refine jR ?_
  refine jm rfl (jm rfl (jb rfl rfl (Bin.gtrN _ _) ?_))
  by_cases hs32 : mo < k1
  ·
   refine jM ?_
   refine jU ?_
   refine jU ?_
   refine jU ?_
   refine jU ?_
   refine jU ?_
   refine Ops.skU rfl rfl ?_
   refine Ops.skU rfl rfl ?_
   refine jU ?_
   refine je (Run.pickT rfl rfl au) (jO ?_)
   refine jN ⟨(js5 (jC (by grind)) rfl rfl rfl rfl), rfl⟩
  refine jM ?_
  refine jG ?_
  refine jk (Run.index1 0 rfl rfl ze zae jo) ?_
  refine jk (Run.load rfl zcv (hc0 _ K)) ?_
  refine jk (Run.bin rfl rfl (Bin.eqlN _ 2)) ?_
  by_cases hs37 : k0 = 2
  ·
   refine jG ?_
   refine jG ?_
   refine jk (Run.bin rfl rfl (Bin.eqlN _ 0)) ?_
   by_cases hs40 : k1 = 0
   ·
    refine jk (Run.pickT rfl rfl au) ?_
    refine je (Run.pickF rfl rfl au) (jO ?_)
    refine jN ⟨(js5 (jC (by grind)) rfl rfl rfl rfl), rfl⟩
   refine jk (Run.pickT rfl rfl au) ?_
   refine je (Run.pickF rfl rfl au) (jO ?_)
   refine jN ⟨(js5 (jC (by grind)) rfl rfl rfl rfl), rfl⟩
  refine jG ?_
  refine jU ?_
  refine jU ?_
  refine jk (Run.pickF rfl rfl au) ?_
  refine je (Run.pickF rfl rfl au) (jO ?_)
  refine jN ⟨(js5 (jC (by grind)) rfl rfl rfl rfl), rfl⟩
 intro Γ hΓ
 refine jN (VC.sub _ hΓ ?_)
 refine VC.condF rfl (decide_eq_false jo) ?_
 refine jQ (jN (jv4 0 2 4 5 ?_))
 refine jS (jR (jm rfl (jm rfl (jb rfl rfl (Bin.mul_i64 _ _ jo) (jb rfl rfl (Bin.add_i64 2 _ jo) (ja rfl (jO (jN (jv5 0 2 4 5 7 ?_)))))))))
 refine jS (jS (jR (jm rfl (jm rfl (je (Run.sliceS 0 _ rfl ze zae evB.none_ (evB.some_ rfl) jo jo) ?_)))))
 rw [cT, zbk]
 refine Ops.cl (jE1 Tryz.call142) (oS (some ad) _ (2 + ea * k1) (b.take (2 + ea * k1)) _ (by rw [zi]; omega) jo (fun x hx => hB x (zn hx)) hcut) rfl ?_
 rintro e w3 ⟨PB, pd, rfl, hoP, hf3, hupP⟩
 refine ⟨_, rfl, ?_⟩
 rw [hpg] at hoP
 refine jM ?_
 refine Ops.cl (jE2 Tryz.call113) (lE PB (some ad) 128 128 pd c b b w3 hl hl hB hB hoP.rd (hrV _ (K.trans hf3 jp))) rfl ?_
 rintro e _ ⟨rfl, rfl⟩
 refine ⟨_, rfl, ?_⟩
 refine je (Run.not rfl) (jO (jN (jv5 0 2 4 5 54 ?_)))
 refine VC.condF rfl (by simp [hpg]) ?_
 refine jQ (jN (jv4 0 2 4 5 ?_))
 refine jS (jR (jm rfl (je (Run.index1 0 rfl rfl ze zae jo) (jl rfl zcv (hc0 _ (K.trans hf3 jp)) (jb rfl rfl (Bin.eqlN _ 2) (je (Run.build (evs.cons rfl evs.nil) rR (vK).choose_spec.1 (vK).choose_spec.2 (cells := ndV none none 0 0 0 0 (decide (k0 = 2))) rfl) ?_))))))
 refine Ops.m (qZ.alloc rR) rfl ?_
 rintro _ w4 ⟨rfl, hF4⟩
 have K4 := K.trans hf3 jp
 have q3 := hf3.size
 have q4 := hF4.size
 have hb24 := (hb2.frm hf3 jp).frm hF4.frm jp
 have h28 : g2 < w3.heap.size := by have := hb2.lt; omega
 have K4 := K4.trans hF4.frm jp
 refine Ops.st (qS.storeA rfl rfl zgf hF4.blk rfl (uL _ _ _ _ _ _ _)) ?_
 rintro w5 ⟨hb8, hf5, hs5⟩
 have hb8 : Blk w5 w3.heap.size 222 (ndV none none 0 0 0 0 (decide (k0 = 2))) := hb8
 generalize hg8 : w3.heap.size = g8 at *
 have hb25 := hb24.frm hf5 (by simp; omega)
 have K5 := K4.own hf5 (by simp; omega)
 have hnd : IsNd w w5 g2 g8 b ⟨0, none, 0, [], none, 0, []⟩ := ⟨hb25, by rw [← hk0]; exact hb8, Own.nil _ _ _, Own.nil _ _ _, by split <;> rfl, ⟨zp _, zp _⟩, K5, by simp [ob], by simp [ob]⟩
 refine jO (jN (jv5 0 2 4 5 8 ?_))
 refine jS (jS (jR (jM ?_)))
 refine jx .i64 0 ?_
 refine jO (jN (jv6 0 2 5 8 61 62 ?_))
 refine jB ?_
 refine VC.loop (σ := NdQ) (fun s => [(0, .slice (some ad) 128 c), (2, .pointer (some ⟨g2, 0, none⟩)), (5, .int .i64 ((ea : Nat) : Int)), (8, .pointer (some ⟨g8, 0, none⟩)), (61, .int .i64 ((k1 : Nat) : Int)), (62, .int .i64 ((s.i : Nat) : Int))]) (fun s wr => s.i ≤ k1 ∧ IsNd w wr g2 g8 b s) (fun s => k1 - s.i) ⟨0, none, 0, [], none, 0, []⟩ (js6 rfl rfl rfl rfl rfl rfl) ⟨zg _, hnd⟩ ?_
 rintro ⟨i, pA, pc, ps, kA, kc, ks⟩ wr ⟨hi, hb2, hb8, hP, hKr, hpse, ⟨hlp, hlk⟩, K, hup⟩
 dsimp only at hi hb8 hP hKr hpse hlp hlk hup ⊢
 rw [← hk0] at hb8 hpse
 have ks0 := K.size
 have q8 := hb8.lt
 have n8p : g8 ∉ ob pA := fun h => zbv _ (hup.1 _ h)
 have n8k : g8 ∉ ob kA := fun h => zbv _ (hup.2 _ h)
 have hg2w : w.heap.size = g2 := hg2
 have hup1 : ∀ x ∈ ob pA, w.heap.size ≤ x := fun x hx => by have := hup.1 x hx; omega
 have hup2 : ∀ x ∈ ob kA, w.heap.size ≤ x := fun x hx => by have := hup.2 x hx; omega
 have n2p : g2 ∉ ob pA := fun h => by have := hup.1 _ h; omega
 have n2k : g2 ∉ ob kA := fun h => by have := hup.2 _ h; omega
 refine jS (jR (jb rfl rfl (Bin.lssN _ _) (jO (jN (jS ?_)))))
 refine jD rfl (fun hc6 => ?_) fun hc6 => ?_
 ·
  have hmi : ea * i + ea ≤ ea * k1 := by
   have := Nat.mul_le_mul_left ea (jo : i + 1 ≤ k1)
   rw [Nat.mul_succ] at this
   exact this
  refine jQ (jN (jv6 0 2 5 8 61 62 ?_))
  refine jS (jB (jS (jR (jm rfl (ja rfl (jO (jN (jv7 0 2 5 8 9 61 62 ?_))))))))
  refine jS (jR (jm rfl (jm rfl (jb rfl rfl (Bin.mul_i64 _ _ jo) (jb rfl rfl (Bin.add_i64 2 _ jo) (ja rfl (jO (jN (jv7 0 2 5 8 10 61 62 ?_)))))))))
  refine jS (jR (jf rfl zdf rfl zbu (jl rfl zds (hb8.cell 2) (jO (jN (jv8 0 2 5 8 10 61 62 70 ?_))))))
  refine VC.condB rfl (fun hc7 => ?_) (fun hc7 => ?_)
  ·
   have hk2 : k0 = 2 := by simpa using hc7
   obtain rfl : ea = 10 := jo
   have hv2 := uU hB (2 + 10 * i + 8)
   rw [← (kJ (hd := b) (a := 2 + 10 * i + 8) (n := 2) jo).2] at hv2
   refine VC.heldL 14 (fun V => Frm (ob kA) wr V) jK ?_
   have hS : Frm (ob kA) wr wr.drew := (Frm.refl _ _).drew
   refine jH 0 rfl hS (fun w0 hw0 => Run.fieldAddr rfl zdf rfl zgc jd) ?_
   refine jH 1 rfl hS (fun w0 hw0 => Run.load rfl zfo ((hb8.frm hw0 n8k).cell 1)) ?_
   refine jH 2 rfl hS (fun w0 hw0 => Run.mv rfl) ?_
   refine jH 3 rfl hS (fun w0 hw0 => Run.mv rfl) ?_
   refine jH 5 rfl hS (fun w0 hw0 => Run.mv rfl) ?_
   refine jH 6 rfl hS (fun w0 hw0 => Run.mv rfl) ?_
   refine jH 7 rfl hS (fun w0 hw0 => Run.bin rfl rfl (Bin.add_i64 _ 8 jo)) ?_
   refine qQ.cl 4 rfl jK (jE3 Tryz.call160) (mL (some ad) c 128 (2 + 10 * i) 8 b _ hl jo jo jo jo hB (hrV _ (K.own hS hup2))) trivial rfl rfl ?_
   rintro e _ ⟨rfl, rfl⟩
   refine ⟨_, rfl, hS, ?_⟩
   refine qQ.cl 8 rfl jK (jE3 Tryz.call160) (mL (some ad) c 128 (2 + 10 * i + 8) 2 b _ hl jo jo jo jo hB (hrV _ (K.own hS hup2))) trivial rfl rfl ?_
   rintro e _ ⟨rfl, rfl⟩
   refine ⟨_, rfl, hS, ?_⟩
   refine qQ.r1 9 rfl jK hS (Run.convN _ rfl zu zab (by simp only [bmax]; omega)) trivial rfl rfl ?_
   refine qQ.r1 10 rfl jK hS (Run.build (evs.cons rfl (evs.cons rfl evs.nil)) jI (gR).choose_spec.1 (gR).choose_spec.2 (cells := (kdC (numV b (2 + 10 * i) 8, numV b (2 + 10 * i + 8) 2)).toArray) rfl) trivial rfl rfl ?_
   refine qQ.m 11 rfl jK (qZ.buildS1 rfl zbh zde jI jd jd rfl rfl) trivial rfl rfl ?_
   rintro _ w6 ⟨rfl, hF6⟩
   have hS := hS.trans hF6.frm jp
   refine ⟨hS, ?_⟩
   have k6 : Frm [] wr w6 := (qV.drew wr).frm.trans hF6.frm jp
   have hr6 : Rd w6 2 (some ⟨wr.drew.heap.size, 0, none⟩) 1 (kdC (numV b (2 + 10 * i) 8, numV b (2 + 10 * i + 8) 2)) := Rd.of_blk (n := 1) (size := 2) hF6.blk rfl
   have hK6 := hKr.frm k6 jp
   refine qQ.m 12 rfl jK (qZ.app rfl rfl zbh (uM) rfl jd hK6 hr6 (rC _) jo jo) trivial rfl rfl ?_
   rintro _ w7 ⟨B7, d7, rfl, ho7, hf7, hob7⟩
   have hS := hS.trans hf7 (fun x hx => .inl hx)
   refine ⟨hS, ?_⟩
   rw [← uB] at ho7
   have hb87 := (hb8.frm k6 jp).frm hf7 n8k
   have hup7 : ∀ x ∈ ob B7, g8 < x := (Fk.of_app hf7 hob7).up (b := g8 + 1) hup.2 (by have := k6.size; omega)
   refine qQ.r1 13 rfl jK hS (Run.fieldAddr rfl zdf rfl zgc jd) trivial rfl rfl ?_
   refine qQ.stL rfl jK (qS.store rfl rfl zgc hb87 rfl rfl) trivial rfl ?_
   rintro w8 ⟨hb88, hf8, hs8⟩
   have hf8 : Frm [g8] w7 w8 := hf8
   have hb88 : Blk w8 g8 222 (ndV pA B7 ps.length pc (ks.length + 1) d7 (decide (k0 = 2))) := hb88
   have K8 := (K.own hS hup2).own hf8 (by simp; omega)
   have kk8 : Frm (g8 :: ob kA) wr w8 := (hS.mono (fun x hx => .inl (by simp [hx]))).trans hf8 (fun x hx => .inl (by simp at hx; simp [hx]))
   have hP8 := hP.frm kk8 (fun x hx h => by
    rcases zx.1 h with rfl | h
    · exact n8p hx
    exact hP.ne_own hKr jd x hx h)
   have ho8 := ho7.frm hf8 (fun x hx h => by rw [za] at h; have := hup7 x hx; omega)
   have hb28 := hb2.frm kk8 (fun h => by
    rcases zx.1 h with h | h
    · omega
    exact n2k h)
   refine qQ.done jK ?_
   refine qH (jN ?_)
   refine jv6 0 2 5 8 61 62 ?_
   refine jR (jb rfl rfl (Bin.add_i64 _ 1 jo) (jm rfl (jO ?_)))
   refine jN ⟨⟨i + 1, pA, pc, ps, B7, d7, ks ++ [(numV b (2 + 10 * i) 8, numV b (2 + 10 * i + 8) 2)]⟩, (js6 rfl rfl rfl rfl rfl rfl), ?_, ?_⟩
   · exact ⟨hc6, hb28, by dsimp only; rw [zd, ← hk0]; exact hb88, hP8, by dsimp only; rw [zd]; exact ho8, by dsimp only; rw [hpse, ← hk0, if_pos hk2, if_pos hk2], ⟨by dsimp only; omega, by dsimp only; rw [zd, zcc]; omega⟩, K8, hup.1, hup7⟩
   first | omega | (dsimp only; omega)
  have hk2 : k0 ≠ 2 := by simpa using hc7
  obtain rfl : ea = 16 := jo
  refine VC.heldL 13 (fun V => Frm (ob pA) wr V) jK ?_
  have hS : Frm (ob pA) wr wr.drew := (Frm.refl _ _).drew
  refine jH 0 rfl hS (fun w0 hw0 => Run.fieldAddr rfl zdf rfl zap jd) ?_
  refine jH 1 rfl hS (fun w0 hw0 => Run.load rfl zbq ((hb8.frm hw0 n8p).cell 0)) ?_
  refine jH 2 rfl hS (fun w0 hw0 => Run.mv rfl) ?_
  refine jH 3 rfl hS (fun w0 hw0 => Run.mv rfl) ?_
  refine jH 5 rfl hS (fun w0 hw0 => Run.mv rfl) ?_
  refine jH 6 rfl hS (fun w0 hw0 => Run.mv rfl) ?_
  refine jH 7 rfl hS (fun w0 hw0 => Run.bin rfl rfl (Bin.add_i64 _ 8 jo)) ?_
  refine qQ.cl 4 rfl jK (jE3 Tryz.call160) (mL (some ad) c 128 (2 + 16 * i) 8 b _ hl jo jo jo jo hB (hrV _ (K.own hS hup1))) trivial rfl rfl ?_
  rintro e _ ⟨rfl, rfl⟩
  refine ⟨_, rfl, hS, ?_⟩
  refine qQ.cl 8 rfl jK (jE3 Tryz.call160) (mL (some ad) c 128 (2 + 16 * i + 8) 8 b _ hl jo jo jo jo hB (hrV _ (K.own hS hup1))) trivial rfl rfl ?_
  rintro e _ ⟨rfl, rfl⟩
  refine ⟨_, rfl, hS, ?_⟩
  refine qQ.r1 9 rfl jK hS (Run.build (evs.cons rfl (evs.cons rfl evs.nil)) eE (mW).choose_spec.1 (mW).choose_spec.2 (cells := (prC (numV b (2 + 16 * i) 8, numV b (2 + 16 * i + 8) 8)).toArray) rfl) trivial rfl rfl ?_
  refine qQ.m 10 rfl jK (qZ.buildS1 rfl zh zl eE jd jd rfl rfl) trivial rfl rfl ?_
  rintro _ w6 ⟨rfl, hF6⟩
  have hS := hS.trans hF6.frm jp
  refine ⟨hS, ?_⟩
  have k6 : Frm [] wr w6 := (qV.drew wr).frm.trans hF6.frm jp
  have hr6 : Rd w6 2 (some ⟨wr.drew.heap.size, 0, none⟩) 1 (prC (numV b (2 + 16 * i) 8, numV b (2 + 16 * i + 8) 8)) := Rd.of_blk (n := 1) (size := 2) hF6.blk rfl
  have hP6 := hP.frm k6 jp
  refine qQ.m 11 rfl jK (qZ.app rfl rfl zh (nT) rfl jd hP6 hr6 (eI _) jo jo) trivial rfl rfl ?_
  rintro _ w7 ⟨B7, d7, rfl, ho7, hf7, hob7⟩
  have hS := hS.trans hf7 (fun x hx => .inl hx)
  refine ⟨hS, ?_⟩
  have e7 : PC2 ps ++ prC (numV b (2 + 16 * i) 8, numV b (2 + 16 * i + 8) 8) = PC2 (ps ++ [(fM b (2 + 16 * i), fM b (10 + 16 * i))]) := by
   rw [jV, qXb jo, qXb jo, show 2 + 16 * i + 8 = 10 + 16 * i by omega]
   simp [PC2]
  rw [e7] at ho7
  have hb87 := (hb8.frm k6 jp).frm hf7 n8p
  have hup7 : ∀ x ∈ ob B7, g8 < x := (Fk.of_app hf7 hob7).up (b := g8 + 1) hup.1 (by have := k6.size; omega)
  refine qQ.r1 12 rfl jK hS (Run.fieldAddr rfl zdf rfl zap jd) trivial rfl rfl ?_
  refine qQ.stL rfl jK (qS.store rfl rfl zap hb87 rfl rfl) trivial rfl ?_
  rintro w8 ⟨hb88, hf8, hs8⟩
  have hf8 : Frm [g8] w7 w8 := hf8
  have hb88 : Blk w8 g8 222 (ndV B7 kA (ps.length + 1) d7 ks.length kc (decide (k0 = 2))) := hb88
  have K8 := (K.own hS hup1).own hf8 (by simp; omega)
  have kk8 : Frm (g8 :: ob pA) wr w8 := (hS.mono (fun x hx => .inl (by simp [hx]))).trans hf8 (fun x hx => .inl (by simp at hx; simp [hx]))
  have hK8 := hKr.frm kk8 (fun x hx h => by
   rcases zx.1 h with rfl | h
   · exact n8k hx
   exact hP.ne_own hKr jd x h hx)
  have ho8 := ho7.frm hf8 (fun x hx h => by rw [za] at h; have := hup7 x hx; omega)
  have hb28 := hb2.frm kk8 (fun h => by
   rcases zx.1 h with h | h
   · omega
   exact n2p h)
  refine qQ.done jK ?_
  refine qH (jN ?_)
  refine jv6 0 2 5 8 61 62 ?_
  refine jR (jb rfl rfl (Bin.add_i64 _ 1 jo) (jm rfl (jO ?_)))
  refine jN ⟨⟨i + 1, B7, d7, ps ++ [(fM b (2 + 16 * i), fM b (10 + 16 * i))], kA, kc, ks⟩, (js6 rfl rfl rfl rfl rfl rfl), ?_, ?_⟩
  · exact ⟨hc6, hb28, by dsimp only; rw [zd, ← hk0]; exact hb88, by dsimp only; rw [zd]; exact ho8, hK8, by dsimp only; rw [← hk0, if_neg hk2, zcn, zy, hpse, if_neg hk2]; rfl, ⟨by dsimp only; rw [zd, zcc]; omega, by dsimp only; omega⟩, K8, hup7, hup.2⟩
  first | omega | (dsimp only; omega)
 refine jX ?_
 refine qJ (qJ (qT ?_))
 refine jN (jv2 2 8 ?_)
 refine jS (jR (je (Run.loadA rfl Tryz.isAgg222 zgf hb8.cells (by first | rfl | (simp; done))) ?_))
 refine Ops.st (qS.storeA rfl rfl zgf hb2 rfl (uL _ _ _ _ _ _ _)) ?_
 rintro w9 ⟨hb2, hf9, hs9⟩
 refine ja rfl (jO (jN (jv2 2 3 ?_)))
 refine jT ?_
 refine eO ?_
 refine cY rfl Tryz.isAgg222 zgf (hb2.cells) (by first | rfl | (simp; done) | (simp [*]; done)) ?_
 refine dK rfl ?_
 refine cV ?_
 obtain rfl : i = k1 := jo
 rw [hp1, ← hpse]
 exact ⟨K.own hf9 (by simp; omega), pA, pc, kA, _, _, _, rfl, (hP.frm hf9 (fun x hx h => by rw [za] at h; subst h; exact n2p hx)).rd, fun x hx => by have := hup1 x hx; omega⟩
end
section
open Go.RowKit
def RdR (w : World) (ps : List Pg) : Prop := ∀ x ∈ ps, Rd w 1 x.1 x.2.2.length (NB x.2.2) ∧ ∀ b ∈ x.2.2, b < 256
theorem RdR.frm {w w' : World} {ps : List Pg} (h : RdR w ps) (k : Frm [] w w') : RdR w' ps := fun x hx => ⟨(h x hx).1.frm k jp, (h x hx).2⟩
def pg0 : Pg := (none, 0, [])
theorem qZa {w : World} {A : Option Addr} {n : Nat} {ps : List Pg} (h : Rd w 1 A n (ps.map SL)) (hn : ps.length = n) {k : Nat} (hk : k < n) : ∃ ad, A = some ad ∧ w.cell? (ad.add k) = some (SL (ps.getD k pg0)) := by
 obtain ⟨ad, h1, _, hc⟩ := h.2 jo
 exact ⟨ad, h1, hc k _ (by simp [zc, zb (jo : k < ps.length)])⟩
theorem rH {ps : List Pg} {k : Nat} (h : k < ps.length) : ps.getD k pg0 ∈ ps := by
 rw [zc, zb h]
 exact zbe h
theorem qV9 {ps : List Pg} {k : Nat} (h : k < ps.length) : ps.take (k + 1) = ps.take k ++ [ps.getD k pg0] := by
 rw [zbs, zb h, zc, zb h]
 rfl
theorem qWa {ps qs : List Pg} (he : ps.map (·.2.2) = qs.map (·.2.2)) (k : Nat) : (ps.getD k pg0).2.2 = (qs.getD k pg0).2.2 := by
 have h1 := congrArg (·[k]?) he
 simp only [zce] at h1
 rw [zc, zc]
 cases ha : ps[k]? <;> cases hb : qs[k]? <;> rw [ha, hb] at h1 <;> simp at h1 ⊢
 exact h1
theorem qJp (a : List (List Nat)) (x : List Nat) : cI (a ++ [x]) = cI a ++ cO x := by unfold cI; rw [zao]; simp
theorem qJq (a : List (List Nat)) (k : Nat) : (cI (a.take k)).length ≤ (cI a).length := by
 conv => rhs; rw [← zbt k a]
 unfold cI
 rw [zao, zd]
 omega
theorem qXc {b : List Nat} (hB : ∀ x ∈ b, x < 256) (a : Nat) : fM b a < 18446744073709551616 := by
 have h1 := rT ((b.drop a).take 8) (fun x hx => hB x (zav (zn hx)))
 have h2 : (256 : Nat) ^ ((b.drop a).take 8).length ≤ 256 ^ 8 := zcf jo (by rw [zi]; omega)
 have e : (256 : Nat) ^ 8 = 18446744073709551616 := rfl
 unfold fM
 omega
theorem qJr {b : List Nat} (hB : ∀ x ∈ b, x < 256) : OkP (cO b) := fun x hx => by
 unfold cO at hx
 split at hx
 · cases hx
 obtain ⟨i, _, rfl⟩ := List.mem_map.1 hx
 exact ⟨qXc hB _, qXc hB _⟩
theorem qWb {ps : List (List Nat)} (h : ∀ p ∈ ps, ∀ b ∈ p, b < 256) : OkP (cI ps) := fun x hx => by
 obtain ⟨p, hp, hx⟩ := List.mem_flatMap.1 hx
 exact qJr (h p hp) x hx
theorem qK3 (A B : Option Addr) (n c d : Nat) (ps qs : List Pg) (w : World) (hn1 : n ≤ 1000000) (hn : ps.length = n) (hm : qs.length = n) (he : ps.map (·.2.2) = qs.map (·.2.2)) (hA : Rd w 1 A n (ps.map SL)) (hB : Rd w 1 B n (qs.map SL)) (hp : RdR w ps) (hq : RdR w qs) :
  Calls Tryz.prog 149 #[.slice A n c, .slice B n d, .func (.func 113) #[] #[]] w fun e w' => e = .returned (.bool true) ∧ w = w' := by
 refine VC.calls (nt := 32) (res := #[.tmp 6]) Tryz.func149 rfl Tryz.ntmps149 Tryz.results149 rfl ?_
 refine jS (jR (ja rfl (jO (jN (jv3 0 1 2 ?_)))))
 refine jS (jS (jR (jm rfl (je (Run.lenS rfl zad) (jm rfl (je (Run.lenS rfl zad) (jb rfl rfl (Bin.neqN _ _) (jO (jN (jv4 0 1 2 14 ?_))))))))))
 refine VC.condF rfl (decide_eq_false jp) ?_
 refine jQ (jN (jv3 0 1 2 ?_))
 refine jS (jS (jR (jm rfl (je (Run.lenS rfl zad) ?_))))
 refine jx .i64 0 ?_
 refine jO (jN (jv5 1 2 15 16 17 ?_))
 refine jB ?_
 refine VC.loop (σ := Nat) (fun s => [(1, .slice B n d), (2, .func (.func 113) #[] #[]), (15, .slice A n c), (16, .int .i64 ((n : Nat) : Int)), (17, .int .i64 ((s : Nat) : Int))]) (fun s wr => s ≤ n ∧ w = wr) (fun s => n - s) 0 (js5 rfl rfl rfl rfl rfl) ⟨zg _, rfl⟩ ?_
 rintro i _ ⟨hi, rfl⟩
 refine jS (jR (jb rfl rfl (Bin.lssN _ _) (jO (jN (jS ?_)))))
 refine jD rfl (fun hc2 => ?_) fun hc2 => ?_
 ·
  obtain ⟨ad, hA1, hca⟩ := qZa hA hn hc2
  obtain ⟨bd, hB1, hcb⟩ := qZa hB hm hc2
  have hpm := hp _ (rH (jo : i < ps.length))
  have hqm := hq _ (rH (jo : i < qs.length))
  have hsm := qWa he i
  subst hA1 hB1
  generalize ps.getD i pg0 = x at hca hpm hsm
  generalize qs.getD i pg0 = y at hcb hqm hsm
  obtain ⟨xA, xc, xb⟩ := x
  obtain ⟨yA, yc, yb⟩ := y
  dsimp only at hpm hqm hsm
  subst hsm
  refine jQ (jN (jv5 1 2 15 16 17 ?_))
  refine jS (jB (jS (jR (jm rfl (je (Run.index1 _ rfl rfl zad zr jo) (jl rfl zal hca (ja rfl (ja rfl (jO (jN (jv7 1 2 7 8 15 16 17 ?_)))))))))))
  refine jS (jR (jm rfl (jm rfl (je (Run.index1 _ rfl rfl zad zr jo) (jl rfl zal hcb (ja rfl (jO (jN (jv7 1 2 8 9 15 16 17 ?_)))))))))
  refine jS (jR (jm rfl (jm rfl (jM ?_))))
  refine Ops.cl (bR.dyn rfl (evs.cons rfl (evs.cons rfl evs.nil)) Tryz.call113) (lE xA yA xb.length xb.length xc yc xb xb w rfl rfl hpm.2 hpm.2 hpm.1 hqm.1) rfl ?_
  rintro e _ ⟨rfl, rfl⟩
  refine ⟨_, rfl, ?_⟩
  refine je (Run.not rfl) (jO (jN (jv6 1 2 15 16 17 30 ?_)))
  refine VC.condF rfl jp ?_
  refine jQ ?_
  refine qH (jN ?_)
  refine jv5 1 2 15 16 17 ?_
  refine jR (jb rfl rfl (Bin.add_i64 _ 1 jo) (jm rfl (jO ?_)))
  refine jN ⟨i + 1, (js5 rfl rfl rfl rfl rfl), ?_, ?_⟩
  · exact ⟨hc2, rfl⟩
  first | omega | (dsimp only; omega)
 refine jX ?_
 refine qJ (qJ (qT ?_))
 refine jN ?_
 refine VC.sub [] .nil ?_
 refine jS (jR (ja rfl (jO (jN (jT ?_)))))
 refine qB rfl ?_
 exact ⟨rfl, rfl⟩
set_option maxHeartbeats 1000000 in
theorem qJs (A : Option Addr) (n c : Nat) (ps : List Pg) (w : World) (hn : ps.length = n) (hn6 : n ≤ 600) (hA : Rd w 1 A n (ps.map SL)) (hp : RdR w ps) (hpc : ∀ x ∈ ps, x.2.2.length ≤ x.2.1) (hT : pU (ps.map (·.2.2))) :
  Calls Tryz.prog 115 #[.slice A n c] w fun e w' => ∃ B d, e = .returned (.tuple #[.slice B (cI (ps.map (·.2.2))).length d, .int .i64 0]) ∧ Own w' 128 2 B (cI (ps.map (·.2.2))).length d (PC2 (cI (ps.map (·.2.2)))) ∧ Frm [] w w' ∧ ∀ x ∈ ob B, w.heap.size ≤ x := by
 obtain ⟨hpg, hmay, htr⟩ := hT
 have hok := qWb (ps := ps.map (·.2.2)) (fun p hp2 => by obtain ⟨x, hx, rfl⟩ := List.mem_map.1 hp2; exact (hp x hx).2)
 have hl6 := hmay.2
 have hlt := fun k => qJq (ps.map (·.2.2)) k
 have K0 := Frm.refl [] w
 refine VC.calls (nt := 43) (res := #[.tmp 2, .tmp 3]) Tryz.func115 rfl Tryz.ntmps115 Tryz.results115 rfl ?_
 refine jS (jR (ja rfl (jz 0 (jO (jN (jv1 0 ?_))))))
 refine jS (jR (ja rfl (jO (jN (jS (jS (jR (jm rfl (je (Run.lenS rfl zad) ?_)))))))))
 refine jx .i64 0 ?_
 refine jO (jN (jB ?_))
 refine VC.loop (σ := Nat × Option Addr × Nat) (fun s => [(0, .slice A n c), (4, .slice s.2.1 (cI ((ps.map (·.2.2)).take s.1)).length s.2.2), (11, .slice A n c), (12, .int .i64 ((n : Nat) : Int)), (13, .int .i64 ((s.1 : Nat) : Int))]) (fun s wr => s.1 ≤ n ∧ Own wr 128 2 s.2.1 (cI ((ps.map (·.2.2)).take s.1)).length s.2.2 (PC2 (cI ((ps.map (·.2.2)).take s.1))) ∧ Frm [] w wr ∧ ∀ x ∈ ob s.2.1, w.heap.size ≤ x) (fun s => n - s.1) (0, none, 0) (js5 rfl rfl rfl rfl rfl) ⟨zg _, Own.nil _ _ _, K0, by simp [ob]⟩ ?_
 rintro ⟨i, B, d⟩ wr ⟨hi, ho, K, hup⟩
 dsimp only at hi ho hup ⊢
 have ks := K.size
 have hlk := hlt i
 have hlk1 := hlt (i + 1)
 refine jS (jR (jb rfl rfl (Bin.lssN _ _) (jO (jN (jS ?_)))))
 refine jD rfl (fun hc1 => ?_) fun hc1 => ?_
 ·
  obtain ⟨ad, hA1, hca⟩ := qZa (hA.frm K jp) hn hc1
  have hpm := hp.frm K _ (rH (jo : i < ps.length))
  have hxc := hpc _ (rH (jo : i < ps.length))
  have hsn : cI ((ps.map (·.2.2)).take (i + 1)) = cI ((ps.map (·.2.2)).take i) ++ cO (ps.getD i pg0).2.2 := by
   rw [← zcp, qV9 jo, zy, zcp]
   exact qJp _ _
  have hip := hpg _ (List.mem_map.2 ⟨_, rH (jo : i < ps.length), rfl⟩)
  subst hA1
  rw [hsn, zd] at hlk1
  generalize ps.getD i pg0 = x at hca hpm hsn hip hlk1 hxc
  obtain ⟨xA, xc, xb⟩ := x
  dsimp only at hpm hsn hip hlk1 hxc
  have hx128 := hip.1
  rw [hx128] at hpm hxc
  refine jQ (jN (jv5 0 4 11 12 13 ?_))
  refine jS (jB (jS (jR (je (Run.index1 _ rfl rfl zad zr jo) (jl rfl zal hca ?_)))))
  rw [show SL (xA, xc, xb) = .slice xA 128 xc by rw [SL, hx128]]
  refine ja rfl (jO (jN (jv6 0 4 6 11 12 13 ?_)))
  refine jS (jR (jM ?_))
  refine Ops.cl (jE1 Tryz.call148) (qX9 xA xc xb wr hip hxc hpm.2 hpm.1) rfl ?_
  rintro e w2 ⟨hf2, PA, pc, kA, kn, kc, inn, rfl, hrP, hupP⟩
  refine ⟨_, rfl, ?_⟩
  have ho := ho.frm hf2 jp
  have K := K.trans hf2 jp
  refine jm rfl (je (Run.extract rfl rfl) (je (Run.extract rfl rfl) ?_))
  refine Ops.m (qZ.alloc rR) rfl ?_
  rintro _ w3 ⟨rfl, hF3⟩
  refine Ops.st (qS.storeA rfl rfl zgf hF3.blk rfl (uL _ _ _ _ _ _ _)) ?_
  rintro w4 ⟨hb7, hf4, hs4⟩
  have k34 : Frm [] w2 w4 := hF3.frm.own hf4 jp
  have hb7 : Blk w4 w2.heap.size 222 (ndV PA kA (cO xb).length pc kn kc inn) := hb7
  have ho := ho.frm k34 jp
  have hrP := hrP.frm k34 jp
  have K := K.trans k34 jp
  have ks4 := K.size
  refine ja rfl (jO (jN (jv7 0 4 7 8 11 12 13 ?_)))
  refine jS (jS (jR (jm rfl (je (Run.not rfl) (jO (jN (jv7 0 4 7 11 12 13 23 ?_)))))))
  refine VC.condF rfl (rfl) ?_
  refine jQ (jN (jv6 0 4 7 11 12 13 ?_))
  refine jR (jm rfl (jf rfl zdf rfl zap (jl rfl zbq (hb7.cell 0) ?_)))
  refine Ops.m (qZ.app rfl rfl zh (nT) rfl jd ho hrP (nL _) jo jo) rfl ?_
  rintro _ w5 ⟨B5, d5, rfl, ho5, hf5, hob5⟩
  rw [← jV, ← zd] at ho5
  rw [← zd]
  rw [← hsn] at ho5 ⊢
  refine ja rfl (jO ?_)
  refine qH (jN ?_)
  refine jv5 0 4 11 12 13 ?_
  refine jR (jb rfl rfl (Bin.add_i64 _ 1 jo) (jm rfl (jO ?_)))
  refine jN ⟨(i + 1, B5, d5), (js5 rfl rfl rfl rfl rfl), ?_, ?_⟩
  · exact ⟨hc1, ho5, K.own hf5 hup, (Fk.of_app hf5 hob5).up hup ks4⟩
  first | omega | (dsimp only; omega)
 obtain rfl : i = n := jo
 rw [zf (show (ps.map (·.2.2)).length ≤ i by rw [zo]; omega)] at ho ⊢
 refine jX ?_
 refine qJ (qJ (qT ?_))
 refine jN (jv2 0 4 ?_)
 refine jS (jR (jM ?_))
 refine Ops.cl (jE1 Tryz.call107) (sK B _ d (cI (ps.map (·.2.2))) wr rfl jo ho.le ho.rd hok) rfl ?_
 rintro e w2 ⟨hf2, h2⟩
 rw [if_pos hmay] at h2
 obtain ⟨B2, d2, qs, rfl, hoB, hqs, hpgs, hupB⟩ := h2
 refine ⟨_, rfl, ?_⟩
 rw [htr, zo, hn] at hoB ⊢
 rw [htr] at hqs
 have K2 := K.trans hf2 jp
 have hq0 : RdR w2 qs := fun x hx => ⟨(hpgs x hx).1, fun b hb => by
  have : x.2.2 ∈ ps.map (·.2.2) := by rw [← hqs]; exact List.mem_map.2 ⟨x, hx, rfl⟩
  obtain ⟨y, hy, he⟩ := List.mem_map.1 this
  exact (hp y hy).2 b (by rw [he]; exact hb)⟩
 refine jm rfl (je (Run.extract rfl rfl) (je (Run.extract rfl rfl) (ja rfl (ja rfl (jO (jN (jv4 0 4 9 10 ?_)))))))
 refine jS (jS (jR (jm rfl (jb rfl rfl (Bin.neqN _ 0) (jM ?_)))))
 refine Ops.rg rfl (decide_eq_false jp) (Run.mv rfl) rfl ?_
 refine Ops.rg rfl (decide_eq_false jp) (Run.mv rfl) rfl ?_
 refine Ops.clg rfl (decide_eq_false jp) (jE3 Tryz.call149) (qK3 B2 A i d2 c qs ps w2 jo (by have := congrArg List.length hqs; rw [zo, zo] at this; omega) hn hqs hoB.rd (hA.frm K2 jp) hq0 (hp.frm K2)) rfl ?_
 rintro e _ ⟨rfl, rfl⟩
 refine ⟨_, rfl, ?_⟩
 refine Ops.rg rfl (decide_eq_false jp) (Run.not rfl) rfl ?_
 refine je (Run.pickF rfl rfl (rfl)) (jO (jN (jv2 4 41 ?_)))
 refine VC.condF rfl (rfl) ?_
 refine jQ (jN (jv1 4 ?_))
 refine jS (jR (jm rfl (ja rfl (jz 0 (jO (jN (jv2 2 3 ?_)))))))
 refine jT ?_
 refine cQ rfl rfl ?_
 exact ⟨B, d, rfl, ho.frm hf2 jp, K2, hup⟩
end
section
open Go.RowKit
structure IsRh (w : World) (h g : Nat) (F : List Nat) (d : Dk) : Prop where
 c0 : w.cell? ⟨h, 0, none⟩ = some (.pointer (some ⟨g, 0, none⟩))
 dk : IsDk w g F d
 n : h ∉ F
 sz : 44 ≤ d.has.length
 big : d.has.length ≤ 2048
 wts : d.wts.length ≤ 100000
 on : d.off = false
theorem IsRh.frm {w w' : World} {h g : Nat} {F S : List Nat} {d : Dk} (a : IsRh w h g F d) (k : Frm S w w') (hS : ∀ x ∈ h :: F, x ∉ S) : IsRh w' h g F d :=
 ⟨k.cell a.c0 (hS h jp), a.dk.frm k (fun x hx => hS x (by simp [hx])), a.n, a.sz, a.big, a.wts, a.on⟩
theorem IsRh.f0 {w w' : World} {h g : Nat} {F : List Nat} {d : Dk} (a : IsRh w h g F d) (k : Frm [] w w') : IsRh w' h g F d := a.frm k jp
theorem kB (bs : List Nat) (h : bs.length ≤ 124) : ∃ r, fO bs = bs ++ r := by
 unfold fO dO fF
 rw [if_neg (by rw [zd, numL_len]; omega), zm]
 exact ⟨_, rfl⟩
theorem gM {α : Type} {x y : List α} {k n : Nat} (h : x.length = k) : (x ++ y).drop (k + n) = y.drop n := by
 rw [← zfd, zes h]
theorem tX : ∀ (l : List Nat) (i : Nat) (r : List Nat), i < l.length → ((l.flatMap (fun p => qR p 2) ++ r).drop (2 * i)).take 2 = qR (l.getD i 0) 2
 | a :: l, 0, r, _ => by
  rw [zar, zm, Nat.mul_zero, zbb, zci (numL_len a 2)]
  rfl
 | a :: l, i + 1, r, h => by
  rw [zar, zm, show 2 * (i + 1) = 2 + 2 * i by omega, gM (numL_len a 2), tX l i r (by simpa using h)]
  rfl
theorem lZ {dir : List Nat} (h : dir.length ≤ 59) : (bY dir).length = 128 := fH (by rw [eM]; omega)
theorem qJt (dir : List Nat) : ∀ b ∈ bY dir, b < 256 := lD (mU dir)
theorem qWc {dir : List Nat} (h : dir.length ≤ 59) : numV (bY dir) 4 2 = dir.length := by
 rw [(kJ (by rw [lZ h]; omega)).2]
 obtain ⟨r, hr⟩ := kB (eD dir) (by rw [eM]; omega)
 rw [bY, hr, eD, zm, zm, show (4 : Nat) = 4 + 0 by rfl, gM (x := oQ) (k := 4) rfl, zbb, zci (numL_len _ 2), fW 2 _ jo]
theorem qWd {dir : List Nat} (h : dir.length ≤ 59) (hp : ∀ p ∈ dir, p < 65536) {i : Nat} (hi : i < dir.length) : numV (bY dir) (6 + 2 * i) 2 = dir.getD i 0 := by
 rw [(kJ (by rw [lZ h]; omega)).2]
 obtain ⟨r, hr⟩ := kB (eD dir) (by rw [eM]; omega)
 rw [bY, hr, eD, zm, gM (x := oQ ++ qR dir.length 2) (k := 6) (by rw [zd, numL_len]; rfl), tX dir i r hi, fW 2 _ (hp _ (bM hi))]
def nxP (pg : List Nat) (i : Nat) : Nat := if i < pg.length then pg.getD i 0 + 1 else 0
theorem tZ {l : List Nat} {i : Nat} (h : i < l.length) : l.take (i + 1) = l.take i ++ [l.getD i 0] := by
 rw [zbs, zb h, zc, zb h]
 rfl
theorem sG (h g : Nat) (F : List Nat) (d : Dk) (w : World) (hR : IsRh w h g F d) : Calls Tryz.prog 39 #[.pointer (some ⟨h, 0, none⟩)] w fun e w' => e = .returned (.int .i64 ((d.has.length - 42 : Nat) : Int)) ∧ w = w' := by
 have hsz := hR.sz
 have hbg := hR.big
 refine VC.calls (nt := 9) (res := #[.tmp 2]) Tryz.func39 rfl Tryz.ntmps39 Tryz.results39 rfl ?_
 refine jS (jR (jz 0 (jO (jN (jv1 0 ?_)))))
 refine jS (jR (jm rfl (je (Run.nilck rfl) (jf rfl zw rfl zdn (jl rfl zdu hR.c0 ?_)))))
 refine Ops.cl (jE1 zew) (dS g F _ w hR.dk) rfl ?_
 rintro e _ ⟨rfl, rfl⟩
 refine ⟨_, rfl, ?_⟩
 refine jb rfl rfl (Bin.sub_i64 _ 42 jo jo) (ja rfl (jO (jN (jv1 2 ?_))))
 refine jT ?_
 refine qB rfl ?_
 exact ⟨rfl, rfl⟩
theorem uW (p : Nat) (h g : Nat) (F : List Nat) (d : Dk) (w : World) (hR : IsRh w h g F d) (hp : p < d.has.length - 42) : Calls Tryz.prog 71 #[.pointer (some ⟨h, 0, none⟩), .int .i64 ((p : Nat) : Int)] w fun e w' => ∃ B, e = .returned (.tuple #[.slice B 128 128, .bool true]) ∧ Rd w' 1 B 128 (NB (d.sec (42 + p))) ∧ Frm [] w w' ∧ ∀ x ∈ ob B, w.heap.size ≤ x := by
 have hsz := hR.sz
 have hbg := hR.big
 have hwt := hR.wts
 refine VC.calls (nt := 29) (res := #[.tmp 4, .tmp 5]) Tryz.func71 rfl Tryz.ntmps71 Tryz.results71 rfl ?_
 refine jS (jR (ja rfl (ja rfl (jO (jN (jv2 0 1 ?_))))))
 refine jS (jS (jR (jm rfl (jb rfl rfl (Bin.lssN _ 0) (jM ?_)))))
 refine Ops.rg rfl (decide_eq_false jo) (Run.mv rfl) rfl ?_
 refine Ops.rg rfl (decide_eq_false jo) (Run.mv rfl) rfl ?_
 refine Ops.clg rfl (decide_eq_false jo) (jE1 Tryz.call39) (sG h g F d w hR) rfl ?_
 rintro e _ ⟨rfl, rfl⟩
 refine ⟨_, rfl, ?_⟩
 refine Ops.rg rfl (decide_eq_false jo) (Run.bin rfl rfl (Bin.geqN _ _)) rfl ?_
 refine je (Run.pickF rfl rfl (decide_eq_false jo)) (jO (jN (jv3 0 1 15 ?_)))
 refine VC.condF rfl (decide_eq_false jo) ?_
 refine jQ (jN (jv2 0 1 ?_))
 refine jS (jR (jm rfl (je (Run.nilck rfl) (jf rfl zw rfl zdn (jl rfl zdu hR.c0 (jm rfl (jb rfl rfl (Bin.add_i64 42 _ jo) ?_)))))))
 refine Ops.cl (jE2 Tryz.call28) (hZ g (42 + p) F d w hR.dk jo) rfl ?_
 rintro e w1 ⟨B, rfl, hr, hf, hup, _⟩
 refine ⟨_, rfl, ?_⟩
 have hrd : d.read (42 + p) = (0, d.sec (42 + p)) := by unfold Dk.read; rw [if_neg jo, if_neg (by simp [hR.on])]
 rw [hrd] at hr ⊢
 have hsl := (hR.dk.ok.secAt (jo : 42 + p < d.has.length)).1
 dsimp only at hr ⊢
 rw [hsl] at hr ⊢
 refine jm rfl (je (Run.extract rfl rfl) (je (Run.extract rfl rfl) (ja rfl (ja rfl (jO (jN (jv2 6 7 ?_)))))))
 refine jS (jR (jm rfl (jm rfl (jb rfl rfl (Bin.eqlN _ 0) (ja rfl (ja rfl (jO (jN (jv2 4 5 ?_)))))))))
 refine jT ?_
 refine cQ rfl rfl ?_
 exact ⟨B, rfl, hr, hf, hup⟩
set_option maxHeartbeats 1000000 in
theorem wU (A : Option Addr) (c : Nat) (dir : List Nat) (h g : Nat) (F : List Nat) (d : Dk) (w : World) (hR : IsRh w h g F d) (hdl : dir.length ≤ 59) (hdp : ∀ p ∈ dir, p < d.has.length - 42) (hr : Rd w 1 A 128 (NB (bY dir))) :
  Calls Tryz.prog 114 #[.pointer (some ⟨h, 0, none⟩), .slice A 128 c] w fun e w' => ∃ B dc, e = .returned (.tuple #[.slice B dir.length dc, .bool true]) ∧ Own w' 3 1 B dir.length dc (ZN dir) ∧ Frm [] w w' ∧ ∀ x ∈ ob B, w.heap.size ≤ x := by
 have hsz := hR.sz
 have hbg := hR.big
 have hsl := lZ hdl
 have hsB := qJt dir
 have hp16 : ∀ p ∈ dir, p < 65536 := fun p hp => by have := hdp p hp; omega
 have K0 := Frm.refl [] w
 refine VC.calls (nt := 64) (res := #[.tmp 4, .tmp 5]) Tryz.func114 rfl Tryz.ntmps114 Tryz.results114 rfl ?_
 refine jS (jR (ja rfl (ja rfl (jO (jN (jv2 0 1 ?_))))))
 refine jS (jR (jM ?_))
 refine Ops.cl (jE3 zfw) (gU A c 128 4 2 (bY dir) w hsl jo jo jo jo hsB hr) rfl ?_
 rintro e _ ⟨rfl, rfl⟩
 rw [qWc hdl]
 refine ⟨_, rfl, ?_⟩
 refine jm rfl (je (Run.extract rfl rfl) (je (Run.extract rfl rfl) (ja rfl (ja rfl (jO (jN (jv3 0 1 6 ?_)))))))
 refine jS (jR (ja rfl (jO (jN (jS (jS (jR (jm rfl (je (Run.convN _ rfl zu zab (by simp only [bmax]; omega)) (je (Run.minN' (a := dir.length) (b := 59) rfl rfl) ?_))))))))))
 rw [show Nat.min dir.length 59 = dir.length from zat hdl]
 refine jx .i64 0 ?_
 refine jO (jN (jv6 0 1 6 8 19 20 ?_))
 refine jB ?_
 refine VC.loop (σ := Nat × Option Addr × Nat) (fun s => [(0, .pointer (some ⟨h, 0, none⟩)), (1, .slice A 128 c), (6, .int .u64 ((dir.length : Nat) : Int)), (8, .slice s.2.1 s.1 s.2.2), (19, .int .i64 ((dir.length : Nat) : Int)), (20, .int .i64 ((s.1 : Nat) : Int))]) (fun s wr => s.1 ≤ dir.length ∧ Own wr 3 1 s.2.1 s.1 s.2.2 (ZN (dir.take s.1)) ∧ Frm [] w wr ∧ ∀ x ∈ ob s.2.1, w.heap.size ≤ x) (fun s => dir.length - s.1) (0, none, 0) (js6 rfl rfl rfl rfl rfl rfl) ⟨zg _, Own.nil _ _ _, K0, by simp [ob]⟩ ?_
 rintro ⟨i, B, dc⟩ wr ⟨hi, ho, K, hup⟩
 dsimp only at hi ho hup ⊢
 have ks := K.size
 refine jS (jR (jb rfl rfl (Bin.lssN _ _) (jO (jN (jS ?_)))))
 refine jD rfl (fun hc1 => ?_) fun hc1 => ?_
 ·
  have hpi := hdp _ (bM hc1)
  have hsn := tZ hc1
  have hsp := qWd hdl hp16 hc1
  generalize dir.getD i 0 = p at hpi hsn hsp
  refine jQ (jN (jv6 0 1 6 8 19 20 ?_))
  refine jS (jB (jS (jR (jm rfl (ja rfl (jO (jN (jv7 0 1 6 8 9 19 20 ?_))))))))
  refine jS (jR (jm rfl (jm rfl (jb rfl rfl (Bin.mul_i64 2 _ jo) (jb rfl rfl (Bin.add_i64 6 _ jo) ?_)))))
  refine Ops.cl (jE3 zfw) (gU A c 128 (6 + 2 * i) 2 (bY dir) _ hsl jo jo jo jo hsB (hr.frm K jp)) rfl ?_
  rintro e _ ⟨rfl, rfl⟩
  rw [hsp]
  refine ⟨_, rfl, ?_⟩
  refine jm rfl (je (Run.extract rfl rfl) (je (Run.extract rfl rfl) (ja rfl (ja rfl (jO (jN (jv7 0 1 6 8 10 19 20 ?_)))))))
  refine jS (jS (jR (jm rfl (je (Run.convN _ rfl zu zab (by simp only [bmax]; omega)) (jM ?_)))))
  refine Ops.cl (jE1 Tryz.call39) (sG h g F d _ (hR.f0 K)) rfl ?_
  rintro e _ ⟨rfl, rfl⟩
  refine ⟨_, rfl, ?_⟩
  refine jb rfl rfl (Bin.geqN _ _) (jO (jN (jv8 0 1 6 8 10 19 20 35 ?_)))
  refine VC.condF rfl (decide_eq_false jo) ?_
  refine jQ (jN (jv7 0 1 6 8 10 19 20 ?_))
  refine jR (jm rfl (jm rfl (je (Run.convN _ rfl zu zab (by simp only [bmax]; omega)) ?_)))
  refine Ops.m (qZ.buildS1 rfl zt zq wC jd jd rfl rfl) rfl ?_
  rintro _ w5 ⟨rfl, hF5⟩
  have hr5 : Rd w5 1 (some ⟨wr.heap.size, 0, none⟩) 1 (ZN [p]) := Rd.of_blk (n := 1) (size := 1) hF5.blk rfl
  have ho := ho.frm hF5.frm jp
  have K := K.trans hF5.frm jp
  have ks5 := K.size
  refine Ops.m (qZ.app rfl rfl zt (wD) rfl jd ho hr5 (qZt _) jo jo) rfl ?_
  rintro _ w6 ⟨B6, d6, rfl, ho6, hf6, hob6⟩
  have e6 : ZN (dir.take i) ++ ZN [p] = ZN (dir.take (i + 1)) := by rw [hsn, ZN, ZN, ZN, zy]
  rw [e6] at ho6
  refine ja rfl (jO ?_)
  refine qH (jN ?_)
  refine jv6 0 1 6 8 19 20 ?_
  refine jR (jb rfl rfl (Bin.add_i64 _ 1 jo) (jm rfl (jO ?_)))
  refine jN ⟨(i + 1, B6, d6), (js6 rfl rfl rfl rfl rfl rfl), ?_, ?_⟩
  · exact ⟨hc1, ho6, K.own hf6 hup, (Fk.of_app hf6 hob6).up hup ks5⟩
  first | omega | (dsimp only; omega)
 obtain rfl : i = dir.length := jo
 rw [zcd] at ho
 refine jX ?_
 refine qJ (qJ (qT ?_))
 refine jN (jv3 1 6 8 ?_)
 refine jS (jR (jm rfl (jm rfl (je (Run.convN _ rfl zu zab (by simp only [bmax]; omega)) (jm rfl (je (Run.lenS rfl zt) (jb rfl rfl (Bin.eqlN _ _) (jM ?_))))))))
 refine Ops.rg rfl (decide_eq_true rfl) (Run.mv rfl) rfl ?_
 refine Ops.rg rfl (decide_eq_true rfl) (Run.lenS rfl zt) rfl ?_
 refine Ops.rg rfl (decide_eq_true rfl) (Run.bin rfl rfl (Bin.mul_i64 2 _ jo)) rfl ?_
 refine Ops.rg rfl (decide_eq_true rfl) (Run.bin rfl rfl (Bin.add_i64 6 _ jo)) rfl ?_
 refine Ops.mg rfl (decide_eq_true rfl) (qZ.makeS rfl rfl ze (dG) rfl jo jo) rfl ?_
 rintro _ w7 ⟨rfl, ho7, hf7, hs7⟩
 rw [kP] at ho7
 have e7 : List.replicate (6 + 2 * dir.length) (Value.int .u8 ((0 : Nat) : Int)) = NB (noM (6 + 2 * dir.length)) := by rw [NB, noM, zdx]
 rw [e7] at ho7
 have K7 := K.trans hf7 jp
 refine Ops.clg rfl (decide_eq_true rfl) (jE1 Tryz.call143) (kL _ _ (6 + 2 * dir.length) (noM (6 + 2 * dir.length)) w7 (by simp [noM]) jo (noM_lt _) ho7.rd) rfl ?_
 rintro e w8 ⟨SB, sd, rfl, hoS, hf8, hupS⟩
 refine ⟨_, rfl, ?_⟩
 have K8 := K7.trans hf8 jp
 have hoD := (ho.frm hf7 jp).frm hf8 jp
 refine Ops.rg rfl (decide_eq_true rfl) (Run.lenS rfl ze) rfl ?_
 refine Ops.rg rfl (decide_eq_true rfl) (Run.bin rfl rfl (Bin.leqN _ 128)) rfl ?_
 refine je (Run.pickT rfl rfl (decide_eq_true rfl)) (jM ?_)
 refine Ops.rg rfl (decide_eq_true jo) (Run.mv rfl) rfl ?_
 refine Ops.clg rfl (decide_eq_true jo) (jE1 Tryz.call108) (sV B dir.length dc dir w8 rfl hdl hoD.rd hp16) rfl ?_
 rintro e w9 ⟨UB, ud, rfl, hoU, hf9, hupU⟩
 refine ⟨_, rfl, ?_⟩
 have K9 := K8.trans hf9 jp
 refine Ops.rg rfl (decide_eq_true jo) (Run.mv rfl) rfl ?_
 refine Ops.clg rfl (decide_eq_true jo) (jE2 Tryz.call113) (lE UB A 128 128 ud c (bY dir) (bY dir) w9 hsl hsl hsB hsB hoU.rd (hr.frm K9 jp)) rfl ?_
 rintro e _ ⟨rfl, rfl⟩
 refine ⟨_, rfl, ?_⟩
 rw [decide_eq_true (rfl : bY dir = bY dir)]
 refine je (Run.pickT rfl rfl (decide_eq_true jo)) (ja rfl (ja rfl (jO (jN (jv2 4 5 ?_)))))
 refine jT ?_
 refine cQ rfl rfl ?_
 exact ⟨B, dc, rfl, hoD.frm hf9 jp, K9, hup⟩
set_option maxHeartbeats 1000000 in
theorem qQl (x : Pr) (pg : List Nat) (h g : Nat) (F : List Nat) (d : Dk) (w : World) (hR : IsRh w h g F d) (hx : x.1 < 18446744073709551616 ∧ x.2 < 18446744073709551616) (hlen : pg.length = needsM (fR x)) (hle : fR x ≤ 4032) (hpg : ∀ p ∈ pg, p < d.has.length - 42) (hat : x.2 % 65536 = nxP pg 0) (hch : ∀ i, i < pg.length → numV (d.sec (42 + pg.getD i 0)) 0 2 = nxP pg (i + 1)) :
  Calls Tryz.prog 116 #[.pointer (some ⟨h, 0, none⟩), .agg (prC x).toArray] w fun e w' => ∃ B dc, e = .returned (.tuple #[.slice B pg.length dc, .bool true]) ∧ Own w' 3 1 B pg.length dc (ZN pg) ∧ Frm [] w w' ∧ ∀ y ∈ ob B, w.heap.size ≤ y := by
 have hsz := hR.sz
 have hbg := hR.big
 have hnd : needsM (fR x) = (fR x + 125) / 126 := rfl
 refine VC.calls (nt := 51) (res := #[.tmp 4, .tmp 5]) Tryz.func116 rfl Tryz.ntmps116 Tryz.results116 rfl ?_
 refine jS (jR ?_)
 refine Ops.m (qZ.box rfl) rfl ?_
 rintro _ w1 ⟨rfl, hF1⟩
 have hb3 : Blk w1 w.heap.size 128 (prC x).toArray := hF1.blk
 have K1 := hF1.frm
 have hR1 := hR.f0 K1
 have q1 := hF1.size
 generalize hg3 : w.heap.size = g3 at hb3 q1 ⊢
 refine ja rfl (ja rfl (jO (jN (jv2 0 3 ?_))))
 refine jS (jR (je (Run.loadA rfl zdo zl hb3.cells (by first | rfl | (simp; done))) ?_))
 refine Ops.cl (jE1 Tryz.call73) (lI x w1 hx.2) rfl ?_
 rintro e w2 ⟨rfl, hf2⟩
 refine ⟨_, rfl, ?_⟩
 rw [show x.2 / 65536 % 65536 = fR x from rfl]
 have hb3 := hb3.frm hf2 jp
 have hR2 := hR1.f0 hf2
 have K2 := K1.trans hf2 jp
 refine Ops.cl (jE1 Tryz.call97) (nG (fR x) w2 jo) rfl ?_
 rintro e _ ⟨rfl, rfl⟩
 refine ⟨_, rfl, ?_⟩
 rw [← hlen]
 refine ja rfl (jO (jN (jv3 0 3 6 ?_)))
 refine jS (jS (jR (je (Run.loadA rfl zdo zl hb3.cells (by first | rfl | (simp; done))) ?_)))
 refine Ops.cl (jE1 Tryz.call73) (lI x w2 hx.2) rfl ?_
 rintro e w3 ⟨rfl, hf3⟩
 refine ⟨_, rfl, ?_⟩
 rw [show x.2 / 65536 % 65536 = fR x from rfl]
 have hb3 := hb3.frm hf3 jp
 have hR3 := hR2.f0 hf3
 have K3 := K2.trans hf3 jp
 refine jb rfl rfl (Bin.gtrN _ 4032) (jO (jN (jv4 0 3 6 18 ?_)))
 refine VC.condF rfl (decide_eq_false jo) ?_
 refine jQ (jN (jv3 0 3 6 ?_))
 refine jS (jR (ja rfl (jO (jN (jS (jR (jf rfl zbl rfl zaa (jl rfl zas (hb3.cell 1) (jb rfl rfl (Bin.and_u64 _ 65535 jo jo) ?_)))))))))
 rw [show x.2 &&& 65535 = x.2 % 65536 from Nat.and_two_pow_sub_one_eq_mod x.2 16, hat]
 have hn0 : nxP pg 0 ≤ 65536 := by rw [← hat]; omega
 refine je (Run.convN _ rfl zu zab (by simp only [bmax]; omega)) (jb rfl rfl (Bin.subZ _ 1 jo jo) (ja rfl (jO (jN (jv4 0 6 7 8 ?_)))))
 refine jS (jS (jR (jM ?_)))
 refine jx .i64 0 ?_
 refine jO (jN (jv5 0 7 8 24 25 ?_))
 refine jB ?_
 refine VC.loop (σ := Nat × Option Addr × Nat) (fun s => [(0, .pointer (some ⟨h, 0, none⟩)), (7, .slice s.2.1 s.1 s.2.2), (8, .int .i64 (((nxP pg s.1 : Nat) : Int) - 1)), (24, .int .i64 ((pg.length : Nat) : Int)), (25, .int .i64 ((s.1 : Nat) : Int))]) (fun s wr => s.1 ≤ pg.length ∧ Own wr 3 1 s.2.1 s.1 s.2.2 (ZN (pg.take s.1)) ∧ Frm [] w wr ∧ ∀ y ∈ ob s.2.1, g3 ≤ y) (fun s => pg.length - s.1) (0, none, 0) (js5 rfl rfl rfl rfl rfl) ⟨zg _, Own.nil _ _ _, K3, by simp [ob]⟩ ?_
 rintro ⟨i, B, dc⟩ wr ⟨hi, ho, K, hup⟩
 dsimp only at hi ho hup ⊢
 have ks := K.size
 refine jS (jR (jb rfl rfl (Bin.lssN _ _) (jO (jN (jS ?_)))))
 refine jD rfl (fun hc2 => ?_) fun hc2 => ?_
 ·
  have hB0 := ho.lt
  have hpi := hpg _ (bM hc2)
  have hsn := tZ hc2
  have hchi := hch i hc2
  have hnx : nxP pg i = pg.getD i 0 + 1 := if_pos hc2
  rw [hnx]
  generalize pg.getD i 0 = p at hpi hsn hchi
  have hpe : (((p + 1 : Nat) : Int) - 1) = ((p : Nat) : Int) := jo
  rw [hpe]
  obtain ⟨hsl, hso⟩ := hR.dk.ok.secAt (jo : 42 + p < d.has.length)
  refine jQ (jN (jv5 0 7 8 24 25 ?_))
  refine jS (jB (jS (jR (jm rfl (jM ?_)))))
  refine Ops.cl (jE2 Tryz.call71) (uW p h g F d _ (hR.f0 K) hpi) rfl ?_
  rintro e w5 ⟨GB, rfl, hrG, hf5, hupG⟩
  refine ⟨_, rfl, ?_⟩
  have ho := ho.frm hf5 jp
  have K := K.trans hf5 jp
  refine jm rfl (je (Run.extract rfl rfl) (je (Run.extract rfl rfl) (ja rfl (ja rfl (jO (jN (jv7 0 7 8 9 10 24 25 ?_)))))))
  refine jS (jS (jR (jm rfl (je (Run.not rfl) (jO (jN (jv7 0 7 8 9 24 25 34 ?_)))))))
  refine VC.condF rfl (rfl) ?_
  refine jQ (jN (jv6 0 7 8 9 24 25 ?_))
  refine jS (jR (jm rfl (jM ?_)))
  refine Ops.m (qZ.buildS1 rfl zt zq wC jd jd rfl rfl) rfl ?_
  rintro _ w6 ⟨rfl, hF6⟩
  have hr6 : Rd w6 1 (some ⟨w5.heap.size, 0, none⟩) 1 (ZN [p]) := Rd.of_blk (n := 1) (size := 1) hF6.blk rfl
  have ho := ho.frm hF6.frm jp
  have K := K.trans hF6.frm jp
  have ks6 := K.size
  refine Ops.m (qZ.app rfl rfl zt (wD) rfl jd ho hr6 (qZt _) jo jo) rfl ?_
  rintro _ w7 ⟨B7, d7, rfl, ho7, hf7, hob7⟩
  have e7 : ZN (pg.take i) ++ ZN [p] = ZN (pg.take (i + 1)) := by rw [hsn, ZN, ZN, ZN, zy]
  rw [e7] at ho7
  have hup7 := (Fk.of_app hf7 hob7).up hup jo
  have hBl := ho.lt
  have K7 := K.own hf7 (fun y hy => by have := hup y hy; omega)
  have hrG7 := (hrG.frm hF6.frm jp).frm hf7 (fun _ y hy hx => by have := hupG y hy; have := hB0 y hx; omega)
  refine ja rfl (jO (jN (jv5 0 7 9 24 25 ?_)))
  refine jS (jR (jM ?_))
  refine Ops.cl (jE3 zfw) (gU GB 128 128 0 2 (d.sec (42 + p)) _ hsl jo jo jo jo hso hrG7) rfl ?_
  rintro e _ ⟨rfl, rfl⟩
  rw [hchi]
  refine ⟨_, rfl, ?_⟩
  have hn1 : nxP pg (i + 1) ≤ 65536 := by
   unfold nxP
   split
   · next h1 => have := hpg _ (bM h1); omega
   omega
  refine jm rfl (je (Run.extract rfl rfl) (je (Run.extract rfl rfl) (ja rfl (ja rfl (jO (jN (jv5 0 7 11 24 25 ?_)))))))
  refine jR (jm rfl (je (Run.convN _ rfl zu zab (by simp only [bmax]; omega)) (jb rfl rfl (Bin.subZ _ 1 jo jo) (ja rfl (jO ?_)))))
  refine qH (jN ?_)
  refine jv5 0 7 8 24 25 ?_
  refine jR (jb rfl rfl (Bin.add_i64 _ 1 jo) (jm rfl (jO ?_)))
  refine jN ⟨(i + 1, B7, d7), (js5 rfl rfl rfl rfl rfl), ?_, ?_⟩
  · exact ⟨hc2, ho7, K7, hup7⟩
  first | omega | (dsimp only; omega)
 refine jX ?_
 refine qJ (qJ (qT ?_))
 refine jN (jv2 7 8 ?_)
 refine jS (jR (jm rfl (jm rfl (jb rfl rfl (Bin.eql _ (-1)) (ja rfl (ja rfl (jO (jN (jv2 4 5 ?_)))))))))
 refine jT ?_
 refine cQ rfl rfl ?_
 obtain rfl : i = pg.length := jo
 rw [zcd] at ho
 rw [decide_eq_true (by rw [show nxP pg pg.length = 0 from if_neg jo]; rfl)]
 exact ⟨B, dc, rfl, ho, K, hup⟩
end
section
open Go.RowKit
structure Holds (H : Hm) : Prop where
 ok : H.ok
 on : H.dk.off = false
 d59 : H.dir.length ≤ 59
 sup : H.dk.sec 41 = bY H.dir
 tree : pU (bZ H.pairs)
 all : cI (bZ H.pairs) = H.pairs
 pg : H.dir.map (fun p => H.dk.sec (42 + p)) = bZ H.pairs
 tr : ∀ x ∈ H.pairs, (H.lies x.1).length = needsM (fR x) ∧ fR x ≤ 4032 ∧ x.2 % 65536 = nxP (H.lies x.1) 0 ∧ ∀ i, i < (H.lies x.1).length → numV (H.dk.sec (42 + (H.lies x.1).getD i 0)) 0 2 = nxP (H.lies x.1) (i + 1)
 mark : ∃ U, bP H.N (fun _ => false) (bD H) = some U
theorem qW1 (ps : List Pg) : ∀ u ∈ ps.map SL, u.oneCell' = true := fun u hu => by
 obtain ⟨x, _, rfl⟩ := List.mem_map.1 hu
 rfl
set_option maxHeartbeats 2000000 in
theorem qZb (m h g : Nat) (F : List Nat) (H : Hm) (w : World) (hb : Blk w h 91 #[.pointer (some ⟨g, 0, none⟩), .slice none 0 0, .slice none 0 0, .map (some m), .int .i64 0, .slice none 0 0]) (hD : IsDk w g F H.dk) (hF : h ∉ F) (hm : MpU w m (fun _ => none)) (hmX : m ∉ h :: F) (hh : Holds H) :
  Calls Tryz.prog 49 #[.pointer (some ⟨h, 0, none⟩)] w fun e w' => e = .returned (.bool true) ∧ Frm [h, m] w w' ∧ ∃ q, IsHt w' h g F H.count q := by
 have hsz := hh.ok.sz
 have hbg := hh.ok.big
 have hd59 := hh.d59
 have h600 := hh.ok.n600
 have hNe : H.N = H.dk.has.length - 42 := rfl
 have hdp : ∀ p ∈ H.dir, p < H.dk.has.length - 42 := hh.ok.dirp
 have hR : IsRh w h g F H.dk := ⟨hb.cell 0, hD, hF, hsz, hbg, hh.ok.wts, hh.on⟩
 have hX3 : ∀ x ∈ m :: h :: F, x < w.heap.size := fun x hx => by
  rcases zx.1 hx with rfl | hx
  · exact hm.lt
  rcases zx.1 hx with rfl | hx
  · exact hb.lt
  exact hD.lt x hx
 have hdlen : H.dir.length = (bZ H.pairs).length := by rw [← hh.pg, zo]
 obtain ⟨U, hU⟩ := hh.mark
 refine VC.calls (nt := 94) (res := #[.tmp 2]) Tryz.func49 rfl Tryz.ntmps49 Tryz.results49 rfl ?_
 refine jS (jR (ja rfl (jO (jN (jv1 0 ?_)))))
 refine jS (jR (jm rfl (je (Run.nilck rfl) (jf rfl zw rfl zdn (jl rfl zdu (hb.cell 0) ?_)))))
 refine Ops.cl (jE2 Tryz.call28) (hZ g 41 F H.dk w hD (by have := hh.ok.wts; omega)) rfl ?_
 rintro e w1 ⟨B, rfl, hr, hf, hup, _⟩
 refine ⟨_, rfl, ?_⟩
 have hrd : H.dk.read 41 = (0, H.dk.sec 41) := by unfold Dk.read; rw [if_neg jo, if_neg (by simp [hh.on])]
 rw [hrd, hh.sup] at hr ⊢
 dsimp only at hr ⊢
 rw [lZ hd59] at hr ⊢
 have K := hf
 refine jm rfl (je (Run.extract rfl rfl) (je (Run.extract rfl rfl) (ja rfl (ja rfl (jO (jN (jv2 0 3 ?_)))))))
 refine jS (jR (jm rfl (jM ?_)))
 refine Ops.cl (jE2 Tryz.call114) (wU B 128 H.dir h g F H.dk w1 (hR.f0 K) hd59 hdp hr) rfl ?_
 rintro e w2 ⟨DA, dc, rfl, hoD, hf2, hupD⟩
 refine ⟨_, rfl, ?_⟩
 have K := K.trans hf2 jp
 have hupD : ∀ x ∈ ob DA, w.heap.size ≤ x := fun x hx => by have := hupD x hx; have := hf.size; omega
 refine jm rfl (je (Run.extract rfl rfl) (je (Run.extract rfl rfl) (ja rfl (ja rfl (jO (jN (jv3 0 5 6 ?_)))))))
 refine jS (jS (jR (jm rfl (je (Run.not rfl) (jO (jN (jv3 0 5 31 ?_)))))))
 refine VC.condF rfl (rfl) ?_
 refine jQ (jN (jv2 0 5 ?_))
 refine jS (jR (ja rfl (jO (jN (jS (jS (jR (jm rfl (je (Run.lenS rfl zt) ?_)))))))))
 refine jx .i64 0 ?_
 refine jO (jN (jB ?_))
 refine VC.loop (σ := Nat × Option Addr × Nat × List Pg) (fun s => [(0, .pointer (some ⟨h, 0, none⟩)), (5, .slice DA H.dir.length dc), (7, .slice s.2.1 s.1 s.2.2.1), (32, .slice DA H.dir.length dc), (33, .int .i64 ((H.dir.length : Nat) : Int)), (34, .int .i64 ((s.1 : Nat) : Int))]) (fun s wr => s.1 ≤ H.dir.length ∧ Own wr 63 1 s.2.1 s.1 s.2.2.1 (s.2.2.2.map SL) ∧ s.2.2.2.map (·.2.2) = (H.dir.take s.1).map (fun p => H.dk.sec (42 + p)) ∧ PgS w2.heap.size wr (ob s.2.1) s.2.2.2 ∧ (∀ x ∈ s.2.2.2, x.2.2.length ≤ x.2.1) ∧ Frm [] w2 wr ∧ ∀ x ∈ ob s.2.1, w2.heap.size ≤ x) (fun s => H.dir.length - s.1) (0, none, 0, []) (js6 rfl rfl rfl rfl rfl rfl) ⟨zg _, Own.nil _ _ _, rfl, PgS.nil _ _ _, (fun x hx => by cases hx), Frm.refl _ _, by simp [ob]⟩ ?_
 rintro ⟨i, B, d, ps⟩ wr ⟨hi, ho, hps, hpg, hcap, K2, hup⟩
 dsimp only at hi ho hps hpg hcap hup ⊢
 have Kw := K.trans K2 jp
 have ks := Kw.size
 have ks2 := K2.size
 refine jS (jR (jb rfl rfl (Bin.lssN _ _) (jO (jN (jS ?_)))))
 refine jD rfl (fun hc2 => ?_) fun hc2 => ?_
 ·
  obtain ⟨ad, hDA, hcD⟩ := rdZ (hoD.frm K2 jp).rd rfl hc2
  have hpi := hdp _ (bM hc2)
  have hsn := tZ hc2
  subst hDA
  generalize H.dir.getD i 0 = p at hcD hpi hsn
  obtain ⟨hsl, hso⟩ := hD.ok.secAt (jo : 42 + p < H.dk.has.length)
  refine jQ (jN (jv6 0 5 7 32 33 34 ?_))
  refine jS (jB (jS (jR (je (Run.index1 _ rfl rfl zt zq jo) (jl rfl zag hcD (ja rfl (jO (jN (jv7 0 5 7 9 32 33 34 ?_)))))))))
  refine jS (jR (jm rfl (jM ?_)))
  refine Ops.cl (jE2 Tryz.call71) (uW p h g F H.dk _ (hR.f0 Kw) hpi) rfl ?_
  rintro e w5 ⟨GB, rfl, hrG, hf5, hupG⟩
  refine ⟨_, rfl, ?_⟩
  have hBl := ho.lt
  have ho := ho.frm hf5 jp
  have hpg := hpg.frm hf5
  refine jm rfl (je (Run.extract rfl rfl) (je (Run.extract rfl rfl) (ja rfl (ja rfl (jO (jN (jv7 0 5 7 10 32 33 34 ?_)))))))
  refine jR (jm rfl (jM ?_))
  refine Ops.m (qZ.buildS1 rfl zad zr pW jd jd rfl rfl) rfl ?_
  rintro _ w6 ⟨rfl, hF6⟩
  have hr6 : Rd w6 1 (some ⟨w5.heap.size, 0, none⟩) 1 ([(GB, 128, H.dk.sec (42 + p))].map SL) := by
   have h1 : Rd w6 1 (some ⟨w5.heap.size, 0, none⟩) 1 [.slice GB 128 128] := Rd.of_blk (n := 1) (size := 1) hF6.blk rfl
   rw [zau, List.map_nil, SL]
   dsimp only
   rw [hsl]
   exact h1
  have ho := ho.frm hF6.frm jp
  have hpg := hpg.frm hF6.frm
  have hrG := hrG.frm hF6.frm jp
  have q5 := hf5.size
  have q6 := hF6.frm.size
  have hgl := hrG.lt jo
  refine Ops.m (qZ.app rfl rfl zad (wO) rfl jd ho hr6 (qW1 _) jo jo) rfl ?_
  rintro _ w7 ⟨B7, d7, rfl, ho7, hf7, hob7⟩
  have k7 : Fk (ob B) w6 w7 (ob B7) := Fk.of_app hf7 hob7
  rw [← zy] at ho7
  have hGB : ∀ y ∈ ob GB, y ∉ ob B := fun y hy hx => by have := hupG y hy; have := hBl y hx; omega
  have hpg7 := (hpg.fk k7).snoc (x := (GB, 128, H.dk.sec (42 + p))) (by dsimp only; rw [hsl]; exact hrG.frm hf7 (fun _ y hy => hGB y hy)) (fun y hy => ⟨zz (hgl y hy) hf7.size, k7.out (hgl y hy) (hGB y hy)⟩) (fun y hy => by have := hupG y hy; omega)
  have K27 := ((K2.trans hf5 jp).trans hF6.frm jp).own hf7 hup
  have hup7 := k7.up hup jo
  refine ja rfl (jO ?_)
  refine qH (jN ?_)
  refine jv6 0 5 7 32 33 34 ?_
  refine jR (jb rfl rfl (Bin.add_i64 _ 1 jo) (jm rfl (jO ?_)))
  refine jN ⟨(i + 1, B7, d7, ps ++ [(GB, 128, H.dk.sec (42 + p))]), (js6 rfl rfl rfl rfl rfl rfl), ?_, ?_⟩
  ·
   exact ⟨hc2, ho7, by dsimp only; rw [zy, hps, hsn, zy]; rfl, hpg7, fun x hx => by
    rcases zcb.1 hx with hx | hx
    · exact hcap x hx
    rw [za] at hx; subst hx; dsimp only; omega, K27, hup7⟩
  first | omega | (dsimp only; omega)
 obtain rfl : i = H.dir.length := jo
 rw [zcd, hh.pg] at hps
 refine jX ?_
 refine qJ (qJ (qT ?_))
 refine jN (jv3 0 5 7 ?_)
 refine jS (jR (jM ?_))
 refine Ops.cl (jE1 Tryz.call115) (qJs B H.dir.length d ps wr (by have := congrArg List.length hps; rw [zo] at this; omega) jo ho.rd (fun x hx => ⟨(hpg x hx).1, (sD H.pairs x.2.2 (by rw [← hps]; exact List.mem_map.2 ⟨x, hx, rfl⟩)).2⟩) hcap (by rw [hps]; exact hh.tree)) rfl ?_
 rintro e w3 ⟨PA, pc, rfl, hoP, hf3, hupP⟩
 rw [hps, hh.all] at hoP ⊢
 refine ⟨_, rfl, ?_⟩
 have Kw3 := Kw.trans hf3 jp
 have hPX : RdX w3 (m :: h :: F) 2 PA H.pairs.length (PC2 H.pairs) := RdX.of_new (w := w) hoP.rd (fun x hx => by have := hupP x hx; omega) hX3
 have hDX : RdX w3 (m :: h :: F) 1 DA H.dir.length (ZN H.dir) := RdX.of_new (w := w) ((hoD.frm K2 jp).frm hf3 jp).rd hupD hX3
 have hpc := hoP.le
 have hb3 := hb.frm Kw3 jp
 have hm3 := hm.frm Kw3 jp
 have hD3 := hD.frm Kw3 jp
 have hhm : h ≠ m := fun e => hmX (by simp [e])
 have hmF : m ∉ F := fun e => hmX (by simp [e])
 refine jm rfl (je (Run.extract rfl rfl) (je (Run.extract rfl rfl) (ja rfl (ja rfl (jO (jN (jv4 0 5 12 13 ?_)))))))
 refine jS (jS (jR (jm rfl (jb rfl rfl (Bin.neqN _ 0) (jO (jN (jv4 0 5 12 55 ?_)))))))
 refine VC.condF rfl (rfl) ?_
 refine jQ (jN (jv3 0 5 12 ?_))
 refine jS (jR (jm rfl (jm rfl (jm rfl (jm rfl (je (Run.nilck rfl) (jf rfl zw rfl zap ?_)))))))
 refine Ops.st (qS.store rfl rfl zap hb3 rfl rfl) ?_
 rintro w4 ⟨hb4, hf4, hs4⟩
 have hf4 : Frm [h] w3 w4 := hf4
 refine je (Run.nilck rfl) (jf rfl zw rfl zck ?_)
 refine Ops.st (qS.store rfl rfl zck hb4 rfl rfl) ?_
 rintro w5 ⟨hb5, hf5, hs5⟩
 have hf5 : Frm [h] w4 w5 := hf5
 have hb5 : Blk w5 h 91 #[.pointer (some ⟨g, 0, none⟩), .slice PA H.pairs.length pc, .slice DA H.dir.length dc, .map (some m), .int .i64 0, .slice none 0 0] := hb5
 have k35 : Frm [h] w3 w5 := hf4.trans hf5 (fun x hx => .inl hx)
 have kk35 : Fk (m :: h :: F) w3 w5 (m :: h :: F) := Fk.self k35 jp
 have hPX := hPX.fk kk35
 have hDX := hDX.fk kk35
 have hm5 := hm3.frm k35 (by simp; exact Ne.symm hhm)
 have hD5 := hD3.frm k35 (fun x hx e => by rw [za] at e; subst e; exact hF hx)
 have q5 : w.heap.size ≤ w5.heap.size := zaw Kw3.size k35.size
 refine jO (jN (jv2 0 12 ?_))
 refine jS (jS (jR (jm rfl (je (Run.lenS rfl zh) ?_))))
 refine jx .i64 0 ?_
 refine jO (jN (jv4 0 64 65 66 ?_))
 refine jB ?_
 refine VC.loop (σ := Nat × (Nat → Option Lq)) (fun s => [(0, .pointer (some ⟨h, 0, none⟩)), (64, .slice PA H.pairs.length pc), (65, .int .i64 ((H.pairs.length : Nat) : Int)), (66, .int .i64 ((s.1 : Nat) : Int))]) (fun s wr => s.1 ≤ H.pairs.length ∧ MpU wr m s.2 ∧ (∀ id x, s.2 id = some x → RdX wr (m :: h :: F) 1 x.1 x.2.2.length (ZN x.2.2) ∧ id < 18446744073709551616) ∧ (∀ x ∈ H.pairs.take s.1, ∃ r, s.2 x.1 = some r ∧ r.2.2 = H.lies x.1) ∧ Frm [m] w5 wr) (fun s => H.pairs.length - s.1) (0, fun _ => none) (js4 rfl rfl rfl rfl) ⟨zg _, hm5, (fun id x hx => by cases hx), (fun x hx => by cases hx), Frm.refl _ _⟩ ?_
 rintro ⟨i, ly⟩ wr ⟨hi, hml, hly, hlyH, Kr⟩
 dsimp only at hi hml hly hlyH ⊢
 have hbr := hb5.frm Kr (by simpa using hhm)
 have kkr : Fk (m :: h :: F) w5 wr (m :: h :: F) := Fk.self Kr jp
 have hPr := hPX.fk kkr
 have hDr := hDX.fk kkr
 have hDkr := hD5.frm Kr (fun x hx e => by rw [za] at e; subst e; exact hmF hx)
 have qr := Kr.size
 refine jS (jR (jb rfl rfl (Bin.lssN _ _) (jO (jN (jS ?_)))))
 refine jD rfl (fun hc4 => ?_) fun hc4 => ?_
 ·
  obtain ⟨ad, hA, hel⟩ := lF hPr.1 rfl hc4
  have hmem := fN hc4
  have hsn := nO hc4
  have hokx := hh.ok.okp _ hmem
  have hpgx := (hh.ok.pg _ hmem).1
  obtain ⟨t1, t2, t3, t4⟩ := hh.tr _ hmem
  subst hA
  generalize H.pairs.getD i (0, 0) = x at hel hmem hsn hokx hpgx t1 t2 t3 t4
  obtain ⟨xk, xv⟩ := x
  dsimp only at hokx hpgx t1 t4
  refine jQ (jN (jv4 0 64 65 66 ?_))
  refine jS (jB (jS (jR (je (Run.indexS _ rfl rfl zh zl jo) (je (Run.loadA rfl zdo zl hel (by first | rfl | (simp; done))) ?_)))))
  refine Ops.m (qZ.alloc eE) rfl ?_
  rintro _ w6 ⟨rfl, hF6⟩
  refine Ops.st (qS.storeA rfl rfl zl hF6.blk rfl (eI (xk, xv))) ?_
  rintro w7 ⟨hb15, hf7, hs7⟩
  have hb15 : Blk w7 wr.heap.size 128 (prC (xk, xv)).toArray := hb15
  have k67 : Frm [] wr w7 := hF6.frm.own hf7 jp
  have hbr := hbr.frm k67 jp
  have hml := hml.frm k67 jp
  have hDkr := hDkr.frm k67 jp
  have h15 : wr.heap.size ≠ m := by have := hX3 m jp; omega
  have hR7 : IsRh w7 h g F H.dk := ⟨hbr.cell 0, hDkr, hF, hsz, hbg, hh.ok.wts, hh.on⟩
  generalize hg15 : wr.heap.size = g15 at *
  refine jO (jN (jv5 0 15 64 65 66 ?_))
  refine jS ?_
  refine VC.held (fun V => Frm [m] w7 V) jK ?_
  have hS : Frm [m] w7 w7.drew := (Frm.refl _ _).drew
  refine jH 0 rfl hS (fun w0 hw0 => Run.mv rfl) ?_
  refine jH 1 rfl hS (fun w0 hw0 => Run.nilck rfl) ?_
  refine jH 2 rfl hS (fun w0 hw0 => Run.fieldAddr rfl zw rfl zco jd) ?_
  refine jH 3 rfl hS (fun w0 hw0 => Run.load rfl zej ((hbr.frm hw0 (by simpa using hhm)).cell 3)) ?_
  refine jH 4 rfl hS (fun w0 hw0 => Run.fieldAddr rfl zbl rfl zaa jd) ?_
  refine jH 5 rfl hS (fun w0 hw0 => Run.load rfl zas ((hb15.frm hw0 (by simpa using h15)).cell 0)) ?_
  refine jH 6 rfl hS (fun w0 hw0 => Run.mv rfl) ?_
  refine jH 7 rfl hS (fun w0 hw0 => Run.loadA rfl zdo zl ((hb15.frm hw0 (by simpa using h15)).cells) (by first | rfl | (simp; done))) ?_
  refine qQ.cl 8 rfl jK (jE2 Tryz.call116) (qQl (xk, xv) (H.lies xk) h g F H.dk _ (hR7.frm hS (fun y hy e => by rw [za] at e; subst e; exact hmX hy)) hokx t1 t2 hpgx t3 t4) trivial rfl rfl ?_
  rintro e w8 ⟨LB, lc, rfl, hoL, hf8, hupL⟩
  have hS := hS.trans hf8 jp
  refine ⟨_, rfl, hS, ?_⟩
  have k78 : Frm [] w7 w8 := (qV.drew w7).frm.trans hf8 jp
  have hml := hml.frm k78 jp
  have hLX : RdX w8 (m :: h :: F) 1 LB (H.lies xk).length (ZN (H.lies xk)) := RdX.of_new (w := w) hoL.rd (fun y hy => by have h1 := hupL y hy; have h2 := k67.size; rw [show w7.drew.heap.size = w7.heap.size from rfl] at h1; omega) hX3
  refine jH 9 rfl hS (fun w0 hw0 => Run.mv rfl) ?_
  refine jH 10 rfl hS (fun w0 hw0 => Run.extract rfl rfl) ?_
  refine jH 11 rfl hS (fun w0 hw0 => Run.extract rfl rfl) ?_
  refine qQ.st 12 rfl jK (qS.mapUpd (x := xk) rfl rfl rfl hml (Go.Maps.int_keyed zu) kK zdl (gC _ hokx.1)) trivial rfl ?_
  rintro w9 ⟨hml9, hf9, hs9⟩
  have hS := hS.trans hf9 (fun y hy => .inl hy)
  refine ⟨hS, ?_⟩
  have hml9 : MpU w9 m (fun y => if y = xk then some (LB, lc, H.lies xk) else ly y) := by
   have e : lyV (fun y => if y = xk then some (LB, lc, H.lies xk) else ly y) = fun y => if y = xk then some (.slice LB (H.lies xk).length lc) else lyV ly y := by
    funext y
    unfold lyV
    dsimp only
    by_cases h : y = xk
    · rw [if_pos h, if_pos h]; rfl
    rw [if_neg h, if_neg h]
   rw [MpU, e]
   exact hml9
  have k9 : Fk (m :: h :: F) w8 w9 (m :: h :: F) := Fk.self hf9 jp
  have Kr9 : Frm [m] w5 w9 := (Kr.trans k67 jp).trans hS (fun y hy => .inl hy)
  refine jH 13 rfl hS (fun w0 hw0 => Run.asg rfl) ?_
  refine qQ.done jK ?_
  refine jN (jv5 0 6 64 65 66 ?_)
  refine jS (jR (jm rfl (je (Run.not rfl) (jO (jN (jv5 0 64 65 66 83 ?_))))))
  refine VC.condF rfl (rfl) ?_
  refine jQ ?_
  refine qH (jN ?_)
  refine jv4 0 64 65 66 ?_
  refine jR (jb rfl rfl (Bin.add_i64 _ 1 jo) (jm rfl (jO ?_)))
  refine jN ⟨(i + 1, fun y => if y = xk then some (LB, lc, H.lies xk) else ly y), (js4 rfl rfl rfl rfl), ?_, ?_⟩
  ·
   exact ⟨hc4, hml9, fun id r hid => by
    have hid : (if id = xk then some (LB, lc, H.lies xk) else ly id) = some r := hid
    by_cases h : id = xk
    ·
     rw [if_pos h] at hid
     cases hid
     exact ⟨hLX.fk k9, by rw [h]; exact hokx.1⟩
    ·
     rw [if_neg h] at hid
     exact ⟨(((hly id r hid).1.frm k67).frm k78).fk k9, (hly id r hid).2⟩, fun z hz => by
    dsimp only at hz ⊢
    rw [hsn] at hz
    by_cases h : z.1 = xk
    · rw [if_pos h]; exact ⟨_, rfl, by dsimp only; rw [h]⟩
    rcases zcb.1 hz with hz | hz
    · rw [if_neg h]; exact hlyH z hz
    rw [za] at hz; subst hz; exact absurd rfl h, Kr9⟩
  first | omega | (dsimp only; omega)
 obtain rfl : i = H.pairs.length := jo
 rw [zcd] at hlyH
 have hXs : ∀ y ∈ h :: F, y ∈ m :: h :: F := fun y hy => zbf _ hy
 have hC : IsHc wr h g F H ⟨PA, pc, DA, dc, m, none, 0, ly⟩ (.int .i64 0) (.slice none 0 0) := ⟨hh.ok, hDkr, hF, hbr, hPr.mono hXs, hpc, hDr.mono hXs, hml, hmX, fun id x hx => ⟨(hly id x hx).1.mono hXs, (hly id x hx).2⟩, hlyH⟩
 refine jX ?_
 refine qJ (qJ (qT ?_))
 refine jN (jv1 0 ?_)
 refine jS (jR (jm rfl (jM ?_)))
 refine Ops.cl (jE1 Tryz.call47) (rX U _ _ h g F H _ wr hC hU) rfl ?_
 rintro e w6 ⟨UB, uc, rfl, hrU, hf6, hupU⟩
 refine ⟨_, rfl, ?_⟩
 have hC6 := hC.frm hf6
 have ho6 : Own w6 91 6 (some ⟨h, 0, none⟩) 1 1 _ := Own.of_blk hC6.blk rfl jd
 have hX6 : ∀ x ∈ h :: F, x < wr.heap.size := fun x hx => by have := hX3 x (hXs x hx); omega
 have hrX : RdX w6 (h :: F) 1 UB ((H.N + 7) / 8) (NB (bO H.N U)) := RdX.of_new (w := wr) hrU hupU hX6
 refine jm rfl (je (Run.extract rfl rfl) (je (Run.extract rfl rfl) (je (Run.nilck rfl) (jf rfl zw rfl zk ?_))))
 refine Ops.st (qS.storeSub (o := 4) rfl rfl zk ho6 (zp 6) (dP _ _ _)) ?_
 rintro w7 ⟨ho7, hf7, hs7⟩
 have hf7 : Frm [h] w6 w7 := hf7
 have hb7 := ho7.blk1
 have k7 : Fk (h :: F) w6 w7 (h :: F) := Fk.self hf7 jp
 have hcnt : H.count = { H with used := U } := by unfold Hm.count; rw [hU]; rfl
 refine ja rfl (jO (jN (jv1 6 ?_)))
 refine jS (jR (jm rfl (ja rfl (jO (jN (jv1 2 ?_))))))
 refine jT ?_
 refine qB rfl ?_
 refine ⟨rfl, ((((Kw3.mono (T := [h, m]) jp).trans k35 (fun x hx => .inl (by simp at hx; simp [hx]))).trans Kr (fun x hx => .inl (by simp at hx; simp [hx]))).trans hf6 jp).trans hf7 (fun x hx => .inl (by simp at hx; simp [hx])), ⟨PA, pc, DA, dc, m, UB, uc, ly⟩, ?_⟩
 rw [hcnt]
 exact ⟨⟨hh.ok.srt, hh.ok.okp, hh.ok.n600, hh.ok.sz, hh.ok.big, hh.ok.wts, hh.ok.d59, hh.ok.dirp, hh.ok.pg⟩, hC6.dk.frm hf7 (fun x hx e => by rw [za] at e; subst e; exact hF hx), hF, hb7, hC6.pr.fk k7, hpc, hC6.dr.fk k7, hC6.mp.frm hf7 (fun e => hhm (za.1 e).symm), hmX, fun id x hx => ⟨(hC6.ly id x hx).1.fk k7, (hC6.ly id x hx).2⟩, hlyH, hrX.fk k7⟩
end
section
open Go.RowKit
theorem oF (g : Nat) (F : List Nat) (d : Dk) (w : World) (hD : IsDk w g F d) (hsz : 44 ≤ d.has.length) (hwl : d.wts.length ≤ 800000) (hrec : (dQ d).2.1 = 0) (H : Hm) (hdk : (dQ d).2.2 = H.dk) (hh : Holds H) :
  Calls Tryz.prog 12 #[.pointer (some ⟨g, 0, none⟩)] w fun e w' => ∃ h F' q, e = .returned (.tuple #[.pointer (some ⟨h, 0, none⟩), .int .i64 0]) ∧ IsHt w' h g F' H.count q ∧ Fk F w w' (h :: F') ∧ w.heap.size ≤ h := by
 refine VC.calls (nt := 25) (res := #[.tmp 2, .tmp 3]) Tryz.func12 rfl Tryz.ntmps12 Tryz.results12 rfl ?_
 refine jS (jR (ja rfl (jz 0 (jO (jN (jv1 0 ?_))))))
 refine jS (jS (jR (jM ?_)))
 refine Ops.cl (jE1 Tryz.call35) (nH g F d w hD) rfl ?_
 rintro e _ ⟨rfl, rfl⟩
 refine ⟨_, rfl, ?_⟩
 refine jO (jN (jv2 0 8 ?_))
 refine VC.condF rfl (decide_eq_false jo) ?_
 refine jQ (jN (jv1 0 ?_))
 refine jS (jS (jR (jM ?_)))
 refine Ops.cl (jE1 Tryz.call48) (pX g F d w hD hwl) rfl ?_
 rintro e w1 ⟨F1, rfl, hD1, hk1⟩
 refine ⟨_, rfl, ?_⟩
 rw [hrec]
 rw [hdk] at hD1
 refine jm rfl (je (Run.extract rfl rfl) (je (Run.extract rfl rfl) (ja rfl (ja rfl (jO (jN (jv2 0 5 ?_)))))))
 refine jS (jR (jm rfl (jb rfl rfl (Bin.neqN _ 0) (jO (jN (jv3 0 5 15 ?_))))))
 refine VC.condF rfl (rfl) ?_
 refine jQ (jN (jv1 0 ?_))
 refine jS (jR (jM ?_))
 refine Ops.m (qZ.makeMap (k := 54) (enc := fP)) rfl ?_
 rintro _ w2 ⟨rfl, hmp, hf2, hs2⟩
 have hD2 := hD1.frm hf2 jp
 generalize hgm : w1.heap.size = m at hmp hs2 ⊢
 have hmp : MpU w2 m (fun _ => none) := hmp
 have hml := hmp.lt
 refine je (Run.build (evs.cons rfl (evs.cons rfl evs.nil)) qZh (oW).choose_spec.1 (oW).choose_spec.2 (cells := #[.pointer (some ⟨g, 0, none⟩), .slice none 0 0, .slice none 0 0, .map (some m), .int .i64 0, .slice none 0 0]) rfl) ?_
 refine Ops.m (qZ.box rfl) rfl ?_
 rintro _ w3 ⟨rfl, hF3⟩
 have hb3 : Blk w3 w2.heap.size 91 #[.pointer (some ⟨g, 0, none⟩), .slice none 0 0, .slice none 0 0, .map (some m), .int .i64 0, .slice none 0 0] := hF3.blk
 have hmp3 := hmp.frm hF3.frm jp
 have hD3 := hD2.frm hF3.frm jp
 have hFl := hD1.lt
 have q1 := hk1.1.size
 have hh2 : w2.heap.size ∉ F1 := fun hx => by have := hFl _ hx; have := hf2.size; omega
 have hm2 : m ∉ w2.heap.size :: F1 := fun hx => by
  rcases zx.1 hx with h1 | h1
  · omega
  have := hFl _ h1; omega
 have q2 : w1.heap.size ≤ w2.heap.size := hf2.size
 generalize hgh : w2.heap.size = h at *
 refine ja rfl (jO (jN (jv1 6 ?_)))
 refine jS (jS (jR (jM ?_)))
 refine Ops.cl (jE1 Tryz.call49) (qZb m h g F1 H w3 hb3 hD3 hh2 hmp3 hm2 hh) rfl ?_
 rintro e w4 ⟨rfl, hf4, q, hH⟩
 refine ⟨_, rfl, ?_⟩
 refine je (Run.not rfl) (jO (jN (jv2 6 23 ?_)))
 refine VC.condF rfl (rfl) ?_
 refine jQ (jN (jv1 6 ?_))
 refine jS (jR (jm rfl (ja rfl (jz 0 (jO (jN (jv2 2 3 ?_)))))))
 refine jT ?_
 refine cQ rfl rfl ?_
 exact ⟨h, F1, q, rfl, hH, ⟨((hk1.1.trans hf2 jp).trans hF3.frm jp).trans hf4 (fun x hx => .inr (by simp at hx; omega)), fun x hx => by
  rcases zx.1 hx with rfl | hx
  · exact .inr jo
  exact hk1.2 x hx⟩, jo⟩
theorem qJu (g : Nat) (F : List Nat) (d : Dk) (w : World) (hD : IsDk w g F d) (hsz : 44 ≤ d.has.length) (hwl : d.wts.length ≤ 800000) (hrec : (dQ d).2.1 ≠ 0) :
  Calls Tryz.prog 12 #[.pointer (some ⟨g, 0, none⟩)] w fun e w' => ∃ F', e = .returned (.tuple #[.pointer none, .int .i64 (((dQ d).2.1 : Nat) : Int)]) ∧ IsDk w' g F' (dQ d).2.2 ∧ Fk F w w' F' := by
 refine VC.calls (nt := 25) (res := #[.tmp 2, .tmp 3]) Tryz.func12 rfl Tryz.ntmps12 Tryz.results12 rfl ?_
 refine jS (jR (ja rfl (jz 0 (jO (jN (jv1 0 ?_))))))
 refine jS (jS (jR (jM ?_)))
 refine Ops.cl (jE1 Tryz.call35) (nH g F d w hD) rfl ?_
 rintro e _ ⟨rfl, rfl⟩
 refine ⟨_, rfl, ?_⟩
 refine jO (jN (jv2 0 8 ?_))
 refine VC.condF rfl (decide_eq_false jo) ?_
 refine jQ (jN (jv1 0 ?_))
 refine jS (jS (jR (jM ?_)))
 refine Ops.cl (jE1 Tryz.call48) (pX g F d w hD hwl) rfl ?_
 rintro e w1 ⟨F1, rfl, hD1, hk1⟩
 refine ⟨_, rfl, ?_⟩
 refine jm rfl (je (Run.extract rfl rfl) (je (Run.extract rfl rfl) (ja rfl (ja rfl (jO (jN (jv2 0 5 ?_)))))))
 refine jS (jR (jm rfl (jb rfl rfl (Bin.neqN _ 0) (jO (jN (jv3 0 5 15 ?_))))))
 refine VC.condT rfl (decide_eq_true jo) ?_
 refine jS (jR (jm rfl (ja rfl (ja rfl (jO (jN (jv2 2 3 ?_)))))))
 refine jT ?_
 refine qP (cQ rfl rfl ?_)
 exact ⟨F1, rfl, hD1, hk1⟩
end
section
open Go.RowKit
theorem mZ {a r : List Nat} {i : Nat} (h : i < a.length) : (a ++ r).getD i 0 = a.getD i 0 := by
 rw [zc, zct h, ← zc]
theorem qXd {bs : List Nat} (h : bs.length ≤ 124) (h2 : 2 ≤ bs.length) (hk : (bs.getD 0 0 = 2 ∧ bs.getD 1 0 ≤ 12 ∧ bs.getD 1 0 ≠ 0) ∨ (bs.getD 0 0 = 1 ∧ bs.getD 1 0 ≤ 7)) (hl : bs.length = 2 + qXy (bs.getD 0 0) * bs.getD 1 0) : nK (fO bs) := by
 obtain ⟨r, hr⟩ := kB bs h
 have h0 : (fO bs).getD 0 0 = bs.getD 0 0 := by rw [hr]; exact mZ jo
 have h1 : (fO bs).getD 1 0 = bs.getD 1 0 := by rw [hr]; exact mZ jo
 refine ⟨fH h, by rw [h0, h1]; exact hk, ?_⟩
 rw [h0, h1, ← hl]
 conv => lhs; arg 1; rw [hr]
 rw [zci rfl]
theorem qWe {l : List Pr} (h : l.length ≤ 7) : nK (dH l) :=
 qXd (by rw [fG]; omega) (by rw [fG]; omega) (.inr ⟨rfl, h⟩) (by rw [fG]; rfl)
theorem qW2 {l : List Kd} (h : l.length ≤ 12) (h0 : l.length ≠ 0) : nK (jZ l) :=
 qXd (by rw [gG]; omega) (by rw [gG]; omega) (.inl ⟨rfl, h, h0⟩) (by rw [gG]; rfl)
theorem wH : ∀ (l : List Pr) (i : Nat) (r : List Nat), i < l.length → ∃ s, (l.flatMap (fun x => qR x.1 8 ++ qR x.2 8) ++ r).drop (16 * i) = qR (l.getD i (0, 0)).1 8 ++ (qR (l.getD i (0, 0)).2 8 ++ s)
 | a :: l, 0, r, _ => ⟨l.flatMap (fun x => qR x.1 8 ++ qR x.2 8) ++ r, by
  rw [zar, Nat.mul_zero, zbb, zm, zm]
  rfl⟩
 | a :: l, i + 1, r, h => by
  obtain ⟨s, hs⟩ := wH l i r (by simpa using h)
  refine ⟨s, ?_⟩
  rw [zar, zm, show 16 * (i + 1) = 16 + 16 * i by omega, gM (x := qR a.1 8 ++ qR a.2 8) (k := 16) (by rw [zd, numL_len, numL_len]), hs]
  rfl
theorem qJv {l : List Pr} (h : l.length ≤ 7) (hp : OkP l) : cO (dH l) = l := by
 obtain ⟨r, hr⟩ := kB (oR l) (by rw [fG]; omega)
 have hb2 := fG l
 have h0 : (dH l).getD 0 0 = 1 := by rw [dH, hr, mZ jo]; rfl
 have h1 : (dH l).getD 1 0 = l.length := by rw [dH, hr, mZ jo]; rfl
 have hd : ∀ i, i < l.length → fM (dH l) (2 + 16 * i) = (l.getD i (0, 0)).1 ∧ fM (dH l) (10 + 16 * i) = (l.getD i (0, 0)).2 := fun i hi => by
  obtain ⟨s, hs⟩ := wH l i r hi
  have ho := hp _ (fN hi)
  have e1 : (dH l).drop (2 + 16 * i) = qR (l.getD i (0, 0)).1 8 ++ (qR (l.getD i (0, 0)).2 8 ++ s) := by
   rw [dH, hr, oR, show (1 :: l.length :: l.flatMap fun x => qR x.1 8 ++ qR x.2 8) ++ r = [1, l.length] ++ ((l.flatMap fun x => qR x.1 8 ++ qR x.2 8) ++ r) from rfl, gM (x := [1, l.length]) (k := 2) rfl, hs]
  have e2 : (dH l).drop (10 + 16 * i) = qR (l.getD i (0, 0)).2 8 ++ s := by
   rw [show 10 + 16 * i = 2 + 16 * i + 8 by omega, ← zfd, e1, zes (numL_len _ 8)]
  refine ⟨?_, ?_⟩
  · rw [fM, e1, zci (numL_len _ 8), fW 8 _ (by have := ho.1; omega)]
  rw [fM, e2, zci (numL_len _ 8), fW 8 _ (by have := ho.2; omega)]
 unfold cO
 rw [if_neg (by rw [h0]; omega), h1]
 refine zem jp fun i h3 h4 => ?_
 rw [List.getElem_map, List.getElem_range]
 obtain ⟨a, b⟩ := hd i h4
 rw [a, b, zc, zb h4]
 rfl
theorem qK4 {l : List Kd} (h : l.length ≤ 12) : cO (jZ l) = [] := by
 obtain ⟨r, hr⟩ := kB (uS l) (by rw [gG]; omega)
 have hb2 := gG l
 have h0 : (jZ l).getD 0 0 = 2 := by rw [jZ, hr, mZ jo]; rfl
 unfold cO
 rw [if_pos h0]
theorem tJ {l : List Kd} {c : List Kd} (h : c ∈ cL l) : c.length ≤ 12 ∧ c.length ≠ 0 := by
 obtain ⟨i, hi, rfl⟩ := List.mem_map.1 h
 have hi := List.mem_range.1 hi
 rw [zi, zj]
 omega
theorem qWf : ∀ (n : Nat) (out : List (List Nat)) (level : List Kd), level.length = n → (∀ x ∈ out, nK x) → (∀ x ∈ upM out level, nK x) ∧ cI (upM out level) = cI out := by
 intro n
 induction n using Nat.strongRecOn with
 | _ n ih =>
  intro out level hl ho
  rw [upM]
  by_cases h : level.length ≤ 1
  · rw [dif_pos h]; exact ⟨ho, rfl⟩
  rw [dif_neg h]
  obtain ⟨a, b⟩ := ih (nextM out.length (cL level)).length (by rw [eV, dX]; omega) (out ++ (cL level).map jZ) (nextM out.length (cL level)) rfl (fun x hx => by
   rcases zcb.1 hx with hx | hx
   · exact ho x hx
   obtain ⟨c, hc, rfl⟩ := List.mem_map.1 hx
   exact qW2 (tJ hc).1 (tJ hc).2)
  refine ⟨a, b.trans ?_⟩
  unfold cI
  rw [zao]
  have : ((cL level).map jZ).flatMap cO = [] := by
   rw [List.flatMap_eq_nil_iff]
   intro x hx
   obtain ⟨c, hc, rfl⟩ := List.mem_map.1 hx
   exact qK4 (tJ hc).1
  rw [this, zbg]
theorem wM (l : List Pr) : ∀ k, (List.range k).flatMap (fQ l) = l.take (7 * k)
 | 0 => rfl
 | k + 1 => by
  rw [zcn, zao, wM l k, zar, List.flatMap_nil, zbg, show 7 * (k + 1) = 7 * k + 7 by omega, List.take_add]
  rfl
theorem qJw {l : List Pr} (hm : lC l) (hp : OkP l) : pU (bZ l) ∧ cI (bZ l) = l := by
 have hl : ∀ x ∈ dR l (abvM l.length 7), nK x := fun x hx => by
  obtain ⟨i, _, rfl⟩ := List.mem_map.1 hx
  exact qWe (pT l i)
 obtain ⟨a, b⟩ := qWf _ (dR l (abvM l.length 7)) (eX l (abvM l.length 7)) rfl hl
 have hall : cI (bZ l) = l := by
  refine b.trans ?_
  unfold cI dR
  rw [List.flatMap_map]
  have : (fun i => cO (dH (fQ l i))) = fQ l := funext fun i => qJv (pT l i) (fun x hx => hp x (zav (zn hx)))
  rw [this, wM, zf]
  unfold abvM
  omega
 exact ⟨⟨a, by rw [hall]; exact hm, by rw [hall]⟩, hall⟩
structure InvD (H : Hm) : Prop where
 d59 : H.dir.length ≤ 59
 head : H.dk.sec 0 = noM 128
 sup : H.dk.sec 41 = bY H.dir
 dl : H.dir.length = (bZ H.pairs).length
 pg : ∀ i, i < H.dir.length → H.dk.sec (42 + H.dir.getD i 0) = (bZ H.pairs).getD i []
theorem qQm {d : Dk} {l : List Pu} (h : Pow d) (hn : 41 < d.has.length) (hm : bF l d.has.length) : (qF d l).2.sec 0 = noM 128 := by
 have he : qF d l = qI d (bX l) := by unfold qF; rw [if_neg (by intro h1; rcases h1 with h1 | h1; omega; exact h1 hm)]
 obtain ⟨_, _, r3⟩ := jW (bX l) h (jY hm hn)
 rw [he, r3 0 jo]
 unfold bX qC
 rw [← zm, gV]
 simp [cD]
theorem tK {H : Hm} {B : Nat → List Nat} {l : List Ch} (h : InvH H B) (h0 : (qN H l).1 = 0) (hb : ∀ c ∈ l, c.1 < 18446744073709551616 ∧ ∀ b ∈ c.2.1, b < 256) : InvD (qN H l).2 := by
 by_cases hm : cX l
 ·
  by_cases hg : cM H l
  ·
   by_cases hn : 600 < cJ H l ∨ 40 < bQ H l + 1
   ·
    have e : qN H l = (5, H) := by unfold qN; rw [if_neg (not_not_intro hm), if_neg (not_not_intro hg), if_pos hn]
    rw [e] at h0; cases h0
   by_cases hf : H.N - cntS H.N H.used < bQ H l
   ·
    have e : qN H l = (5, H) := by unfold qN; rw [if_neg (not_not_intro hm), if_neg (not_not_intro hg), if_neg hn, if_pos hf]
    rw [e] at h0; cases h0
   obtain ⟨s1, s2, s3, s4, s5, s6⟩ := fS h hm hb jo jo jo
   have e : qN H l = (0, (H.plan (qF H.dk (qD H l).puts).2 (qD H l)).count) := by unfold qN; rw [if_neg (not_not_intro hm), if_neg (not_not_intro hg), if_neg hn, if_neg hf, if_neg (not_not_intro s1)]
   rw [e]
   have hsz := h.ok.sz
   have hmay : bF (qD H l).puts H.dk.has.length := by
    by_cases hx : H.dk.has.length ≤ 41 ∨ ¬ bF (qD H l).puts H.dk.has.length
    ·
     unfold qF at s1
     rw [if_pos hx] at s1
     cases s1
    exact Classical.not_not.1 fun h2 => hx (.inr h2)
   have hdl : (qD H l).dir.length = (bZ (qD H l).pairs).length := by rw [s6, mS]
   have hpt : pagesM (qD H l).pairs.length ≤ bQ H l := by
    have h1 : (qD H l).pairs.length = cJ H l := uX _ _ _ _
    unfold bQ pagesT
    rw [if_pos jo, h1]
    omega
   have hpu : (qD H l).puts = (bK H l ((bG H.N H.used).take (bQ H l))).puts ++ cN (qD H l).dir (bZ (qD H l).pairs) (bZ (qD H l).pairs).length ++ [(41, bY (qD H l).dir)] := rfl
   obtain ⟨c1, c2, c3, c4, c5⟩ := rW h.pow jo hmay
   refine ⟨by show (qD H l).dir.length ≤ 59; omega, qQm h.pow jo hmay, ?_, hdl, fun i hi => ?_⟩
   · exact c4 (41, bY (qD H l).dir) (by rw [hpu]; simp)
   have hi : i < (qD H l).dir.length := hi
   exact c4 (42 + (qD H l).dir.getD i 0, (bZ (qD H l).pairs).getD i []) (by
    rw [hpu]
    refine zdk _ (zfg _ (List.mem_map.2 ⟨i, List.mem_range.2 jo, rfl⟩)))
  have e : qN H l = (6, H) := by unfold qN; rw [if_neg (not_not_intro hm), if_pos hg]
  rw [e] at h0; cases h0
 have e : qN H l = (1, H) := by unfold qN; rw [if_pos hm]
 rw [e] at h0; cases h0
theorem qJx {D pg : List Nat} {i : Nat} (hp : ∀ p ∈ pg, p < 2048) : numV (cF D pg i) 0 2 = nxP pg (i + 1) := by
 rw [(kJ (by rw [pL]; omega)).2, zbb]
 have hl := kS D i
 have hl2 : Nat.min (D.length - 126 * i) 126 ≤ 126 := zfl _ _
 have hn : nextP pg i = nxP pg (i + 1) := rfl
 have hv : nextP pg i < 256 ^ 2 := by
  unfold nextP
  split
  · next h => have := hp _ (bM h); omega
  omega
 unfold cF dO
 rw [if_neg (by rw [zd, numL_len]; omega), zm, zci (numL_len _ 2), fW 2 _ hv, hn]
theorem qK5 {H : Hm} {B : Nat → List Nat} (h : InvH H B) (hd : InvD H) : Holds H := by
 have hbg := h.ok.big
 have hNe : H.N = H.dk.has.length - 42 := rfl
 obtain ⟨t1, t2⟩ := qJw (qQ6 h.ok.srt h.ok.n600) h.ok.okp
 obtain ⟨_, w2, w3⟩ := lV h
 obtain ⟨V, hV, _⟩ := mB H.N (bD H) (fun _ => false) w3 w2 (fun _ _ => rfl)
 refine ⟨h.ok, h.pow.off, hd.d59, hd.sup, t1, t2, ?_, fun x hx => ?_, ⟨V, hV⟩⟩
 ·
  refine zem (by rw [zo]; exact hd.dl) fun i h1 h2 => ?_
  rw [zo] at h1
  have h3 := hd.pg i h1
  rw [zc, zb h1, zc, zb h2] at h3
  rw [List.getElem_map]
  exact h3
 obtain ⟨b1, b2, b3, b4, b5⟩ := h.blob x hx
 have hp : ∀ p ∈ H.lies x.1, p < 2048 := fun p hp => by have := (h.ok.pg x hx).1 p hp; omega
 have hl := (mA x.1 (B x.1) (H.lies x.1) b3 hp).1
 rw [← b1] at hl
 refine ⟨by rw [b2, hl], jo, ?_, fun i hi => by rw [b5 i hi]; exact qJx hp⟩
 have h2 : x.2 = atP (H.lies x.1) + (B x.1).length * 65536 + crcM (B x.1) * 4294967296 := congrArg (·.2) b1
 have ha : atP (H.lies x.1) = nxP (H.lies x.1) 0 := by
  unfold atP nxP
  by_cases h0 : (H.lies x.1).length = 0
  · rw [if_pos h0, if_neg jo]
  rw [if_neg h0, if_pos jo]
 have hlt : atP (H.lies x.1) ≤ 2048 := by
  unfold atP
  split
  · omega
  have := hp _ (bM (jo : 0 < (H.lies x.1).length)); omega
 rw [h2, ← ha]
 omega
theorem wN {H : Hm} {B : Nat → List Nat} (h : InvH H B) : InvH H.count B := by
 obtain ⟨_, w2, w3⟩ := lV h
 obtain ⟨V, hV, hp⟩ := mB H.N (bD H) (fun _ => false) w3 w2 (fun _ _ => rfl)
 have hc : H.count = { H with used := V } := by unfold Hm.count; rw [hV]; rfl
 rw [hc]
 exact ⟨⟨h.ok.srt, h.ok.okp, h.ok.n600, h.ok.sz, h.ok.big, h.ok.wts, h.ok.d59, h.ok.dirp, h.ok.pg⟩, h.pow, h.wts, h.dnod, h.lnod, h.dl, h.ll, fun p _ => (hp p).trans (Bool.false_or _), h.blob⟩
end
section
open Go.RowKit
abbrev Ct := List (List Nat) × List (Nat × List Nat)
def qZc (c : Ct) : Stp → Ct
 | .wr i b => (c.1, c.2 ++ [(i, b)])
 | .fl => (qL (fun _ => true) 0 c.1 c.2, [])
def bI (c : Ct) (l : List Stp) : Ct := l.foldl qZc c
theorem sH (c : Ct) (a b : List Stp) : bI c (a ++ b) = bI (bI c a) b := zed
theorem run1 {d : Dk} {s : Stp} (hf : oC d.has.length s) : (d.fails → s.run d = (10, d.dead)) ∧ (¬ d.fails → ∃ d', s.run d = (0, d') ∧ (d'.has, d'.wts) = qZc (d.has, d.wts) s ∧ d'.off = d.off) := by
 cases s with
 | wr i b =>
  obtain ⟨h1, h2⟩ := hf
  constructor
  ·
   intro hb
   show d.write i b = _
   unfold Dk.write
   rw [if_neg (not_not_intro h1), if_neg (not_not_intro h2), if_pos hb]
  intro hb
  refine ⟨{ d.less with wts := d.wts ++ [(i, b)] }, ?_, rfl, rfl⟩
  show d.write i b = _
  unfold Dk.write
  rw [if_neg (not_not_intro h1), if_neg (not_not_intro h2), if_neg hb]
 | fl =>
  constructor
  ·
   intro hb
   show d.flush = _
   unfold Dk.flush
   rw [if_pos hb]
  intro hb
  refine ⟨{ d.less with has := qL (fun _ => true) 0 d.has d.wts, wts := [] }, ?_, rfl, rfl⟩
  show d.flush = _
  unfold Dk.flush
  rw [if_neg hb]
theorem uO : ∀ (l : List Stp) {d : Dk}, d.off = false → (∀ s ∈ l, oC d.has.length s) → ∃ k, k ≤ l.length ∧ ((qI d l).2.has, (qI d l).2.wts) = bI (d.has, d.wts) (l.take k) ∧ ((qI d l).1 = 0 ∧ k = l.length ∧ (qI d l).2.off = false ∨ (qI d l).1 = 10 ∧ (qI d l).2.off = true)
 | [], d, h, _ => ⟨0, zp _, rfl, .inl ⟨rfl, rfl, h⟩⟩
 | s :: r, d, h, hf => by
  obtain ⟨h1, h2⟩ := run1 (hf s jp)
  by_cases hb : d.fails
  ·
   have e : qI d (s :: r) = (10, d.dead) := by rw [qI, h1 hb]; rfl
   rw [e]
   exact ⟨0, zg _, rfl, .inr ⟨rfl, rfl⟩⟩
  obtain ⟨d', e1, e2, e3⟩ := h2 hb
  have e : qI d (s :: r) = qI d' r := by rw [qI, e1]; rfl
  have hlen : d'.has.length = d.has.length := by
   have := congrArg (·.1.length) e2
   dsimp only at this
   rw [this]
   cases s with
   | wr i b => rfl
   | fl => exact cK _ _ _ _
  obtain ⟨k, k1, k2, k3⟩ := uO r (d := d') (by rw [e3, h]) (fun t ht => by rw [hlen]; exact hf t (by simp [ht]))
  rw [e]
  refine ⟨k + 1, by rw [zv]; omega, ?_, ?_⟩
  ·
   rw [k2, zcs]
   show _ = bI (qZc (d.has, d.wts) s) (r.take k)
   rw [← e2]
  rcases k3 with ⟨a, b, c⟩ | k3
  · exact .inl ⟨a, by rw [b, zv], c⟩
  exact .inr k3
theorem rE (hold : Nat → Bool) : ∀ (ws : List (Nat × List Nat)) (k : Nat) (h : List (List Nat)) (j : Nat), (qL hold k h ws).getD j [] = h.getD j [] ∨ ∃ b, (j, b) ∈ ws ∧ (qL hold k h ws).getD j [] = b
 | [], _, _, _ => .inl rfl
 | (a, b) :: r, k, h, j => by
  rw [qL]
  rcases rE hold r (k + 1) (if hold k then h.set a b else h) j with h1 | ⟨c, h1, h2⟩
  ·
   rw [h1]
   split
   ·
    rw [zc, zgi]
    by_cases e : a = j
    ·
     subst e
     rw [if_pos rfl]
     by_cases hl : a < h.length
     ·
      rw [if_pos hl]
      exact .inr ⟨b, jp, rfl⟩
     rw [if_neg hl]
     refine .inl ?_
     rw [zc, zbm jo]
    rw [if_neg e]
    exact .inl (zc ..).symm
   exact .inl rfl
  exact .inr ⟨c, by simp [h1], h2⟩
theorem fT {hold : Nat → Bool} {ws : List (Nat × List Nat)} {k : Nat} {h : List (List Nat)} {j : Nat} (hj : j ∉ ws.map (·.1)) : (qL hold k h ws).getD j [] = h.getD j [] := by
 rcases rE hold ws k h j with h1 | ⟨b, h1, _⟩
 · exact h1
 exact absurd (List.mem_map.2 ⟨_, h1, rfl⟩) hj
theorem zJ : ∀ {ws : List (Nat × List Nat)} {j : Nat}, j ∈ ws.map (·.1) → ∃ s, cR j ws = some s
 | (a, b) :: r, j, h => by
  rw [cR]
  cases hr : cR j r with
  | some s => exact ⟨s, rfl⟩
  | none =>
   dsimp only
   rw [zau] at h
   rcases zx.1 h with h | h
   ·
    have h : j = a := h
    rw [if_pos h.symm]; exact ⟨b, rfl⟩
   obtain ⟨s, hs⟩ := zJ h
   rw [hs] at hr; cases hr
theorem oA {ws : List (Nat × List Nat)} {h : List (List Nat)} {j : Nat} {b : List Nat} (hn : (ws.map (·.1)).Nodup) (hm : (j, b) ∈ ws) (hj : j < h.length) : (qL (fun _ => true) 0 h ws).getD j [] = b := by
 rw [rV ws 0 h j hj]
 obtain ⟨s, hs⟩ := zJ (ws := ws) (j := j) (List.mem_map.2 ⟨_, hm, rfl⟩)
 rw [hs]
 have h1 := mY hs
 have key : ∀ {l : List (Nat × List Nat)}, (l.map (·.1)).Nodup → ∀ {u v}, (j, u) ∈ l → (j, v) ∈ l → u = v := by
  intro l
  induction l with
  | nil => intro _ u v hu; cases hu
  | cons x r ih =>
   intro hnd u v hu hv
   rw [zau, zet] at hnd
   rcases zx.1 hu with e1 | hu1 <;> rcases zx.1 hv with e2 | hv1
   · rw [← e1] at e2; exact ((Prod.mk.inj e2).2).symm
   · exact absurd (List.mem_map.2 ⟨_, hv1, rfl⟩) (by rw [← e1] at hnd; exact hnd.1)
   · exact absurd (List.mem_map.2 ⟨_, hu1, rfl⟩) (by rw [← e2] at hnd; exact hnd.1)
   exact ih hnd.2 hu1 hv1
 exact key hn h1 hm
def wrS (x : Pu) : Stp := .wr x.1 x.2
theorem oJ : ∀ (l : List Pu) (h : List (List Nat)) (ws : List (Nat × List Nat)), bI (h, ws) (l.map wrS) = (h, ws ++ l)
 | [], h, ws => by simp [bI]
 | x :: r, h, ws => by
  show bI (h, ws ++ [(x.1, x.2)]) (r.map wrS) = _
  rw [oJ r]
  simp
def fU (k : Nat) : List Pu → List Pu
 | [] => []
 | x :: r => (1 + k, x.2) :: fU (k + 1) r
theorem zK : ∀ (l : List Pu) (k : Nat), eQ k l = (fU k l).map wrS
 | [], _ => rfl
 | x :: r, k => by rw [eQ, fU, zau, zK r]; rfl
theorem oI : ∀ (l : List Pu) (k : Nat), (fU k l).length = l.length
 | [], _ => rfl
 | x :: r, k => by rw [fU, zv, oI r, zv]
theorem tV : ∀ (l : List Pu) (k j : Nat), j ∈ (fU k l).map (·.1) → 1 + k ≤ j ∧ j < 1 + k + l.length
 | x :: r, k, j, h => by
  rw [fU, zau] at h
  rw [zv]
  rcases zx.1 h with h | h
  ·
   have h : j = 1 + k := h
   omega
  have := tV r (k + 1) j h
  omega
theorem zV : ∀ (l : List Pu) (k : Nat), ((fU k l).map (·.1)).Nodup
 | [], _ => List.nodup_nil
 | x :: r, k => by
  rw [fU, zau, zet]
  refine ⟨fun h => ?_, zV r (k + 1)⟩
  have := tV r (k + 1) _ h
  dsimp only at this
  omega
theorem qXe : ∀ (l : List Pu) (k i : Nat), i < l.length → (1 + k + i, (l.getD i (0, [])).2) ∈ fU k l
 | x :: r, k, 0, _ => by rw [fU]; exact zby
 | x :: r, k, i + 1, h => by
  rw [fU]
  refine zbf _ ?_
  have := qXe r (k + 1) i (by simpa using h)
  rw [show 1 + k + (i + 1) = 1 + (k + 1) + i by omega]
  exact this
structure CG (H : Hm) (h : List (List Nat)) : Prop where
 len : h.length = H.dk.has.length
 head : h.getD 0 [] = noM 128
 sec : ∀ j, 41 ≤ j → j < H.dk.has.length → h.getD j [] = H.dk.sec j
structure CL (H : Hm) (l : List Pu) (h : List (List Nat)) : Prop where
 len : h.length = H.dk.has.length
 head : h.getD 0 [] = bS l
 log : ∀ i, i < l.length → h.getD (1 + i) [] = (l.getD i (0, [])).2
 sec : ∀ j, 41 ≤ j → j < H.dk.has.length → j ∉ l.map (·.1) → h.getD j [] = H.dk.sec j
structure Trn (H H' : Hm) (l : List Pu) : Prop where
 len : H'.dk.has.length = H.dk.has.length
 sz : 44 ≤ H.dk.has.length
 big : H.dk.has.length ≤ 2048
 may : bF l H.dk.has.length
 new : ∀ x ∈ l, H'.dk.sec x.1 = x.2
 old : ∀ j, 41 ≤ j → j < H.dk.has.length → j ∉ l.map (·.1) → H'.dk.sec j = H.dk.sec j
section
variable {H H' : Hm} {l : List Pu} {h : List (List Nat)}
theorem Trn.key (t : Trn H H' l) {j : Nat} (hj : j ∈ l.map (·.1)) : 41 ≤ j ∧ j < H.dk.has.length := by
 obtain ⟨x, hx, rfl⟩ := List.mem_map.1 hj
 exact (t.may.2.1 x hx).1
theorem oL (t : Trn H H' l) (c : CL H l h) (k : Nat) (hold : Nat → Bool) :
  (CL H l (qL hold 0 (bI (h, []) ((qC l).take k)).1 (bI (h, []) ((qC l).take k)).2) ∨ CG H' (qL hold 0 (bI (h, []) ((qC l).take k)).1 (bI (h, []) ((qC l).take k)).2)) ∧
   (k = (qC l).length → CG H' (bI (h, []) ((qC l).take k)).1 ∧ (bI (h, []) ((qC l).take k)).2 = []) := by
 have hk0 : ∀ {i : Nat}, i < 41 → i ∉ l.map (·.1) := fun hi hj => by have := (t.key hj).1; omega
 have hm40 := t.may.1.2
 have hlen := c.len
 have hsz := t.sz
 have base : ∀ (hold : Nat → Bool) (m : List Pu), (∀ x ∈ m, x ∈ l) → CL H l (qL hold 0 h m) := fun hold m hm => by
  have off : ∀ {j : Nat}, j ∉ l.map (·.1) → (qL hold 0 h m).getD j [] = h.getD j [] := fun hj => fT (fun hx => by
   obtain ⟨x, hxm, he⟩ := List.mem_map.1 hx
   exact hj (List.mem_map.2 ⟨x, hm x hxm, he⟩))
  exact ⟨by rw [cK]; exact c.len, by rw [off (hk0 jo)]; exact c.head, fun i hi => by rw [off (hk0 jo)]; exact c.log i hi, fun j h1 h2 h3 => by rw [off h3]; exact c.sec j h1 h2 h3⟩
 have hsl : (qC l).length = l.length + 3 := gZ l
 have hse : qC l = l.map wrS ++ [.fl, .wr 0 (noM 128), .fl] := rfl
 obtain ⟨h2, hh2⟩ : ∃ h2, h2 = qL (fun _ => true) 0 h l := ⟨_, rfl⟩
 have c2 : CL H l h2 := by rw [hh2]; exact base _ l (fun x hx => hx)
 have n2 : ∀ j, 41 ≤ j → j < H.dk.has.length → h2.getD j [] = H'.dk.sec j := fun j h3 h4 => by
  by_cases hj : j ∈ l.map (·.1)
  ·
   obtain ⟨x, hx, rfl⟩ := List.mem_map.1 hj
   rw [t.new x hx, hh2]
   exact oA t.may.2.2 hx jo
  rw [t.old j h3 h4 hj]; exact c2.sec j h3 h4 hj
 have fin : ∀ (hold : Nat → Bool), (qL hold 0 h2 [(0, noM 128)]).getD 0 [] = noM 128 → CG H' (qL hold 0 h2 [(0, noM 128)]) := fun hold h0 => by
  refine ⟨by rw [cK, t.len]; exact c2.len, h0, fun j h3 h4 => ?_⟩
  rw [fT (by simp; omega)]
  exact n2 j h3 (by rw [← t.len]; exact h4)
 by_cases hk : k ≤ l.length
 ·
  have e : bI (h, []) ((qC l).take k) = (h, l.take k) := by
   rw [hse, zaq (by rw [zo]; exact hk), ← zcp, oJ]
   rfl
  rw [e]
  exact ⟨.inl (base hold _ (fun x hx => zn hx)), fun hx => jo⟩
 obtain ⟨m, rfl⟩ : ∃ m, k = l.length + (m + 1) := ⟨k - l.length - 1, jo⟩
 have e : bI (h, []) ((qC l).take (l.length + (m + 1))) = bI (h2, []) (([.wr 0 (noM 128), .fl] : List Stp).take m) := by
  rw [hse, List.take_append, zf (by rw [zo]; omega), sH, oJ, zo, show l.length + (m + 1) - l.length = m + 1 by omega, zcs, hh2]
  rfl
 rw [e]
 have h20 : 0 < h2.length := by rw [c2.len]; omega
 match m with
 | 0 => exact ⟨.inl c2, fun hx => jo⟩
 | 1 =>
  refine ⟨?_, fun hx => jo⟩
  show CL H l (qL hold 0 h2 [(0, noM 128)]) ∨ CG H' (qL hold 0 h2 [(0, noM 128)])
  rcases rE hold [(0, noM 128)] 0 h2 0 with h3 | ⟨b, h3, h4⟩
  ·
   refine .inl ⟨by rw [cK]; exact c2.len, h3.trans c2.head, fun i hi => ?_, fun j h5 h6 h7 => ?_⟩
   · rw [fT jp]; exact c2.log i hi
   rw [fT (by simp; omega)]; exact c2.sec j h5 h6 h7
  simp at h3
  subst h3
  exact .inr (fin hold h4)
 | m + 2 =>
  have e2 : bI (h2, []) (([.wr 0 (noM 128), .fl] : List Stp).take (m + 2)) = (qL (fun _ => true) 0 h2 [(0, noM 128)], []) := by
   rw [zf jp]
   rfl
  rw [e2]
  have := fin (fun _ => true) (oA jp jp h20)
  exact ⟨.inr this, fun _ => ⟨this, rfl⟩⟩
theorem qZd (t : Trn H H' l) (c : CG H h) (k : Nat) (hold : Nat → Bool) :
  (CG H (qL hold 0 (bI (h, []) ((bX l).take k)).1 (bI (h, []) ((bX l).take k)).2) ∨ CL H l (qL hold 0 (bI (h, []) ((bX l).take k)).1 (bI (h, []) ((bX l).take k)).2) ∨ CG H' (qL hold 0 (bI (h, []) ((bX l).take k)).1 (bI (h, []) ((bX l).take k)).2)) ∧
   (k = (bX l).length → CG H' (bI (h, []) ((bX l).take k)).1 ∧ (bI (h, []) ((bX l).take k)).2 = []) := by
 have hm40 := t.may.1.2
 have hlen := c.len
 have hsz := t.sz
 have hkey : ∀ {j : Nat}, j ∈ (fU 0 l).map (·.1) → 1 ≤ j ∧ j < 41 := fun hj => by have := tV l 0 _ hj; omega
 have base : ∀ (hold : Nat → Bool) (m : List Pu), (∀ x ∈ m, x ∈ fU 0 l) → CG H (qL hold 0 h m) := fun hold m hm => by
  have off : ∀ {j : Nat}, (j = 0 ∨ 41 ≤ j) → (qL hold 0 h m).getD j [] = h.getD j [] := fun hj => fT (fun hx => by
   obtain ⟨x, hxm, he⟩ := List.mem_map.1 hx
   have := hkey (List.mem_map.2 ⟨x, hm x hxm, he⟩)
   omega)
  exact ⟨by rw [cK]; exact c.len, by rw [off (.inl rfl)]; exact c.head, fun j h1 h2 => by rw [off (.inr h1)]; exact c.sec j h1 h2⟩
 have hcl : (bX l).length = 2 * l.length + 6 := nJ l
 have hce : bX l = (fU 0 l).map wrS ++ ([.fl, .wr 0 (bS l), .fl] ++ qC l) := by unfold bX; rw [zK, zm]
 obtain ⟨h1, hh1⟩ : ∃ h1, h1 = qL (fun _ => true) 0 h (fU 0 l) := ⟨_, rfl⟩
 have c1 : CG H h1 := by rw [hh1]; exact base _ _ (fun x hx => hx)
 have l1 : ∀ i, i < l.length → h1.getD (1 + i) [] = (l.getD i (0, [])).2 := fun i hi => by
  rw [hh1]
  have := qXe l 0 i hi
  rw [zfu] at this
  exact oA (zV l 0) this jo
 have toL : ∀ (hold : Nat → Bool), (qL hold 0 h1 [(0, bS l)]).getD 0 [] = bS l → CL H l (qL hold 0 h1 [(0, bS l)]) := fun hold h0 =>
  ⟨by rw [cK]; exact c1.len, h0, fun i hi => by rw [fT jp]; exact l1 i hi, fun j h3 h4 _ => by rw [fT (by simp; omega)]; exact c1.sec j h3 h4⟩
 by_cases hk : k ≤ l.length
 ·
  have e : bI (h, []) ((bX l).take k) = (h, (fU 0 l).take k) := by
   rw [hce, zaq (by rw [zo, oI]; exact hk), ← zcp, oJ]
   rfl
  rw [e]
  exact ⟨.inl (base hold _ (fun x hx => zn hx)), fun hx => jo⟩
 obtain ⟨m, rfl⟩ : ∃ m, k = l.length + (m + 1) := ⟨k - l.length - 1, jo⟩
 have e : bI (h, []) ((bX l).take (l.length + (m + 1))) = bI (h1, []) ((([.wr 0 (bS l), .fl] : List Stp) ++ qC l).take m) := by
  rw [hce, List.take_append, zf (by rw [zo, oI]; omega), sH, oJ, zo, oI, show l.length + (m + 1) - l.length = m + 1 by omega, zbr, zcs, hh1]
  rfl
 rw [e]
 have h10 : 0 < h1.length := by rw [c1.len]; omega
 match m with
 | 0 => exact ⟨.inl c1, fun hx => jo⟩
 | 1 =>
  refine ⟨?_, fun hx => jo⟩
  show CG H (qL hold 0 h1 [(0, bS l)]) ∨ CL H l (qL hold 0 h1 [(0, bS l)]) ∨ CG H' (qL hold 0 h1 [(0, bS l)])
  rcases rE hold [(0, bS l)] 0 h1 0 with h3 | ⟨b, h3, h4⟩
  · exact .inl ⟨by rw [cK]; exact c1.len, h3.trans c1.head, fun j h5 h6 => by rw [fT (by simp; omega)]; exact c1.sec j h5 h6⟩
  simp at h3
  subst h3
  exact .inr (.inl (toL hold h4))
 | m + 2 =>
  have e2 : bI (h1, []) ((([.wr 0 (bS l), .fl] : List Stp) ++ qC l).take (m + 2)) = bI (qL (fun _ => true) 0 h1 [(0, bS l)], []) ((qC l).take m) := rfl
  rw [e2]
  obtain ⟨a, b⟩ := oL t (toL _ (oA jp jp h10)) m hold
  exact ⟨.inr a, fun hx => b (by rw [gZ]; omega)⟩
end
end
section
open Go.RowKit
theorem zW {l : List Pu} (h : l.length ≤ 40) : ∃ r, bS l = fI l ++ r := by
 unfold bS dO fF
 rw [if_neg (by rw [zd, numL_len, mH]; omega), zm]
 exact ⟨_, rfl⟩
theorem qJy {l : List Pu} (h : l.length ≤ 40) : headN (bS l) = l.length := by
 obtain ⟨r, hr⟩ := zW h
 unfold headN
 rw [hr, fI, zm, zm, zm, show (4 : Nat) = 4 + 0 from rfl, gM (x := qR 1785491060 4) (k := 4) (numL_len _ 4), zbb, zci (numL_len _ 2), fW 2 _ jo]
theorem qWg {l : List Pu} (h : l.length ≤ 40) {n : Nat} (hm : bF l n) (hn : n ≤ 2048) {i : Nat} (hi : i < l.length) : cC (((bS l).drop (10 + 2 * i)).take 2) = (l.getD i (0, [])).1 := by
 obtain ⟨r, hr⟩ := zW h
 have hg : l.getD i (0, []) = l[i] := by rw [zc, zb hi]; rfl
 have hx := (hm.2.1 l[i] (zbe hi)).1
 have he : (l.flatMap fun x => qR x.1 2) = (l.map (·.1)).flatMap fun p => qR p 2 := by rw [List.flatMap_map]
 have hgm : (l.map (·.1)).getD i 0 = (l.getD i (0, [])).1 := by rw [hg, zc, zce, zb hi]; rfl
 rw [hr, fI, zm, gM (x := qR 1785491060 4 ++ qR l.length 2 ++ qR (nZ l) 4) (k := 10) (by simp [numL_len]), he, tX _ i r (by rw [zo]; exact hi), hgm, fW 2 _ (by rw [hg]; omega)]
theorem qJz {d : Dk} {l : List Pu} {n : Nat} (hm : bF l n) (hn : n ≤ 2048) (hs : ∀ i, i < l.length → d.sec (1 + i) = (l.getD i (0, [])).2) : fL d (bS l) (headN (bS l)) = l := by
 have h40 := hm.1.2
 rw [qJy h40]
 unfold fL
 refine zem jp fun i h1 h2 => ?_
 have hg : l.getD i (0, []) = l[i] := by rw [zc, zb h2]; rfl
 rw [List.getElem_map, List.getElem_range, qWg h40 hm hn h2, hs i h2, hg]
theorem eW {d : Dk} (h : d.wts = []) (j : Nat) : d.sec j = d.has.getD j [] := by
 unfold Dk.sec
 rw [h]
 rfl
theorem wP {d : Dk} (hl : 41 < d.has.length) (hon : d.off = false) (h0 : d.sec 0 = noM 128) : dQ d = (0, 0, d) := by
 unfold dQ
 rw [if_neg jo, if_neg (by simp [hon]), h0]
 have hn : ¬ dU d (noM 128) := fun ht => by
  have h1 := ht.1.1
  have h2 : headN (noM 128) = 0 := jd
  omega
 rw [if_neg hn, if_neg jp]
section
variable {H H' : Hm} {l : List Pu} {d : Dk}
theorem qK6 (t : Trn H H' l) (hw : d.wts = []) (hon : d.off = false) (c : CL H l d.has) : dQ d = if (qI d (qC l)).1 ≠ 0 then (0, qI d (qC l)) else (l.length, qI d (qC l)) := by
 have hlen := c.len
 have hsz := t.sz
 have h40 := t.may.1
 have h0 : d.sec 0 = bS l := (eW hw 0).trans c.head
 have htn : fL d (bS l) (headN (bS l)) = l := qJz t.may t.big (fun i hi => (eW hw _).trans (c.log i hi))
 have hn := qJy h40.2
 have hT : dU d (bS l) := by
  unfold dU
  rw [htn, hn]
  exact ⟨h40, by rw [hlen]; exact t.may, rfl⟩
 unfold dQ
 rw [if_neg jo, if_neg (by simp [hon]), h0, if_pos hT, htn, hn]
theorem rF (h : H.ok) (hl : d.has.length = H.dk.has.length) (hw : d.wts.length ≤ 100000) : ({ H with dk := d } : Hm).ok := by
 have hN : ({ H with dk := d } : Hm).N = H.N := by unfold Hm.N; dsimp only; rw [hl]
 exact ⟨h.srt, h.okp, h.n600, by dsimp only; rw [hl]; exact h.sz, by dsimp only; rw [hl]; exact h.big, hw, h.d59, fun p hp => by rw [hN]; exact h.dirp p hp, fun x hx => by rw [hN]; exact h.pg x hx⟩
theorem mJ {B : Nat → List Nat} (h : InvH H B) (hd : InvD H) (hon : d.off = false) (hw : d.wts = []) (c : CG H d.has) : Holds { H with dk := d } := by
 have hh := qK5 h hd
 have hl := c.len
 have hsz := h.ok.sz
 have hNe : H.N = H.dk.has.length - 42 := rfl
 have hN : ({ H with dk := d } : Hm).N = H.N := by unfold Hm.N; dsimp only; rw [hl]
 have hs : ∀ j, 41 ≤ j → j < H.dk.has.length → d.sec j = H.dk.sec j := fun j h1 h2 => (eW hw j).trans (c.sec j h1 h2)
 refine ⟨rF h.ok hl (by rw [hw]; exact zg _), hon, hh.d59, ?_, hh.tree, hh.all, ?_, fun x hx => ?_, ?_⟩
 · exact (hs 41 jo jo).trans hh.sup
 ·
  refine Eq.trans ?_ hh.pg
  exact zen fun p hp => hs _ jo (by have := h.ok.dirp p hp; omega)
 ·
  obtain ⟨a1, a2, a3, a4⟩ := hh.tr x hx
  refine ⟨a1, a2, a3, fun i hi => ?_⟩
  have h1 := (h.ok.pg x hx).1 _ (bM hi)
  show numV (d.sec (42 + (H.lies x.1).getD i 0)) 0 2 = _
  rw [hs _ jo jo]
  exact a4 i hi
 rw [hN]; exact hh.mark
theorem qJ0 {B : Nat → List Nat} (h : InvH H B) (hp : Pow d) (hw : d.wts = []) (c : CG H d.has) : InvH { H with dk := d } B := by
 have hl := c.len
 have hNe : H.N = H.dk.has.length - 42 := rfl
 have hN : ({ H with dk := d } : Hm).N = H.N := by unfold Hm.N; dsimp only; rw [hl]
 refine ⟨rF h.ok hl (by rw [hw]; exact zg _), hp, hw, h.dnod, h.lnod, h.dl, h.ll, fun p hp2 => ?_, fun x hx => ?_⟩
 ·
  rw [hN] at hp2
  exact h.used p hp2
 obtain ⟨b1, b2, b3, b4, b5⟩ := h.blob x hx
 refine ⟨b1, b2, b3, b4, fun i hi => ?_⟩
 have h1 := (h.ok.pg x hx).1 _ (bM hi)
 show d.sec (42 + (H.lies x.1).getD i 0) = _
 rw [eW hw, c.sec _ jo jo]
 exact b5 i hi
theorem qW5 (h : InvD H) (hw : H.dk.wts = []) : CG H H.dk.has := ⟨rfl, by rw [← eW hw]; exact h.head, fun j _ _ => (eW hw j).symm⟩
def Cls (done : Prop) (H H' : Hm) (l : List Pu) (h : List (List Nat)) : Prop := (¬ done ∧ CG H h) ∨ CL H l h ∨ CG H' h
structure AnyCut (done : Prop) (H H' : Hm) (l : List Pu) (D : Dk) : Prop where
 len : D.has.length = H.dk.has.length
 wts : D.wts.length ≤ 1000
 cls : ∀ hold, Cls done H H' l (qL hold 0 D.has D.wts)
theorem Cls.len {done : Prop} {h : List (List Nat)} (t : Trn H H' l) (c : Cls done H H' l h) : h.length = H.dk.has.length := by
 rcases c with ⟨_, c⟩ | c | c
 · exact c.len
 · exact c.len
 exact c.len.trans t.len
theorem AnyCut.clean {done : Prop} (t : Trn H H' l) (hw : d.wts = []) (c : Cls done H H' l d.has) : AnyCut done H H' l d := ⟨c.len t, by rw [hw]; exact zg _, fun hold => by rw [hw]; exact c⟩
theorem oO : ∀ (s : List Stp) (c : Ct), (bI c s).2.length ≤ c.2.length + s.length
 | [], c => zp _
 | .wr i b :: r, c => by
  have := oO r (c.1, c.2 ++ [(i, b)])
  rw [zd, zcc] at this
  show (bI (c.1, c.2 ++ [(i, b)]) r).2.length ≤ _
  rw [zv]; omega
 | .fl :: r, c => by
  have := oO r (qL (fun _ => true) 0 c.1 c.2, [])
  show (bI (qL (fun _ => true) 0 c.1 c.2, []) r).2.length ≤ _
  rw [zer] at this
  rw [zv]; omega
theorem pQ : ∀ (s : List Stp) (c : Ct), (bI c s).1.length = c.1.length
 | [], c => rfl
 | .wr i b :: r, c => pQ r (c.1, c.2 ++ [(i, b)])
 | .fl :: r, c => (pQ r (qL (fun _ => true) 0 c.1 c.2, [])).trans (cK _ _ _ _)
theorem qXf {done : Prop} {B B' : Nat → List Nat} (t : Trn H H' l) (h : InvH H B) (hd : InvD H) (h' : InvH H' B') (hd' : InvD H') (hw : d.wts = []) (hon : d.off = false) (c : Cls done H H' l d.has) :
  AnyCut done H H' l (dQ d).2.2 ∧ ((dQ d).2.1 = 0 → ∃ X : Hm, X.dk = (dQ d).2.2 ∧ Holds X) ∧
   (Pow d → (dQ d).2.1 = 0 ∧ Pow (dQ d).2.2 ∧ (dQ d).2.2.wts = [] ∧ ((¬ done ∧ CG H (dQ d).2.2.has) ∨ CG H' (dQ d).2.2.has)) := by
 have hlen := c.len t
 have hsz := t.sz
 rcases c with ⟨hn, c⟩ | c | c
 ·
  have e := wP (d := d) jo hon ((eW hw 0).trans c.head)
  rw [e]
  exact ⟨AnyCut.clean t hw (.inl ⟨hn, c⟩), fun _ => ⟨{ H with dk := d }, rfl, mJ h hd hon hw c⟩, fun hp => ⟨rfl, hp, hw, .inl ⟨hn, c⟩⟩⟩
 ·
  have e := qK6 t hw hon c
  have hfit : ∀ s ∈ qC l, oC d.has.length s := fun s hs => by
   have := jY t.may jo s (by unfold bX; exact zfg _ hs)
   rw [hlen]; exact this
  obtain ⟨k, k1, k2, k3⟩ := uO (qC l) hon hfit
  rw [hw] at k2
  have hsl := gZ l
  have h40 := t.may.1.2
  have e1 : (qI d (qC l)).2.has = (bI (d.has, []) ((qC l).take k)).1 := congrArg (·.1) k2
  have e2 : (qI d (qC l)).2.wts = (bI (d.has, []) ((qC l).take k)).2 := congrArg (·.2) k2
  have hac : AnyCut done H H' l (qI d (qC l)).2 := by
   refine ⟨by rw [e1, pQ]; exact hlen, ?_, fun hold => ?_⟩
   ·
    rw [e2]
    have := oO ((qC l).take k) (d.has, [])
    rw [zi, zer] at this
    omega
   rw [e1, e2]
   exact .inr (oL t c k hold).1
  have hfull : (qI d (qC l)).1 = 0 → (qI d (qC l)).2.off = false ∧ (qI d (qC l)).2.wts = [] ∧ CG H' (qI d (qC l)).2.has := fun h0 => by
   rcases k3 with ⟨_, hk, ho⟩ | ⟨hx, _⟩
   ·
    obtain ⟨a, b⟩ := (oL t c k (fun _ => true)).2 hk
    exact ⟨ho, by rw [e2]; exact b, by rw [e1]; exact a⟩
   omega
  by_cases h0 : (qI d (qC l)).1 = 0
  ·
   rw [if_neg (not_not_intro h0)] at e
   rw [e]
   obtain ⟨a1, a2, a3⟩ := hfull h0
   refine ⟨hac, fun _ => ⟨{ H' with dk := (qI d (qC l)).2 }, rfl, mJ h' hd' a1 a2 a3⟩, fun hp => ⟨h0, (jW _ hp hfit).2.1, a2, .inr a3⟩⟩
  rw [if_pos h0] at e
  rw [e]
  refine ⟨hac, fun h1 => absurd h1 h0, fun hp => absurd (jW _ hp hfit).1 h0⟩
 have e := wP (d := d) jo hon ((eW hw 0).trans c.head)
 rw [e]
 exact ⟨AnyCut.clean t hw (.inr (.inr c)), fun _ => ⟨{ H' with dk := d }, rfl, mJ h' hd' hon hw c⟩, fun hp => ⟨rfl, hp, hw, .inr c⟩⟩
end
theorem qWh {H : Hm} {B : Nat → List Nat} {l : List Ch} (h : InvH H B) (hb : ∀ c ∈ l, c.1 < 18446744073709551616 ∧ ∀ b ∈ c.2.1, b < 256) (hm : cX l) (hg : cM H l) (hn : ¬ (600 < cJ H l ∨ 40 < bQ H l + 1)) (hf : ¬ H.N - cntS H.N H.used < bQ H l) :
  (qN H l).1 = 0 ∧ bF (qD H l).puts H.dk.has.length ∧ Trn H (qN H l).2 (qD H l).puts := by
 obtain ⟨s1, s2, s3, s4, s5, s6⟩ := fS h hm hb jo jo jo
 have e : qN H l = (0, (H.plan (qF H.dk (qD H l).puts).2 (qD H l)).count) := by unfold qN; rw [if_neg (not_not_intro hm), if_neg (not_not_intro hg), if_neg hn, if_neg hf, if_neg (not_not_intro s1)]
 have hsz := h.ok.sz
 have hmay : bF (qD H l).puts H.dk.has.length := by
  by_cases hx : H.dk.has.length ≤ 41 ∨ ¬ bF (qD H l).puts H.dk.has.length
  ·
   unfold qF at s1
   rw [if_pos hx] at s1
   cases s1
  exact Classical.not_not.1 fun h2 => hx (.inr h2)
 obtain ⟨c1, c2, c3, c4, c5⟩ := rW h.pow jo hmay
 rw [e]
 exact ⟨rfl, hmay, dJ _ _, hsz, h.ok.big, hmay, c4, c5⟩
theorem qWi {H : Hm} {B : Nat → List Nat} {l : List Ch} (k : Int) (h : InvH H B) (hd : InvD H) (hb : ∀ c ∈ l, c.1 < 18446744073709551616 ∧ ∀ b ∈ c.2.1, b < 256) :
  kT { H with dk := { H.dk with bud := k } } l ∧ (qN { H with dk := { H.dk with bud := k } } l).2.ok ∧
   (((qN { H with dk := { H.dk with bud := k } } l).1 ≠ 0 ∧ (qN { H with dk := { H.dk with bud := k } } l).1 ≠ 10 ∧ (qN { H with dk := { H.dk with bud := k } } l).2 = { H with dk := { H.dk with bud := k } }) ∨
    (((qN { H with dk := { H.dk with bud := k } } l).1 = 0 ∨ (qN { H with dk := { H.dk with bud := k } } l).1 = 10) ∧ (qN H l).1 = 0 ∧ Trn H (qN H l).2 (qD H l).puts ∧ AnyCut ((qN { H with dk := { H.dk with bud := k } } l).1 = 0) H (qN H l).2 (qD H l).puts (qN { H with dk := { H.dk with bud := k } } l).2.dk)) := by
 obtain ⟨H1, hH1⟩ : ∃ H1 : Hm, H1 = { H with dk := { H.dk with bud := k } } := ⟨_, rfl⟩
 rw [← hH1]
 have hok1 : H1.ok := by rw [hH1]; exact rF h.ok rfl h.ok.wts
 have eP : cJ H1 l = cJ H l := by rw [hH1]; rfl
 have eN : bQ H1 l = bQ H l := by rw [hH1]; rfl
 have eNN : H1.N = H.N := by rw [hH1]; rfl
 have eU : H1.used = H.used := by rw [hH1]
 have eL : qD H1 l = qD H l := by rw [hH1]; rfl
 have eG : cM H1 l ↔ cM H l := by rw [hH1]; rfl
 have hlen1 : H1.dk.has.length = H.dk.has.length := by rw [hH1]
 have hsz := h.ok.sz
 by_cases hm : cX l
 ·
  by_cases hg : cM H l
  ·
   by_cases hn : 600 < cJ H l ∨ 40 < bQ H l + 1
   ·
    have e : qN H1 l = (5, H1) := by unfold qN; rw [if_neg (not_not_intro hm), if_neg (not_not_intro (eG.2 hg)), eP, eN, if_pos hn]
    rw [e]
    exact ⟨fun _ _ h1 h2 => absurd hn (by rw [eP] at h1; rw [eN] at h2; omega), hok1, .inl ⟨jp, jp, rfl⟩⟩
   by_cases hf : H.N - cntS H.N H.used < bQ H l
   ·
    have e : qN H1 l = (5, H1) := by unfold qN; rw [if_neg (not_not_intro hm), if_neg (not_not_intro (eG.2 hg)), eP, eN, if_neg hn, eNN, eU, if_pos hf]
    rw [e]
    exact ⟨fun _ _ _ _ h3 => absurd hf (by rw [eN, eNN, eU] at h3; omega), hok1, .inl ⟨jp, jp, rfl⟩⟩
   obtain ⟨s1, s2, s3, s4, s5, s6⟩ := fS h hm hb jo jo jo
   obtain ⟨t0, hmay, t⟩ := qWh h hb hm hg hn hf
   obtain ⟨P, hP⟩ : ∃ P, P = qD H l := ⟨_, rfl⟩
   rw [← hP] at s1 s2 s3 hmay t
   have hcm : qF H1.dk P.puts = qI H1.dk (bX P.puts) := by unfold qF; rw [hlen1, if_neg (by intro hx; rcases hx with hx | hx; omega; exact hx hmay)]
   have hfit : ∀ s ∈ bX P.puts, oC H1.dk.has.length s := by rw [hlen1]; exact jY hmay jo
   obtain ⟨m, m1, m2, m3⟩ := uO (bX P.puts) (d := H1.dk) (by rw [hH1]; exact h.pow.off) hfit
   have hw1 : H1.dk.wts = [] := by rw [hH1]; exact h.wts
   have hh1 : H1.dk.has = H.dk.has := by rw [hH1]
   rw [hw1, hh1] at m2
   rw [← hcm] at m2 m3
   obtain ⟨e', D, hcD⟩ : ∃ e' D, qF H1.dk P.puts = (e', D) := ⟨_, _, rfl⟩
   rw [hcD] at m2 m3
   have q1 : D.has = (bI (H.dk.has, []) ((bX P.puts).take m)).1 := congrArg (·.1) m2
   have q2 : D.wts = (bI (H.dk.has, []) ((bX P.puts).take m)).2 := congrArg (·.2) m2
   have hcl := nJ P.puts
   have h40 := hmay.1.2
   have hDl : D.has.length = H.dk.has.length := by rw [q1, pQ]
   have hDw : D.wts.length ≤ 1000 := by
    rw [q2]
    have := oO ((bX P.puts).take m) (H.dk.has, [])
    rw [zi, zer] at this
    omega
   have hac : AnyCut (e' = 0) H (qN H l).2 P.puts D := by
    refine ⟨hDl, hDw, fun hold => ?_⟩
    obtain ⟨a, b⟩ := qZd t (qW5 hd h.wts) m hold
    rw [q1, q2]
    rcases m3 with ⟨h0, hk, _⟩ | ⟨h0, _⟩
    ·
     obtain ⟨b1, b2⟩ := b hk
     rw [b2]
     exact .inr (.inr b1)
    have h0 : e' = 10 := h0
    rcases a with a | a
    · exact .inl ⟨jo, a⟩
    exact .inr a
   have hpe : H1.plan D P = { H.plan (qF H.dk P.puts).2 P with dk := D } := by rw [hH1]; rfl
   have hplan : (H1.plan D P).ok := by
    rw [hpe]
    exact rF (d := D) s2 (by show _ = (qF H.dk P.puts).2.has.length; rw [dJ]; exact hDl) jo
   have hPN : (H1.plan D P).N = H.N := by unfold Hm.N Hm.plan; dsimp only; rw [hDl]
   have hPN0 : (H.plan (qF H.dk P.puts).2 P).N = H.N := by unfold Hm.N Hm.plan; dsimp only; rw [dJ]
   have hmk : kT H1 l := fun _ _ _ _ _ _ => by
    rw [eL, ← hP, hcD, eNN]
    exact ⟨hplan, by rw [hlen1]; exact hDl, s3⟩
   have e : qN H1 l = if e' ≠ 0 then (e', { H1 with dk := D }) else (0, (H1.plan D P).count) := by
    unfold qN
    rw [if_neg (not_not_intro hm), if_neg (not_not_intro (eG.2 hg)), eP, eN, if_neg hn, eNN, eU, if_neg hf, eL, ← hP, hcD]
   have hcode : e' = 0 ∨ e' = 10 := by
    rcases m3 with ⟨h0, _⟩ | ⟨h0, _⟩
    · exact .inl h0
    exact .inr h0
   by_cases h0 : e' = 0
   ·
    rw [if_neg (not_not_intro h0)] at e
    rw [e]
    rw [h0] at hac
    exact ⟨hmk, ⟨hplan.srt, hplan.okp, hplan.n600, hplan.sz, hplan.big, hplan.wts, hplan.d59, hplan.dirp, hplan.pg⟩, .inr ⟨.inl rfl, t0, by rw [← hP]; exact t, by rw [← hP]; exact hac⟩⟩
   rw [if_pos h0] at e
   rw [e]
   refine ⟨hmk, rF hok1 (by rw [hlen1]; exact hDl) jo, .inr ⟨hcode, t0, by rw [← hP]; exact t, by rw [← hP]; exact hac⟩⟩
  have e : qN H1 l = (6, H1) := by unfold qN; rw [if_neg (not_not_intro hm), if_pos (fun hx => hg (eG.1 hx))]
  rw [e]
  exact ⟨fun _ h1 => absurd (eG.1 h1) hg, hok1, .inl ⟨jp, jp, rfl⟩⟩
 have e : qN H1 l = (1, H1) := by unfold qN; rw [if_pos hm]
 rw [e]
 exact ⟨fun h1 => absurd h1 hm, hok1, .inl ⟨jp, jp, rfl⟩⟩
end
section
open Go.RowKit
section
variable {done : Prop} {H H' : Hm} {l : List Pu} {B B' : Nat → List Nat}
theorem wR : ∀ (ws : List (Nat × List Nat)) (k : Nat) (h : List (List Nat)), qL (fun _ => false) k h ws = h
 | [], _, _ => rfl
 | (a, b) :: r, k, h => by rw [qL, if_neg jp, wR r]
theorem qK7 (t : Trn H H' l) (h : InvH H B) (hd : InvD H) (h' : InvH H' B') (hd' : InvD H') (g : Nat) (F : List Nat) (D : Dk) (w : World) (hD : IsDk w g F D) (hw : D.wts = []) (hon : D.off = false) (c : Cls done H H' l D.has) :
  Calls Tryz.prog 12 #[.pointer (some ⟨g, 0, none⟩)] w fun e w' => ∃ v F' D3, e = .returned v ∧ IsDk w' g F' D3 ∧ Fk F w w' F' ∧ AnyCut done H H' l D3 := by
 obtain ⟨a1, a2, _⟩ := qXf t h hd h' hd' hw hon c
 have hl := c.len t
 have hsz := t.sz
 by_cases h0 : (dQ D).2.1 = 0
 ·
  obtain ⟨X, hX, hh⟩ := a2 h0
  exact Calls.mono (oF g F D w hD jo (by rw [hw]; exact zg _) h0 X hX.symm hh) fun e w' ⟨x, F', q, he, hH, hk, _⟩ => ⟨_, F', X.dk, he, hH.dk, ⟨hk.1, fun y hy => hk.2 y (by simp [hy])⟩, by rw [hX]; exact a1⟩
 exact Calls.mono (qJu g F D w hD jo (by rw [hw]; exact zg _) h0) fun e w' ⟨F', he, hd2, hk⟩ => ⟨_, F', _, he, hd2, hk, a1⟩
theorem qK8 (t : Trn H H' l) (h : InvH H B) (hd : InvD H) (h' : InvH H' B') (hd' : InvD H') (g : Nat) (F : List Nat) (D : Dk) (w : World) (hD : IsDk w g F D) (hw : D.wts = []) (hp : Pow D) (c : Cls done H H' l D.has) :
  Calls Tryz.prog 12 #[.pointer (some ⟨g, 0, none⟩)] w fun e w' => ∃ x F' X q, e = .returned (.tuple #[.pointer (some ⟨x, 0, none⟩), .int .i64 0]) ∧ IsHt w' x g F' X q ∧ Fk F w w' (x :: F') ∧ w.heap.size ≤ x ∧ ((¬ done ∧ InvH X B ∧ X.pairs = H.pairs) ∨ (InvH X B' ∧ X.pairs = H'.pairs)) := by
 obtain ⟨_, _, a3⟩ := qXf t h hd h' hd' hw hp.off c
 obtain ⟨h0, hp5, hw5, hc5⟩ := a3 hp
 have hl := c.len t
 have hsz := t.sz
 rcases hc5 with ⟨hn, hc5⟩ | hc5
 ·
  have hX := qJ0 h hp5 hw5 hc5
  exact Calls.mono (oF g F D w hD jo (by rw [hw]; exact zg _) h0 { H with dk := (dQ D).2.2 } rfl (mJ h hd hp5.off hw5 hc5)) fun e w' ⟨x, F', q, he, hH, hk, hx⟩ => ⟨x, F', _, q, he, hH, hk, hx, .inl ⟨hn, wN hX, rfl⟩⟩
 have hX := qJ0 h' hp5 hw5 hc5
 exact Calls.mono (oF g F D w hD jo (by rw [hw]; exact zg _) h0 { H' with dk := (dQ D).2.2 } rfl (mJ h' hd' hp5.off hw5 hc5)) fun e w' ⟨x, F', q, he, hH, hk, hx⟩ => ⟨x, F', _, q, he, hH, hk, hx, .inr ⟨wN hX, rfl⟩⟩
theorem wS {X : Hm} {ls : List Bq} (h : HasI H B ls) (e : X.pairs = H.pairs) : HasI X B ls := ⟨h.nod, by rw [e]; exact h.key, h.oct⟩
end
theorem OwQ.x {b : Nat} {w : World} {X Y : List Nat} {l : List Cq} (h : OwQ b w X l) (hY : ∀ y ∈ Y, y < b) : OwQ b w Y l :=
 ⟨fun x hx => ⟨(h.1 x hx).1, fun y hy => ⟨⟨((h.1 x hx).2 y hy).1.1, fun h2 => by have := hY y h2; have := ((h.1 x hx).2 y hy).2; omega⟩, ((h.1 x hx).2 y hy).2⟩⟩, h.2⟩
theorem OwQ.to {b : Nat} {w w' : World} {X S : List Nat} {l : List Cq} (h : OwQ b w X l) (k : Frm S w w') (hS : ∀ y ∈ S, y ∈ X) : OwQ b w' [] l :=
 ⟨fun x hx => ⟨(h.1 x hx).1.frm k (fun y hy hs => ((h.1 x hx).2 y hy).1.2 (hS y hs)), fun y hy => ⟨⟨zz ((h.1 x hx).2 y hy).1.1 k.size, jp⟩, ((h.1 x hx).2 y hy).2⟩⟩, h.2⟩
abbrev Fl := Nat × (Option Addr × Nat × List Bool)
def fl0 : Fl := (0, none, 0, [])
def flC (x : Fl) : List Value := [.int .u16 ((x.1 : Nat) : Int), .slice x.2.1 x.2.2.2.length x.2.2.1]
theorem rI (x : Fl) : (flC x).length = 2 := rfl
structure RdFl (w : World) (S : Option Addr) (n : Nat) (l : List Fl) : Prop where
 len : l.length = n
 rd : Rd w 2 S n (l.flatMap flC)
 el : ∀ x ∈ l, Rd w 1 x.2.1 x.2.2.2.length (BL x.2.2.2)
 num : ∀ x ∈ l, x.1 < 65536
theorem RdFl.frm {w w' : World} {S : Option Addr} {n : Nat} {l : List Fl} (h : RdFl w S n l) (k : Frm [] w w') : RdFl w' S n l := ⟨h.len, h.rd.frm k jp, fun x hx => (h.el x hx).frm k jp, h.num⟩
theorem RdFl.cell {w : World} {S : Option Addr} {n : Nat} {l : List Fl} (h : RdFl w S n l) {k : Nat} (hk : k < n) : ∃ ad, S = some ad ∧ ∀ W, Frm [] w W → ∀ j v, (flC (l.getD k fl0))[j]? = some v → W.cell? ((ad.add (k * 2)).add j) = some v := by
 obtain ⟨ad, h1, _⟩ := rdF flC 2 rI h.rd h.len hk fl0
 refine ⟨ad, h1, fun W hW => ?_⟩
 obtain ⟨ad2, h3, h4⟩ := rdF flC 2 rI (h.frm hW).rd h.len hk fl0
 rw [h1] at h3
 cases h3
 exact h4
theorem zY {l : List Fl} {i : Nat} (h : i < l.length) : l.getD i fl0 ∈ l := by
 rw [zc, zb h]
 exact zbe h
structure Wa where
 i : Nat
 A : Option Addr
 m : Nat
 c : Nat
 ls : List Bq
 F : List Nat
 H : Hm
 B : Nat → List Nat
 q : HtQ
structure IsA (n0 : Nat) (w wr : World) (h g : Nat) (s : Wa) : Prop where
 hi : s.i ≤ n0
 ht : IsHt wr h g s.F s.H s.q
 inv : InvH s.H s.B
 invd : InvD s.H
 has : HasI s.H s.B s.ls
 rdb : RdB wr s.A s.m s.ls
 N : s.H.N = 48
 K : Frm [] w wr
 up : ∀ x ∈ h :: s.F, w.heap.size ≤ x
 off : ∀ y ∈ ob s.A, y < wr.heap.size ∧ y ∉ h :: s.F
set_option maxHeartbeats 4000000 in
theorem qK9 (S0 S1 S2 : Option Addr) (n0 c0 n1 c1 n2 c2 : Nat) (L : List Bt) (l1 : List Cq) (fs : List Fl) (w : World) (hn : n0 ≤ 9223372036854775807) (hL : L.length = n0) (hrd : Rd w 1 S0 n0 (L.map btV)) (hel : ∀ y ∈ L, y.2.2.length ≤ y.2.1 ∧ y.2.1 ≤ 9223372036854775807 ∧ RdQ w y.1 y.2.2.length y.2.2)
  (hn1 : n1 ≤ c1) (hc1m : c1 ≤ 9223372036854775807) (hr1 : RdQ w S1 n1 l1) (hn2 : n2 ≤ 9223372036854775807) (hr2 : RdFl w S2 n2 fs) :
  Calls Tryz.prog 4 #[.slice S0 n0 c0, .slice S1 n1 c1, .slice S2 n2 c2] w fun e w' => e = .returned (.bool true) ∧ Frm [] w w' := by
 have hl : (Dk.new 90).has.length = 90 := by simp [Dk.new]
 have hp : Pow (Dk.new 90) := ⟨rfl, rfl⟩
 obtain ⟨f1, f2, f3, f4, f5, f6, f7, f8, f9⟩ := oE hp jo jo
 have fu := yL hp jo
 have fh := oB (Dk.new 90)
 have fd := tK (sO fu.2.1 fu.2.2 jo jo (fun _ => [])) f5 (fun c hc => by cases hc)
 have h2len := hr2.len
 refine VC.calls (nt := 165) (res := #[.tmp 6]) Tryz.func4 rfl Tryz.ntmps4 Tryz.results4 rfl ?_
 refine jS (jR (ja rfl (jO (jN (jv3 0 1 2 ?_)))))
 refine jS (jR ?_)
 refine Ops.cl (jE1 Tryz.call6) (vP 90 w jo jo) rfl ?_
 rintro e w1 ⟨g, F, rfl, hD, K, hupF⟩
 refine ⟨_, rfl, ?_⟩
 refine jm rfl (je (Run.extract rfl rfl) (je (Run.extract rfl rfl) (ja rfl (ja rfl (jO (jN (jv5 0 1 2 7 8 ?_)))))))
 refine jS (jS (jR (jm rfl (jb rfl rfl (Bin.neqN _ 0) (jM ?_)))))
 refine Ops.rg rfl (rfl) (Run.mv rfl) rfl ?_
 refine Ops.rg rfl (rfl) (Run.eqlNilP rfl rfl Tryz.underlying23) rfl ?_
 refine je (Run.pickF rfl rfl (rfl)) (jO (jN (jv5 0 1 2 7 26 ?_)))
 refine VC.condF rfl (rfl) ?_
 refine jQ (jN (jv4 0 1 2 7 ?_))
 refine jS (jR (jM ?_))
 refine Ops.cl (jE1 Tryz.call7) (rZ g F (Dk.new 90) w1 hD jo (zg _) f1 f2 f3 f4 f5) rfl ?_
 rintro e w2 ⟨h, F2, q, rfl, hH, hk2⟩
 refine ⟨_, rfl, ?_⟩
 have hup2 : ∀ x ∈ h :: F2, w.heap.size ≤ x := fun x hx => by
  rcases hk2.2 x hx with h1 | h1
  · exact hupF x h1
  exact zaw K.size h1
 have K := K.own hk2.1 hupF
 obtain ⟨H0, hH0⟩ : ∃ H0, H0 = (qN (cZ (bU (Dk.new 90)).2) []).2 := ⟨_, rfl⟩
 rw [← hH0] at hH f6 f7 f9 fd
 have hN0 : H0.N = 48 := by unfold Hm.N; omega
 have hI0 : HasI H0 (fun _ => []) [] := ⟨jp, fun id => ⟨fun hx => absurd hx (f9 id), fun hx => by simp at hx⟩, fun x hx => by cases hx⟩
 clear hp f1 f2 f3 f4 f5 f8 fu fh
 refine jm rfl (je (Run.extract rfl rfl) (je (Run.extract rfl rfl) (ja rfl (ja rfl (jO (jN (jv6 0 1 2 7 9 10 ?_)))))))
 refine jS (jS (jR (jm rfl (jb rfl rfl (Bin.neqN _ 0) (jM ?_)))))
 refine Ops.rg rfl (rfl) (Run.mv rfl) rfl ?_
 refine Ops.rg rfl (rfl) (Run.eqlNilP rfl rfl Tryz.underlying27) rfl ?_
 refine je (Run.pickF rfl rfl (rfl)) (jO (jN (jv6 0 1 2 7 9 37 ?_)))
 refine VC.condF rfl (rfl) ?_
 refine jQ (jN (jv5 0 1 2 7 9 ?_))
 refine jS (jR (ja rfl (jO (jN (jS (jS (jR (jz 0 (jO (jN (jB ?_)))))))))))
 refine VC.loop (σ := Wa) (fun s => [(0, .slice S0 n0 c0), (1, .slice S1 n1 c1), (2, .slice S2 n2 c2), (7, .pointer (some ⟨g, 0, none⟩)), (9, .pointer (some ⟨h, 0, none⟩)), (11, .slice s.A s.m s.c), (12, .int .i64 ((s.i : Nat) : Int))]) (fun s wr => IsA n0 w wr h g s) (fun s => n0 - s.i) ⟨0, none, 0, 0, [], F2, H0, fun _ => [], q⟩ (js7 rfl rfl rfl rfl rfl rfl rfl) ⟨zg _, hH, f6, fd, hI0, ⟨rfl, Rd.nil _ _ _, fun x hx => by cases hx⟩, hN0, K, hup2, fun y hy => by simp [ob] at hy⟩ ?_
 rintro ⟨i, A, m, ca, ls, F, H, B, q⟩ wr ⟨hi, hH, hinv, hinvd, hhas, hrb, hN, K, hup, hoff⟩
 dsimp only at hi hH hinv hinvd hhas hrb hN hup hoff ⊢
 have hml : m ≤ 600 := by
  have h1 := (kU hinv hhas).2
  have h2 := hH.ok.n600
  have h3 := hrb.len
  omega
 refine jS (jS ?_)
 refine VC.split1 [(0, _), (1, _), (2, _), (7, _), (9, _), (11, _), (12, _)] (js7 rfl rfl rfl rfl rfl rfl rfl) 45 (.bool (decide (i < n0 ∧ i < 5))) ?_ ?_
 ·
  refine jR ?_
  refine jm rfl (jm rfl (je (Run.lenS rfl zgk) (jb rfl rfl (Bin.lssN _ _) (jM ?_))))
  by_cases hs42 : i < n0
  ·
   refine jG ?_
   refine jk (Run.bin rfl rfl (Bin.lssN _ 5)) ?_
   by_cases hs44 : i < 5
   ·
    refine je (Run.pickT rfl rfl au) (jO ?_)
    refine jN ⟨(js8 (jC (by grind)) rfl rfl rfl rfl rfl rfl rfl), rfl⟩
   refine je (Run.pickT rfl rfl au) (jO ?_)
   refine jN ⟨(js8 (jC (by grind)) rfl rfl rfl rfl rfl rfl rfl), rfl⟩
  refine jU ?_
  refine jU ?_
  refine je (Run.pickF rfl rfl au) (jO ?_)
  refine jN ⟨(js8 (jC (by grind)) rfl rfl rfl rfl rfl rfl rfl), rfl⟩
 intro Γ hΓ
 refine jN (VC.sub _ hΓ ?_)
 refine jD rfl (fun hc3 => ?_) fun hc3 => ?_
 ·
  obtain ⟨hin, hi6⟩ := hc3
  obtain ⟨adL, hS0, -⟩ := qVe hrd hL hin
  have hcL : ∀ V, Frm [] w V → V.cell? (adL.add i) = some (btV (L.getD i bt0)) := fun V hV => by
   obtain ⟨ad2, he, h2⟩ := qVe (hrd.frm hV jp) hL hin
   rw [hS0] at he
   cases he
   exact h2
  have hyq := hel _ (qW0 (jo : i < L.length))
  subst hS0
  generalize L.getD i bt0 = y at hcL hyq
  obtain ⟨yA, yc, yl⟩ := y
  dsimp only at hyq
  refine jQ (jN (jv7 0 1 2 7 9 11 12 ?_))
  refine jS (jB (jS (jR (jm rfl (jm rfl (jm rfl (je (Run.index1 _ rfl rfl zgk Tryz.sizeOf31 jo) (jl rfl Tryz.isAgg31 (hcL _ K) ?_))))))))
  refine Ops.cl (jE1 Tryz.call8) (rG yA yl.length yc yl wr jo hyq.1 (hyq.2.2.frm K)) rfl ?_
  rintro e wb ⟨CB, cd, cl, rfl, hoC, hqC, hcC, hfb, hupC⟩
  refine ⟨_, rfl, ?_⟩
  have Kb := K.trans hfb jp
  have hb1 := hfb.size
  have hFl : ∀ x ∈ h :: F, x < wr.heap.size := hH.lt
  have hHb := hH.frm hfb
  obtain ⟨cn, co, c12⟩ := zQ hyq.2.2 hcC
  have hrC : RdC wb CB cl.length cl := hqC.rdc rfl hoC.rd cn co
  have hbc : ∀ c ∈ chL cl, c.1 < 18446744073709551616 ∧ ∀ b ∈ c.2.1, b < 256 := fun c hc => by
   obtain ⟨x, hx, rfl⟩ := List.mem_map.1 hc
   exact ⟨(cn x hx).1, co x hx⟩
  obtain ⟨m1, m2, m3⟩ := oZ hinv hbc
  have hbd := fun h0 => tK hinv h0 hbc
  obtain ⟨H3, hH3e⟩ : ∃ H3, H3 = (qN H (chL cl)).2 := ⟨_, rfl⟩
  obtain ⟨e3, he3⟩ : ∃ e3, e3 = (qN H (chL cl)).1 := ⟨_, rfl⟩
  refine Ops.cl (jE2 Tryz.call10) (gK CB cl.length cd cl h g F H q wb hHb jo hrC m1 m2) rfl ?_
  rintro e wd ⟨F3, q3, rfl, hH3, hk3⟩
  refine ⟨_, rfl, ?_⟩
  rw [← hH3e] at hH3 m2 m3 hbd
  rw [← he3] at m3 hbd ⊢
  have hup3 : ∀ x ∈ h :: F3, w.heap.size ≤ x := fun x hx => by
   rcases hk3.2 x hx with h1 | h1
   · exact hup x h1
   have := Kb.size; omega
  have Kd := Kb.own hk3.1 hup
  have hb3 := hk3.1.size
  have hrb3 : RdB wd A m ls := ⟨hrb.len, (hrb.rd.frm hfb jp).frm hk3.1 (fun _ y hy => (hoff y hy).2), hrb.num⟩
  have hA3 : ∀ y ∈ ob A, y < wr.heap.size ∧ y ∉ h :: F3 := fun y hy => ⟨(hoff y hy).1, hk3.out (by have := (hoff y hy).1; omega) (hoff y hy).2⟩
  have hN3 : H3.N = 48 := by
   rcases m3 with h1 | h1
   ·
    have h2 := h1.2.2.2.2.1
    unfold Hm.N at hN ⊢
    omega
   rw [h1.2]; exact hN
  refine jb rfl rfl (Bin.eqlN _ 0) (jO (jN (jv8 0 1 2 7 9 11 12 55 ?_)))
  refine VC.meet (σ := Option Addr × Nat × Nat × List Bq × (Nat → List Nat)) (fun s => [(0, .slice (some adL) n0 c0), (1, .slice S1 n1 c1), (2, .slice S2 n2 c2), (7, .pointer (some ⟨g, 0, none⟩)), (9, .pointer (some ⟨h, 0, none⟩)), (11, .slice s.1 s.2.1 s.2.2.1), (12, .int .i64 ((i : Nat) : Int))]) (fun s wz => Frm [] wd wz ∧ InvH H3 s.2.2.2.2 ∧ HasI H3 s.2.2.2.2 s.2.2.2.1 ∧ InvD H3 ∧ RdB wz s.1 s.2.1 s.2.2.2.1 ∧ ∀ y ∈ ob s.1, y < wz.heap.size ∧ y ∉ h :: F3) ?_ ?_
  ·
   refine jD rfl (fun hc4 => ?_) fun hc4 => ?_
   ·
    refine jR (jm rfl (jm rfl (jm rfl (je (Run.index1 _ rfl rfl zgk Tryz.sizeOf31 jo) (jl rfl Tryz.isAgg31 (hcL _ Kd) ?_)))))
    refine Ops.cl (jE1 Tryz.call8) (rG yA yl.length yc yl wd jo hyq.1 (hyq.2.2.frm Kd)) rfl ?_
    rintro e we ⟨CB2, cd2, cl2, rfl, hoC2, hqC2, hcC2, hfe, hupC2⟩
    refine ⟨_, rfl, ?_⟩
    obtain ⟨cn2, co2, c122⟩ := zQ hyq.2.2 hcC2
    have hcc : chL cl2 = chL cl := hcC2.trans hcC.symm
    have hs4 := hfe.size
    refine Ops.cl (jE2 Tryz.call11) (wW A CB2 m ca cl2.length cd2 ls cl2 we jo jo (hrb3.frm hfe) (hqC2.rdc rfl hoC2.rd cn2 co2)) rfl ?_
    rintro e wf ⟨A4, m4, c4, rfl, hrb4, hf4, hA4⟩
    refine ⟨_, rfl, ?_⟩
    have hz3 : e3 = 0 := jo
    obtain ⟨-, mm, -, minv, -, mdir, mkey⟩ := m3.resolve_right (fun hx => hx.1 hz3)
    have hs5 := hf4.size
    refine ja rfl (jO ?_)
    refine jN ⟨(A4, m4, c4, jP ls (chL cl2), eR B (chL cl)), (js7 rfl rfl rfl rfl rfl rfl rfl), ?_⟩
    exact ⟨hfe.trans hf4 jp, minv, by rw [hcc]; exact yO hhas mm mkey, hbd hz3, hrb4, fun y hy => by
     have hH3l := hH3.lt
     rcases hA4 y hy with h1 | h1
     ·
      have := hA3 y h1
      exact ⟨jo, this.2⟩
     exact ⟨h1.2, fun hx => by have := hH3l y hx; omega⟩⟩
   refine jQ ?_
   refine jN ⟨(A, m, ca, ls, B), (js7 rfl rfl rfl rfl rfl rfl rfl), ?_⟩
   have he : H3 = H := (m3.resolve_left (fun hx => jo)).2
   have h9 : ∀ y ∈ ob A, y < wd.heap.size ∧ y ∉ h :: F3 := fun y hy => ⟨by have := hA3 y hy; omega, (hA3 y hy).2⟩
   rw [he]
   exact ⟨Frm.refl _ _, hinv, hhas, hinvd, hrb3, h9⟩
  rintro ⟨A4, m4, c4, l4, B4⟩ wz ⟨hfz, hinv4, hhas4, hinvd4, hrb4, hoff4⟩ Γ hΓ
  dsimp only at hinv4 hhas4 hrb4 hoff4
  have hHz := hH3.frm hfz
  have Kz := Kd.trans hfz jp
  refine qH (jN (VC.sub _ hΓ ?_))
  refine jR (jm rfl (jb rfl rfl (Bin.add_i64 _ 1 jo) (ja rfl (jO ?_))))
  refine jN ⟨⟨i + 1, A4, m4, c4, l4, F3, H3, B4, q3⟩, (js7 rfl rfl rfl rfl rfl rfl rfl), ?_, ?_⟩
  · exact ⟨hin, hHz, hinv4, hinvd4, hhas4, hrb4, hN3, Kz, hup3, hoff4⟩
  first | omega | (dsimp only; omega)
 refine jX ?_
 refine qJ (qJ (qT ?_))
 refine jN (jv5 1 2 7 9 11 ?_)
 refine jS (jS (jR (jm rfl (jM ?_))))
 refine Ops.cl (jE2 Tryz.call13) (kH A m ca ls h g F H q wr hH jo hrb) rfl ?_
 rintro e w5 ⟨hf5, b, rfl, hb⟩
 have hrm := kU hinv hhas
 obtain rfl : b = true := hb hrm.1 hrm.2
 refine ⟨_, rfl, ?_⟩
 have K5 := K.trans hf5 jp
 have hH5 := hH.frm hf5
 have hq5 := hf5.size
 have hF5 : ∀ x ∈ h :: F, x < w5.heap.size := hH5.lt
 refine je (Run.not rfl) (jO (jN (jv6 1 2 7 9 11 66 ?_)))
 refine VC.condF rfl (rfl) ?_
 refine jQ (jN (jv5 1 2 7 9 11 ?_))
 refine jS (jR (jM ?_))
 refine Ops.cl (jE1 Tryz.call8) (rG S1 n1 c1 l1 w5 jo hn1 (hr1.frm K5)) rfl ?_
 rintro e w6 ⟨LB, ld, ll, rfl, hoL, hqL, hcL, hf6, hupL⟩
 refine ⟨_, rfl, ?_⟩
 have K6 := K5.trans hf6 jp
 have hH6 := hH5.frm hf6
 have hq6 := hf6.size
 obtain ⟨cn, co, c12⟩ := zQ hr1 hcL
 have hLlt := hoL.lt
 have hLX6 : RdX w6 (h :: F) 3 LB ll.length (ll.flatMap cqC) := RdX.of_new (w := w5) hoL.rd hupL hF5
 have hAX6 : RdX w6 (h :: F) 4 A m (ls.flatMap bqC) := ⟨(hrb.rd.frm hf5 jp).frm hf6 jp, fun _ y hy => ⟨by have := (hoff y hy).1; omega, (hoff y hy).2⟩⟩
 have hqX6 : OwQ w5.heap.size w6 (h :: F) ll := hqL.x hF5
 have hbc : ∀ c ∈ chL ll, c.1 < 18446744073709551616 ∧ ∀ b ∈ c.2.1, b < 256 := fun c hc => by
  obtain ⟨x, hx, rfl⟩ := List.mem_map.1 hc
  exact ⟨(cn x hx).1, co x hx⟩
 refine ja rfl (jO (jN (jv5 1 2 7 9 11 ?_)))
 refine jS (jS (jR (jm rfl (je (Run.lenS rfl zdm) (jb rfl rfl (Bin.gtrN _ 0) (jO (jN (jv6 1 2 7 9 11 71 ?_))))))))
 refine VC.meet (σ := Int) (fun s => [(1, .slice LB ll.length ld), (2, .slice S2 n2 c2), (7, .pointer (some ⟨g, 0, none⟩)), (9, .pointer (some ⟨h, 0, none⟩)), (11, .slice A m ca)]) (fun s wz => Fk (h :: F) w6 wz (h :: F) ∧ IsHt wz h g F { H with dk := { H.dk with bud := s } } q) ?_ ?_
 ·
  refine jD rfl (fun hc6 => ?_) fun hc6 => ?_
  ·
   obtain ⟨adF, hS2, helF⟩ := hr2.cell hc6
   have hfx := hr2.num _ (zY (jo : 0 < fs.length))
   have hS20 := hS2
   generalize fs.getD 0 fl0 = x at helF hfx
   obtain ⟨xn, xr⟩ := x
   dsimp only at hfx
   rw [hS2]
   refine jR (jm rfl (jm rfl (je (Run.indexS 0 rfl rfl zdm Tryz.sizeOf45 jo) (jf rfl zgl rfl Tryz.sizeOf42 (jl rfl Tryz.isAgg42 (helF _ K6 0 _ rfl) (jb rfl rfl (Bin.remN _ 100 jo) (je (Run.convN _ rfl Tryz.underlying42 zab (by simp only [bmax]; omega)) ?_)))))))
   refine Ops.cl (jE2 Tryz.call15) (pM g ((xn % 100 : Nat) : Int) F H.dk w6 hH6.dk jo jo) rfl ?_
   rintro e w7 ⟨rfl, hD7, hf7⟩
   rw [if_neg jo] at hD7
   refine ⟨_, rfl, ?_⟩
   refine jO ?_
   refine jN ⟨((xn % 100 : Nat) : Int), (js5 rfl rfl rfl rfl rfl), ?_⟩
   have hk7 : Fk (h :: F) w6 w7 (h :: F) := Fk.self hf7 (fun x hx => zbf _ hx)
   exact ⟨hk7, hH6.dks hD7 ⟨hf7, fun x hx => .inl hx⟩ (rF hinv.ok rfl hinv.ok.wts) rfl⟩
  refine jQ ?_
  refine jN ⟨-1, (js5 rfl rfl rfl rfl rfl), ?_⟩
  have he : ({ H with dk := { H.dk with bud := -1 } } : Hm) = H := by rw [← hinv.pow.bud]
  rw [he]
  exact ⟨Fk.self (Frm.refl [] _) jp, hH6⟩
 rintro kb wz ⟨hkz, hHz⟩ Γ hΓ
 have hLX := hLX6.fk hkz
 have hAX := hAX6.fk hkz
 have hqX := hqX6.fk hkz
 have Kz := K6.own hkz.1 hup
 have hrC : RdC wz LB ll.length ll := hqX.rdc rfl hLX.1 cn co
 obtain ⟨m1, m2, m3⟩ := qWi kb hinv hinvd hbc
 obtain ⟨H1, hH1⟩ : ∃ H1 : Hm, H1 = { H with dk := { H.dk with bud := kb } } := ⟨_, rfl⟩
 rw [← hH1] at hHz m1 m2 m3
 obtain ⟨HB, hHB⟩ : ∃ HB, HB = (qN H1 (chL ll)).2 := ⟨_, rfl⟩
 obtain ⟨gc, hgc⟩ : ∃ gc, gc = (qN H1 (chL ll)).1 := ⟨_, rfl⟩
 refine jN (VC.sub _ hΓ (jS (jR (jm rfl (jM ?_)))))
 refine Ops.cl (jE2 Tryz.call10) (gK LB ll.length ld ll h g F H1 q wz hHz jo hrC m1 m2) rfl ?_
 rintro e wd ⟨F3, q3, rfl, hH3, hk3⟩
 refine ⟨_, rfl, ?_⟩
 rw [← hHB] at hH3 m3
 rw [← hgc] at m3 ⊢
 have Kd := Kz.own hk3.1 hup
 have hLX3 := hLX.fk hk3
 have hAX3 := hAX.fk hk3
 have hqX3 := hqX.fk hk3
 have hup3 : ∀ x ∈ h :: F3, w.heap.size ≤ x := fun x hx => by
  rcases hk3.2 x hx with h1 | h1
  · exact hup x h1
  have := Kz.size; omega
 refine ja rfl (jO (jN (jv6 1 2 7 9 11 13 ?_)))
 refine jS (jS ?_)
 refine VC.split1 [(1, _), (2, _), (7, _), (9, _), (11, _), (13, _)] (js6 rfl rfl rfl rfl rfl rfl) 88 (.bool (decide (¬ gc = 0 ∧ ¬ gc = 10))) ?_ ?_
 ·
  refine jR ?_
  refine jm rfl (jb rfl rfl (Bin.neqN _ 0) ?_)
  by_cases hs84 : ¬ gc = 0
  ·
   refine jM ?_
   refine jG ?_
   refine jk (Run.bin rfl rfl (Bin.neqN _ 10)) ?_
   by_cases hs87 : ¬ gc = 10
   ·
    refine je (Run.pickT rfl rfl au) (jO ?_)
    refine jN ⟨(js7 (jC (by grind)) rfl rfl rfl rfl rfl rfl), rfl⟩
   refine je (Run.pickT rfl rfl au) (jO ?_)
   refine jN ⟨(js7 (jC (by grind)) rfl rfl rfl rfl rfl rfl), rfl⟩
  refine jM ?_
  refine jU ?_
  refine jU ?_
  refine je (Run.pickF rfl rfl au) (jO ?_)
  refine jN ⟨(js7 (jC (by grind)) rfl rfl rfl rfl rfl rfl), rfl⟩
 intro Γ hΓ
 refine jN (VC.sub _ hΓ ?_)
 refine jD rfl (fun hc7 => ?_) fun hc7 => ?_
 ·
  have hBe : HB = H1 := (m3.resolve_right (fun hx => jo)).2.2
  rw [hBe] at hH3
  have hg1 : ∀ id, eZ H1 id = eZ H id := fun id => by rw [hH1]; rfl
  have hp1 : H1.pairs = H.pairs := by rw [hH1]
  refine jS (jR (jm rfl (jM ?_)))
  refine Ops.cl (jE2 Tryz.call13) (kH A m ca ls h g F3 H1 q3 wd hH3 jo ⟨hrb.len, hAX3.1, hrb.num⟩) rfl ?_
  rintro e we ⟨hfe, b, rfl, hb⟩
  obtain rfl : b = true := hb (fun x hx => by rw [hg1]; exact hrm.1 x hx) (by rw [hp1]; exact hrm.2)
  refine ⟨_, rfl, ?_⟩
  refine jM ?_
  refine Ops.clg rfl (rfl) (jE0 Tryz.call14) (nN we) rfl ?_
  rintro e wf ⟨rfl, hff⟩
  refine ⟨_, rfl, ?_⟩
  refine je (Run.pickT rfl rfl (rfl)) (ja rfl (jO (jN (jv1 6 ?_))))
  refine jT ?_
  refine qP (qB rfl ?_)
  exact ⟨rfl, (Kd.trans hfe jp).trans hff jp⟩
 obtain ⟨hg10, hb0, ht, hac⟩ := m3.resolve_left (fun hx => hc7 ⟨hx.1, hx.2.1⟩)
 obtain ⟨P, hP⟩ : ∃ P, P = (qD H (chL ll)).puts := ⟨_, rfl⟩
 obtain ⟨H', hH'⟩ : ∃ H', H' = (qN H (chL ll)).2 := ⟨_, rfl⟩
 obtain ⟨-, -, n3⟩ := oZ hinv hbc
 obtain ⟨-, mm, -, minv, -, mdir, mkey⟩ := n3.resolve_right (fun hx => hx.1 hb0)
 have minvd := tK hinv hb0 hbc
 rw [← hH'] at ht hac minv mkey minvd
 rw [← hP] at ht hac
 have mhas := yO hhas mm mkey
 refine jQ (jN (jv5 1 2 7 11 13 ?_))
 refine jS (jS (jR (jz 0 (jO (jN (jB ?_))))))
 refine VC.loop (σ := Nat × List Nat × Dk) (fun s => [(1, .slice LB ll.length ld), (2, .slice S2 n2 c2), (7, .pointer (some ⟨g, 0, none⟩)), (11, .slice A m ca), (13, .int .i64 ((gc : Nat) : Int)), (14, .int .i64 ((s.1 : Nat) : Int))]) (fun s wr => s.1 ≤ n2 ∧ IsDk wr g s.2.1 s.2.2 ∧ AnyCut (gc = 0) H H' P s.2.2 ∧ Fk F3 wd wr s.2.1) (fun s => n2 - s.1) (0, F3, HB.dk) (js6 rfl rfl rfl rfl rfl rfl) ⟨zg _, hH3.dk, hac, Fk.refl _ _⟩ ?_
 rintro ⟨i, F5, D⟩ wk ⟨hi2, hD5, hac5, hk5⟩
 dsimp only at hi2 hD5 hac5 hk5 ⊢
 have Kk := Kd.own hk5.1 (fun x hx => hup3 x (by simp [hx]))
 have hw5 := hac5.wts
 have hup5 : ∀ x ∈ F5, w.heap.size ≤ x := fun x hx => by
  rcases hk5.2 x hx with h1 | h1
  · exact hup3 x (by simp [h1])
  have := Kd.size; omega
 refine jS (jS ?_)
 refine VC.split1 [(1, _), (2, _), (7, _), (11, _), (13, _), (14, _)] (js6 rfl rfl rfl rfl rfl rfl) 102 (.bool (decide (i < n2 ∧ i < 5))) ?_ ?_
 ·
  refine jR ?_
  refine jm rfl (jm rfl (je (Run.lenS rfl zdm) (jb rfl rfl (Bin.lssN _ _) ?_)))
  by_cases hs98 : i < n2
  ·
   refine jM ?_
   refine jG ?_
   refine jk (Run.bin rfl rfl (Bin.lssN _ 5)) ?_
   by_cases hs101 : i < 5
   ·
    refine je (Run.pickT rfl rfl au) (jO ?_)
    refine jN ⟨(js7 (jC (by grind)) rfl rfl rfl rfl rfl rfl), rfl⟩
   refine je (Run.pickT rfl rfl au) (jO ?_)
   refine jN ⟨(js7 (jC (by grind)) rfl rfl rfl rfl rfl rfl), rfl⟩
  refine jM ?_
  refine jU ?_
  refine jU ?_
  refine je (Run.pickF rfl rfl au) (jO ?_)
  refine jN ⟨(js7 (jC (by grind)) rfl rfl rfl rfl rfl rfl), rfl⟩
 intro Γ hΓ
 refine jN (VC.sub _ hΓ ?_)
 refine jD rfl (fun hc8 => ?_) fun hc8 => ?_
 ·
  obtain ⟨hin2, hi5⟩ := hc8
  obtain ⟨adF, hS2, helF⟩ := hr2.cell hin2
  have hfe := hr2.el _ (zY (jo : i < fs.length))
  have hS20 := hS2
  generalize fs.getD i fl0 = x at helF hfe
  obtain ⟨xn, xA, xc, xl⟩ := x
  dsimp only at hfe
  rw [hS2]
  refine jQ (jN (jv6 1 2 7 11 13 14 ?_))
  refine jS (jB (jS (jR (jm rfl (jm rfl (jm rfl (je (Run.indexS _ rfl rfl zdm Tryz.sizeOf45 jo) (jf rfl zgl rfl Tryz.sizeOf43 (jl rfl Tryz.isAgg43 (helF _ Kk 1 _ rfl) ?_)))))))))
  refine Ops.cl (jE2 Tryz.call16) (qZm g xl.length xc xA xl F5 D wk hD5 jo rfl (hfe.frm Kk jp) (fun h0 x hx hxF => by have := hup5 x hxF; have := hfe.lt h0 x hx; omega)) rfl ?_
  rintro e w8 ⟨F8, rfl, hD8, hk8⟩
  refine ⟨_, rfl, ?_⟩
  refine jO (jN (jv6 1 2 7 11 13 14 ?_))
  refine jS (jR (jM ?_))
  refine Ops.cl (jE1 Tryz.call17) (xN g F8 (D.cut xl) w8 hD8) rfl ?_
  rintro e w9 ⟨F9, rfl, hD9, hk9⟩
  refine ⟨_, rfl, ?_⟩
  obtain ⟨D9, hD9e⟩ : ∃ D9, D9 = (D.cut xl).on := ⟨_, rfl⟩
  rw [← hD9e] at hD9
  have hwt9 : D9.wts = [] := by rw [hD9e]; rfl
  have hon9 : D9.off = false := by rw [hD9e]; rfl
  have hcl9 : Cls (gc = 0) H H' P D9.has := by rw [hD9e]; exact hac5.cls (fun k => xl.getD k false)
  have hk59 := (hk5.trans hk8).trans hk9
  have Kk9 := Kd.own hk59.1 (fun x hx => hup3 x (by simp [hx]))
  rw [← hS20]
  refine jO (jN (jv6 1 2 7 11 13 14 ?_))
  refine jS ?_
  refine VC.split1 [(1, _), (2, _), (7, _), (11, _), (13, _), (14, _)] (js6 rfl rfl rfl rfl rfl rfl) 122 (.bool (decide (i + 1 < n2 ∧ i < 4))) ?_ ?_
  ·
   refine jR ?_
   refine jm rfl (jb rfl rfl (Bin.add_i64 _ 1 jo) (jm rfl (je (Run.lenS rfl zdm) (jb rfl rfl (Bin.lssN _ _) ?_))))
   by_cases hs118 : i + 1 < n2
   ·
    refine jM ?_
    refine jG ?_
    refine jk (Run.bin rfl rfl (Bin.lssN _ 4)) ?_
    by_cases hs121 : i < 4
    ·
     refine je (Run.pickT rfl rfl au) (jO ?_)
     refine jN ⟨(js7 (jC (by grind)) rfl rfl rfl rfl rfl rfl), rfl⟩
    refine je (Run.pickT rfl rfl au) (jO ?_)
    refine jN ⟨(js7 (jC (by grind)) rfl rfl rfl rfl rfl rfl), rfl⟩
   refine jM ?_
   refine jU ?_
   refine jU ?_
   refine je (Run.pickF rfl rfl au) (jO ?_)
   refine jN ⟨(js7 (jC (by grind)) rfl rfl rfl rfl rfl rfl), rfl⟩
  intro Γ hΓ
  refine jN (VC.sub _ hΓ ?_)
  refine jD rfl (fun hc9 => ?_) fun hc9 => ?_
  ·
   obtain ⟨adG, hS2, helG⟩ := hr2.cell hc9.1
   have hfx := hr2.num _ (zY (jo : i + 1 < fs.length))
   generalize fs.getD (i + 1) fl0 = y at helG hfx
   obtain ⟨yn, yr⟩ := y
   dsimp only at hfx
   rw [hS2]
   refine jS (jR (jm rfl (jm rfl (jm rfl (jb rfl rfl (Bin.add_i64 _ 1 jo) (je (Run.indexS _ rfl rfl zdm Tryz.sizeOf45 jo) (jf rfl zgl rfl Tryz.sizeOf42 (jl rfl Tryz.isAgg42 (helG _ Kk9 0 _ rfl) (jb rfl rfl (Bin.remN _ 100 jo) (je (Run.convN _ rfl Tryz.underlying42 zab (by simp only [bmax]; omega)) ?_))))))))))
   refine Ops.cl (jE2 Tryz.call15) (pM g ((yn % 100 : Nat) : Int) F9 D9 w9 hD9 jo jo) rfl ?_
   rintro e w10 ⟨rfl, hD10, hf10⟩
   rw [if_neg jo] at hD10
   refine ⟨_, rfl, ?_⟩
   refine jO (jN (jv6 1 2 7 11 13 14 ?_))
   refine jR (jM ?_)
   refine Ops.cl (jE1 Tryz.call12) (qK7 (done := (gc = 0)) ht hinv hinvd minv minvd g F9 { D9 with bud := ((yn % 100 : Nat) : Int) } w10 hD10 hwt9 hon9 hcl9) rfl ?_
   rintro e w11 ⟨v, F11, D11, rfl, hD11, hk11, hac11⟩
   refine ⟨_, rfl, ?_⟩
   have hk511 := (hk59.frm hf10 (fun x hx => hk59.2 x hx)).trans hk11
   rw [← hS2]
   refine jO ?_
   refine qH (jN ?_)
   refine jv6 1 2 7 11 13 14 ?_
   refine jR (jm rfl (jb rfl rfl (Bin.add_i64 _ 1 jo) (ja rfl (jO ?_))))
   refine jN ⟨(i + 1, F11, D11), (js6 rfl rfl rfl rfl rfl rfl), ?_, ?_⟩
   · exact ⟨hin2, hD11, hac11, hk511⟩
   first | omega | (dsimp only; omega)
  refine jQ ?_
  refine qH (jN ?_)
  refine jv6 1 2 7 11 13 14 ?_
  refine jR (jm rfl (jb rfl rfl (Bin.add_i64 _ 1 jo) (ja rfl (jO ?_))))
  refine jN ⟨(i + 1, F9, D9), (js6 rfl rfl rfl rfl rfl rfl), ?_, ?_⟩
  · exact ⟨hin2, hD9, AnyCut.clean ht hwt9 hcl9, hk59⟩
  first | omega | (dsimp only; omega)
 refine jX ?_
 refine qJ (qJ (qT ?_))
 refine jN (jv4 1 7 11 13 ?_)
 refine jS (jR (jM ?_))
 refine Ops.cl (jE1 Tryz.call17) (xN g F5 D wk hD5) rfl ?_
 rintro e w8 ⟨F8, rfl, hD8, hk8⟩
 refine ⟨_, rfl, ?_⟩
 have hcl8 : Cls (gc = 0) H H' P D.on.has := by
  have h1 := hac5.cls (fun _ => false)
  rw [wR] at h1
  exact h1
 have hk58 := hk5.trans hk8
 refine jO (jN (jv4 1 7 11 13 ?_))
 refine jS (jR (jM ?_))
 refine Ops.cl (jE1 Tryz.call12) (qK8 (done := (gc = 0)) ht hinv hinvd minv minvd g F8 D.on w8 hD8 rfl ⟨rfl, rfl⟩ hcl8) rfl ?_
 rintro e w9 ⟨x, F9, X, q9, rfl, hX, hk9, hxu, hres⟩
 refine ⟨_, rfl, ?_⟩
 have k1 : Fk (h :: F3) wd w8 (h :: F8) := Fk.left (X := [h]) hk58
 have hAX8 := hAX3.fk k1
 have hLX8 := hLX3.fk k1
 have hA9 : RdB w9 A m ls := ⟨hrb.len, hAX8.1.frm hk9.1 (fun h0 y hy hx => (hAX8.2 h0 y hy).2 (zbf _ hx)), hrb.num⟩
 have hL9 : RdC w9 LB ll.length ll := ((hqX3.fk k1).to hk9.1 (fun y hy => zbf _ hy)).rdc rfl (hLX8.1.frm hk9.1 (fun h0 y hy hx => (hLX8.2 h0 y hy).2 (zbf _ hx))) cn co
 have K8 := Kd.own hk58.1 (fun y hy => hup3 y (by simp [hy]))
 have K9 := K8.own hk9.1 (fun y hy => by
  rcases hk58.2 y hy with h1 | h1
  · exact hup3 y (by simp [h1])
  have := Kd.size; omega)
 have hlen' := kU minv mhas
 have h600' := minv.ok.n600
 refine jm rfl (je (Run.extract rfl rfl) (je (Run.extract rfl rfl) (ja rfl (ja rfl (jO (jN (jv5 1 11 13 15 16 ?_)))))))
 refine jS (jS (jR (jm rfl (jb rfl rfl (Bin.neqN _ 0) (jM ?_)))))
 refine Ops.rg rfl (rfl) (Run.mv rfl) rfl ?_
 refine Ops.rg rfl (rfl) (Run.eqlNilP rfl rfl Tryz.underlying27) rfl ?_
 refine je (Run.pickF rfl rfl (rfl)) (jO (jN (jv5 1 11 13 15 147 ?_)))
 refine VC.condF rfl (rfl) ?_
 refine jQ (jN (jv4 1 11 13 15 ?_))
 refine jS ?_
 refine VC.splitR [] (fun w1 => Frm [] w w1) 6 (.bool (decide (True))) ?_ ?_
 ·
  refine jR ?_
  refine jm rfl (jm rfl (jM ?_))
  refine Ops.cl (jE2 Tryz.call11) (wW A LB m ca ll.length ld ls ll w9 jo jo hA9 hL9) rfl ?_
  rintro e w10 ⟨A4, m4, c4, rfl, hrb4, hf10, -⟩
  refine ⟨_, rfl, ?_⟩
  have hl4 := hrb4.len
  refine Ops.cl (jE2 Tryz.call13) (kH A4 m4 c4 (jP ls (chL ll)) x g F9 X q9 w10 (hX.frm hf10) jo hrb4) rfl ?_
  rintro e w11 ⟨hf11, b, rfl, hb⟩
  refine ⟨_, rfl, ?_⟩
  by_cases hs152 : b = true
  ·
   refine jM ?_
   refine jU ?_
   refine jU ?_
   refine jU ?_
   refine Ops.skU rfl rfl ?_
   refine Ops.skU rfl rfl ?_
   refine Ops.skU rfl rfl ?_
   refine jU ?_
   refine je (Run.pickT rfl rfl au) (jM ?_)
   refine Ops.clg rfl au (jE0 Tryz.call14) (nN _) rfl ?_
   rintro e wf ⟨rfl, hff⟩
   refine ⟨_, rfl, ?_⟩
   refine je (Run.pickT rfl rfl au) (ja rfl (jO ?_))
   refine jN ⟨(js1 (jC jp)), (by first | exact ((((K9.trans hf10 jp).trans hf11 jp).trans hf12 jp).trans hff jp) | exact (((K9.trans hf10 jp).trans hf11 jp).trans hff jp))⟩
  have hno : ¬ gc = 0 ∧ InvH X B ∧ X.pairs = H.pairs := by
   rcases hres with h1 | ⟨h1, h2⟩
   · exact h1
   have h3 := kU h1 (wS mhas h2)
   exact absurd (hb h3.1 h3.2) hs152
  have hgn : ¬ gc = 0 := hno.1
  refine jM ?_
  refine jG ?_
  refine jk (Run.bin rfl rfl (Bin.neqN _ 0)) ?_
  refine jG ?_
  refine jG ?_
  refine jG ?_
  refine Ops.clg rfl au (jE2 Tryz.call13) (kH A m ca ls x g F9 X q9 w11 ((hX.frm hf10).frm hf11) jo ((hA9.frm hf10).frm hf11)) rfl ?_
  rintro e w12 ⟨hf12, b2, rfl, hb2⟩
  have hro := kU hno.2.1 (wS hhas hno.2.2)
  obtain rfl : b2 = true := hb2 hro.1 hro.2
  refine ⟨_, rfl, ?_⟩
  refine jk (Run.pickT rfl rfl au) ?_
  refine je (Run.pickF rfl rfl au) (jM ?_)
  refine Ops.clg rfl au (jE0 Tryz.call14) (nN _) rfl ?_
  rintro e wf ⟨rfl, hff⟩
  refine ⟨_, rfl, ?_⟩
  refine je (Run.pickT rfl rfl au) (ja rfl (jO ?_))
  refine jN ⟨(js1 (jC jp)), (by first | exact ((((K9.trans hf10 jp).trans hf11 jp).trans hf12 jp).trans hff jp) | exact (((K9.trans hf10 jp).trans hf11 jp).trans hff jp))⟩
 intro Γ w99 hΓ hf99
 refine jN (VC.sub _ hΓ ?_)
 refine jT ?_
 refine qB rfl ?_
 exact ⟨jp, hf99⟩
end
section
open Go.RowKit
open Go.ChangeShapes Go.WideShapes Go.Deep
section
variable {H : Type} {enc : TypeId × Value → H} {w : World} {base : Nat} {spare : Nat → Bool} {held : Bool} {n : Nat} {cs : List Value} {x : DataW H × List MemPlace}
theorem qZe (h : DataW.trod enc Tryz.prog w base spare held n 43 cs = some x) : ∃ (A : Option Addr) (c : Nat) (bs : List Bool), cs = [.slice A bs.length c] ∧ bs.length ≤ c ∧ Rd w 1 A bs.length (BL bs) := by
 obtain ⟨A, len, c, rfl⟩ := oH zgh h
 obtain ⟨bs, h1, h2, h3, h4, _⟩ := vW Value.bool (fun _ => True) zgh jK (fun v n y hh => by
  obtain ⟨b, hb, _⟩ := wG hh
  exact ⟨b, (List.cons.inj hb).1, trivial⟩) h
 subst h1
 exact ⟨A, c, bs, rfl, h2, h4⟩
end
theorem qJ1 {H : Type} {enc : TypeId × Value → H} {w : World} {base : Nat} {spare : Nat → Bool} {held : Bool} {n : Nat} {cs : List Value} {x : DataW H × List MemPlace} (h : DataW.trod enc Tryz.prog w base spare held n 45 cs = some x) :
  ∃ (id : Int) (A : Option Addr) (c : Nat) (bs : List Bool), cs = ([.int .u16 id] ++ ([.slice A bs.length c] ++ [] : List Value) : List Value) ∧ ((Lit.int .u16 id).wf = true) ∧ (bs.length ≤ c ∧ Rd w 1 A bs.length (BL bs)) := by
 obtain ⟨hlen, n', hf⟩ := tM zgl h
 have hl : cs.length = 2 := hlen.trans jK
 obtain ⟨a0, a1, rfl⟩ : ∃ a0 a1, cs = [a0, a1] := by
  match cs, hl with
  | [a0, a1], _ => exact ⟨a0, a1, rfl⟩
 clear h hlen hl
 obtain ⟨y0, h0⟩ := hf 0 _ rfl
 have h0 : DataW.trod enc Tryz.prog w base spare held n' 42 ([a0, a1].take (Tryz.prog.cellsOf 42)) = some y0 := h0
 rw [show Tryz.prog.cellsOf 42 = 1 by kernel_rfl] at h0
 have h0 : DataW.trod enc Tryz.prog w base spare held n' 42 [a0] = some y0 := h0
 obtain ⟨id, e0, q0⟩ := xJ Tryz.underlying42 h0
 obtain ⟨y1, h1⟩ := hf 1 _ rfl
 have h1 : DataW.trod enc Tryz.prog w base spare held n' 43 ([a1].take (Tryz.prog.cellsOf 43)) = some y1 := h1
 rw [show Tryz.prog.cellsOf 43 = 1 by kernel_rfl] at h1
 have h1 : DataW.trod enc Tryz.prog w base spare held n' 43 [a1] = some y1 := h1
 obtain ⟨A, c, bs, e1, q1⟩ := qZe h1
 refine ⟨id, A, c, bs, ?_, q0, q1⟩
 show ([a0] ++ ([a1] ++ [] : List Value) : List Value) = _
 rw [e0, e1]
 try rfl
section
variable {H : Type} {enc : TypeId × Value → H} {w : World} {base : Nat} {spare : Nat → Bool} {held : Bool}
theorem qJ2 {n : Nat} {cs : List Value} {x : DataW H × List MemPlace} (h : DataW.trod enc Tryz.prog w base spare held n 45 cs = some x) : ∃ y : Fl, cs = flC y ∧ y.1 < 65536 ∧ Rd w 1 y.2.1 y.2.2.2.length (BL y.2.2.2) := by
 obtain ⟨id, A, c, bs, rfl, h0, h1, h2⟩ := qJ1 h
 have hid : 0 ≤ id ∧ id < 65536 := by
  simp [Lit.wf, IntKind.min, IntKind.max, IntKind.signed, IntKind.bits] at h0
  omega
 refine ⟨(id.toNat, A, c, bs), ?_, by dsimp only; omega, h2⟩
 show [Value.int .u16 id, .slice A bs.length c] = [.int .u16 ((id.toNat : Nat) : Int), .slice A bs.length c]
 rw [zfq hid.1]
theorem qVa {fuel len cap : Nat} {a : Option Addr} {x : DataW H × List MemPlace} (h : DataW.trod enc Tryz.prog w base spare held fuel 40 [.slice a len cap] = some x) :
  ∃ l : List Fl, len ≤ cap ∧ cap ≤ 9223372036854775807 ∧ RdFl w a len l := by
 have hC : Tryz.prog.cellsOf 45 = 2 := by kernel_rfl
 rcases open_slice zdm h with ⟨hcs, _⟩ | ⟨ad, l, c, m, n, D, Pl, hcs, _, hl, hm, hmm, _, hi⟩
 ·
  simp only [List.cons.injEq, Value.slice.injEq, and_true] at hcs
  obtain ⟨rfl, rfl, rfl⟩ := hcs
  exact ⟨[], zp _, jo, rfl, Rd.nil _ _ _, jp, jp⟩
 simp only [List.cons.injEq, Value.slice.injEq, and_true] at hcs
 obtain ⟨rfl, rfl, rfl⟩ := hcs
 have hml : len ≤ m := by rw [hmm]; split <;> omega
 rw [hC] at hi
 have key : ∀ i, i < len → ∃ y : Fl, (∀ j, j < 2 → w.cell? ((ad.add (i * 2)).add j) = (flC y)[j]?) ∧ y.1 < 65536 ∧ Rd w 1 y.2.1 y.2.2.2.length (BL y.2.2.2) := by
  intro i hil
  obtain ⟨cs', hc, ht'⟩ := hi i jo
  obtain ⟨_, hcl, hat⟩ := World.cells?_some hc
  obtain ⟨y, rfl, h1⟩ := qJ2 ht'
  exact ⟨y, fun j hj => hat j hj, h1⟩
 obtain ⟨ls, hll, hq⟩ := kY len key
 have hlen : (ls.flatMap flC).length = ls.length * 2 := lG flC 2 rI ls
 have hcell : ∀ j u, (ls.flatMap flC)[j]? = some u → w.cell? (ad.add j) = some u := by
  intro j u hu
  rw [sP flC 2 jo rI] at hu
  obtain ⟨y, hy, hu'⟩ := Option.bind_eq_some_iff.1 hu
  have := (hq _ y hy).1 (j % 2) (Nat.mod_lt _ jo)
  rw [Go.Proofs.YtoniopdkbeogjaaGreat.add_add, zdj, Nat.div_add_mod] at this
  rw [this, hu']
 have hall : ∀ y ∈ ls, y.1 < 65536 ∧ Rd w 1 y.2.1 y.2.2.2.length (BL y.2.2.2) := fun y hy => by
  obtain ⟨i, hi', hli⟩ := zbn hy
  exact (hq i y (by rw [zb hi', hli])).2
 subst hll
 refine ⟨ls, hl, by simpa [maxLen] using hm, rfl, ⟨by rw [hlen], fun hn => ⟨ad, rfl, ?_, hcell⟩⟩, fun y hy => (hall y hy).2, fun y hy => (hall y hy).1⟩
 have h0 : 0 < (ls.flatMap flC).length := by rw [hlen]; omega
 have := World.block_lt_of_cell? w _ (hcell 0 _ (zb h0))
 rwa [eJ] at this
theorem qW3 {S : Option Addr} {n : Nat} {l : List Cq} (hl : l.length = n) (hr : Rd w 3 S l.length (l.flatMap cqC)) (hq : ∀ y ∈ l, zX w y) : RdQ w S n l := by
 subst hl
 exact ⟨rfl, hr, fun z hz => ⟨(hq z hz).2.2.1, (hq z hz).2.2.2⟩, fun z hz => (hq z hz).1, fun z hz => (hq z hz).2.1⟩
end
end
end Go.Proofs.YtoniopdkbeogjaaGreat
