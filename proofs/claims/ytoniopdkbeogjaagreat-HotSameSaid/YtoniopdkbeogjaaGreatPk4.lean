/-
  Lemmas on the way, joined: HotAw, HotWb, HotQ0, HotWs, OpnA, OpnB, OpnC, OpnD, OpnE, OpnF, HotSw.
-/
import Derived.Test.YtoniopdkbeogjaaGreatPk3
set_option maxRecDepth 100000
set_option linter.unusedVariables false
set_option linter.unusedSimpArgs false
namespace Go.Proofs.YtoniopdkbeogjaaGreat
section
open Go.RowKit
set_option maxHeartbeats 1000000 in
theorem yB (w : World) : Calls Tryz.prog 14 #[] w fun e w' => e = .returned (.bool true) ∧ Frm [] w w' := by
 have hl : (Dk.new 51).has.length = 51 := by simp [Dk.new]
 have hp : Pow (Dk.new 51) := ⟨rfl, rfl⟩
 obtain ⟨f1, f2, f3, f4, f5, f6, f7, f8, f9⟩ := nL hp jo jo
 obtain ⟨⟨B1, hi1⟩, hN1, hw1, hps1⟩ := qZl
 refine VC.calls (nt := 124) (res := #[.tmp 0]) Tryz.func14 rfl Tryz.ntmps14 Tryz.results14 rfl ?_
 refine jS (jR (ja rfl (jO (jN ?_))))
 refine VC.sub [] .nil ?_
 refine jS (jR ?_)
 refine Ops.cl (jE1 Tryz.call6) (tO 51 w jo jo) rfl ?_
 rintro e w1 ⟨g, F, rfl, hD, K, hupF⟩
 refine ⟨_, rfl, ?_⟩
 have K0 := K
 refine jm rfl (je (Run.extract rfl rfl) (je (Run.extract rfl rfl) (ja rfl (ja rfl (jO (jN (jv2 1 2 ?_)))))))
 refine jS (jS (jR (jm rfl (jb rfl rfl (Bin.neqN _ 0) (jM ?_)))))
 refine Ops.rg rfl (rfl) (Run.mv rfl) rfl ?_
 refine Ops.rg rfl (rfl) (Run.eqlNilP rfl rfl Tryz.underlying23) rfl ?_
 refine je (Run.pickF rfl rfl (rfl)) (jO (jN (jv2 1 23 ?_)))
 refine VC.condF rfl (rfl) ?_
 refine jQ (jN (jv1 1 ?_))
 refine jS (jR (jM ?_))
 refine Ops.cl (jE1 Tryz.call7) (oO g F (Dk.new 51) w1 hD jo (zi _) f1 f2 f3 f4 f5) rfl ?_
 rintro e w2 ⟨h, F2, q, rfl, hH, hk2⟩
 refine ⟨_, rfl, ?_⟩
 have hH : IsHt w2 h g F2 bX q := hH
 have hup2 : ∀ x ∈ h :: F2, w.heap.size ≤ x := fun x hx => by
  rcases hk2.2 x hx with h1 | h1
  · exact hupF x h1
  exact zas K.size h1
 have K := K.own hk2.1 hupF
 have hc1 : bX.N - cntS bX.N bX.used = 8 := by rw [(kR hi1).1, hw1, hN1]; rfl
 have hu1 : (List.range bX.N).filter bX.used = [0] := by rw [pT hi1, hw1, hN1]; rfl
 refine jm rfl (je (Run.extract rfl rfl) (je (Run.extract rfl rfl) (ja rfl (ja rfl (jO (jN (jv2 3 4 ?_)))))))
 refine jS (jS (jR (jm rfl (jb rfl rfl (Bin.neqN _ 0) (jM ?_)))))
 refine Ops.rg rfl (rfl) (Run.mv rfl) rfl ?_
 refine Ops.rg rfl (rfl) (Run.eqlNilP rfl rfl Tryz.underlying27) rfl ?_
 refine je (Run.pickF rfl rfl (rfl)) (jO (jN (jv2 3 34 ?_)))
 refine VC.condF rfl (rfl) ?_
 refine jQ (jN (jv1 3 ?_))
 refine jS (jR (jM ?_))
 refine Ops.cl (jE1 Tryz.call39) (jV h g F2 _ q w2 hH) rfl ?_
 rintro e _ ⟨rfl, rfl⟩
 refine ⟨_, rfl, ?_⟩
 rw [hN1]
 refine jM ?_
 refine Ops.cl (jE1 Tryz.call51) (sP h g F2 _ q w2 hH) rfl ?_
 rintro e w3 ⟨rfl, hf3⟩
 refine ⟨_, rfl, ?_⟩
 rw [hc1]
 refine jM ?_
 refine Ops.cl (jE1 zfb) (dM h g F2 _ q w3 (hH.frm hf3)) rfl ?_
 rintro e w4 ⟨UB, ud, rfl, hoU, hf4, hupU⟩
 refine ⟨_, rfl, ?_⟩
 rw [hu1, show ([0] : List Nat).length = 1 from rfl] at hoU
 rw [hu1, show ([0] : List Nat).length = 1 from rfl]
 have hf24 : Frm [] w2 w4 := hf3.trans hf4 jp
 refine ja rfl (ja rfl (ja rfl (jO (jN (jv4 3 5 6 7 ?_)))))
 refine jS (jR ?_)
 refine Ops.cl (jE1 Tryz.call52) (uE 7 w4 jo) rfl ?_
 rintro e w5 ⟨ga, rfl, hoa, hf5, hga⟩
 refine ⟨_, rfl, ?_⟩
 refine Ops.cl (jE1 Tryz.call52) (uE 8 w5 jo) rfl ?_
 rintro e w6 ⟨gb, rfl, hob8, hf6, hgb⟩
 refine ⟨_, rfl, ?_⟩
 refine Ops.m (qZ.app rfl rfl ze (dJ) rfl jd (hoa.frm hf6 jp) hob8.rd (cN _) jo jo) rfl ?_
 rintro _ w7 ⟨DA, dc, rfl, hoD, hf7, hobD⟩
 rw [← cY] at hoD
 obtain ⟨Dx, hDx⟩ : ∃ Dx, Dx = (rB 7 ++ rB 8).take 200 := ⟨_, rfl⟩
 have hDl : Dx.length = 200 := by rw [hDx, rB, rB]; simp
 have hDb : ∀ b ∈ Dx, b < 256 := fun b hb => by
  rw [hDx, rB, rB] at hb
  rcases zbw.1 (zo hb) with hb | hb <;> have := List.eq_of_mem_replicate hb <;> omega
 have hDc := hoD.le
 have hDr : Rd w7 1 DA 200 (NB Dx) := by
  have h1 := hoD.rd.cut (l := 0) (r := 200) (cap := dc) jo jo hDc
  rw [cH, zcy, zbd, zbi, zcl, (lK _ _).1, ← hDx] at h1
  exact h1
 have hf57 : Frm [] w4 w7 := (hf5.trans hf6 jp).own hf7 (by simp [ob]; have := hf5.size; omega)
 have hf27 : Frm [] w2 w7 := hf24.trans hf57 jp
 obtain ⟨B2, hi2, hz2, hN2, hw2, hg2, hz3⟩ := qVk hDl hDb
 obtain ⟨m1, m2, -⟩ := pS hi1 (l := exL Dx) (fun c hc => by rw [exL, za] at hc; subst hc; exact ⟨by dsimp only; omega, hDb⟩)
 obtain ⟨m3, m4, m5⟩ := pS hi2 (l := [(5, [], true), (6, [], true)]) (fun c hc => by simp at hc; rcases hc with rfl | rfl <;> exact ⟨by dsimp only; omega, fun b hb => by cases hb⟩)
 refine je (Run.sliceS 0 200 rfl ze zad evB.none_ (evB.some_ rfl) jo jo) ?_
 rw [cH]
 refine ja rfl (jO (jN (jv5 3 5 6 7 8 ?_)))
 refine jS (jR (jm rfl (jm rfl (je (Run.build (evs.cons rfl (evs.cons rfl evs.nil)) eD (gU).choose_spec.1 (gU).choose_spec.2 (cells := (cqC (5, (DA, dc - 0, Dx), false)).toArray) (by rw [cqC, SL, hDl]; rfl)) ?_))))
 refine Ops.m (qZ.buildS1 rfl zam zay eD jd jd rfl rfl) rfl ?_
 rintro _ w8 ⟨rfl, hF8⟩
 have hr8 : RdC w8 (some ⟨w7.heap.size, 0, none⟩) 1 [(5, (DA, dc - 0, Dx), false)] := ⟨rfl, Rd.of_blk (n := 1) (size := 3) hF8.blk rfl, fun x hx => by rw [za] at hx; subst hx; exact ⟨by dsimp only; rw [hDl]; exact hDr.frm hF8.frm jp, by dsimp only; omega⟩, fun x hx => by rw [za] at hx; subst hx; exact ⟨by dsimp only; omega, by dsimp only; omega⟩, fun x hx => by rw [za] at hx; subst hx; exact hDb⟩
 have hf28 : Frm [] w2 w8 := hf27.trans hF8.frm jp
 refine Ops.cl (jE2 Tryz.call10) (jW (some ⟨w7.heap.size, 0, none⟩) 1 1 [(5, (DA, dc - 0, Dx), false)] h g F2 bX q w8 (hH.frm hf28) jo hr8 m1 m2) rfl ?_
 rintro e w9 ⟨F3, q3, rfl, hH3, hk9⟩
 refine ⟨_, rfl, ?_⟩
 have hH3 : IsHt w9 h g F3 (qR bX (exL Dx)).2 q3 := hH3
 rw [show (qR bX (chL [(5, (DA, dc - 0, Dx), false)])).1 = 0 from hz2]
 have K := (K.trans hf28 jp).own hk9.1 hup2
 have hup3 : ∀ x ∈ h :: F3, w.heap.size ≤ x := fun x hx => by
  rcases hk9.2 x hx with h1 | h1
  · exact hup2 x h1
  have h2 := hk2.1.size; have h3 := hf28.size; have h4 := K0.size; omega
 refine ja rfl (jO (jN (jv6 3 5 6 7 8 9 ?_)))
 refine jS (jR (jM ?_))
 refine Ops.cl (jE2 Tryz.call22) (uT 5 h g F3 _ q3 w9 hH3 jo) rfl ?_
 rintro e w10 ⟨GB, gd, rfl, hrG, hf10, hupG⟩
 refine ⟨_, rfl, ?_⟩
 rw [hg2] at hrG ⊢
 refine jm rfl (je (Run.extract rfl rfl) (je (Run.extract rfl rfl) (ja rfl (ja rfl (jO (jN (jv8 3 5 6 7 8 9 10 11 ?_)))))))
 refine jS (jR (jM ?_))
 refine Ops.cl (jE1 zfb) (dM h g F3 _ q3 w10 (hH3.frm hf10)) rfl ?_
 rintro e w11 ⟨VB, vd, rfl, hoV, hf11, hupV⟩
 refine ⟨_, rfl, ?_⟩
 have hu2 : (List.range (qR bX (exL Dx)).2.N).filter (qR bX (exL Dx)).2.used = [1, 2, 3] := by rw [pT hi2, hw2, hN2]; rfl
 rw [hu2, show ([1, 2, 3] : List Nat).length = 3 from rfl] at hoV
 rw [hu2, show ([1, 2, 3] : List Nat).length = 3 from rfl]
 have hf911 : Frm [] w9 w11 := hf10.trans hf11 jp
 refine ja rfl (jO (jN (jv9 3 5 6 7 8 9 10 11 12 ?_)))
 refine jS (jR (jm rfl (je (Run.build (evs.cons rfl (evs.cons rfl evs.nil)) eD (gU).choose_spec.1 (gU).choose_spec.2 (cells := (cqC (5, (none, 0, []), true)).toArray) rfl) (je (Run.build (evs.cons rfl (evs.cons rfl evs.nil)) eD (gU).choose_spec.1 (gU).choose_spec.2 (cells := (cqC (6, (none, 0, []), true)).toArray) rfl) ?_))))
 refine Ops.m (qZ.buildN (cells := #[.int .u64 ((5 : Nat) : Int), .slice none 0 0, .bool true, .int .u64 ((6 : Nat) : Int), .slice none 0 0, .bool true]) (evs.cons rfl (evs.cons rfl evs.nil)) zam zay eD rfl rfl jK) rfl ?_
 rintro _ w12 ⟨rfl, hF12⟩
 have hr12 : RdC w12 (some ⟨w11.heap.size, 0, none⟩) 2 [(5, (none, 0, []), true), (6, (none, 0, []), true)] := ⟨rfl, Rd.of_blk (n := 2) (size := 3) hF12.blk rfl, fun x hx => by simp at hx; rcases hx with rfl | rfl <;> exact ⟨Rd.nil _ _ _, zt _⟩, fun x hx => by simp at hx; rcases hx with rfl | rfl <;> exact ⟨by dsimp only; omega, jp⟩, fun x hx => by simp at hx; rcases hx with rfl | rfl <;> exact fun b hb => (by cases hb)⟩
 have hf912 : Frm [] w9 w12 := hf911.trans hF12.frm jp
 refine Ops.cl (jE2 Tryz.call10) (jW (some ⟨w11.heap.size, 0, none⟩) 2 2 [(5, (none, 0, []), true), (6, (none, 0, []), true)] h g F3 _ q3 w12 (hH3.frm hf912) jo hr12 m3 m4) rfl ?_
 rintro e w13 ⟨F4, q4, rfl, hH4, hk13⟩
 refine ⟨_, rfl, ?_⟩
 have e4 : (qR (qR bX (exL Dx)).2 [(5, [], true), (6, [], true)]).2 = (qR bX (exL Dx)).2 := by
  rcases m5 with ⟨h1, _⟩ | ⟨_, h1⟩
  · rw [hz3] at h1; cases h1
  exact h1
 have hH4 : IsHt w13 h g F4 (qR bX (exL Dx)).2 q4 := by rw [← e4]; exact hH4
 rw [show (qR (qR bX (exL Dx)).2 (chL [(5, (none, 0, []), true), (6, (none, 0, []), true)])).1 = 6 from hz3]
 have K := (K.trans hf912 jp).own hk13.1 hup3
 have hF2l := hH.lt
 have hF3l := hH3.lt
 have s24 := hf24.size
 have s28 := hf28.size
 have offU : ∀ y, w2.heap.size ≤ y → y < w8.heap.size → y ∉ h :: F2 ∧ y ∉ h :: F3 := fun y h1 h2 => by
  have h3 : y ∉ h :: F2 := fun hx => by have := hF2l y hx; omega
  exact ⟨h3, hk9.out h2 h3⟩
 have hUl := hoU.lt
 have hDl7 := hoD.lt
 have hf48 : Frm [] w4 w8 := hf57.trans hF8.frm jp
 have s48 := hf48.size
 have s78 := hF8.frm.size
 have s3 := hf3.size
 have s46 := (hf5.trans hf6 jp).size
 have s5 := hf5.size
 have hoU13 : Own w13 3 1 UB [0].length ud (ZN [0]) := (((hoU.frm hf48 jp).frm hk9.1 (fun y hy => (offU y (by have := hupU y hy; omega) (by have := hUl y hy; omega)).1)).frm hf912 jp).frm hk13.1 (fun y hy => (offU y (by have := hupU y hy; omega) (by have := hUl y hy; omega)).2)
 have hDA : ∀ y ∈ ob DA, w4.heap.size ≤ y := fun y hy => by
  rcases hobD with h1 | h1
  · rw [h1] at hy; simp [ob] at hy; omega
  rw [h1, za] at hy; omega
 have hDr13 : Rd w13 1 DA 200 (NB Dx) := (((hDr.frm hF8.frm jp).frm hk9.1 (fun _ y hy => (offU y (by have := hDA y hy; omega) (by have := hDl7 y hy; omega)).1)).frm hf912 jp).frm hk13.1 (fun _ y hy => (offU y (by have := hDA y hy; omega) (by have := hDl7 y hy; omega)).2)
 have hoV13 : Own w13 3 1 VB [1, 2, 3].length vd (ZN [1, 2, 3]) := (hoV.frm hF12.frm jp).frm hk13.1 (fun y hy hx => by have := hF3l y hx; have := hupV y hy; have := hf10.size; omega)
 have hrG13 : Rd w13 1 GB Dx.length (NB Dx) := ((hrG.frm hf11 jp).frm hF12.frm jp).frm hk13.1 (fun _ y hy hx => by have := hF3l y hx; have := hupG y hy; omega)
 obtain ⟨adU, hUA, hUc⟩ := rdZ hoU13.rd rfl (show 0 < [0].length by decide)
 obtain ⟨adV, hVA, hVc⟩ := rdZ hoV13.rd rfl (show 0 < [1, 2, 3].length by decide)
 obtain ⟨adV2, hVA2, hVc2⟩ := rdZ hoV13.rd rfl (show 2 < [1, 2, 3].length by decide)
 subst hUA hVA
 cases hVA2
 rw [hDl] at hrG13
 have hc2 : (qR bX (exL Dx)).2.N - cntS (qR bX (exL Dx)).2.N (qR bX (exL Dx)).2.used = 6 := by rw [(kR hi2).1, hw2, hN2]; rfl
 refine ja rfl (jO (jN (jv10 3 5 6 7 8 9 10 11 12 13 ?_)))
 refine jS (jR (jm rfl (jb rfl rfl (Bin.eqlN _ 9) (jM ?_))))
 refine jG ?_
 refine jk (Run.bin rfl rfl (Bin.eqlN _ 8)) ?_
 refine je (Run.pickT rfl rfl (rfl)) (jM ?_)
 refine jG ?_
 refine jk (Run.lenS rfl zl) ?_
 refine jk (Run.bin rfl rfl (Bin.eqlN _ 1)) ?_
 refine je (Run.pickT rfl rfl (rfl)) (jM ?_)
 refine jG ?_
 refine jk (Run.index1 0 rfl rfl zl zr jo) ?_
 refine jk (Run.load rfl zac hUc) ?_
 refine jk (Run.bin rfl rfl (Bin.eqlN _ 0)) ?_
 refine je (Run.pickT rfl rfl (rfl)) (jM ?_)
 refine jG ?_
 refine jk (Run.bin rfl rfl (Bin.eqlN _ 0)) ?_
 refine je (Run.pickT rfl rfl (rfl)) (jM ?_)
 refine jG ?_
 refine Ops.clg rfl au (jE1 Tryz.call51) (sP h g F4 _ q4 w13 hH4) rfl ?_
 rintro e w14 ⟨rfl, hf14⟩
 refine ⟨_, rfl, ?_⟩
 rw [hc2]
 refine jk (Run.bin rfl rfl (Bin.eqlN _ 6)) ?_
 refine je (Run.pickT rfl rfl (rfl)) (jM ?_)
 refine jG ?_
 refine jk (Run.lenS rfl zl) ?_
 refine jk (Run.bin rfl rfl (Bin.eqlN _ 3)) ?_
 refine je (Run.pickT rfl rfl (rfl)) (jM ?_)
 refine jG ?_
 refine jk (Run.index1 0 rfl rfl zl zr jo) ?_
 refine jk (Run.load rfl zac (by have := (hoV13.frm hf14 jp).rd; obtain ⟨a, e1, e2⟩ := rdZ this rfl (show 0 < [1, 2, 3].length by decide); cases e1; exact e2)) ?_
 refine jk (Run.bin rfl rfl (Bin.eqlN _ 1)) ?_
 refine je (Run.pickT rfl rfl (rfl)) (jM ?_)
 refine jG ?_
 refine jk (Run.index1 2 rfl rfl zl zr jo) ?_
 refine jk (Run.load rfl zac (by have := (hoV13.frm hf14 jp).rd; obtain ⟨a, e1, e2⟩ := rdZ this rfl (show 2 < [1, 2, 3].length by decide); cases e1; exact e2)) ?_
 refine jk (Run.bin rfl rfl (Bin.eqlN _ 3)) ?_
 refine je (Run.pickT rfl rfl (rfl)) (jM ?_)
 refine jG ?_
 refine jk (Run.strOf rfl ze zaw zdn (rdU (hDl ▸ hrG13.frm hf14 jp) hDb)) ?_
 refine jG ?_
 refine jk (Run.strOf rfl ze zaw zdn (rdU (hDr13.frm hf14 jp) hDb)) ?_
 refine jk (Run.eqlStr rfl rfl) ?_
 refine je (Run.pickT rfl rfl (rfl)) (jM ?_)
 refine jG ?_
 refine jk (Run.bin rfl rfl (Bin.eqlN _ 0)) ?_
 refine je (Run.pickT rfl rfl (decide_eq_true rfl)) (jM ?_)
 refine jG ?_
 refine jk (Run.bin rfl rfl (Bin.eqlN _ 6)) ?_
 refine je (Run.pickT rfl rfl (rfl)) (jm rfl (je (Run.pickT rfl rfl (rfl)) (jm rfl (je (Run.pickT rfl rfl (rfl)) (ja rfl (jO (jN (jv1 0 ?_))))))))
 refine jT ?_
 refine qB rfl ?_
 exact ⟨rfl, K.trans hf14 jp⟩
end
section
open Go.RowKit
theorem OwQ.rdc {b : Nat} {w : World} {X : List Nat} {S : Option Addr} {n : Nat} {l : List Cq} (h : OwQ b w X l) (hl : l.length = n) (hr : Rd w 3 S n (l.flatMap cqC)) (hn : ∀ x ∈ l, x.1 < 18446744073709551616 ∧ x.2.1.2.2.length ≤ 1000000) (ho : ∀ x ∈ l, ∀ b ∈ x.2.1.2.2, b < 256) : RdC w S n l :=
 ⟨hl, hr, fun x hx => ⟨(h.1 x hx).1.rd, (h.1 x hx).1.le⟩, hn, ho⟩
theorem qVl {w : World} {S : Option Addr} {n : Nat} {l0 l : List Cq} (h : RdQ w S n l0) (hl : chL l = kZ (chL l0)) : (∀ x ∈ l, x.1 < 18446744073709551616 ∧ x.2.1.2.2.length ≤ 1000000) ∧ (∀ x ∈ l, ∀ b ∈ x.2.1.2.2, b < 256) ∧ l.length ≤ 12 := by
 have key : ∀ x ∈ l, ∃ y ∈ l0, x.1 = y.1 ∧ x.2.1.2.2 = y.2.1.2.2.take 4040 := fun x hx => by
  have h1 : chO x ∈ kZ (chL l0) := by rw [← hl]; exact List.mem_map.2 ⟨x, hx, rfl⟩
  obtain ⟨c, hc, he⟩ := List.mem_map.1 h1
  obtain ⟨y, hy, rfl⟩ := List.mem_map.1 (zo hc)
  have e1 := congrArg (·.1) he
  have e2 := congrArg (·.2.1) he
  exact ⟨y, hy, e1.symm, e2.symm⟩
 refine ⟨fun x hx => ?_, fun x hx b hb => ?_, ?_⟩
 ·
  obtain ⟨y, hy, e1, e2⟩ := key x hx
  rw [e1, e2, zh]
  exact ⟨(h.num y hy).1, jo⟩
 ·
  obtain ⟨y, hy, e1, e2⟩ := key x hx
  rw [e2] at hb
  exact h.oct y hy b (zo hb)
 rw [← kP, hl]
 exact qJu _
end
section
open Go.RowKit Go.ChangeShapes Go.WideShapes Go.Deep
section
variable {H : Type} {enc : TypeId × Value → H} {w : World} {base : Nat} {spare : Nat → Bool} {held : Bool} {n : Nat} {cs : List Value} {x : DataW H × List MemPlace}
theorem qZm (h : DataW.trod enc Tryz.prog w base spare held n 4 cs = some x) : ∃ b : Bool, cs = [.bool b] ∧ True := by
 obtain ⟨b, h1, _⟩ := DataW.trod_bool Tryz.underlying4 h
 exact ⟨b, h1, trivial⟩
theorem qQ0 (h : DataW.trod enc Tryz.prog w base spare held n 63 cs = some x) : ∃ (A : Option Addr) (c : Nat) (bs : List Nat), cs = [.slice A bs.length c] ∧ bs.length ≤ c ∧ c ≤ 9223372036854775807 ∧ (∀ b ∈ bs, b < 256) ∧ Rd w 1 A bs.length (NB bs) := by
 obtain ⟨A, len, c, rfl⟩ := rO ze h
 obtain ⟨bs, rfl, h1, h2, h3, h4⟩ := qZ0 ze zaw jK h
 exact ⟨A, c, bs, rfl, h1, h2, h3, h4⟩
end
theorem yC {H : Type} {enc : TypeId × Value → H} {w : World} {base : Nat} {spare : Nat → Bool} {held : Bool} {n : Nat} {cs : List Value} {x : DataW H × List MemPlace} (h : DataW.trod enc Tryz.prog w base spare held n 93 cs = some x) :
  ∃ (id : Int) (A : Option Addr) (c : Nat) (bs : List Nat) (gg : Bool), cs = ([.int .u64 id] ++ ([.slice A bs.length c] ++ ([.bool gg] ++ [] : List Value) : List Value) : List Value) ∧ ((Lit.int .u64 id).wf = true) ∧ (bs.length ≤ c ∧ c ≤ 9223372036854775807 ∧ (∀ b ∈ bs, b < 256) ∧ Rd w 1 A bs.length (NB bs)) ∧ (True) := by
 obtain ⟨hlen, n', hf⟩ := qQc zaa h
 have hl : cs.length = 3 := hlen.trans jK
 obtain ⟨a0, a1, a2, rfl⟩ : ∃ a0 a1 a2, cs = [a0, a1, a2] := by
  match cs, hl with
  | [a0, a1, a2], _ => exact ⟨a0, a1, a2, rfl⟩
 clear h hlen hl
 obtain ⟨y0, h0⟩ := hf 0 _ rfl
 have h0 : DataW.trod enc Tryz.prog w base spare held n' 54 ([a0, a1, a2].take (Tryz.prog.cellsOf 54)) = some y0 := h0
 rw [show Tryz.prog.cellsOf 54 = 1 by kernel_rfl] at h0
 have h0 : DataW.trod enc Tryz.prog w base spare held n' 54 [a0] = some y0 := h0
 obtain ⟨id, e0, q0⟩ := qZ5 zq h0
 obtain ⟨y1, h1⟩ := hf 1 _ rfl
 have h1 : DataW.trod enc Tryz.prog w base spare held n' 63 ([a1, a2].take (Tryz.prog.cellsOf 63)) = some y1 := h1
 rw [show Tryz.prog.cellsOf 63 = 1 by kernel_rfl] at h1
 have h1 : DataW.trod enc Tryz.prog w base spare held n' 63 [a1] = some y1 := h1
 obtain ⟨A, c, bs, e1, q1⟩ := qQ0 h1
 obtain ⟨y2, h2⟩ := hf 2 _ rfl
 have h2 : DataW.trod enc Tryz.prog w base spare held n' 4 ([a2].take (Tryz.prog.cellsOf 4)) = some y2 := h2
 rw [show Tryz.prog.cellsOf 4 = 1 by kernel_rfl] at h2
 have h2 : DataW.trod enc Tryz.prog w base spare held n' 4 [a2] = some y2 := h2
 obtain ⟨gg, e2, q2⟩ := qZm h2
 refine ⟨id, A, c, bs, gg, ?_, q0, q1, q2⟩
 show ([a0] ++ ([a1] ++ ([a2] ++ [] : List Value) : List Value) : List Value) = _
 rw [e0, e1, e2]
 try rfl
section
variable {H : Type} {enc : TypeId × Value → H} {w : World} {base : Nat} {spare : Nat → Bool} {held : Bool}
def qQ1 (w : World) (y : Cq) : Prop := (y.1 < 18446744073709551616 ∧ y.2.1.2.2.length ≤ 9223372036854775807) ∧ (∀ b ∈ y.2.1.2.2, b < 256) ∧ Rd w 1 y.2.1.1 y.2.1.2.2.length (NB y.2.1.2.2) ∧ y.2.1.2.2.length ≤ y.2.1.2.1
theorem yD {n : Nat} {cs : List Value} {x : DataW H × List MemPlace} (h : DataW.trod enc Tryz.prog w base spare held n 93 cs = some x) : ∃ y : Cq, cs = cqC y ∧ qQ1 w y := by
 obtain ⟨id, A, c, bs, gg, rfl, h0, ⟨h1, h2, h3, h4⟩, -⟩ := yC h
 have hid : 0 ≤ id ∧ id < 18446744073709551616 := by
  simp [Lit.wf, IntKind.min, IntKind.max, IntKind.signed, IntKind.bits] at h0
  omega
 refine ⟨(id.toNat, (A, c, bs), gg), ?_, ⟨by dsimp only; omega, by dsimp only; omega⟩, h3, h4, h1⟩
 show [Value.int .u64 id, .slice A bs.length c, .bool gg] = [.int .u64 ((id.toNat : Nat) : Int), SL (A, c, bs), .bool gg]
 rw [Int.toNat_of_nonneg hid.1]
 rfl
theorem qQ2 {fuel len cap : Nat} {a : Option Addr} {x : DataW H × List MemPlace} (h : DataW.trod enc Tryz.prog w base spare held fuel 31 [.slice a len cap] = some x) :
  ∃ l : List Cq, l.length = len ∧ len ≤ cap ∧ cap ≤ 9223372036854775807 ∧ Rd w 3 a l.length (l.flatMap cqC) ∧ ∀ y ∈ l, qQ1 w y := by
 have hC : Tryz.prog.cellsOf 93 = 3 := by kernel_rfl
 rcases open_slice zam h with ⟨hcs, _⟩ | ⟨ad, l, c, m, n, D, Pl, hcs, _, hl, hm, hmm, _, hi⟩
 ·
  simp only [List.cons.injEq, Value.slice.injEq, and_true] at hcs
  obtain ⟨rfl, rfl, rfl⟩ := hcs
  exact ⟨[], rfl, zt _, jo, Rd.nil _ _ _, jp⟩
 simp only [List.cons.injEq, Value.slice.injEq, and_true] at hcs
 obtain ⟨rfl, rfl, rfl⟩ := hcs
 have hml : len ≤ m := by rw [hmm]; split <;> omega
 rw [hC] at hi
 have key : ∀ i, i < len → ∃ y : Cq, (∀ j, j < 3 → w.cell? ((ad.add (i * 3)).add j) = (cqC y)[j]?) ∧ qQ1 w y := by
  intro i hil
  obtain ⟨cs', hc, ht'⟩ := hi i jo
  obtain ⟨_, hcl, hat⟩ := World.cells?_some hc
  obtain ⟨y, rfl, h1⟩ := yD ht'
  exact ⟨y, fun j hj => hat j hj, h1⟩
 obtain ⟨ls, hll, hq⟩ := mW len key
 have hlen : (ls.flatMap cqC).length = ls.length * 3 := nH cqC 3 nK ls
 have hcell : ∀ j u, (ls.flatMap cqC)[j]? = some u → w.cell? (ad.add j) = some u := by
  intro j u hu
  rw [vM cqC 3 jo nK] at hu
  obtain ⟨y, hy, hu'⟩ := Option.bind_eq_some_iff.1 hu
  have := (hq _ y hy).1 (j % 3) (Nat.mod_lt _ jo)
  rw [Go.Proofs.YtoniopdkbeogjaaGreat.add_add, zdp, Nat.div_add_mod] at this
  rw [this, hu']
 refine ⟨ls, hll, hl, by simpa [maxLen] using hm, ⟨by rw [hlen], fun hn => ⟨ad, rfl, ?_, hcell⟩⟩, fun y hy => ?_⟩
 ·
  have h0 : 0 < (ls.flatMap cqC).length := by rw [hlen]; omega
  have := World.block_lt_of_cell? w _ (hcell 0 _ (zb h0))
  rwa [eU] at this
 obtain ⟨i, hi', hli⟩ := zby hy
 exact (hq i y (by rw [zb hi', hli])).2
theorem xG {n : Nat} {cs : List Value} {x : DataW H × List MemPlace} (h : DataW.trod enc Tryz.prog w base spare held n 31 cs = some x) : ∃ (A : Option Addr) (c : Nat) (l : List Cq), cs = [.slice A l.length c] ∧ l.length ≤ c ∧ c ≤ 9223372036854775807 ∧ Rd w 3 A l.length (l.flatMap cqC) ∧ ∀ y ∈ l, qQ1 w y := by
 obtain ⟨A, len, c, rfl⟩ := rO zam h
 obtain ⟨l, rfl, h1, h4, h2, h3⟩ := qQ2 h
 exact ⟨A, c, l, rfl, h1, h4, h2, h3⟩
end
abbrev Bt := Option Addr × Nat × List Cq
def btV (x : Bt) : Value := .slice x.1 x.2.2.length x.2.1
section
variable {H : Type} {enc : TypeId × Value → H} {w : World} {base : Nat} {spare : Nat → Bool} {held : Bool}
theorem qQ3 {fuel len cap : Nat} {a : Option Addr} {x : DataW H × List MemPlace} (h : DataW.trod enc Tryz.prog w base spare held fuel 22 [.slice a len cap] = some x) :
  ∃ l : List Bt, l.length = len ∧ len ≤ cap ∧ cap ≤ 9223372036854775807 ∧ (∀ y ∈ l, y.2.2.length ≤ y.2.1 ∧ y.2.1 ≤ 9223372036854775807 ∧ RdQ w y.1 y.2.2.length y.2.2) ∧ Rd w 1 a len (l.map btV) := by
 obtain ⟨l, h1, h2, h3, h4, h5⟩ := qXe btV (fun y => y.2.2.length ≤ y.2.1 ∧ y.2.1 ≤ 9223372036854775807 ∧ RdQ w y.1 y.2.2.length y.2.2) Tryz.underlying22 jK (fun v n y hh => by
  obtain ⟨A, c, l, hc, h1, h4, h2, h3⟩ := xG hh
  exact ⟨(A, c, l), (List.cons.inj hc).1, h1, h4, rfl, h2, fun z hz => ⟨(h3 z hz).2.2.1, (h3 z hz).2.2.2⟩, fun z hz => (h3 z hz).1, fun z hz => (h3 z hz).2.1⟩) h
 exact ⟨l, h1, h2, h3, h5, h4⟩
end
end
section
open Go.RowKit
def bt0 : Bt := (none, 0, [])
theorem qJ4 {w : World} {S : Option Addr} {n : Nat} {L : List Bt} (h : Rd w 1 S n (L.map btV)) (hn : L.length = n) {k : Nat} (hk : k < n) : ∃ ad, S = some ad ∧ w.cell? (ad.add k) = some (btV (L.getD k bt0)) := by
 obtain ⟨ad, h1, _, hc⟩ := h.2 jo
 exact ⟨ad, h1, hc k _ (by simp [zc, zb (jo : k < L.length)])⟩
theorem qVm {L : List Bt} {k : Nat} (hk : k < L.length) : L.getD k bt0 ∈ L := by
 rw [zc, zb hk]
 exact zbn hk
theorem OwQ.aside {b : Nat} {w w' : World} {X S : List Nat} {l : List Cq} (h : OwQ b w X l) (k : Frm S w w') (hS : ∀ y, b ≤ y → y < w.heap.size → y ∉ S) : OwQ b w' X l :=
 ⟨fun x hx => ⟨(h.1 x hx).1.frm k (fun y hy => hS y ((h.1 x hx).2 y hy).2 ((h.1 x hx).2 y hy).1.1), fun y hy => ⟨⟨zz ((h.1 x hx).2 y hy).1.1 k.size, ((h.1 x hx).2 y hy).1.2⟩, ((h.1 x hx).2 y hy).2⟩⟩, h.2⟩
end
section
open Go.RowKit
def ndV (A kA : Option Addr) (n pc kn kc : Nat) (i : Bool) : Array Value := #[.slice A n pc, .slice kA kn kc, .bool i]
theorem tP (A kA : Option Addr) (n pc kn kc : Nat) (i : Bool) : ∀ u ∈ (ndV A kA n pc kn kc i).toList, u.oneCell' = true := by
 intro u hu
 simp only [ndV, zv, zae, or_false] at hu
 rcases hu with rfl | rfl | rfl <;> rfl
structure NdQ where
 i : Nat
 pA : Option Addr
 pc : Nat
 ps : List Pr
 kA : Option Addr
 kc : Nat
 ks : List Kd
structure IsNd (w0 w : World) (g2 g8 : Nat) (b : List Nat) (s : NdQ) : Prop where
 b2 : Blk w g2 222 (ndV none none 0 0 0 0 false)
 b8 : Blk w g8 222 (ndV s.pA s.kA s.ps.length s.pc s.ks.length s.kc (decide (b.getD 0 0 = 2)))
 P : Own w 128 2 s.pA s.ps.length s.pc (PC2 s.ps)
 Kr : Own w 214 2 s.kA s.ks.length s.kc (KC s.ks)
 eq : s.ps = if b.getD 0 0 = 2 then [] else (List.range s.i).map fun i => (eO b (2 + 16 * i), eO b (10 + 16 * i))
 lp : s.ps.length ≤ s.i ∧ s.ks.length ≤ s.i
 K : Frm [] w0 w
 up : (∀ x ∈ ob s.pA, g8 < x) ∧ ∀ x ∈ ob s.kA, g8 < x
theorem zE {b : List Nat} {a : Nat} (h : a + 8 ≤ b.length) : numV b a 8 = eO b a := (gF h).2
theorem mK (A : Option Addr) (c L a n : Nat) (bs : List Nat) (w : World) (hl : bs.length = L) (hLb : L ≤ 1000000) (ha : a ≤ 1000000) (h1 : 1 ≤ n) (h8 : n ≤ 8) (hB : ∀ b ∈ bs, b < 256) (hr : Rd w 1 A L (NB bs)) :
  Calls Tryz.prog 160 #[.slice A L c, .int .i64 ((a : Nat) : Int), .int .i64 ((n : Nat) : Int)] w fun e w' => e = .returned (.int .u64 ((numV bs a n : Nat) : Int)) ∧ w = w' := by
 refine VC.calls (nt := 17) (res := #[.tmp 6]) Tryz.func160 rfl Tryz.ntmps160 Tryz.results160 rfl ?_
 refine jS (jR ?_)
 refine jy .u64 0 ?_
 refine jO (jN (jv3 0 1 2 ?_))
 refine jS (jR (jm rfl (jm rfl (jM ?_))))
 refine Ops.cl (jE3 zfq) (fO A c L a n bs w hl jo jo h1 h8 hB hr) rfl ?_
 rintro e _ ⟨rfl, rfl⟩
 refine ⟨_, rfl, ?_⟩
 refine jm rfl (je (Run.extract rfl rfl) (je (Run.extract rfl rfl) (ja rfl (ja rfl (jO (jN (jv1 7 ?_)))))))
 refine jS (jR (jm rfl (ja rfl (jO (jN (jv1 6 ?_))))))
 refine jT ?_
 refine qB rfl ?_
 exact ⟨rfl, rfl⟩
set_option maxHeartbeats 1000000 in
theorem qQ4 (A : Option Addr) (c : Nat) (b : List Nat) (w : World) (hp : mH b) (hc : 128 ≤ c) (hB : ∀ x ∈ b, x < 256) (hr : Rd w 1 A 128 (NB b)) :
  Calls Tryz.prog 148 #[.slice A 128 c] w fun e w' => Frm [] w w' ∧ ∃ PA pc kA kn kc inn, e = .returned (.tuple #[.agg (ndV PA kA (cD b).length pc kn kc inn), .bool true]) ∧ Rd w' 2 PA (cD b).length (PC2 (cD b)) ∧ ∀ x ∈ ob PA, w.heap.size ≤ x := by
 obtain ⟨hl, hk, hpg⟩ := hp
 obtain ⟨ad, rfl, _, _⟩ := hr.2 jo
 have hcl : ∀ V, Frm [] w V → ∀ i, i < 128 → V.cell? (ad.add i) = some (.int .u8 ((b.getD i 0 : Nat) : Int)) := fun V hV i hi => by
  obtain ⟨ad2, he, h2⟩ := gD (hr.frm hV jp) hl hi
  cases he
  exact h2
 have hrV : ∀ V, Frm [] w V → Rd V 1 (some ad) 128 (NB b) := fun V hV => hr.frm hV jp
 obtain ⟨k0, hk0⟩ : ∃ k0, k0 = b.getD 0 0 := ⟨_, rfl⟩
 obtain ⟨k1, hk1⟩ : ∃ k1, k1 = b.getD 1 0 := ⟨_, rfl⟩
 rw [← hk0, ← hk1] at hpg
 rw [← hk0, ← hk1] at hk
 have hc0 : ∀ V, Frm [] w V → V.cell? (ad.add 0) = some (.int .u8 ((k0 : Nat) : Int)) := fun V hV => by rw [hk0]; exact hcl V hV 0 jo
 have hc1 : ∀ V, Frm [] w V → V.cell? (ad.add 1) = some (.int .u8 ((k1 : Nat) : Int)) := fun V hV => by rw [hk1]; exact hcl V hV 1 jo
 have hp1 : cD b = if k0 = 2 then [] else (List.range k1).map fun i => (eO b (2 + 16 * i), eO b (10 + 16 * i)) := by rw [hk0, hk1]; rfl
 refine VC.calls (nt := 100) (res := #[.cell 2 222, .tmp 3]) Tryz.func148 rfl Tryz.ntmps148 Tryz.results148 rfl ?_
 refine jS (jR ?_)
 refine Ops.m (qZ.alloc pY) rfl ?_
 rintro _ w1 ⟨rfl, hF1⟩
 have hb2 : Blk w1 w.heap.size 222 (ndV none none 0 0 0 0 false) := hF1.blk
 have K := hF1.frm
 have q1 := hF1.size
 generalize hg2 : w.heap.size = g2 at hb2 q1 ⊢
 refine ja rfl (jO (jN (jv2 0 2 ?_)))
 refine jS (jS (jR (jm rfl (je (Run.lenS rfl ze) (jb rfl rfl (Bin.neqN _ 128) (jO (jN (jv3 0 2 13 ?_))))))))
 refine VC.condF rfl (rfl) ?_
 refine jQ (jN (jv2 0 2 ?_))
 refine jS (jR (jm rfl (je (Run.index1 1 rfl rfl ze zad jo) (jl rfl zcu (hc1 _ K) (je (Run.convN _ rfl zaw zag (by simp only [bmax]; omega)) (ja rfl (jO (jN (jv3 0 2 4 ?_)))))))))
 refine jS (jR (jz 16 (jz 7 (jO (jN (jS (jB (jS (jR (jm rfl (je (Run.index1 0 rfl rfl ze zad jo) (jl rfl zcu (hc0 _ K) (jb rfl rfl (Bin.eqlN _ 2) (ja rfl (jO (jN (jv6 0 2 4 5 6 19 ?_)))))))))))))))))
 refine VC.meet (σ := Nat × Nat) (fun s => [(0, .slice (some ad) 128 c), (2, .pointer (some ⟨g2, 0, none⟩)), (4, .int .i64 ((k1 : Nat) : Int)), (5, .int .i64 ((s.1 : Nat) : Int)), (6, .int .i64 ((s.2 : Nat) : Int))]) (fun s wz => w1 = wz ∧ (k0 = 2 ∧ s.1 = 10 ∧ s.2 = 12 ∨ k0 = 1 ∧ s.1 = 16 ∧ s.2 = 7)) ?_ ?_
 ·
  refine jD rfl (fun hc2 => ?_) fun hc2 => ?_
  ·
   refine jR (jz 10 (jz 12 (jO ?_)))
   refine jN ⟨(10, 12), (js5 rfl rfl rfl rfl rfl), ?_⟩
   exact ⟨rfl, .inl ⟨hc2, rfl, rfl⟩⟩
  refine jS (jR (jm rfl (je (Run.index1 0 rfl rfl ze zad jo) (jl rfl zcu (hc0 _ K) (jb rfl rfl (Bin.neqN _ 1) (ja rfl (jO (jN (jv6 0 2 4 5 6 24 ?_)))))))))
  refine VC.condF rfl (decide_eq_false jo) ?_
  refine jQ ?_
  refine jN ⟨(16, 7), (js5 rfl rfl rfl rfl rfl), ?_⟩
  exact ⟨rfl, .inr ⟨jo, rfl, rfl⟩⟩
 rintro ⟨ea, mo⟩ _ ⟨rfl, hem⟩ Γ hΓ
 dsimp only at hem hΓ
 have hsz : ea * k1 ≤ 120 := by
  rcases hem with ⟨_, h, _⟩ | ⟨_, h, _⟩
  · rw [h]; omega
  rw [h]; omega
 have hcut : Rd w1 1 (some ad) (2 + ea * k1) (NB (b.take (2 + ea * k1))) := by
  have h1 := (hrV _ K).cut (l := 0) (r := 2 + ea * k1) (cap := c) (zi _) jo hc
  rw [cH, zbi, zcy, zbd, zcl, (lK _ _).1] at h1
  exact h1
 have hea : ea = qQr k0 := by
  rcases hem with ⟨h0, h, _⟩ | ⟨h0, h, _⟩ <;> rw [h, h0] <;> rfl
 rw [← hea] at hpg
 refine qH (jN (VC.sub _ hΓ ?_))
 refine jS (jS ?_)
 refine VC.split1 [(0, _), (2, _), (4, _), (5, _)] (js4 rfl rfl rfl rfl) 42 (.bool (decide (mo < k1 ∨ k0 = 2 ∧ k1 = 0))) ?_ ?_
 ·
  refine jR ?_
  refine jm rfl (jm rfl (jb rfl rfl (Bin.gtrN _ _) ?_))
  by_cases hs32 : mo < k1
  ·
   refine jM ?_
   refine jU ?_
   refine jU ?_
   refine jU ?_
   refine jU ?_
   refine jU ?_
   refine Ops.skU rfl rfl ?_
   refine Ops.skU rfl rfl ?_
   refine jU ?_
   refine je (Run.pickT rfl rfl au) (jO ?_)
   refine jN ⟨(js5 (jC (by grind)) rfl rfl rfl rfl), rfl⟩
  refine jM ?_
  refine jG ?_
  refine jk (Run.index1 0 rfl rfl ze zad jo) ?_
  refine jk (Run.load rfl zcu (hc0 _ K)) ?_
  refine jk (Run.bin rfl rfl (Bin.eqlN _ 2)) ?_
  by_cases hs37 : k0 = 2
  ·
   refine jG ?_
   refine jG ?_
   refine jk (Run.bin rfl rfl (Bin.eqlN _ 0)) ?_
   by_cases hs40 : k1 = 0
   ·
    refine jk (Run.pickT rfl rfl au) ?_
    refine je (Run.pickF rfl rfl au) (jO ?_)
    refine jN ⟨(js5 (jC (by grind)) rfl rfl rfl rfl), rfl⟩
   refine jk (Run.pickT rfl rfl au) ?_
   refine je (Run.pickF rfl rfl au) (jO ?_)
   refine jN ⟨(js5 (jC (by grind)) rfl rfl rfl rfl), rfl⟩
  refine jG ?_
  refine jU ?_
  refine jU ?_
  refine jk (Run.pickF rfl rfl au) ?_
  refine je (Run.pickF rfl rfl au) (jO ?_)
  refine jN ⟨(js5 (jC (by grind)) rfl rfl rfl rfl), rfl⟩
 intro Γ hΓ
 refine jN (VC.sub _ hΓ ?_)
 refine VC.condF rfl (decide_eq_false jo) ?_
 refine jQ (jN (jv4 0 2 4 5 ?_))
 refine jS (jR (jm rfl (jm rfl (jb rfl rfl (Bin.mul_i64 _ _ jo) (jb rfl rfl (Bin.add_i64 2 _ jo) (ja rfl (jO (jN (jv5 0 2 4 5 7 ?_)))))))))
 refine jS (jS (jR (jm rfl (jm rfl (je (Run.sliceS 0 _ rfl ze zad evB.none_ (evB.some_ rfl) jo jo) ?_)))))
 rw [cH, zbi]
 refine Ops.cl (jE1 Tryz.call142) (nC (some ad) _ (2 + ea * k1) (b.take (2 + ea * k1)) _ (by rw [zh]; omega) jo (fun x hx => hB x (zo hx)) hcut) rfl ?_
 rintro e w3 ⟨PB, pd, rfl, hoP, hf3, hupP⟩
 refine ⟨_, rfl, ?_⟩
 rw [hpg] at hoP
 refine jM ?_
 refine Ops.cl (jE2 Tryz.call113) (lX PB (some ad) 128 128 pd c b b w3 hl hl hB hB hoP.rd (hrV _ (K.trans hf3 jp))) rfl ?_
 rintro e _ ⟨rfl, rfl⟩
 refine ⟨_, rfl, ?_⟩
 refine je (Run.not rfl) (jO (jN (jv5 0 2 4 5 54 ?_)))
 refine VC.condF rfl (by simp [hpg]) ?_
 refine jQ (jN (jv4 0 2 4 5 ?_))
 refine jS (jR (jm rfl (je (Run.index1 0 rfl rfl ze zad jo) (jl rfl zcu (hc0 _ (K.trans hf3 jp)) (jb rfl rfl (Bin.eqlN _ 2) (je (Run.build (evs.cons rfl evs.nil) pY (tB).choose_spec.1 (tB).choose_spec.2 (cells := ndV none none 0 0 0 0 (decide (k0 = 2))) rfl) ?_))))))
 refine Ops.m (qZ.alloc pY) rfl ?_
 rintro _ w4 ⟨rfl, hF4⟩
 have K4 := K.trans hf3 jp
 have q3 := hf3.size
 have q4 := hF4.size
 have hb24 := (hb2.frm hf3 jp).frm hF4.frm jp
 have h28 : g2 < w3.heap.size := by have := hb2.lt; omega
 have K4 := K4.trans hF4.frm jp
 refine Ops.st (qT.storeA rfl rfl zfz hF4.blk rfl (tP _ _ _ _ _ _ _)) ?_
 rintro w5 ⟨hb8, hf5, hs5⟩
 have hb8 : Blk w5 w3.heap.size 222 (ndV none none 0 0 0 0 (decide (k0 = 2))) := hb8
 generalize hg8 : w3.heap.size = g8 at *
 have hb25 := hb24.frm hf5 (by simp; omega)
 have K5 := K4.own hf5 (by simp; omega)
 have hnd : IsNd w w5 g2 g8 b ⟨0, none, 0, [], none, 0, []⟩ := ⟨hb25, by rw [← hk0]; exact hb8, Own.nil _ _ _, Own.nil _ _ _, by split <;> rfl, ⟨zt _, zt _⟩, K5, by simp [ob], by simp [ob]⟩
 refine jO (jN (jv5 0 2 4 5 8 ?_))
 refine jS (jS (jR (jM ?_)))
 refine jx .i64 0 ?_
 refine jO (jN (jv6 0 2 5 8 61 62 ?_))
 refine jB ?_
 refine VC.loop (σ := NdQ) (fun s => [(0, .slice (some ad) 128 c), (2, .pointer (some ⟨g2, 0, none⟩)), (5, .int .i64 ((ea : Nat) : Int)), (8, .pointer (some ⟨g8, 0, none⟩)), (61, .int .i64 ((k1 : Nat) : Int)), (62, .int .i64 ((s.i : Nat) : Int))]) (fun s wr => s.i ≤ k1 ∧ IsNd w wr g2 g8 b s) (fun s => k1 - s.i) ⟨0, none, 0, [], none, 0, []⟩ (js6 rfl rfl rfl rfl rfl rfl) ⟨zi _, hnd⟩ ?_
 rintro ⟨i, pA, pc, ps, kA, kc, ks⟩ wr ⟨hi, hb2, hb8, hP, hKr, hpse, ⟨hlp, hlk⟩, K, hup⟩
 dsimp only at hi hb8 hP hKr hpse hlp hlk hup ⊢
 rw [← hk0] at hb8 hpse
 have ks0 := K.size
 have q8 := hb8.lt
 have n8p : g8 ∉ ob pA := fun h => zbr _ (hup.1 _ h)
 have n8k : g8 ∉ ob kA := fun h => zbr _ (hup.2 _ h)
 have hg2w : w.heap.size = g2 := hg2
 have hup1 : ∀ x ∈ ob pA, w.heap.size ≤ x := fun x hx => by have := hup.1 x hx; omega
 have hup2 : ∀ x ∈ ob kA, w.heap.size ≤ x := fun x hx => by have := hup.2 x hx; omega
 have n2p : g2 ∉ ob pA := fun h => by have := hup.1 _ h; omega
 have n2k : g2 ∉ ob kA := fun h => by have := hup.2 _ h; omega
 refine jS (jR (jb rfl rfl (Bin.lssN _ _) (jO (jN (jS ?_)))))
 refine jD rfl (fun hc6 => ?_) fun hc6 => ?_
 ·
  have hmi : ea * i + ea ≤ ea * k1 := by
   have := Nat.mul_le_mul_left ea (jo : i + 1 ≤ k1)
   rw [Nat.mul_succ] at this
   exact this
  refine jQ (jN (jv6 0 2 5 8 61 62 ?_))
  refine jS (jB (jS (jR (jm rfl (ja rfl (jO (jN (jv7 0 2 5 8 9 61 62 ?_))))))))
  refine jS (jR (jm rfl (jm rfl (jb rfl rfl (Bin.mul_i64 _ _ jo) (jb rfl rfl (Bin.add_i64 2 _ jo) (ja rfl (jO (jN (jv7 0 2 5 8 10 61 62 ?_)))))))))
  refine jS (jR (jf rfl zde rfl zcm (jl rfl zec (hb8.cell 2) (jO (jN (jv8 0 2 5 8 10 61 62 70 ?_))))))
  refine VC.condB rfl (fun hc7 => ?_) (fun hc7 => ?_)
  ·
   have hk2 : k0 = 2 := by simpa using hc7
   obtain rfl : ea = 10 := jo
   have hv2 := tK hB (2 + 10 * i + 8)
   rw [← (gF (hd := b) (a := 2 + 10 * i + 8) (n := 2) jo).2] at hv2
   refine VC.heldL 14 (fun V => Frm (ob kA) wr V) jK ?_
   have hS : Frm (ob kA) wr wr.drew := (Frm.refl _ _).drew
   refine jH 0 rfl hS (fun w0 hw0 => Run.fieldAddr rfl zde rfl zfw jd) ?_
   refine jH 1 rfl hS (fun w0 hw0 => Run.load rfl zfj ((hb8.frm hw0 n8k).cell 1)) ?_
   refine jH 2 rfl hS (fun w0 hw0 => Run.mv rfl) ?_
   refine jH 3 rfl hS (fun w0 hw0 => Run.mv rfl) ?_
   refine jH 5 rfl hS (fun w0 hw0 => Run.mv rfl) ?_
   refine jH 6 rfl hS (fun w0 hw0 => Run.mv rfl) ?_
   refine jH 7 rfl hS (fun w0 hw0 => Run.bin rfl rfl (Bin.add_i64 _ 8 jo)) ?_
   refine qQ.cl 4 rfl jK (jE3 Tryz.call160) (mK (some ad) c 128 (2 + 10 * i) 8 b _ hl jo jo jo jo hB (hrV _ (K.own hS hup2))) trivial rfl rfl ?_
   rintro e _ ⟨rfl, rfl⟩
   refine ⟨_, rfl, hS, ?_⟩
   refine qQ.cl 8 rfl jK (jE3 Tryz.call160) (mK (some ad) c 128 (2 + 10 * i + 8) 2 b _ hl jo jo jo jo hB (hrV _ (K.own hS hup2))) trivial rfl rfl ?_
   rintro e _ ⟨rfl, rfl⟩
   refine ⟨_, rfl, hS, ?_⟩
   refine qQ.r1 9 rfl jK hS (Run.convN _ rfl zq zag (by simp only [bmax]; omega)) trivial rfl rfl ?_
   refine qQ.r1 10 rfl jK hS (Run.build (evs.cons rfl (evs.cons rfl evs.nil)) gT (fF).choose_spec.1 (fF).choose_spec.2 (cells := (kdC (numV b (2 + 10 * i) 8, numV b (2 + 10 * i + 8) 2)).toArray) rfl) trivial rfl rfl ?_
   refine qQ.m 11 rfl jK (qZ.buildS1 rfl zbf zdd gT jd jd rfl rfl) trivial rfl rfl ?_
   rintro _ w6 ⟨rfl, hF6⟩
   have hS := hS.trans hF6.frm jp
   refine ⟨hS, ?_⟩
   have k6 : Frm [] wr w6 := (qV.drew wr).frm.trans hF6.frm jp
   have hr6 : Rd w6 2 (some ⟨wr.drew.heap.size, 0, none⟩) 1 (kdC (numV b (2 + 10 * i) 8, numV b (2 + 10 * i + 8) 2)) := Rd.of_blk (n := 1) (size := 2) hF6.blk rfl
   have hK6 := hKr.frm k6 jp
   refine qQ.m 12 rfl jK (qZ.app rfl rfl zbf (sL) rfl jd hK6 hr6 (pP _) jo jo) trivial rfl rfl ?_
   rintro _ w7 ⟨B7, d7, rfl, ho7, hf7, hob7⟩
   have hS := hS.trans hf7 (fun x hx => .inl hx)
   refine ⟨hS, ?_⟩
   rw [← tV] at ho7
   have hb87 := (hb8.frm k6 jp).frm hf7 n8k
   have hup7 : ∀ x ∈ ob B7, g8 < x := (Fk.of_app hf7 hob7).up (b := g8 + 1) hup.2 (by have := k6.size; omega)
   refine qQ.r1 13 rfl jK hS (Run.fieldAddr rfl zde rfl zfw jd) trivial rfl rfl ?_
   refine qQ.stL rfl jK (qT.store rfl rfl zfw hb87 rfl rfl) trivial rfl ?_
   rintro w8 ⟨hb88, hf8, hs8⟩
   have hf8 : Frm [g8] w7 w8 := hf8
   have hb88 : Blk w8 g8 222 (ndV pA B7 ps.length pc (ks.length + 1) d7 (decide (k0 = 2))) := hb88
   have K8 := (K.own hS hup2).own hf8 (by simp; omega)
   have kk8 : Frm (g8 :: ob kA) wr w8 := (hS.mono (fun x hx => .inl (by simp [hx]))).trans hf8 (fun x hx => .inl (by simp at hx; simp [hx]))
   have hP8 := hP.frm kk8 (fun x hx h => by
    rcases zv.1 h with rfl | h
    · exact n8p hx
    exact hP.ne_own hKr jd x hx h)
   have ho8 := ho7.frm hf8 (fun x hx h => by rw [za] at h; have := hup7 x hx; omega)
   have hb28 := hb2.frm kk8 (fun h => by
    rcases zv.1 h with h | h
    · omega
    exact n2k h)
   refine qQ.done jK ?_
   refine qH (jN ?_)
   refine jv6 0 2 5 8 61 62 ?_
   refine jR (jb rfl rfl (Bin.add_i64 _ 1 jo) (jm rfl (jO ?_)))
   refine jN ⟨⟨i + 1, pA, pc, ps, B7, d7, ks ++ [(numV b (2 + 10 * i) 8, numV b (2 + 10 * i + 8) 2)]⟩, (js6 rfl rfl rfl rfl rfl rfl), ?_, ?_⟩
   · exact ⟨hc6, hb28, by dsimp only; rw [zd, ← hk0]; exact hb88, hP8, by dsimp only; rw [zd]; exact ho8, by dsimp only; rw [hpse, ← hk0, if_pos hk2, if_pos hk2], ⟨by dsimp only; omega, by dsimp only; rw [zd, zce]; omega⟩, K8, hup.1, hup7⟩
   first | omega | (dsimp only; omega)
  have hk2 : k0 ≠ 2 := by simpa using hc7
  obtain rfl : ea = 16 := jo
  refine VC.heldL 13 (fun V => Frm (ob pA) wr V) jK ?_
  have hS : Frm (ob pA) wr wr.drew := (Frm.refl _ _).drew
  refine jH 0 rfl hS (fun w0 hw0 => Run.fieldAddr rfl zde rfl zao jd) ?_
  refine jH 1 rfl hS (fun w0 hw0 => Run.load rfl zbm ((hb8.frm hw0 n8p).cell 0)) ?_
  refine jH 2 rfl hS (fun w0 hw0 => Run.mv rfl) ?_
  refine jH 3 rfl hS (fun w0 hw0 => Run.mv rfl) ?_
  refine jH 5 rfl hS (fun w0 hw0 => Run.mv rfl) ?_
  refine jH 6 rfl hS (fun w0 hw0 => Run.mv rfl) ?_
  refine jH 7 rfl hS (fun w0 hw0 => Run.bin rfl rfl (Bin.add_i64 _ 8 jo)) ?_
  refine qQ.cl 4 rfl jK (jE3 Tryz.call160) (mK (some ad) c 128 (2 + 16 * i) 8 b _ hl jo jo jo jo hB (hrV _ (K.own hS hup1))) trivial rfl rfl ?_
  rintro e _ ⟨rfl, rfl⟩
  refine ⟨_, rfl, hS, ?_⟩
  refine qQ.cl 8 rfl jK (jE3 Tryz.call160) (mK (some ad) c 128 (2 + 16 * i + 8) 8 b _ hl jo jo jo jo hB (hrV _ (K.own hS hup1))) trivial rfl rfl ?_
  rintro e _ ⟨rfl, rfl⟩
  refine ⟨_, rfl, hS, ?_⟩
  refine qQ.r1 9 rfl jK hS (Run.build (evs.cons rfl (evs.cons rfl evs.nil)) eY (lP).choose_spec.1 (lP).choose_spec.2 (cells := (prC (numV b (2 + 16 * i) 8, numV b (2 + 16 * i + 8) 8)).toArray) rfl) trivial rfl rfl ?_
  refine qQ.m 10 rfl jK (qZ.buildS1 rfl zg zm eY jd jd rfl rfl) trivial rfl rfl ?_
  rintro _ w6 ⟨rfl, hF6⟩
  have hS := hS.trans hF6.frm jp
  refine ⟨hS, ?_⟩
  have k6 : Frm [] wr w6 := (qV.drew wr).frm.trans hF6.frm jp
  have hr6 : Rd w6 2 (some ⟨wr.drew.heap.size, 0, none⟩) 1 (prC (numV b (2 + 16 * i) 8, numV b (2 + 16 * i + 8) 8)) := Rd.of_blk (n := 1) (size := 2) hF6.blk rfl
  have hP6 := hP.frm k6 jp
  refine qQ.m 11 rfl jK (qZ.app rfl rfl zg (mC) rfl jd hP6 hr6 (eM _) jo jo) trivial rfl rfl ?_
  rintro _ w7 ⟨B7, d7, rfl, ho7, hf7, hob7⟩
  have hS := hS.trans hf7 (fun x hx => .inl hx)
  refine ⟨hS, ?_⟩
  have e7 : PC2 ps ++ prC (numV b (2 + 16 * i) 8, numV b (2 + 16 * i + 8) 8) = PC2 (ps ++ [(eO b (2 + 16 * i), eO b (10 + 16 * i))]) := by
   rw [gP, zE jo, zE jo, show 2 + 16 * i + 8 = 10 + 16 * i by omega]
   simp [PC2]
  rw [e7] at ho7
  have hb87 := (hb8.frm k6 jp).frm hf7 n8p
  have hup7 : ∀ x ∈ ob B7, g8 < x := (Fk.of_app hf7 hob7).up (b := g8 + 1) hup.1 (by have := k6.size; omega)
  refine qQ.r1 12 rfl jK hS (Run.fieldAddr rfl zde rfl zao jd) trivial rfl rfl ?_
  refine qQ.stL rfl jK (qT.store rfl rfl zao hb87 rfl rfl) trivial rfl ?_
  rintro w8 ⟨hb88, hf8, hs8⟩
  have hf8 : Frm [g8] w7 w8 := hf8
  have hb88 : Blk w8 g8 222 (ndV B7 kA (ps.length + 1) d7 ks.length kc (decide (k0 = 2))) := hb88
  have K8 := (K.own hS hup1).own hf8 (by simp; omega)
  have kk8 : Frm (g8 :: ob pA) wr w8 := (hS.mono (fun x hx => .inl (by simp [hx]))).trans hf8 (fun x hx => .inl (by simp at hx; simp [hx]))
  have hK8 := hKr.frm kk8 (fun x hx h => by
   rcases zv.1 h with rfl | h
   · exact n8k hx
   exact hP.ne_own hKr jd x h hx)
  have ho8 := ho7.frm hf8 (fun x hx h => by rw [za] at h; have := hup7 x hx; omega)
  have hb28 := hb2.frm kk8 (fun h => by
   rcases zv.1 h with h | h
   · omega
   exact n2p h)
  refine qQ.done jK ?_
  refine qH (jN ?_)
  refine jv6 0 2 5 8 61 62 ?_
  refine jR (jb rfl rfl (Bin.add_i64 _ 1 jo) (jm rfl (jO ?_)))
  refine jN ⟨⟨i + 1, B7, d7, ps ++ [(eO b (2 + 16 * i), eO b (10 + 16 * i))], kA, kc, ks⟩, (js6 rfl rfl rfl rfl rfl rfl), ?_, ?_⟩
  · exact ⟨hc6, hb28, by dsimp only; rw [zd, ← hk0]; exact hb88, by dsimp only; rw [zd]; exact ho8, hK8, by dsimp only; rw [← hk0, if_neg hk2, zcn, zw, hpse, if_neg hk2]; rfl, ⟨by dsimp only; rw [zd, zce]; omega, by dsimp only; omega⟩, K8, hup7, hup.2⟩
  first | omega | (dsimp only; omega)
 refine jX ?_
 refine qJ (qJ (qS ?_))
 refine jN (jv2 2 8 ?_)
 refine jS (jR (je (Run.loadA rfl Tryz.isAgg222 zfz hb8.cells (by first | rfl | (simp; done))) ?_))
 refine Ops.st (qT.storeA rfl rfl zfz hb2 rfl (tP _ _ _ _ _ _ _)) ?_
 rintro w9 ⟨hb2, hf9, hs9⟩
 refine ja rfl (jO (jN (jv2 2 3 ?_)))
 refine jT ?_
 refine eN ?_
 refine cQ rfl Tryz.isAgg222 zfz (hb2.cells) (by first | rfl | (simp; done) | (simp [*]; done)) ?_
 refine cI rfl ?_
 refine bI ?_
 obtain rfl : i = k1 := jo
 rw [hp1, ← hpse]
 exact ⟨K.own hf9 (by simp; omega), pA, pc, kA, _, _, _, rfl, (hP.frm hf9 (fun x hx h => by rw [za] at h; subst h; exact n2p hx)).rd, fun x hx => by have := hup1 x hx; omega⟩
end
section
open Go.RowKit
def RdR (w : World) (ps : List Pg) : Prop := ∀ x ∈ ps, Rd w 1 x.1 x.2.2.length (NB x.2.2) ∧ ∀ b ∈ x.2.2, b < 256
theorem RdR.frm {w w' : World} {ps : List Pg} (h : RdR w ps) (k : Frm [] w w') : RdR w' ps := fun x hx => ⟨(h x hx).1.frm k jp, (h x hx).2⟩
def pg0 : Pg := (none, 0, [])
theorem qQ5 {w : World} {A : Option Addr} {n : Nat} {ps : List Pg} (h : Rd w 1 A n (ps.map SL)) (hn : ps.length = n) {k : Nat} (hk : k < n) : ∃ ad, A = some ad ∧ w.cell? (ad.add k) = some (SL (ps.getD k pg0)) := by
 obtain ⟨ad, h1, _, hc⟩ := h.2 jo
 exact ⟨ad, h1, hc k _ (by simp [zc, zb (jo : k < ps.length)])⟩
theorem pK {ps : List Pg} {k : Nat} (h : k < ps.length) : ps.getD k pg0 ∈ ps := by
 rw [zc, zb h]
 exact zbn h
theorem qKy {ps : List Pg} {k : Nat} (h : k < ps.length) : ps.take (k + 1) = ps.take k ++ [ps.getD k pg0] := by
 rw [zbo, zb h, zc, zb h]
 rfl
theorem qKz {ps qs : List Pg} (he : ps.map (·.2.2) = qs.map (·.2.2)) (k : Nat) : (ps.getD k pg0).2.2 = (qs.getD k pg0).2.2 := by
 have h1 := congrArg (·[k]?) he
 simp only [zcf] at h1
 rw [zc, zc]
 cases ha : ps[k]? <;> cases hb : qs[k]? <;> rw [ha, hb] at h1 <;> simp at h1 ⊢
 exact h1
theorem qZn (a : List (List Nat)) (x : List Nat) : cB (a ++ [x]) = cB a ++ cD x := by unfold cB; rw [zan]; simp
theorem qZo (a : List (List Nat)) (k : Nat) : (cB (a.take k)).length ≤ (cB a).length := by
 conv => rhs; rw [← zbp k a]
 unfold cB
 rw [zan, zd]
 omega
theorem zF {b : List Nat} (hB : ∀ x ∈ b, x < 256) (a : Nat) : eO b a < 18446744073709551616 := by
 have h1 := pH ((b.drop a).take 8) (fun x hx => hB x (zat (zo hx)))
 have h2 : (256 : Nat) ^ ((b.drop a).take 8).length ≤ 256 ^ 8 := zca jo (by rw [zh]; omega)
 have e : (256 : Nat) ^ 8 = 18446744073709551616 := rfl
 unfold eO
 omega
theorem qZp {b : List Nat} (hB : ∀ x ∈ b, x < 256) : OkP (cD b) := fun x hx => by
 unfold cD at hx
 split at hx
 · cases hx
 obtain ⟨i, _, rfl⟩ := List.mem_map.1 hx
 exact ⟨zF hB _, zF hB _⟩
theorem qK0 {ps : List (List Nat)} (h : ∀ p ∈ ps, ∀ b ∈ p, b < 256) : OkP (cB ps) := fun x hx => by
 obtain ⟨p, hp, hx⟩ := List.mem_flatMap.1 hx
 exact qZp (h p hp) x hx
theorem qJy (A B : Option Addr) (n c d : Nat) (ps qs : List Pg) (w : World) (hn1 : n ≤ 1000000) (hn : ps.length = n) (hm : qs.length = n) (he : ps.map (·.2.2) = qs.map (·.2.2)) (hA : Rd w 1 A n (ps.map SL)) (hB : Rd w 1 B n (qs.map SL)) (hp : RdR w ps) (hq : RdR w qs) :
  Calls Tryz.prog 149 #[.slice A n c, .slice B n d, .func (.func 113) #[] #[]] w fun e w' => e = .returned (.bool true) ∧ w = w' := by
 refine VC.calls (nt := 32) (res := #[.tmp 6]) Tryz.func149 rfl Tryz.ntmps149 Tryz.results149 rfl ?_
 refine jS (jR (ja rfl (jO (jN (jv3 0 1 2 ?_)))))
 refine jS (jS (jR (jm rfl (je (Run.lenS rfl zab) (jm rfl (je (Run.lenS rfl zab) (jb rfl rfl (Bin.neqN _ _) (jO (jN (jv4 0 1 2 14 ?_))))))))))
 refine VC.condF rfl (decide_eq_false jp) ?_
 refine jQ (jN (jv3 0 1 2 ?_))
 refine jS (jS (jR (jm rfl (je (Run.lenS rfl zab) ?_))))
 refine jx .i64 0 ?_
 refine jO (jN (jv5 1 2 15 16 17 ?_))
 refine jB ?_
 refine VC.loop (σ := Nat) (fun s => [(1, .slice B n d), (2, .func (.func 113) #[] #[]), (15, .slice A n c), (16, .int .i64 ((n : Nat) : Int)), (17, .int .i64 ((s : Nat) : Int))]) (fun s wr => s ≤ n ∧ w = wr) (fun s => n - s) 0 (js5 rfl rfl rfl rfl rfl) ⟨zi _, rfl⟩ ?_
 rintro i _ ⟨hi, rfl⟩
 refine jS (jR (jb rfl rfl (Bin.lssN _ _) (jO (jN (jS ?_)))))
 refine jD rfl (fun hc2 => ?_) fun hc2 => ?_
 ·
  obtain ⟨ad, hA1, hca⟩ := qQ5 hA hn hc2
  obtain ⟨bd, hB1, hcb⟩ := qQ5 hB hm hc2
  have hpm := hp _ (pK (jo : i < ps.length))
  have hqm := hq _ (pK (jo : i < qs.length))
  have hsm := qKz he i
  subst hA1 hB1
  generalize ps.getD i pg0 = x at hca hpm hsm
  generalize qs.getD i pg0 = y at hcb hqm hsm
  obtain ⟨xA, xc, xb⟩ := x
  obtain ⟨yA, yc, yb⟩ := y
  dsimp only at hpm hqm hsm
  subst hsm
  refine jQ (jN (jv5 1 2 15 16 17 ?_))
  refine jS (jB (jS (jR (jm rfl (je (Run.index1 _ rfl rfl zab zn jo) (jl rfl zal hca (ja rfl (ja rfl (jO (jN (jv7 1 2 7 8 15 16 17 ?_)))))))))))
  refine jS (jR (jm rfl (jm rfl (je (Run.index1 _ rfl rfl zab zn jo) (jl rfl zal hcb (ja rfl (jO (jN (jv7 1 2 8 9 15 16 17 ?_)))))))))
  refine jS (jR (jm rfl (jm rfl (jM ?_))))
  refine Ops.cl (bM.dyn rfl (evs.cons rfl (evs.cons rfl evs.nil)) Tryz.call113) (lX xA yA xb.length xb.length xc yc xb xb w rfl rfl hpm.2 hpm.2 hpm.1 hqm.1) rfl ?_
  rintro e _ ⟨rfl, rfl⟩
  refine ⟨_, rfl, ?_⟩
  refine je (Run.not rfl) (jO (jN (jv6 1 2 15 16 17 30 ?_)))
  refine VC.condF rfl jp ?_
  refine jQ ?_
  refine qH (jN ?_)
  refine jv5 1 2 15 16 17 ?_
  refine jR (jb rfl rfl (Bin.add_i64 _ 1 jo) (jm rfl (jO ?_)))
  refine jN ⟨i + 1, (js5 rfl rfl rfl rfl rfl), ?_, ?_⟩
  · exact ⟨hc2, rfl⟩
  first | omega | (dsimp only; omega)
 refine jX ?_
 refine qJ (qJ (qS ?_))
 refine jN ?_
 refine VC.sub [] .nil ?_
 refine jS (jR (ja rfl (jO (jN (jT ?_)))))
 refine qB rfl ?_
 exact ⟨rfl, rfl⟩
set_option maxHeartbeats 1000000 in
theorem qZq (A : Option Addr) (n c : Nat) (ps : List Pg) (w : World) (hn : ps.length = n) (hn6 : n ≤ 600) (hA : Rd w 1 A n (ps.map SL)) (hp : RdR w ps) (hpc : ∀ x ∈ ps, x.2.2.length ≤ x.2.1) (hT : oS (ps.map (·.2.2))) :
  Calls Tryz.prog 115 #[.slice A n c] w fun e w' => ∃ B d, e = .returned (.tuple #[.slice B (cB (ps.map (·.2.2))).length d, .int .i64 0]) ∧ Own w' 128 2 B (cB (ps.map (·.2.2))).length d (PC2 (cB (ps.map (·.2.2)))) ∧ Frm [] w w' ∧ ∀ x ∈ ob B, w.heap.size ≤ x := by
 obtain ⟨hpg, hmay, htr⟩ := hT
 have hok := qK0 (ps := ps.map (·.2.2)) (fun p hp2 => by obtain ⟨x, hx, rfl⟩ := List.mem_map.1 hp2; exact (hp x hx).2)
 have hl6 := hmay.2
 have hlt := fun k => qZo (ps.map (·.2.2)) k
 have K0 := Frm.refl [] w
 refine VC.calls (nt := 43) (res := #[.tmp 2, .tmp 3]) Tryz.func115 rfl Tryz.ntmps115 Tryz.results115 rfl ?_
 refine jS (jR (ja rfl (jz 0 (jO (jN (jv1 0 ?_))))))
 refine jS (jR (ja rfl (jO (jN (jS (jS (jR (jm rfl (je (Run.lenS rfl zab) ?_)))))))))
 refine jx .i64 0 ?_
 refine jO (jN (jB ?_))
 refine VC.loop (σ := Nat × Option Addr × Nat) (fun s => [(0, .slice A n c), (4, .slice s.2.1 (cB ((ps.map (·.2.2)).take s.1)).length s.2.2), (11, .slice A n c), (12, .int .i64 ((n : Nat) : Int)), (13, .int .i64 ((s.1 : Nat) : Int))]) (fun s wr => s.1 ≤ n ∧ Own wr 128 2 s.2.1 (cB ((ps.map (·.2.2)).take s.1)).length s.2.2 (PC2 (cB ((ps.map (·.2.2)).take s.1))) ∧ Frm [] w wr ∧ ∀ x ∈ ob s.2.1, w.heap.size ≤ x) (fun s => n - s.1) (0, none, 0) (js5 rfl rfl rfl rfl rfl) ⟨zi _, Own.nil _ _ _, K0, by simp [ob]⟩ ?_
 rintro ⟨i, B, d⟩ wr ⟨hi, ho, K, hup⟩
 dsimp only at hi ho hup ⊢
 have ks := K.size
 have hlk := hlt i
 have hlk1 := hlt (i + 1)
 refine jS (jR (jb rfl rfl (Bin.lssN _ _) (jO (jN (jS ?_)))))
 refine jD rfl (fun hc1 => ?_) fun hc1 => ?_
 ·
  obtain ⟨ad, hA1, hca⟩ := qQ5 (hA.frm K jp) hn hc1
  have hpm := hp.frm K _ (pK (jo : i < ps.length))
  have hxc := hpc _ (pK (jo : i < ps.length))
  have hsn : cB ((ps.map (·.2.2)).take (i + 1)) = cB ((ps.map (·.2.2)).take i) ++ cD (ps.getD i pg0).2.2 := by
   rw [← zda, qKy jo, zw, zda]
   exact qZn _ _
  have hip := hpg _ (List.mem_map.2 ⟨_, pK (jo : i < ps.length), rfl⟩)
  subst hA1
  rw [hsn, zd] at hlk1
  generalize ps.getD i pg0 = x at hca hpm hsn hip hlk1 hxc
  obtain ⟨xA, xc, xb⟩ := x
  dsimp only at hpm hsn hip hlk1 hxc
  have hx128 := hip.1
  rw [hx128] at hpm hxc
  refine jQ (jN (jv5 0 4 11 12 13 ?_))
  refine jS (jB (jS (jR (je (Run.index1 _ rfl rfl zab zn jo) (jl rfl zal hca ?_)))))
  rw [show SL (xA, xc, xb) = .slice xA 128 xc by rw [SL, hx128]]
  refine ja rfl (jO (jN (jv6 0 4 6 11 12 13 ?_)))
  refine jS (jR (jM ?_))
  refine Ops.cl (jE1 Tryz.call148) (qQ4 xA xc xb wr hip hxc hpm.2 hpm.1) rfl ?_
  rintro e w2 ⟨hf2, PA, pc, kA, kn, kc, inn, rfl, hrP, hupP⟩
  refine ⟨_, rfl, ?_⟩
  have ho := ho.frm hf2 jp
  have K := K.trans hf2 jp
  refine jm rfl (je (Run.extract rfl rfl) (je (Run.extract rfl rfl) ?_))
  refine Ops.m (qZ.alloc pY) rfl ?_
  rintro _ w3 ⟨rfl, hF3⟩
  refine Ops.st (qT.storeA rfl rfl zfz hF3.blk rfl (tP _ _ _ _ _ _ _)) ?_
  rintro w4 ⟨hb7, hf4, hs4⟩
  have k34 : Frm [] w2 w4 := hF3.frm.own hf4 jp
  have hb7 : Blk w4 w2.heap.size 222 (ndV PA kA (cD xb).length pc kn kc inn) := hb7
  have ho := ho.frm k34 jp
  have hrP := hrP.frm k34 jp
  have K := K.trans k34 jp
  have ks4 := K.size
  refine ja rfl (jO (jN (jv7 0 4 7 8 11 12 13 ?_)))
  refine jS (jS (jR (jm rfl (je (Run.not rfl) (jO (jN (jv7 0 4 7 11 12 13 23 ?_)))))))
  refine VC.condF rfl (rfl) ?_
  refine jQ (jN (jv6 0 4 7 11 12 13 ?_))
  refine jR (jm rfl (jf rfl zde rfl zao (jl rfl zbm (hb7.cell 0) ?_)))
  refine Ops.m (qZ.app rfl rfl zg (mC) rfl jd ho hrP (nX _) jo jo) rfl ?_
  rintro _ w5 ⟨B5, d5, rfl, ho5, hf5, hob5⟩
  rw [← gP, ← zd] at ho5
  rw [← zd]
  rw [← hsn] at ho5 ⊢
  refine ja rfl (jO ?_)
  refine qH (jN ?_)
  refine jv5 0 4 11 12 13 ?_
  refine jR (jb rfl rfl (Bin.add_i64 _ 1 jo) (jm rfl (jO ?_)))
  refine jN ⟨(i + 1, B5, d5), (js5 rfl rfl rfl rfl rfl), ?_, ?_⟩
  · exact ⟨hc1, ho5, K.own hf5 hup, (Fk.of_app hf5 hob5).up hup ks4⟩
  first | omega | (dsimp only; omega)
 obtain rfl : i = n := jo
 rw [zf (show (ps.map (·.2.2)).length ≤ i by rw [zx]; omega)] at ho ⊢
 refine jX ?_
 refine qJ (qJ (qS ?_))
 refine jN (jv2 0 4 ?_)
 refine jS (jR (jM ?_))
 refine Ops.cl (jE1 Tryz.call107) (pL B _ d (cB (ps.map (·.2.2))) wr rfl jo ho.le ho.rd hok) rfl ?_
 rintro e w2 ⟨hf2, h2⟩
 rw [if_pos hmay] at h2
 obtain ⟨B2, d2, qs, rfl, hoB, hqs, hpgs, hupB⟩ := h2
 refine ⟨_, rfl, ?_⟩
 rw [htr, zx, hn] at hoB ⊢
 rw [htr] at hqs
 have K2 := K.trans hf2 jp
 have hq0 : RdR w2 qs := fun x hx => ⟨(hpgs x hx).1, fun b hb => by
  have : x.2.2 ∈ ps.map (·.2.2) := by rw [← hqs]; exact List.mem_map.2 ⟨x, hx, rfl⟩
  obtain ⟨y, hy, he⟩ := List.mem_map.1 this
  exact (hp y hy).2 b (by rw [he]; exact hb)⟩
 refine jm rfl (je (Run.extract rfl rfl) (je (Run.extract rfl rfl) (ja rfl (ja rfl (jO (jN (jv4 0 4 9 10 ?_)))))))
 refine jS (jS (jR (jm rfl (jb rfl rfl (Bin.neqN _ 0) (jM ?_)))))
 refine Ops.rg rfl (decide_eq_false jp) (Run.mv rfl) rfl ?_
 refine Ops.rg rfl (decide_eq_false jp) (Run.mv rfl) rfl ?_
 refine Ops.clg rfl (decide_eq_false jp) (jE3 Tryz.call149) (qJy B2 A i d2 c qs ps w2 jo (by have := congrArg List.length hqs; rw [zx, zx] at this; omega) hn hqs hoB.rd (hA.frm K2 jp) hq0 (hp.frm K2)) rfl ?_
 rintro e _ ⟨rfl, rfl⟩
 refine ⟨_, rfl, ?_⟩
 refine Ops.rg rfl (decide_eq_false jp) (Run.not rfl) rfl ?_
 refine je (Run.pickF rfl rfl (rfl)) (jO (jN (jv2 4 41 ?_)))
 refine VC.condF rfl (rfl) ?_
 refine jQ (jN (jv1 4 ?_))
 refine jS (jR (jm rfl (ja rfl (jz 0 (jO (jN (jv2 2 3 ?_)))))))
 refine jT ?_
 refine bE rfl rfl ?_
 exact ⟨B, d, rfl, ho.frm hf2 jp, K2, hup⟩
end
section
open Go.RowKit
structure IsRh (w : World) (h g : Nat) (F : List Nat) (d : Dk) : Prop where
 c0 : w.cell? ⟨h, 0, none⟩ = some (.pointer (some ⟨g, 0, none⟩))
 dk : IsDk w g F d
 n : h ∉ F
 sz : 44 ≤ d.has.length
 big : d.has.length ≤ 2048
 wts : d.wts.length ≤ 100000
 on : d.off = false
theorem IsRh.frm {w w' : World} {h g : Nat} {F S : List Nat} {d : Dk} (a : IsRh w h g F d) (k : Frm S w w') (hS : ∀ x ∈ h :: F, x ∉ S) : IsRh w' h g F d :=
 ⟨k.cell a.c0 (hS h jp), a.dk.frm k (fun x hx => hS x (by simp [hx])), a.n, a.sz, a.big, a.wts, a.on⟩
theorem IsRh.f0 {w w' : World} {h g : Nat} {F : List Nat} {d : Dk} (a : IsRh w h g F d) (k : Frm [] w w') : IsRh w' h g F d := a.frm k jp
theorem kQ (bs : List Nat) (h : bs.length ≤ 124) : ∃ r, fG bs = bs ++ r := by
 unfold fG dO fS
 rw [if_neg (by rw [zd, numL_len]; omega), zp]
 exact ⟨_, rfl⟩
theorem lG {α : Type} {x y : List α} {k n : Nat} (h : x.length = k) : (x ++ y).drop (k + n) = y.drop n := by
 rw [← zey, zen h]
theorem xH : ∀ (l : List Nat) (i : Nat) (r : List Nat), i < l.length → ((l.flatMap (fun p => qP p 2) ++ r).drop (2 * i)).take 2 = qP (l.getD i 0) 2
 | a :: l, 0, r, _ => by
  rw [zap, zp, Nat.mul_zero, zbd, zci (numL_len a 2)]
  rfl
 | a :: l, i + 1, r, h => by
  rw [zap, zp, show 2 * (i + 1) = 2 + 2 * i by omega, lG (numL_len a 2), xH l i r (by simpa using h)]
  rfl
theorem kM {dir : List Nat} (h : dir.length ≤ 59) : (bJ dir).length = 128 := eL (by rw [eQ]; omega)
theorem qZr (dir : List Nat) : ∀ b ∈ bJ dir, b < 256 := lQ (lF dir)
theorem qK1 {dir : List Nat} (h : dir.length ≤ 59) : numV (bJ dir) 4 2 = dir.length := by
 rw [(gF (by rw [kM h]; omega)).2]
 obtain ⟨r, hr⟩ := kQ (eW dir) (by rw [eQ]; omega)
 rw [bJ, hr, eW, zp, zp, show (4 : Nat) = 4 + 0 by rfl, lG (x := nJ) (k := 4) rfl, zbd, zci (numL_len _ 2), gE 2 _ jo]
theorem qK2 {dir : List Nat} (h : dir.length ≤ 59) (hp : ∀ p ∈ dir, p < 65536) {i : Nat} (hi : i < dir.length) : numV (bJ dir) (6 + 2 * i) 2 = dir.getD i 0 := by
 rw [(gF (by rw [kM h]; omega)).2]
 obtain ⟨r, hr⟩ := kQ (eW dir) (by rw [eQ]; omega)
 rw [bJ, hr, eW, zp, lG (x := nJ ++ qP dir.length 2) (k := 6) (by rw [zd, numL_len]; rfl), xH dir i r hi, gE 2 _ (hp _ (bY hi))]
def nxP (pg : List Nat) (i : Nat) : Nat := if i < pg.length then pg.getD i 0 + 1 else 0
theorem rC {l : List Nat} {i : Nat} (h : i < l.length) : l.take (i + 1) = l.take i ++ [l.getD i 0] := by
 rw [zbo, zb h, zc, zb h]
 rfl
theorem rJ (h g : Nat) (F : List Nat) (d : Dk) (w : World) (hR : IsRh w h g F d) : Calls Tryz.prog 39 #[.pointer (some ⟨h, 0, none⟩)] w fun e w' => e = .returned (.int .i64 ((d.has.length - 42 : Nat) : Int)) ∧ w = w' := by
 have hsz := hR.sz
 have hbg := hR.big
 refine VC.calls (nt := 9) (res := #[.tmp 2]) Tryz.func39 rfl Tryz.ntmps39 Tryz.results39 rfl ?_
 refine jS (jR (jz 0 (jO (jN (jv1 0 ?_)))))
 refine jS (jR (jm rfl (je (Run.nilck rfl) (jf rfl zu rfl zdj (jl rfl zdq hR.c0 ?_)))))
 refine Ops.cl (jE1 zeq) (dH g F _ w hR.dk) rfl ?_
 rintro e _ ⟨rfl, rfl⟩
 refine ⟨_, rfl, ?_⟩
 refine jb rfl rfl (Bin.sub_i64 _ 42 jo jo) (ja rfl (jO (jN (jv1 2 ?_))))
 refine jT ?_
 refine qB rfl ?_
 exact ⟨rfl, rfl⟩
theorem sE (p : Nat) (h g : Nat) (F : List Nat) (d : Dk) (w : World) (hR : IsRh w h g F d) (hp : p < d.has.length - 42) : Calls Tryz.prog 71 #[.pointer (some ⟨h, 0, none⟩), .int .i64 ((p : Nat) : Int)] w fun e w' => ∃ B, e = .returned (.tuple #[.slice B 128 128, .bool true]) ∧ Rd w' 1 B 128 (NB (d.sec (42 + p))) ∧ Frm [] w w' ∧ ∀ x ∈ ob B, w.heap.size ≤ x := by
 have hsz := hR.sz
 have hbg := hR.big
 have hwt := hR.wts
 refine VC.calls (nt := 29) (res := #[.tmp 4, .tmp 5]) Tryz.func71 rfl Tryz.ntmps71 Tryz.results71 rfl ?_
 refine jS (jR (ja rfl (ja rfl (jO (jN (jv2 0 1 ?_))))))
 refine jS (jS (jR (jm rfl (jb rfl rfl (Bin.lssN _ 0) (jM ?_)))))
 refine Ops.rg rfl (decide_eq_false jo) (Run.mv rfl) rfl ?_
 refine Ops.rg rfl (decide_eq_false jo) (Run.mv rfl) rfl ?_
 refine Ops.clg rfl (decide_eq_false jo) (jE1 Tryz.call39) (rJ h g F d w hR) rfl ?_
 rintro e _ ⟨rfl, rfl⟩
 refine ⟨_, rfl, ?_⟩
 refine Ops.rg rfl (decide_eq_false jo) (Run.bin rfl rfl (Bin.geqN _ _)) rfl ?_
 refine je (Run.pickF rfl rfl (decide_eq_false jo)) (jO (jN (jv3 0 1 15 ?_)))
 refine VC.condF rfl (decide_eq_false jo) ?_
 refine jQ (jN (jv2 0 1 ?_))
 refine jS (jR (jm rfl (je (Run.nilck rfl) (jf rfl zu rfl zdj (jl rfl zdq hR.c0 (jm rfl (jb rfl rfl (Bin.add_i64 42 _ jo) ?_)))))))
 refine Ops.cl (jE2 Tryz.call28) (gG g (42 + p) F d w hR.dk jo) rfl ?_
 rintro e w1 ⟨B, rfl, hr, hf, hup, _⟩
 refine ⟨_, rfl, ?_⟩
 have hrd : d.read (42 + p) = (0, d.sec (42 + p)) := by unfold Dk.read; rw [if_neg jo, if_neg (by simp [hR.on])]
 rw [hrd] at hr ⊢
 have hsl := (hR.dk.ok.secAt (jo : 42 + p < d.has.length)).1
 dsimp only at hr ⊢
 rw [hsl] at hr ⊢
 refine jm rfl (je (Run.extract rfl rfl) (je (Run.extract rfl rfl) (ja rfl (ja rfl (jO (jN (jv2 6 7 ?_)))))))
 refine jS (jR (jm rfl (jm rfl (jb rfl rfl (Bin.eqlN _ 0) (ja rfl (ja rfl (jO (jN (jv2 4 5 ?_)))))))))
 refine jT ?_
 refine bE rfl rfl ?_
 exact ⟨B, rfl, hr, hf, hup⟩
set_option maxHeartbeats 1000000 in
theorem vZ (A : Option Addr) (c : Nat) (dir : List Nat) (h g : Nat) (F : List Nat) (d : Dk) (w : World) (hR : IsRh w h g F d) (hdl : dir.length ≤ 59) (hdp : ∀ p ∈ dir, p < d.has.length - 42) (hr : Rd w 1 A 128 (NB (bJ dir))) :
  Calls Tryz.prog 114 #[.pointer (some ⟨h, 0, none⟩), .slice A 128 c] w fun e w' => ∃ B dc, e = .returned (.tuple #[.slice B dir.length dc, .bool true]) ∧ Own w' 3 1 B dir.length dc (ZN dir) ∧ Frm [] w w' ∧ ∀ x ∈ ob B, w.heap.size ≤ x := by
 have hsz := hR.sz
 have hbg := hR.big
 have hsl := kM hdl
 have hsB := qZr dir
 have hp16 : ∀ p ∈ dir, p < 65536 := fun p hp => by have := hdp p hp; omega
 have K0 := Frm.refl [] w
 refine VC.calls (nt := 64) (res := #[.tmp 4, .tmp 5]) Tryz.func114 rfl Tryz.ntmps114 Tryz.results114 rfl ?_
 refine jS (jR (ja rfl (ja rfl (jO (jN (jv2 0 1 ?_))))))
 refine jS (jR (jM ?_))
 refine Ops.cl (jE3 zfq) (fO A c 128 4 2 (bJ dir) w hsl jo jo jo jo hsB hr) rfl ?_
 rintro e _ ⟨rfl, rfl⟩
 rw [qK1 hdl]
 refine ⟨_, rfl, ?_⟩
 refine jm rfl (je (Run.extract rfl rfl) (je (Run.extract rfl rfl) (ja rfl (ja rfl (jO (jN (jv3 0 1 6 ?_)))))))
 refine jS (jR (ja rfl (jO (jN (jS (jS (jR (jm rfl (je (Run.convN _ rfl zq zag (by simp only [bmax]; omega)) (je (Run.minN' (a := dir.length) (b := 59) rfl rfl) ?_))))))))))
 rw [show Nat.min dir.length 59 = dir.length from zar hdl]
 refine jx .i64 0 ?_
 refine jO (jN (jv6 0 1 6 8 19 20 ?_))
 refine jB ?_
 refine VC.loop (σ := Nat × Option Addr × Nat) (fun s => [(0, .pointer (some ⟨h, 0, none⟩)), (1, .slice A 128 c), (6, .int .u64 ((dir.length : Nat) : Int)), (8, .slice s.2.1 s.1 s.2.2), (19, .int .i64 ((dir.length : Nat) : Int)), (20, .int .i64 ((s.1 : Nat) : Int))]) (fun s wr => s.1 ≤ dir.length ∧ Own wr 3 1 s.2.1 s.1 s.2.2 (ZN (dir.take s.1)) ∧ Frm [] w wr ∧ ∀ x ∈ ob s.2.1, w.heap.size ≤ x) (fun s => dir.length - s.1) (0, none, 0) (js6 rfl rfl rfl rfl rfl rfl) ⟨zi _, Own.nil _ _ _, K0, by simp [ob]⟩ ?_
 rintro ⟨i, B, dc⟩ wr ⟨hi, ho, K, hup⟩
 dsimp only at hi ho hup ⊢
 have ks := K.size
 refine jS (jR (jb rfl rfl (Bin.lssN _ _) (jO (jN (jS ?_)))))
 refine jD rfl (fun hc1 => ?_) fun hc1 => ?_
 ·
  have hpi := hdp _ (bY hc1)
  have hsn := rC hc1
  have hsp := qK2 hdl hp16 hc1
  generalize dir.getD i 0 = p at hpi hsn hsp
  refine jQ (jN (jv6 0 1 6 8 19 20 ?_))
  refine jS (jB (jS (jR (jm rfl (ja rfl (jO (jN (jv7 0 1 6 8 9 19 20 ?_))))))))
  refine jS (jR (jm rfl (jm rfl (jb rfl rfl (Bin.mul_i64 2 _ jo) (jb rfl rfl (Bin.add_i64 6 _ jo) ?_)))))
  refine Ops.cl (jE3 zfq) (fO A c 128 (6 + 2 * i) 2 (bJ dir) _ hsl jo jo jo jo hsB (hr.frm K jp)) rfl ?_
  rintro e _ ⟨rfl, rfl⟩
  rw [hsp]
  refine ⟨_, rfl, ?_⟩
  refine jm rfl (je (Run.extract rfl rfl) (je (Run.extract rfl rfl) (ja rfl (ja rfl (jO (jN (jv7 0 1 6 8 10 19 20 ?_)))))))
  refine jS (jS (jR (jm rfl (je (Run.convN _ rfl zq zag (by simp only [bmax]; omega)) (jM ?_)))))
  refine Ops.cl (jE1 Tryz.call39) (rJ h g F d _ (hR.f0 K)) rfl ?_
  rintro e _ ⟨rfl, rfl⟩
  refine ⟨_, rfl, ?_⟩
  refine jb rfl rfl (Bin.geqN _ _) (jO (jN (jv8 0 1 6 8 10 19 20 35 ?_)))
  refine VC.condF rfl (decide_eq_false jo) ?_
  refine jQ (jN (jv7 0 1 6 8 10 19 20 ?_))
  refine jR (jm rfl (jm rfl (je (Run.convN _ rfl zq zag (by simp only [bmax]; omega)) ?_)))
  refine Ops.m (qZ.buildS1 rfl zl zr vV jd jd rfl rfl) rfl ?_
  rintro _ w5 ⟨rfl, hF5⟩
  have hr5 : Rd w5 1 (some ⟨wr.heap.size, 0, none⟩) 1 (ZN [p]) := Rd.of_blk (n := 1) (size := 1) hF5.blk rfl
  have ho := ho.frm hF5.frm jp
  have K := K.trans hF5.frm jp
  have ks5 := K.size
  refine Ops.m (qZ.app rfl rfl zl (vW) rfl jd ho hr5 (qXo _) jo jo) rfl ?_
  rintro _ w6 ⟨B6, d6, rfl, ho6, hf6, hob6⟩
  have e6 : ZN (dir.take i) ++ ZN [p] = ZN (dir.take (i + 1)) := by rw [hsn, ZN, ZN, ZN, zw]
  rw [e6] at ho6
  refine ja rfl (jO ?_)
  refine qH (jN ?_)
  refine jv6 0 1 6 8 19 20 ?_
  refine jR (jb rfl rfl (Bin.add_i64 _ 1 jo) (jm rfl (jO ?_)))
  refine jN ⟨(i + 1, B6, d6), (js6 rfl rfl rfl rfl rfl rfl), ?_, ?_⟩
  · exact ⟨hc1, ho6, K.own hf6 hup, (Fk.of_app hf6 hob6).up hup ks5⟩
  first | omega | (dsimp only; omega)
 obtain rfl : i = dir.length := jo
 rw [zbz] at ho
 refine jX ?_
 refine qJ (qJ (qS ?_))
 refine jN (jv3 1 6 8 ?_)
 refine jS (jR (jm rfl (jm rfl (je (Run.convN _ rfl zq zag (by simp only [bmax]; omega)) (jm rfl (je (Run.lenS rfl zl) (jb rfl rfl (Bin.eqlN _ _) (jM ?_))))))))
 refine Ops.rg rfl (decide_eq_true rfl) (Run.mv rfl) rfl ?_
 refine Ops.rg rfl (decide_eq_true rfl) (Run.lenS rfl zl) rfl ?_
 refine Ops.rg rfl (decide_eq_true rfl) (Run.bin rfl rfl (Bin.mul_i64 2 _ jo)) rfl ?_
 refine Ops.rg rfl (decide_eq_true rfl) (Run.bin rfl rfl (Bin.add_i64 6 _ jo)) rfl ?_
 refine Ops.mg rfl (decide_eq_true rfl) (qZ.makeS rfl rfl ze (dJ) rfl jo jo) rfl ?_
 rintro _ w7 ⟨rfl, ho7, hf7, hs7⟩
 rw [jF] at ho7
 have e7 : List.replicate (6 + 2 * dir.length) (Value.int .u8 ((0 : Nat) : Int)) = NB (noM (6 + 2 * dir.length)) := by rw [NB, noM, zdu]
 rw [e7] at ho7
 have K7 := K.trans hf7 jp
 refine Ops.clg rfl (decide_eq_true rfl) (jE1 Tryz.call143) (kW _ _ (6 + 2 * dir.length) (noM (6 + 2 * dir.length)) w7 (by simp [noM]) jo (noM_lt _) ho7.rd) rfl ?_
 rintro e w8 ⟨SB, sd, rfl, hoS, hf8, hupS⟩
 refine ⟨_, rfl, ?_⟩
 have K8 := K7.trans hf8 jp
 have hoD := (ho.frm hf7 jp).frm hf8 jp
 refine Ops.rg rfl (decide_eq_true rfl) (Run.lenS rfl ze) rfl ?_
 refine Ops.rg rfl (decide_eq_true rfl) (Run.bin rfl rfl (Bin.leqN _ 128)) rfl ?_
 refine je (Run.pickT rfl rfl (decide_eq_true rfl)) (jM ?_)
 refine Ops.rg rfl (decide_eq_true jo) (Run.mv rfl) rfl ?_
 refine Ops.clg rfl (decide_eq_true jo) (jE1 Tryz.call108) (rQ B dir.length dc dir w8 rfl hdl hoD.rd hp16) rfl ?_
 rintro e w9 ⟨UB, ud, rfl, hoU, hf9, hupU⟩
 refine ⟨_, rfl, ?_⟩
 have K9 := K8.trans hf9 jp
 refine Ops.rg rfl (decide_eq_true jo) (Run.mv rfl) rfl ?_
 refine Ops.clg rfl (decide_eq_true jo) (jE2 Tryz.call113) (lX UB A 128 128 ud c (bJ dir) (bJ dir) w9 hsl hsl hsB hsB hoU.rd (hr.frm K9 jp)) rfl ?_
 rintro e _ ⟨rfl, rfl⟩
 refine ⟨_, rfl, ?_⟩
 rw [decide_eq_true (rfl : bJ dir = bJ dir)]
 refine je (Run.pickT rfl rfl (decide_eq_true jo)) (ja rfl (ja rfl (jO (jN (jv2 4 5 ?_)))))
 refine jT ?_
 refine bE rfl rfl ?_
 exact ⟨B, dc, rfl, hoD.frm hf9 jp, K9, hup⟩
set_option maxHeartbeats 1000000 in
theorem yE (x : Pr) (pg : List Nat) (h g : Nat) (F : List Nat) (d : Dk) (w : World) (hR : IsRh w h g F d) (hx : x.1 < 18446744073709551616 ∧ x.2 < 18446744073709551616) (hlen : pg.length = needsM (fZ x)) (hle : fZ x ≤ 4032) (hpg : ∀ p ∈ pg, p < d.has.length - 42) (hat : x.2 % 65536 = nxP pg 0) (hch : ∀ i, i < pg.length → numV (d.sec (42 + pg.getD i 0)) 0 2 = nxP pg (i + 1)) :
  Calls Tryz.prog 116 #[.pointer (some ⟨h, 0, none⟩), .agg (prC x).toArray] w fun e w' => ∃ B dc, e = .returned (.tuple #[.slice B pg.length dc, .bool true]) ∧ Own w' 3 1 B pg.length dc (ZN pg) ∧ Frm [] w w' ∧ ∀ y ∈ ob B, w.heap.size ≤ y := by
 have hsz := hR.sz
 have hbg := hR.big
 have hnd : needsM (fZ x) = (fZ x + 125) / 126 := rfl
 refine VC.calls (nt := 51) (res := #[.tmp 4, .tmp 5]) Tryz.func116 rfl Tryz.ntmps116 Tryz.results116 rfl ?_
 refine jS (jR ?_)
 refine Ops.m (qZ.box rfl) rfl ?_
 rintro _ w1 ⟨rfl, hF1⟩
 have hb3 : Blk w1 w.heap.size 128 (prC x).toArray := hF1.blk
 have K1 := hF1.frm
 have hR1 := hR.f0 K1
 have q1 := hF1.size
 generalize hg3 : w.heap.size = g3 at hb3 q1 ⊢
 refine ja rfl (ja rfl (jO (jN (jv2 0 3 ?_))))
 refine jS (jR (je (Run.loadA rfl zdk zm hb3.cells (by first | rfl | (simp; done))) ?_))
 refine Ops.cl (jE1 Tryz.call73) (lJ x w1 hx.2) rfl ?_
 rintro e w2 ⟨rfl, hf2⟩
 refine ⟨_, rfl, ?_⟩
 rw [show x.2 / 65536 % 65536 = fZ x from rfl]
 have hb3 := hb3.frm hf2 jp
 have hR2 := hR1.f0 hf2
 have K2 := K1.trans hf2 jp
 refine Ops.cl (jE1 Tryz.call97) (mR (fZ x) w2 jo) rfl ?_
 rintro e _ ⟨rfl, rfl⟩
 refine ⟨_, rfl, ?_⟩
 rw [← hlen]
 refine ja rfl (jO (jN (jv3 0 3 6 ?_)))
 refine jS (jS (jR (je (Run.loadA rfl zdk zm hb3.cells (by first | rfl | (simp; done))) ?_)))
 refine Ops.cl (jE1 Tryz.call73) (lJ x w2 hx.2) rfl ?_
 rintro e w3 ⟨rfl, hf3⟩
 refine ⟨_, rfl, ?_⟩
 rw [show x.2 / 65536 % 65536 = fZ x from rfl]
 have hb3 := hb3.frm hf3 jp
 have hR3 := hR2.f0 hf3
 have K3 := K2.trans hf3 jp
 refine jb rfl rfl (Bin.gtrN _ 4032) (jO (jN (jv4 0 3 6 18 ?_)))
 refine VC.condF rfl (decide_eq_false jo) ?_
 refine jQ (jN (jv3 0 3 6 ?_))
 refine jS (jR (ja rfl (jO (jN (jS (jR (jf rfl zbj rfl zy (jl rfl zaq (hb3.cell 1) (jb rfl rfl (Bin.and_u64 _ 65535 jo jo) ?_)))))))))
 rw [show x.2 &&& 65535 = x.2 % 65536 from Nat.and_two_pow_sub_one_eq_mod x.2 16, hat]
 have hn0 : nxP pg 0 ≤ 65536 := by rw [← hat]; omega
 refine je (Run.convN _ rfl zq zag (by simp only [bmax]; omega)) (jb rfl rfl (Bin.subZ _ 1 jo jo) (ja rfl (jO (jN (jv4 0 6 7 8 ?_)))))
 refine jS (jS (jR (jM ?_)))
 refine jx .i64 0 ?_
 refine jO (jN (jv5 0 7 8 24 25 ?_))
 refine jB ?_
 refine VC.loop (σ := Nat × Option Addr × Nat) (fun s => [(0, .pointer (some ⟨h, 0, none⟩)), (7, .slice s.2.1 s.1 s.2.2), (8, .int .i64 (((nxP pg s.1 : Nat) : Int) - 1)), (24, .int .i64 ((pg.length : Nat) : Int)), (25, .int .i64 ((s.1 : Nat) : Int))]) (fun s wr => s.1 ≤ pg.length ∧ Own wr 3 1 s.2.1 s.1 s.2.2 (ZN (pg.take s.1)) ∧ Frm [] w wr ∧ ∀ y ∈ ob s.2.1, g3 ≤ y) (fun s => pg.length - s.1) (0, none, 0) (js5 rfl rfl rfl rfl rfl) ⟨zi _, Own.nil _ _ _, K3, by simp [ob]⟩ ?_
 rintro ⟨i, B, dc⟩ wr ⟨hi, ho, K, hup⟩
 dsimp only at hi ho hup ⊢
 have ks := K.size
 refine jS (jR (jb rfl rfl (Bin.lssN _ _) (jO (jN (jS ?_)))))
 refine jD rfl (fun hc2 => ?_) fun hc2 => ?_
 ·
  have hB0 := ho.lt
  have hpi := hpg _ (bY hc2)
  have hsn := rC hc2
  have hchi := hch i hc2
  have hnx : nxP pg i = pg.getD i 0 + 1 := if_pos hc2
  rw [hnx]
  generalize pg.getD i 0 = p at hpi hsn hchi
  have hpe : (((p + 1 : Nat) : Int) - 1) = ((p : Nat) : Int) := jo
  rw [hpe]
  obtain ⟨hsl, hso⟩ := hR.dk.ok.secAt (jo : 42 + p < d.has.length)
  refine jQ (jN (jv5 0 7 8 24 25 ?_))
  refine jS (jB (jS (jR (jm rfl (jM ?_)))))
  refine Ops.cl (jE2 Tryz.call71) (sE p h g F d _ (hR.f0 K) hpi) rfl ?_
  rintro e w5 ⟨GB, rfl, hrG, hf5, hupG⟩
  refine ⟨_, rfl, ?_⟩
  have ho := ho.frm hf5 jp
  have K := K.trans hf5 jp
  refine jm rfl (je (Run.extract rfl rfl) (je (Run.extract rfl rfl) (ja rfl (ja rfl (jO (jN (jv7 0 7 8 9 10 24 25 ?_)))))))
  refine jS (jS (jR (jm rfl (je (Run.not rfl) (jO (jN (jv7 0 7 8 9 24 25 34 ?_)))))))
  refine VC.condF rfl (rfl) ?_
  refine jQ (jN (jv6 0 7 8 9 24 25 ?_))
  refine jS (jR (jm rfl (jM ?_)))
  refine Ops.m (qZ.buildS1 rfl zl zr vV jd jd rfl rfl) rfl ?_
  rintro _ w6 ⟨rfl, hF6⟩
  have hr6 : Rd w6 1 (some ⟨w5.heap.size, 0, none⟩) 1 (ZN [p]) := Rd.of_blk (n := 1) (size := 1) hF6.blk rfl
  have ho := ho.frm hF6.frm jp
  have K := K.trans hF6.frm jp
  have ks6 := K.size
  refine Ops.m (qZ.app rfl rfl zl (vW) rfl jd ho hr6 (qXo _) jo jo) rfl ?_
  rintro _ w7 ⟨B7, d7, rfl, ho7, hf7, hob7⟩
  have e7 : ZN (pg.take i) ++ ZN [p] = ZN (pg.take (i + 1)) := by rw [hsn, ZN, ZN, ZN, zw]
  rw [e7] at ho7
  have hup7 := (Fk.of_app hf7 hob7).up hup jo
  have hBl := ho.lt
  have K7 := K.own hf7 (fun y hy => by have := hup y hy; omega)
  have hrG7 := (hrG.frm hF6.frm jp).frm hf7 (fun _ y hy hx => by have := hupG y hy; have := hB0 y hx; omega)
  refine ja rfl (jO (jN (jv5 0 7 9 24 25 ?_)))
  refine jS (jR (jM ?_))
  refine Ops.cl (jE3 zfq) (fO GB 128 128 0 2 (d.sec (42 + p)) _ hsl jo jo jo jo hso hrG7) rfl ?_
  rintro e _ ⟨rfl, rfl⟩
  rw [hchi]
  refine ⟨_, rfl, ?_⟩
  have hn1 : nxP pg (i + 1) ≤ 65536 := by
   unfold nxP
   split
   · next h1 => have := hpg _ (bY h1); omega
   omega
  refine jm rfl (je (Run.extract rfl rfl) (je (Run.extract rfl rfl) (ja rfl (ja rfl (jO (jN (jv5 0 7 11 24 25 ?_)))))))
  refine jR (jm rfl (je (Run.convN _ rfl zq zag (by simp only [bmax]; omega)) (jb rfl rfl (Bin.subZ _ 1 jo jo) (ja rfl (jO ?_)))))
  refine qH (jN ?_)
  refine jv5 0 7 8 24 25 ?_
  refine jR (jb rfl rfl (Bin.add_i64 _ 1 jo) (jm rfl (jO ?_)))
  refine jN ⟨(i + 1, B7, d7), (js5 rfl rfl rfl rfl rfl), ?_, ?_⟩
  · exact ⟨hc2, ho7, K7, hup7⟩
  first | omega | (dsimp only; omega)
 refine jX ?_
 refine qJ (qJ (qS ?_))
 refine jN (jv2 7 8 ?_)
 refine jS (jR (jm rfl (jm rfl (jb rfl rfl (Bin.eql _ (-1)) (ja rfl (ja rfl (jO (jN (jv2 4 5 ?_)))))))))
 refine jT ?_
 refine bE rfl rfl ?_
 obtain rfl : i = pg.length := jo
 rw [zbz] at ho
 rw [decide_eq_true (by rw [show nxP pg pg.length = 0 from if_neg jo]; rfl)]
 exact ⟨B, dc, rfl, ho, K, hup⟩
end
section
open Go.RowKit
structure Holds (H : Hm) : Prop where
 ok : H.ok
 on : H.dk.off = false
 d59 : H.dir.length ≤ 59
 sup : H.dk.sec 41 = bJ H.dir
 tree : oS (qI H.pairs)
 all : cB (qI H.pairs) = H.pairs
 pg : H.dir.map (fun p => H.dk.sec (42 + p)) = qI H.pairs
 tr : ∀ x ∈ H.pairs, (H.lies x.1).length = needsM (fZ x) ∧ fZ x ≤ 4032 ∧ x.2 % 65536 = nxP (H.lies x.1) 0 ∧ ∀ i, i < (H.lies x.1).length → numV (H.dk.sec (42 + (H.lies x.1).getD i 0)) 0 2 = nxP (H.lies x.1) (i + 1)
 mark : ∃ U, bH H.N (fun _ => false) (bT H) = some U
theorem qVn (ps : List Pg) : ∀ u ∈ ps.map SL, u.oneCell' = true := fun u hu => by
 obtain ⟨x, _, rfl⟩ := List.mem_map.1 hu
 rfl
set_option maxHeartbeats 2000000 in
theorem qQ6 (m h g : Nat) (F : List Nat) (H : Hm) (w : World) (hb : Blk w h 91 #[.pointer (some ⟨g, 0, none⟩), .slice none 0 0, .slice none 0 0, .map (some m), .int .i64 0, .slice none 0 0]) (hD : IsDk w g F H.dk) (hF : h ∉ F) (hm : MpU w m (fun _ => none)) (hmX : m ∉ h :: F) (hh : Holds H) :
  Calls Tryz.prog 49 #[.pointer (some ⟨h, 0, none⟩)] w fun e w' => e = .returned (.bool true) ∧ Frm [h, m] w w' ∧ ∃ q, IsHt w' h g F H.count q := by
 have hsz := hh.ok.sz
 have hbg := hh.ok.big
 have hd59 := hh.d59
 have h600 := hh.ok.n600
 have hNe : H.N = H.dk.has.length - 42 := rfl
 have hdp : ∀ p ∈ H.dir, p < H.dk.has.length - 42 := hh.ok.dirp
 have hR : IsRh w h g F H.dk := ⟨hb.cell 0, hD, hF, hsz, hbg, hh.ok.wts, hh.on⟩
 have hX3 : ∀ x ∈ m :: h :: F, x < w.heap.size := fun x hx => by
  rcases zv.1 hx with rfl | hx
  · exact hm.lt
  rcases zv.1 hx with rfl | hx
  · exact hb.lt
  exact hD.lt x hx
 have hdlen : H.dir.length = (qI H.pairs).length := by rw [← hh.pg, zx]
 obtain ⟨U, hU⟩ := hh.mark
 refine VC.calls (nt := 94) (res := #[.tmp 2]) Tryz.func49 rfl Tryz.ntmps49 Tryz.results49 rfl ?_
 refine jS (jR (ja rfl (jO (jN (jv1 0 ?_)))))
 refine jS (jR (jm rfl (je (Run.nilck rfl) (jf rfl zu rfl zdj (jl rfl zdq (hb.cell 0) ?_)))))
 refine Ops.cl (jE2 Tryz.call28) (gG g 41 F H.dk w hD (by have := hh.ok.wts; omega)) rfl ?_
 rintro e w1 ⟨B, rfl, hr, hf, hup, _⟩
 refine ⟨_, rfl, ?_⟩
 have hrd : H.dk.read 41 = (0, H.dk.sec 41) := by unfold Dk.read; rw [if_neg jo, if_neg (by simp [hh.on])]
 rw [hrd, hh.sup] at hr ⊢
 dsimp only at hr ⊢
 rw [kM hd59] at hr ⊢
 have K := hf
 refine jm rfl (je (Run.extract rfl rfl) (je (Run.extract rfl rfl) (ja rfl (ja rfl (jO (jN (jv2 0 3 ?_)))))))
 refine jS (jR (jm rfl (jM ?_)))
 refine Ops.cl (jE2 Tryz.call114) (vZ B 128 H.dir h g F H.dk w1 (hR.f0 K) hd59 hdp hr) rfl ?_
 rintro e w2 ⟨DA, dc, rfl, hoD, hf2, hupD⟩
 refine ⟨_, rfl, ?_⟩
 have K := K.trans hf2 jp
 have hupD : ∀ x ∈ ob DA, w.heap.size ≤ x := fun x hx => by have := hupD x hx; have := hf.size; omega
 refine jm rfl (je (Run.extract rfl rfl) (je (Run.extract rfl rfl) (ja rfl (ja rfl (jO (jN (jv3 0 5 6 ?_)))))))
 refine jS (jS (jR (jm rfl (je (Run.not rfl) (jO (jN (jv3 0 5 31 ?_)))))))
 refine VC.condF rfl (rfl) ?_
 refine jQ (jN (jv2 0 5 ?_))
 refine jS (jR (ja rfl (jO (jN (jS (jS (jR (jm rfl (je (Run.lenS rfl zl) ?_)))))))))
 refine jx .i64 0 ?_
 refine jO (jN (jB ?_))
 refine VC.loop (σ := Nat × Option Addr × Nat × List Pg) (fun s => [(0, .pointer (some ⟨h, 0, none⟩)), (5, .slice DA H.dir.length dc), (7, .slice s.2.1 s.1 s.2.2.1), (32, .slice DA H.dir.length dc), (33, .int .i64 ((H.dir.length : Nat) : Int)), (34, .int .i64 ((s.1 : Nat) : Int))]) (fun s wr => s.1 ≤ H.dir.length ∧ Own wr 63 1 s.2.1 s.1 s.2.2.1 (s.2.2.2.map SL) ∧ s.2.2.2.map (·.2.2) = (H.dir.take s.1).map (fun p => H.dk.sec (42 + p)) ∧ PgS w2.heap.size wr (ob s.2.1) s.2.2.2 ∧ (∀ x ∈ s.2.2.2, x.2.2.length ≤ x.2.1) ∧ Frm [] w2 wr ∧ ∀ x ∈ ob s.2.1, w2.heap.size ≤ x) (fun s => H.dir.length - s.1) (0, none, 0, []) (js6 rfl rfl rfl rfl rfl rfl) ⟨zi _, Own.nil _ _ _, rfl, PgS.nil _ _ _, (fun x hx => by cases hx), Frm.refl _ _, by simp [ob]⟩ ?_
 rintro ⟨i, B, d, ps⟩ wr ⟨hi, ho, hps, hpg, hcap, K2, hup⟩
 dsimp only at hi ho hps hpg hcap hup ⊢
 have Kw := K.trans K2 jp
 have ks := Kw.size
 have ks2 := K2.size
 refine jS (jR (jb rfl rfl (Bin.lssN _ _) (jO (jN (jS ?_)))))
 refine jD rfl (fun hc2 => ?_) fun hc2 => ?_
 ·
  obtain ⟨ad, hDA, hcD⟩ := rdZ (hoD.frm K2 jp).rd rfl hc2
  have hpi := hdp _ (bY hc2)
  have hsn := rC hc2
  subst hDA
  generalize H.dir.getD i 0 = p at hcD hpi hsn
  obtain ⟨hsl, hso⟩ := hD.ok.secAt (jo : 42 + p < H.dk.has.length)
  refine jQ (jN (jv6 0 5 7 32 33 34 ?_))
  refine jS (jB (jS (jR (je (Run.index1 _ rfl rfl zl zr jo) (jl rfl zac hcD (ja rfl (jO (jN (jv7 0 5 7 9 32 33 34 ?_)))))))))
  refine jS (jR (jm rfl (jM ?_)))
  refine Ops.cl (jE2 Tryz.call71) (sE p h g F H.dk _ (hR.f0 Kw) hpi) rfl ?_
  rintro e w5 ⟨GB, rfl, hrG, hf5, hupG⟩
  refine ⟨_, rfl, ?_⟩
  have hBl := ho.lt
  have ho := ho.frm hf5 jp
  have hpg := hpg.frm hf5
  refine jm rfl (je (Run.extract rfl rfl) (je (Run.extract rfl rfl) (ja rfl (ja rfl (jO (jN (jv7 0 5 7 10 32 33 34 ?_)))))))
  refine jR (jm rfl (jM ?_))
  refine Ops.m (qZ.buildS1 rfl zab zn oJ jd jd rfl rfl) rfl ?_
  rintro _ w6 ⟨rfl, hF6⟩
  have hr6 : Rd w6 1 (some ⟨w5.heap.size, 0, none⟩) 1 ([(GB, 128, H.dk.sec (42 + p))].map SL) := by
   have h1 : Rd w6 1 (some ⟨w5.heap.size, 0, none⟩) 1 [.slice GB 128 128] := Rd.of_blk (n := 1) (size := 1) hF6.blk rfl
   rw [zbc, List.map_nil, SL]
   dsimp only
   rw [hsl]
   exact h1
  have ho := ho.frm hF6.frm jp
  have hpg := hpg.frm hF6.frm
  have hrG := hrG.frm hF6.frm jp
  have q5 := hf5.size
  have q6 := hF6.frm.size
  have hgl := hrG.lt jo
  refine Ops.m (qZ.app rfl rfl zab (vR) rfl jd ho hr6 (qVn _) jo jo) rfl ?_
  rintro _ w7 ⟨B7, d7, rfl, ho7, hf7, hob7⟩
  have k7 : Fk (ob B) w6 w7 (ob B7) := Fk.of_app hf7 hob7
  rw [← zw] at ho7
  have hGB : ∀ y ∈ ob GB, y ∉ ob B := fun y hy hx => by have := hupG y hy; have := hBl y hx; omega
  have hpg7 := (hpg.fk k7).snoc (x := (GB, 128, H.dk.sec (42 + p))) (by dsimp only; rw [hsl]; exact hrG.frm hf7 (fun _ y hy => hGB y hy)) (fun y hy => ⟨zz (hgl y hy) hf7.size, k7.out (hgl y hy) (hGB y hy)⟩) (fun y hy => by have := hupG y hy; omega)
  have K27 := ((K2.trans hf5 jp).trans hF6.frm jp).own hf7 hup
  have hup7 := k7.up hup jo
  refine ja rfl (jO ?_)
  refine qH (jN ?_)
  refine jv6 0 5 7 32 33 34 ?_
  refine jR (jb rfl rfl (Bin.add_i64 _ 1 jo) (jm rfl (jO ?_)))
  refine jN ⟨(i + 1, B7, d7, ps ++ [(GB, 128, H.dk.sec (42 + p))]), (js6 rfl rfl rfl rfl rfl rfl), ?_, ?_⟩
  ·
   exact ⟨hc2, ho7, by dsimp only; rw [zw, hps, hsn, zw]; rfl, hpg7, fun x hx => by
    rcases zbw.1 hx with hx | hx
    · exact hcap x hx
    rw [za] at hx; subst hx; dsimp only; omega, K27, hup7⟩
  first | omega | (dsimp only; omega)
 obtain rfl : i = H.dir.length := jo
 rw [zbz, hh.pg] at hps
 refine jX ?_
 refine qJ (qJ (qS ?_))
 refine jN (jv3 0 5 7 ?_)
 refine jS (jR (jM ?_))
 refine Ops.cl (jE1 Tryz.call115) (qZq B H.dir.length d ps wr (by have := congrArg List.length hps; rw [zx] at this; omega) jo ho.rd (fun x hx => ⟨(hpg x hx).1, (rM H.pairs x.2.2 (by rw [← hps]; exact List.mem_map.2 ⟨x, hx, rfl⟩)).2⟩) hcap (by rw [hps]; exact hh.tree)) rfl ?_
 rintro e w3 ⟨PA, pc, rfl, hoP, hf3, hupP⟩
 rw [hps, hh.all] at hoP ⊢
 refine ⟨_, rfl, ?_⟩
 have Kw3 := Kw.trans hf3 jp
 have hPX : RdX w3 (m :: h :: F) 2 PA H.pairs.length (PC2 H.pairs) := RdX.of_new (w := w) hoP.rd (fun x hx => by have := hupP x hx; omega) hX3
 have hDX : RdX w3 (m :: h :: F) 1 DA H.dir.length (ZN H.dir) := RdX.of_new (w := w) ((hoD.frm K2 jp).frm hf3 jp).rd hupD hX3
 have hpc := hoP.le
 have hb3 := hb.frm Kw3 jp
 have hm3 := hm.frm Kw3 jp
 have hD3 := hD.frm Kw3 jp
 have hhm : h ≠ m := fun e => hmX (by simp [e])
 have hmF : m ∉ F := fun e => hmX (by simp [e])
 refine jm rfl (je (Run.extract rfl rfl) (je (Run.extract rfl rfl) (ja rfl (ja rfl (jO (jN (jv4 0 5 12 13 ?_)))))))
 refine jS (jS (jR (jm rfl (jb rfl rfl (Bin.neqN _ 0) (jO (jN (jv4 0 5 12 55 ?_)))))))
 refine VC.condF rfl (rfl) ?_
 refine jQ (jN (jv3 0 5 12 ?_))
 refine jS (jR (jm rfl (jm rfl (jm rfl (jm rfl (je (Run.nilck rfl) (jf rfl zu rfl zao ?_)))))))
 refine Ops.st (qT.store rfl rfl zao hb3 rfl rfl) ?_
 rintro w4 ⟨hb4, hf4, hs4⟩
 have hf4 : Frm [h] w3 w4 := hf4
 refine je (Run.nilck rfl) (jf rfl zu rfl zch ?_)
 refine Ops.st (qT.store rfl rfl zch hb4 rfl rfl) ?_
 rintro w5 ⟨hb5, hf5, hs5⟩
 have hf5 : Frm [h] w4 w5 := hf5
 have hb5 : Blk w5 h 91 #[.pointer (some ⟨g, 0, none⟩), .slice PA H.pairs.length pc, .slice DA H.dir.length dc, .map (some m), .int .i64 0, .slice none 0 0] := hb5
 have k35 : Frm [h] w3 w5 := hf4.trans hf5 (fun x hx => .inl hx)
 have kk35 : Fk (m :: h :: F) w3 w5 (m :: h :: F) := Fk.self k35 jp
 have hPX := hPX.fk kk35
 have hDX := hDX.fk kk35
 have hm5 := hm3.frm k35 (by simp; exact Ne.symm hhm)
 have hD5 := hD3.frm k35 (fun x hx e => by rw [za] at e; subst e; exact hF hx)
 have q5 : w.heap.size ≤ w5.heap.size := zas Kw3.size k35.size
 refine jO (jN (jv2 0 12 ?_))
 refine jS (jS (jR (jm rfl (je (Run.lenS rfl zg) ?_))))
 refine jx .i64 0 ?_
 refine jO (jN (jv4 0 64 65 66 ?_))
 refine jB ?_
 refine VC.loop (σ := Nat × (Nat → Option Lq)) (fun s => [(0, .pointer (some ⟨h, 0, none⟩)), (64, .slice PA H.pairs.length pc), (65, .int .i64 ((H.pairs.length : Nat) : Int)), (66, .int .i64 ((s.1 : Nat) : Int))]) (fun s wr => s.1 ≤ H.pairs.length ∧ MpU wr m s.2 ∧ (∀ id x, s.2 id = some x → RdX wr (m :: h :: F) 1 x.1 x.2.2.length (ZN x.2.2) ∧ id < 18446744073709551616) ∧ (∀ x ∈ H.pairs.take s.1, ∃ r, s.2 x.1 = some r ∧ r.2.2 = H.lies x.1) ∧ Frm [m] w5 wr) (fun s => H.pairs.length - s.1) (0, fun _ => none) (js4 rfl rfl rfl rfl) ⟨zi _, hm5, (fun id x hx => by cases hx), (fun x hx => by cases hx), Frm.refl _ _⟩ ?_
 rintro ⟨i, ly⟩ wr ⟨hi, hml, hly, hlyH, Kr⟩
 dsimp only at hi hml hly hlyH ⊢
 have hbr := hb5.frm Kr (by simpa using hhm)
 have kkr : Fk (m :: h :: F) w5 wr (m :: h :: F) := Fk.self Kr jp
 have hPr := hPX.fk kkr
 have hDr := hDX.fk kkr
 have hDkr := hD5.frm Kr (fun x hx e => by rw [za] at e; subst e; exact hmF hx)
 have qr := Kr.size
 refine jS (jR (jb rfl rfl (Bin.lssN _ _) (jO (jN (jS ?_)))))
 refine jD rfl (fun hc4 => ?_) fun hc4 => ?_
 ·
  obtain ⟨ad, hA, hel⟩ := lZ hPr.1 rfl hc4
  have hmem := fQ hc4
  have hsn := nZ hc4
  have hokx := hh.ok.okp _ hmem
  have hpgx := (hh.ok.pg _ hmem).1
  obtain ⟨t1, t2, t3, t4⟩ := hh.tr _ hmem
  subst hA
  generalize H.pairs.getD i (0, 0) = x at hel hmem hsn hokx hpgx t1 t2 t3 t4
  obtain ⟨xk, xv⟩ := x
  dsimp only at hokx hpgx t1 t4
  refine jQ (jN (jv4 0 64 65 66 ?_))
  refine jS (jB (jS (jR (je (Run.indexS _ rfl rfl zg zm jo) (je (Run.loadA rfl zdk zm hel (by first | rfl | (simp; done))) ?_)))))
  refine Ops.m (qZ.alloc eY) rfl ?_
  rintro _ w6 ⟨rfl, hF6⟩
  refine Ops.st (qT.storeA rfl rfl zm hF6.blk rfl (eM (xk, xv))) ?_
  rintro w7 ⟨hb15, hf7, hs7⟩
  have hb15 : Blk w7 wr.heap.size 128 (prC (xk, xv)).toArray := hb15
  have k67 : Frm [] wr w7 := hF6.frm.own hf7 jp
  have hbr := hbr.frm k67 jp
  have hml := hml.frm k67 jp
  have hDkr := hDkr.frm k67 jp
  have h15 : wr.heap.size ≠ m := by have := hX3 m jp; omega
  have hR7 : IsRh w7 h g F H.dk := ⟨hbr.cell 0, hDkr, hF, hsz, hbg, hh.ok.wts, hh.on⟩
  generalize hg15 : wr.heap.size = g15 at *
  refine jO (jN (jv5 0 15 64 65 66 ?_))
  refine jS ?_
  refine VC.held (fun V => Frm [m] w7 V) jK ?_
  have hS : Frm [m] w7 w7.drew := (Frm.refl _ _).drew
  refine jH 0 rfl hS (fun w0 hw0 => Run.mv rfl) ?_
  refine jH 1 rfl hS (fun w0 hw0 => Run.nilck rfl) ?_
  refine jH 2 rfl hS (fun w0 hw0 => Run.fieldAddr rfl zu rfl zco jd) ?_
  refine jH 3 rfl hS (fun w0 hw0 => Run.load rfl zeg ((hbr.frm hw0 (by simpa using hhm)).cell 3)) ?_
  refine jH 4 rfl hS (fun w0 hw0 => Run.fieldAddr rfl zbj rfl zy jd) ?_
  refine jH 5 rfl hS (fun w0 hw0 => Run.load rfl zaq ((hb15.frm hw0 (by simpa using h15)).cell 0)) ?_
  refine jH 6 rfl hS (fun w0 hw0 => Run.mv rfl) ?_
  refine jH 7 rfl hS (fun w0 hw0 => Run.loadA rfl zdk zm ((hb15.frm hw0 (by simpa using h15)).cells) (by first | rfl | (simp; done))) ?_
  refine qQ.cl 8 rfl jK (jE2 Tryz.call116) (yE (xk, xv) (H.lies xk) h g F H.dk _ (hR7.frm hS (fun y hy e => by rw [za] at e; subst e; exact hmX hy)) hokx t1 t2 hpgx t3 t4) trivial rfl rfl ?_
  rintro e w8 ⟨LB, lc, rfl, hoL, hf8, hupL⟩
  have hS := hS.trans hf8 jp
  refine ⟨_, rfl, hS, ?_⟩
  have k78 : Frm [] w7 w8 := (qV.drew w7).frm.trans hf8 jp
  have hml := hml.frm k78 jp
  have hLX : RdX w8 (m :: h :: F) 1 LB (H.lies xk).length (ZN (H.lies xk)) := RdX.of_new (w := w) hoL.rd (fun y hy => by have h1 := hupL y hy; have h2 := k67.size; rw [show w7.drew.heap.size = w7.heap.size from rfl] at h1; omega) hX3
  refine jH 9 rfl hS (fun w0 hw0 => Run.mv rfl) ?_
  refine jH 10 rfl hS (fun w0 hw0 => Run.extract rfl rfl) ?_
  refine jH 11 rfl hS (fun w0 hw0 => Run.extract rfl rfl) ?_
  refine qQ.st 12 rfl jK (qT.mapUpd (x := xk) rfl rfl rfl hml (Go.Maps.int_keyed zq) gI zdi (gX _ hokx.1)) trivial rfl ?_
  rintro w9 ⟨hml9, hf9, hs9⟩
  have hS := hS.trans hf9 (fun y hy => .inl hy)
  refine ⟨hS, ?_⟩
  have hml9 : MpU w9 m (fun y => if y = xk then some (LB, lc, H.lies xk) else ly y) := by
   have e : lyV (fun y => if y = xk then some (LB, lc, H.lies xk) else ly y) = fun y => if y = xk then some (.slice LB (H.lies xk).length lc) else lyV ly y := by
    funext y
    unfold lyV
    dsimp only
    by_cases h : y = xk
    · rw [if_pos h, if_pos h]; rfl
    rw [if_neg h, if_neg h]
   rw [MpU, e]
   exact hml9
  have k9 : Fk (m :: h :: F) w8 w9 (m :: h :: F) := Fk.self hf9 jp
  have Kr9 : Frm [m] w5 w9 := (Kr.trans k67 jp).trans hS (fun y hy => .inl hy)
  refine jH 13 rfl hS (fun w0 hw0 => Run.asg rfl) ?_
  refine qQ.done jK ?_
  refine jN (jv5 0 6 64 65 66 ?_)
  refine jS (jR (jm rfl (je (Run.not rfl) (jO (jN (jv5 0 64 65 66 83 ?_))))))
  refine VC.condF rfl (rfl) ?_
  refine jQ ?_
  refine qH (jN ?_)
  refine jv4 0 64 65 66 ?_
  refine jR (jb rfl rfl (Bin.add_i64 _ 1 jo) (jm rfl (jO ?_)))
  refine jN ⟨(i + 1, fun y => if y = xk then some (LB, lc, H.lies xk) else ly y), (js4 rfl rfl rfl rfl), ?_, ?_⟩
  ·
   exact ⟨hc4, hml9, fun id r hid => by
    have hid : (if id = xk then some (LB, lc, H.lies xk) else ly id) = some r := hid
    by_cases h : id = xk
    ·
     rw [if_pos h] at hid
     cases hid
     exact ⟨hLX.fk k9, by rw [h]; exact hokx.1⟩
    ·
     rw [if_neg h] at hid
     exact ⟨(((hly id r hid).1.frm k67).frm k78).fk k9, (hly id r hid).2⟩, fun z hz => by
    dsimp only at hz ⊢
    rw [hsn] at hz
    by_cases h : z.1 = xk
    · rw [if_pos h]; exact ⟨_, rfl, by dsimp only; rw [h]⟩
    rcases zbw.1 hz with hz | hz
    · rw [if_neg h]; exact hlyH z hz
    rw [za] at hz; subst hz; exact absurd rfl h, Kr9⟩
  first | omega | (dsimp only; omega)
 obtain rfl : i = H.pairs.length := jo
 rw [zbz] at hlyH
 have hXs : ∀ y ∈ h :: F, y ∈ m :: h :: F := fun y hy => zck _ hy
 have hC : IsHc wr h g F H ⟨PA, pc, DA, dc, m, none, 0, ly⟩ (.int .i64 0) (.slice none 0 0) := ⟨hh.ok, hDkr, hF, hbr, hPr.mono hXs, hpc, hDr.mono hXs, hml, hmX, fun id x hx => ⟨(hly id x hx).1.mono hXs, (hly id x hx).2⟩, hlyH⟩
 refine jX ?_
 refine qJ (qJ (qS ?_))
 refine jN (jv1 0 ?_)
 refine jS (jR (jm rfl (jM ?_)))
 refine Ops.cl (jE1 Tryz.call47) (oL U _ _ h g F H _ wr hC hU) rfl ?_
 rintro e w6 ⟨UB, uc, rfl, hrU, hf6, hupU⟩
 refine ⟨_, rfl, ?_⟩
 have hC6 := hC.frm hf6
 have ho6 : Own w6 91 6 (some ⟨h, 0, none⟩) 1 1 _ := Own.of_blk hC6.blk rfl jd
 have hX6 : ∀ x ∈ h :: F, x < wr.heap.size := fun x hx => by have := hX3 x (hXs x hx); omega
 have hrX : RdX w6 (h :: F) 1 UB ((H.N + 7) / 8) (NB (bD H.N U)) := RdX.of_new (w := wr) hrU hupU hX6
 refine jm rfl (je (Run.extract rfl rfl) (je (Run.extract rfl rfl) (je (Run.nilck rfl) (jf rfl zu rfl zk ?_))))
 refine Ops.st (qT.storeSub (o := 4) rfl rfl zk ho6 (zt 6) (dY _ _ _)) ?_
 rintro w7 ⟨ho7, hf7, hs7⟩
 have hf7 : Frm [h] w6 w7 := hf7
 have hb7 := ho7.blk1
 have k7 : Fk (h :: F) w6 w7 (h :: F) := Fk.self hf7 jp
 have hcnt : H.count = { H with used := U } := by unfold Hm.count; rw [hU]; rfl
 refine ja rfl (jO (jN (jv1 6 ?_)))
 refine jS (jR (jm rfl (ja rfl (jO (jN (jv1 2 ?_))))))
 refine jT ?_
 refine qB rfl ?_
 refine ⟨rfl, ((((Kw3.mono (T := [h, m]) jp).trans k35 (fun x hx => .inl (by simp at hx; simp [hx]))).trans Kr (fun x hx => .inl (by simp at hx; simp [hx]))).trans hf6 jp).trans hf7 (fun x hx => .inl (by simp at hx; simp [hx])), ⟨PA, pc, DA, dc, m, UB, uc, ly⟩, ?_⟩
 rw [hcnt]
 exact ⟨⟨hh.ok.srt, hh.ok.okp, hh.ok.n600, hh.ok.sz, hh.ok.big, hh.ok.wts, hh.ok.d59, hh.ok.dirp, hh.ok.pg⟩, hC6.dk.frm hf7 (fun x hx e => by rw [za] at e; subst e; exact hF hx), hF, hb7, hC6.pr.fk k7, hpc, hC6.dr.fk k7, hC6.mp.frm hf7 (fun e => hhm (za.1 e).symm), hmX, fun id x hx => ⟨(hC6.ly id x hx).1.fk k7, (hC6.ly id x hx).2⟩, hlyH, hrX.fk k7⟩
end
section
open Go.RowKit
theorem qQ7 (g : Nat) (F : List Nat) (d : Dk) (w : World) (hD : IsDk w g F d) (hsz : 44 ≤ d.has.length) (hwl : d.wts.length ≤ 800000) (hrec : (oG d).2.1 = 0) (H : Hm) (hdk : (oG d).2.2 = H.dk) (hh : Holds H) :
  Calls Tryz.prog 12 #[.pointer (some ⟨g, 0, none⟩)] w fun e w' => ∃ h F' q, e = .returned (.tuple #[.pointer (some ⟨h, 0, none⟩), .int .i64 0]) ∧ IsHt w' h g F' H.count q ∧ Fk F w w' (h :: F') ∧ w.heap.size ≤ h := by
 refine VC.calls (nt := 25) (res := #[.tmp 2, .tmp 3]) Tryz.func12 rfl Tryz.ntmps12 Tryz.results12 rfl ?_
 refine jS (jR (ja rfl (jz 0 (jO (jN (jv1 0 ?_))))))
 refine jS (jS (jR (jM ?_)))
 refine Ops.cl (jE1 Tryz.call35) (pO g F d w hD) rfl ?_
 rintro e _ ⟨rfl, rfl⟩
 refine ⟨_, rfl, ?_⟩
 refine jO (jN (jv2 0 8 ?_))
 refine VC.condF rfl (decide_eq_false jo) ?_
 refine jQ (jN (jv1 0 ?_))
 refine jS (jS (jR (jM ?_)))
 refine Ops.cl (jE1 Tryz.call48) (vX g F d w hD hwl) rfl ?_
 rintro e w1 ⟨F1, rfl, hD1, hk1⟩
 refine ⟨_, rfl, ?_⟩
 rw [hrec]
 rw [hdk] at hD1
 refine jm rfl (je (Run.extract rfl rfl) (je (Run.extract rfl rfl) (ja rfl (ja rfl (jO (jN (jv2 0 5 ?_)))))))
 refine jS (jR (jm rfl (jb rfl rfl (Bin.neqN _ 0) (jO (jN (jv3 0 5 15 ?_))))))
 refine VC.condF rfl (rfl) ?_
 refine jQ (jN (jv1 0 ?_))
 refine jS (jR (jM ?_))
 refine Ops.m (qZ.makeMap (k := 54) (enc := fX)) rfl ?_
 rintro _ w2 ⟨rfl, hmp, hf2, hs2⟩
 have hD2 := hD1.frm hf2 jp
 generalize hgm : w1.heap.size = m at hmp hs2 ⊢
 have hmp : MpU w2 m (fun _ => none) := hmp
 have hml := hmp.lt
 refine je (Run.build (evs.cons rfl (evs.cons rfl evs.nil)) qXd (nM).choose_spec.1 (nM).choose_spec.2 (cells := #[.pointer (some ⟨g, 0, none⟩), .slice none 0 0, .slice none 0 0, .map (some m), .int .i64 0, .slice none 0 0]) rfl) ?_
 refine Ops.m (qZ.box rfl) rfl ?_
 rintro _ w3 ⟨rfl, hF3⟩
 have hb3 : Blk w3 w2.heap.size 91 #[.pointer (some ⟨g, 0, none⟩), .slice none 0 0, .slice none 0 0, .map (some m), .int .i64 0, .slice none 0 0] := hF3.blk
 have hmp3 := hmp.frm hF3.frm jp
 have hD3 := hD2.frm hF3.frm jp
 have hFl := hD1.lt
 have q1 := hk1.1.size
 have hh2 : w2.heap.size ∉ F1 := fun hx => by have := hFl _ hx; have := hf2.size; omega
 have hm2 : m ∉ w2.heap.size :: F1 := fun hx => by
  rcases zv.1 hx with h1 | h1
  · omega
  have := hFl _ h1; omega
 have q2 : w1.heap.size ≤ w2.heap.size := hf2.size
 generalize hgh : w2.heap.size = h at *
 refine ja rfl (jO (jN (jv1 6 ?_)))
 refine jS (jS (jR (jM ?_)))
 refine Ops.cl (jE1 Tryz.call49) (qQ6 m h g F1 H w3 hb3 hD3 hh2 hmp3 hm2 hh) rfl ?_
 rintro e w4 ⟨rfl, hf4, q, hH⟩
 refine ⟨_, rfl, ?_⟩
 refine je (Run.not rfl) (jO (jN (jv2 6 23 ?_)))
 refine VC.condF rfl (rfl) ?_
 refine jQ (jN (jv1 6 ?_))
 refine jS (jR (jm rfl (ja rfl (jz 0 (jO (jN (jv2 2 3 ?_)))))))
 refine jT ?_
 refine bE rfl rfl ?_
 exact ⟨h, F1, q, rfl, hH, ⟨((hk1.1.trans hf2 jp).trans hF3.frm jp).trans hf4 (fun x hx => .inr (by simp at hx; omega)), fun x hx => by
  rcases zv.1 hx with rfl | hx
  · exact .inr jo
  exact hk1.2 x hx⟩, jo⟩
end
section
open Go.RowKit
theorem lH {a r : List Nat} {i : Nat} (h : i < a.length) : (a ++ r).getD i 0 = a.getD i 0 := by
 rw [zc, zcr h, ← zc]
theorem zA {bs : List Nat} (h : bs.length ≤ 124) (h2 : 2 ≤ bs.length) (hk : (bs.getD 0 0 = 2 ∧ bs.getD 1 0 ≤ 12 ∧ bs.getD 1 0 ≠ 0) ∨ (bs.getD 0 0 = 1 ∧ bs.getD 1 0 ≤ 7)) (hl : bs.length = 2 + qQr (bs.getD 0 0) * bs.getD 1 0) : mH (fG bs) := by
 obtain ⟨r, hr⟩ := kQ bs h
 have h0 : (fG bs).getD 0 0 = bs.getD 0 0 := by rw [hr]; exact lH jo
 have h1 : (fG bs).getD 1 0 = bs.getD 1 0 := by rw [hr]; exact lH jo
 refine ⟨eL h, by rw [h0, h1]; exact hk, ?_⟩
 rw [h0, h1, ← hl]
 conv => lhs; arg 1; rw [hr]
 rw [zci rfl]
theorem qK3 {l : List Pr} (h : l.length ≤ 7) : mH (dK l) :=
 zA (by rw [eI]; omega) (by rw [eI]; omega) (.inr ⟨rfl, h⟩) (by rw [eI]; rfl)
theorem qVo {l : List Kd} (h : l.length ≤ 12) (h0 : l.length ≠ 0) : mH (gM l) :=
 zA (by rw [fB]; omega) (by rw [fB]; omega) (.inl ⟨rfl, h, h0⟩) (by rw [fB]; rfl)
theorem uA : ∀ (l : List Pr) (i : Nat) (r : List Nat), i < l.length → ∃ s, (l.flatMap (fun x => qP x.1 8 ++ qP x.2 8) ++ r).drop (16 * i) = qP (l.getD i (0, 0)).1 8 ++ (qP (l.getD i (0, 0)).2 8 ++ s)
 | a :: l, 0, r, _ => ⟨l.flatMap (fun x => qP x.1 8 ++ qP x.2 8) ++ r, by
  rw [zap, Nat.mul_zero, zbd, zp, zp]
  rfl⟩
 | a :: l, i + 1, r, h => by
  obtain ⟨s, hs⟩ := uA l i r (by simpa using h)
  refine ⟨s, ?_⟩
  rw [zap, zp, show 16 * (i + 1) = 16 + 16 * i by omega, lG (x := qP a.1 8 ++ qP a.2 8) (k := 16) (by rw [zd, numL_len, numL_len]), hs]
  rfl
theorem qZs {l : List Pr} (h : l.length ≤ 7) (hp : OkP l) : cD (dK l) = l := by
 obtain ⟨r, hr⟩ := kQ (nB l) (by rw [eI]; omega)
 have hb2 := eI l
 have h0 : (dK l).getD 0 0 = 1 := by rw [dK, hr, lH jo]; rfl
 have h1 : (dK l).getD 1 0 = l.length := by rw [dK, hr, lH jo]; rfl
 have hd : ∀ i, i < l.length → eO (dK l) (2 + 16 * i) = (l.getD i (0, 0)).1 ∧ eO (dK l) (10 + 16 * i) = (l.getD i (0, 0)).2 := fun i hi => by
  obtain ⟨s, hs⟩ := uA l i r hi
  have ho := hp _ (fQ hi)
  have e1 : (dK l).drop (2 + 16 * i) = qP (l.getD i (0, 0)).1 8 ++ (qP (l.getD i (0, 0)).2 8 ++ s) := by
   rw [dK, hr, nB, show (1 :: l.length :: l.flatMap fun x => qP x.1 8 ++ qP x.2 8) ++ r = [1, l.length] ++ ((l.flatMap fun x => qP x.1 8 ++ qP x.2 8) ++ r) from rfl, lG (x := [1, l.length]) (k := 2) rfl, hs]
  have e2 : (dK l).drop (10 + 16 * i) = qP (l.getD i (0, 0)).2 8 ++ s := by
   rw [show 10 + 16 * i = 2 + 16 * i + 8 by omega, ← zey, e1, zen (numL_len _ 8)]
  refine ⟨?_, ?_⟩
  · rw [eO, e1, zci (numL_len _ 8), gE 8 _ (by have := ho.1; omega)]
  rw [eO, e2, zci (numL_len _ 8), gE 8 _ (by have := ho.2; omega)]
 unfold cD
 rw [if_neg (by rw [h0]; omega), h1]
 refine zfg jp fun i h3 h4 => ?_
 rw [List.getElem_map, List.getElem_range]
 obtain ⟨a, b⟩ := hd i h4
 rw [a, b, zc, zb h4]
 rfl
theorem qJz {l : List Kd} (h : l.length ≤ 12) : cD (gM l) = [] := by
 obtain ⟨r, hr⟩ := kQ (tZ l) (by rw [fB]; omega)
 have hb2 := fB l
 have h0 : (gM l).getD 0 0 = 2 := by rw [gM, hr, lH jo]; rfl
 unfold cD
 rw [if_pos h0]
theorem rD {l : List Kd} {c : List Kd} (h : c ∈ cC l) : c.length ≤ 12 ∧ c.length ≠ 0 := by
 obtain ⟨i, hi, rfl⟩ := List.mem_map.1 h
 have hi := List.mem_range.1 hi
 rw [zh, zj]
 omega
theorem qK4 : ∀ (n : Nat) (out : List (List Nat)) (level : List Kd), level.length = n → (∀ x ∈ out, mH x) → (∀ x ∈ upM out level, mH x) ∧ cB (upM out level) = cB out := by
 intro n
 induction n using Nat.strongRecOn with
 | _ n ih =>
  intro out level hl ho
  rw [upM]
  by_cases h : level.length ≤ 1
  · rw [dif_pos h]; exact ⟨ho, rfl⟩
  rw [dif_neg h]
  obtain ⟨a, b⟩ := ih (nextM out.length (cC level)).length (by rw [dF, cF]; omega) (out ++ (cC level).map gM) (nextM out.length (cC level)) rfl (fun x hx => by
   rcases zbw.1 hx with hx | hx
   · exact ho x hx
   obtain ⟨c, hc, rfl⟩ := List.mem_map.1 hx
   exact qVo (rD hc).1 (rD hc).2)
  refine ⟨a, b.trans ?_⟩
  unfold cB
  rw [zan]
  have : ((cC level).map gM).flatMap cD = [] := by
   rw [List.flatMap_eq_nil_iff]
   intro x hx
   obtain ⟨c, hc, rfl⟩ := List.mem_map.1 hx
   exact qJz (rD hc).1
  rw [this, zbe]
theorem uI (l : List Pr) : ∀ k, (List.range k).flatMap (eS l) = l.take (7 * k)
 | 0 => rfl
 | k + 1 => by
  rw [zcn, zan, uI l k, zap, List.flatMap_nil, zbe, show 7 * (k + 1) = 7 * k + 7 by omega, List.take_add]
  rfl
theorem qZt {l : List Pr} (hm : kO l) (hp : OkP l) : oS (qI l) ∧ cB (qI l) = l := by
 have hl : ∀ x ∈ dG l (abvM l.length 7), mH x := fun x hx => by
  obtain ⟨i, _, rfl⟩ := List.mem_map.1 hx
  exact qK3 (oR l i)
 obtain ⟨a, b⟩ := qK4 _ (dG l (abvM l.length 7)) (dD l (abvM l.length 7)) rfl hl
 have hall : cB (qI l) = l := by
  refine b.trans ?_
  unfold cB dG
  rw [List.flatMap_map]
  have : (fun i => cD (dK (eS l i))) = eS l := funext fun i => qZs (oR l i) (fun x hx => hp x (zat (zo hx)))
  rw [this, uI, zf]
  unfold abvM
  omega
 exact ⟨⟨a, by rw [hall]; exact hm, by rw [hall]⟩, hall⟩
structure InvD (H : Hm) : Prop where
 d59 : H.dir.length ≤ 59
 head : H.dk.sec 0 = noM 128
 sup : H.dk.sec 41 = bJ H.dir
 dl : H.dir.length = (qI H.pairs).length
 pg : ∀ i, i < H.dir.length → H.dk.sec (42 + H.dir.getD i 0) = (qI H.pairs).getD i []
theorem yF {d : Dk} {l : List Pu} (h : Pow d) (hn : 41 < d.has.length) (hm : bA l d.has.length) : (qL d l).2.sec 0 = noM 128 := by
 have he : qL d l = bW d (cV l) := by unfold qL; rw [if_neg (by intro h1; rcases h1 with h1 | h1; omega; exact h1 hm)]
 obtain ⟨_, _, r3⟩ := lW (cV l) h (nI hm hn)
 rw [he, r3 0 jo]
 unfold cV cO
 rw [← zp, fR]
 simp [cP]
theorem xM {H : Hm} {B : Nat → List Nat} {l : List Ch} (h : InvH H B) (h0 : (qR H l).1 = 0) (hb : ∀ c ∈ l, c.1 < 18446744073709551616 ∧ ∀ b ∈ c.2.1, b < 256) : InvD (qR H l).2 := by
 by_cases hm : bL l
 ·
  by_cases hg : dZ H l
  ·
   by_cases hn : 600 < cK H l ∨ 40 < bQ H l + 1
   ·
    have e : qR H l = (5, H) := by unfold qR; rw [if_neg (not_not_intro hm), if_neg (not_not_intro hg), if_pos hn]
    rw [e] at h0; cases h0
   by_cases hf : H.N - cntS H.N H.used < bQ H l
   ·
    have e : qR H l = (5, H) := by unfold qR; rw [if_neg (not_not_intro hm), if_neg (not_not_intro hg), if_neg hn, if_pos hf]
    rw [e] at h0; cases h0
   obtain ⟨s1, s2, s3, s4, s5, s6⟩ := gO h hm hb jo jo jo
   have e : qR H l = (0, (H.plan (qL H.dk (qD H l).puts).2 (qD H l)).count) := by unfold qR; rw [if_neg (not_not_intro hm), if_neg (not_not_intro hg), if_neg hn, if_neg hf, if_neg (not_not_intro s1)]
   rw [e]
   have hsz := h.ok.sz
   have hmay : bA (qD H l).puts H.dk.has.length := by
    by_cases hx : H.dk.has.length ≤ 41 ∨ ¬ bA (qD H l).puts H.dk.has.length
    ·
     unfold qL at s1
     rw [if_pos hx] at s1
     cases s1
    exact Classical.not_not.1 fun h2 => hx (.inr h2)
   have hdl : (qD H l).dir.length = (qI (qD H l).pairs).length := by rw [s6, lD]
   have hpt : pagesM (qD H l).pairs.length ≤ bQ H l := by
    have h1 : (qD H l).pairs.length = cK H l := sS _ _ _ _
    unfold bQ pagesT
    rw [if_pos jo, h1]
    omega
   have hpu : (qD H l).puts = (qO H l ((bK H.N H.used).take (bQ H l))).puts ++ cW (qD H l).dir (qI (qD H l).pairs) (qI (qD H l).pairs).length ++ [(41, bJ (qD H l).dir)] := rfl
   obtain ⟨c1, c2, c3, c4, c5⟩ := uC h.pow jo hmay
   refine ⟨by show (qD H l).dir.length ≤ 59; omega, yF h.pow jo hmay, ?_, hdl, fun i hi => ?_⟩
   · exact c4 (41, bJ (qD H l).dir) (by rw [hpu]; simp)
   have hi : i < (qD H l).dir.length := hi
   exact c4 (42 + (qD H l).dir.getD i 0, (qI (qD H l).pairs).getD i []) (by
    rw [hpu]
    refine zdg _ (List.mem_append_right _ (List.mem_map.2 ⟨i, List.mem_range.2 jo, rfl⟩)))
  have e : qR H l = (6, H) := by unfold qR; rw [if_neg (not_not_intro hm), if_pos hg]
  rw [e] at h0; cases h0
 have e : qR H l = (1, H) := by unfold qR; rw [if_pos hm]
 rw [e] at h0; cases h0
theorem qZu {D pg : List Nat} {i : Nat} (hp : ∀ p ∈ pg, p < 2048) : numV (cS D pg i) 0 2 = nxP pg (i + 1) := by
 rw [(gF (by rw [oF]; omega)).2, zbd]
 have hl := jL D i
 have hl2 : Nat.min (D.length - 126 * i) 126 ≤ 126 := zff _ _
 have hn : nextP pg i = nxP pg (i + 1) := rfl
 have hv : nextP pg i < 256 ^ 2 := by
  unfold nextP
  split
  · next h => have := hp _ (bY h); omega
  omega
 unfold cS dO
 rw [if_neg (by rw [zd, numL_len]; omega), zp, zci (numL_len _ 2), gE 2 _ hv, hn]
theorem qJ0 {H : Hm} {B : Nat → List Nat} (h : InvH H B) (hd : InvD H) : Holds H := by
 have hbg := h.ok.big
 have hNe : H.N = H.dk.has.length - 42 := rfl
 obtain ⟨t1, t2⟩ := qZt (zU h.ok.srt h.ok.n600) h.ok.okp
 obtain ⟨_, w2, w3⟩ := kR h
 obtain ⟨V, hV, _⟩ := lI H.N (bT H) (fun _ => false) w3 w2 (fun _ _ => rfl)
 refine ⟨h.ok, h.pow.off, hd.d59, hd.sup, t1, t2, ?_, fun x hx => ?_, ⟨V, hV⟩⟩
 ·
  refine zfg (by rw [zx]; exact hd.dl) fun i h1 h2 => ?_
  rw [zx] at h1
  have h3 := hd.pg i h1
  rw [zc, zb h1, zc, zb h2] at h3
  rw [List.getElem_map]
  exact h3
 obtain ⟨b1, b2, b3, b4, b5⟩ := h.blob x hx
 have hp : ∀ p ∈ H.lies x.1, p < 2048 := fun p hp => by have := (h.ok.pg x hx).1 p hp; omega
 have hl := (mZ x.1 (B x.1) (H.lies x.1) b3 hp).1
 rw [← b1] at hl
 refine ⟨by rw [b2, hl], jo, ?_, fun i hi => by rw [b5 i hi]; exact qZu hp⟩
 have h2 : x.2 = atP (H.lies x.1) + (B x.1).length * 65536 + crcM (B x.1) * 4294967296 := congrArg (·.2) b1
 have ha : atP (H.lies x.1) = nxP (H.lies x.1) 0 := by
  unfold atP nxP
  by_cases h0 : (H.lies x.1).length = 0
  · rw [if_pos h0, if_neg jo]
  rw [if_neg h0, if_pos jo]
 have hlt : atP (H.lies x.1) ≤ 2048 := by
  unfold atP
  split
  · omega
  have := hp _ (bY (jo : 0 < (H.lies x.1).length)); omega
 rw [h2, ← ha]
 omega
theorem uL {H : Hm} {B : Nat → List Nat} (h : InvH H B) (hd : InvD H) : oG H.dk = (0, 0, H.dk) := by
 have hsz := h.ok.sz
 unfold oG
 rw [if_neg jo, if_neg (by simp [h.pow.off]), hd.head]
 have hn : ¬ eV H.dk (noM 128) := fun ht => by
  have h1 := ht.1.1
  have h2 : headN (noM 128) = 0 := jd
  omega
 rw [if_neg hn, if_neg jp]
theorem uO {H : Hm} {B : Nat → List Nat} (h : InvH H B) : InvH H.count B := by
 obtain ⟨_, w2, w3⟩ := kR h
 obtain ⟨V, hV, hp⟩ := lI H.N (bT H) (fun _ => false) w3 w2 (fun _ _ => rfl)
 have hc : H.count = { H with used := V } := by unfold Hm.count; rw [hV]; rfl
 rw [hc]
 exact ⟨⟨h.ok.srt, h.ok.okp, h.ok.n600, h.ok.sz, h.ok.big, h.ok.wts, h.ok.d59, h.ok.dirp, h.ok.pg⟩, h.pow, h.wts, h.dnod, h.lnod, h.dl, h.ll, fun p _ => (hp p).trans (Bool.false_or _), h.blob⟩
theorem qQ8 {H : Hm} (h : InvD H) : InvD H.count := ⟨h.d59, h.head, h.sup, h.dl, h.pg⟩
theorem qZv {H : Hm} {B : Nat → List Nat} {l : List Bq} (h : HasI H B l) : HasI H.count B l := ⟨h.nod, h.key, h.oct⟩
theorem qQ9 {H : Hm} {B : Nat → List Nat} (h : InvH H B) : (List.range H.count.N).filter H.count.used = (List.range H.N).filter H.used := by
 rw [pT h, pT (uO h)]
 rfl
end
section
open Go.RowKit
structure Ws where
 i : Nat
 A : Option Addr
 m : Nat
 c : Nat
 ls : List Bq
 h : Nat
 F : List Nat
 H : Hm
 B : Nat → List Nat
 q : HtQ
structure IsS (n0 : Nat) (w wr : World) (g : Nat) (s : Ws) : Prop where
 hi : s.i ≤ n0
 ht : IsHt wr s.h g s.F s.H s.q
 inv : InvH s.H s.B
 invd : InvD s.H
 has : HasI s.H s.B s.ls
 rdb : RdB wr s.A s.m s.ls
 N : s.H.N = 38
 K : Frm [] w wr
 up : ∀ x ∈ s.h :: s.F, w.heap.size ≤ x
 off : ∀ y ∈ ob s.A, y < wr.heap.size ∧ y ∉ s.h :: s.F
theorem rdZV {w w' : World} {A : Option Addr} {n c : Nat} {l : List Nat} {t : TypeId} {ad : Addr} (h : Own w t 1 A n c (ZN l)) (hn : l.length = n) {k : Nat} (hk : k < n) (hA : A = some ad) (hf : Frm [] w w') : w'.cell? (ad.add k) = some (.int .i64 ((l.getD k 0 : Nat) : Int)) := by
 obtain ⟨ad2, h1, h2⟩ := rdZ (h.frm hf jp).rd hn hk
 rw [hA] at h1
 cases h1
 exact h2
set_option maxHeartbeats 4000000 in
theorem qXa (S0 : Option Addr) (n0 c0 : Nat) (L : List Bt) (w : World) (hn : n0 ≤ 9223372036854775807) (hL : L.length = n0) (hrd : Rd w 1 S0 n0 (L.map btV)) (hel : ∀ y ∈ L, y.2.2.length ≤ y.2.1 ∧ y.2.1 ≤ 9223372036854775807 ∧ RdQ w y.1 y.2.2.length y.2.2) :
  Calls Tryz.prog 3 #[.slice S0 n0 c0] w fun e w' => e = .returned (.bool true) ∧ Frm [] w w' := by
 have hl : (Dk.new 80).has.length = 80 := by simp [Dk.new]
 have hp : Pow (Dk.new 80) := ⟨rfl, rfl⟩
 obtain ⟨f1, f2, f3, f4, f5, f6, f7, f8, f9⟩ := nL hp jo jo
 have fu := xY hp jo
 have fh := nF (Dk.new 80)
 have fd := xM (rU fu.2.1 fu.2.2 jo jo (fun _ => [])) f5 (fun c hc => by cases hc)
 refine VC.calls (nt := 114) (res := #[.tmp 2]) Tryz.func3 rfl Tryz.ntmps3 Tryz.results3 rfl ?_
 refine jS (jR (ja rfl (jO (jN (jv1 0 ?_)))))
 refine jS (jR ?_)
 refine Ops.cl (jE1 Tryz.call6) (tO 80 w jo jo) rfl ?_
 rintro e w1 ⟨g, F, rfl, hD, K, hupF⟩
 refine ⟨_, rfl, ?_⟩
 refine jm rfl (je (Run.extract rfl rfl) (je (Run.extract rfl rfl) (ja rfl (ja rfl (jO (jN (jv3 0 3 4 ?_)))))))
 refine jS (jS (jR (jm rfl (jb rfl rfl (Bin.neqN _ 0) (jM ?_)))))
 refine Ops.rg rfl (rfl) (Run.mv rfl) rfl ?_
 refine Ops.rg rfl (rfl) (Run.eqlNilP rfl rfl Tryz.underlying23) rfl ?_
 refine je (Run.pickF rfl rfl (rfl)) (jO (jN (jv3 0 3 25 ?_)))
 refine VC.condF rfl (rfl) ?_
 refine jQ (jN (jv2 0 3 ?_))
 refine jS (jR (jM ?_))
 refine Ops.cl (jE1 Tryz.call7) (oO g F (Dk.new 80) w1 hD jo (zi _) f1 f2 f3 f4 f5) rfl ?_
 rintro e w2 ⟨h, F2, q, rfl, hH, hk2⟩
 refine ⟨_, rfl, ?_⟩
 have hup2 : ∀ x ∈ h :: F2, w.heap.size ≤ x := fun x hx => by
  rcases hk2.2 x hx with h1 | h1
  · exact hupF x h1
  exact zas K.size h1
 have K := K.own hk2.1 hupF
 obtain ⟨H0, hH0⟩ : ∃ H0, H0 = (qR (bF (bP (Dk.new 80)).2) []).2 := ⟨_, rfl⟩
 rw [← hH0] at hH f6 f7 f9 fd
 have hN0 : H0.N = 38 := by unfold Hm.N; omega
 have hI0 : HasI H0 (fun _ => []) [] := ⟨jp, fun id => ⟨fun hx => absurd hx (f9 id), fun hx => by simp at hx⟩, fun x hx => by cases hx⟩
 clear hp f1 f2 f3 f4 f5 f8 fu fh
 refine jm rfl (je (Run.extract rfl rfl) (je (Run.extract rfl rfl) (ja rfl (ja rfl (jO (jN (jv4 0 3 5 6 ?_)))))))
 refine jS (jS (jR (jm rfl (jb rfl rfl (Bin.neqN _ 0) (jM ?_)))))
 refine Ops.rg rfl (rfl) (Run.mv rfl) rfl ?_
 refine Ops.rg rfl (rfl) (Run.eqlNilP rfl rfl Tryz.underlying27) rfl ?_
 refine je (Run.pickF rfl rfl (rfl)) (jO (jN (jv4 0 3 5 36 ?_)))
 refine VC.condF rfl (rfl) ?_
 refine jQ (jN (jv3 0 3 5 ?_))
 refine jS (jR (ja rfl (jO (jN (jS (jS (jR (jz 0 (jO (jN (jB ?_)))))))))))
 refine VC.loop (σ := Ws) (fun s => [(0, .slice S0 n0 c0), (3, .pointer (some ⟨g, 0, none⟩)), (5, .pointer (some ⟨s.h, 0, none⟩)), (7, .slice s.A s.m s.c), (8, .int .i64 ((s.i : Nat) : Int))]) (fun s wr => IsS n0 w wr g s) (fun s => n0 - s.i) ⟨0, none, 0, 0, [], h, F2, H0, fun _ => [], q⟩ (js5 rfl rfl rfl rfl rfl) ⟨zi _, hH, f6, fd, hI0, ⟨rfl, Rd.nil _ _ _, fun x hx => by cases hx⟩, hN0, K, hup2, fun y hy => by simp [ob] at hy⟩ ?_
 rintro ⟨i, A, m, ca, ls, h, F, H, B, q⟩ wr ⟨hi, hH, hinv, hinvd, hhas, hrb, hN, K, hup, hoff⟩
 dsimp only at hi hH hinv hinvd hhas hrb hN hup hoff ⊢
 refine jS (jS ?_)
 refine VC.split1 [(0, _), (3, _), (5, _), (7, _), (8, _)] (js5 rfl rfl rfl rfl rfl) 44 (.bool (decide (i < n0 ∧ i < 6))) ?_ ?_
 ·
  refine jR ?_
  refine jm rfl (jm rfl (je (Run.lenS rfl Tryz.underlying22) (jb rfl rfl (Bin.lssN _ _) (jM ?_))))
  by_cases hs41 : i < n0
  ·
   refine jG ?_
   refine jk (Run.bin rfl rfl (Bin.lssN _ 6)) ?_
   by_cases hs43 : i < 6
   ·
    refine je (Run.pickT rfl rfl au) (jO ?_)
    refine jN ⟨(js6 (jC (by grind)) rfl rfl rfl rfl rfl), rfl⟩
   refine je (Run.pickT rfl rfl au) (jO ?_)
   refine jN ⟨(js6 (jC (by grind)) rfl rfl rfl rfl rfl), rfl⟩
  refine jU ?_
  refine jU ?_
  refine je (Run.pickF rfl rfl au) (jO ?_)
  refine jN ⟨(js6 (jC (by grind)) rfl rfl rfl rfl rfl), rfl⟩
 intro Γ hΓ
 refine jN (VC.sub _ hΓ ?_)
 refine jD rfl (fun hc3 => ?_) fun hc3 => ?_
 ·
  obtain ⟨hin, hi6⟩ := hc3
  obtain ⟨adL, hS0, -⟩ := qJ4 hrd hL hin
  have hcL : ∀ V, Frm [] w V → V.cell? (adL.add i) = some (btV (L.getD i bt0)) := fun V hV => by
   obtain ⟨ad2, he, h2⟩ := qJ4 (hrd.frm hV jp) hL hin
   rw [hS0] at he
   cases he
   exact h2
  have hyq := hel _ (qVm (jo : i < L.length))
  subst hS0
  generalize L.getD i bt0 = y at hcL hyq
  obtain ⟨yA, yc, yl⟩ := y
  dsimp only at hyq
  have hml : m ≤ 600 := by
   have h1 := (pJ hinv hhas).2
   have h2 := hH.ok.n600
   have h3 := hrb.len
   omega
  refine jQ (jN (jv5 0 3 5 7 8 ?_))
  refine jS (jB (jS (jR (jm rfl (jm rfl (je (Run.index1 _ rfl rfl Tryz.underlying22 Tryz.sizeOf31 jo) (jl rfl Tryz.isAgg31 (hcL _ K) ?_)))))))
  refine Ops.cl (jE1 Tryz.call8) (qZg yA yl.length yc yl wr jo hyq.1 (hyq.2.2.frm K)) rfl ?_
  rintro e wb ⟨CB, cd, cl, rfl, hoC, hqC, hcC, hfb, hupC⟩
  refine ⟨_, rfl, ?_⟩
  have Kb := K.trans hfb jp
  have hb1 := hfb.size
  have hHl := hH.lt
  have hHb := hH.frm hfb
  obtain ⟨cn, co, c12⟩ := qVl hyq.2.2 hcC
  refine ja rfl (jO (jN (jv6 0 3 5 7 8 9 ?_)))
  refine jS (jR (jM ?_))
  refine Ops.cl (jE1 zfb) (dM h g F H q wb hHb) rfl ?_
  rintro e wc ⟨UA, ua, rfl, hoUA, hfc, hupUA⟩
  refine ⟨_, rfl, ?_⟩
  have Kc := Kb.trans hfc jp
  have hb2 := hfc.size
  have hHc := hHb.frm hfc
  have hrC : RdC wc CB cl.length cl := (hqC.frm hfc).rdc rfl (hoC.rd.frm hfc jp) cn co
  have hbc : ∀ c ∈ chL cl, c.1 < 18446744073709551616 ∧ ∀ b ∈ c.2.1, b < 256 := fun c hc => by
   obtain ⟨x, hx, rfl⟩ := List.mem_map.1 hc
   exact ⟨(cn x hx).1, co x hx⟩
  obtain ⟨m1, m2, m3⟩ := pS hinv hbc
  have hbd := fun h0 => xM hinv h0 hbc
  obtain ⟨H3, hH3e⟩ : ∃ H3, H3 = (qR H (chL cl)).2 := ⟨_, rfl⟩
  obtain ⟨e3, he3⟩ : ∃ e3, e3 = (qR H (chL cl)).1 := ⟨_, rfl⟩
  refine ja rfl (jO (jN (jv7 0 3 5 7 8 9 10 ?_)))
  refine jS (jS (jR (jm rfl (jM ?_))))
  refine Ops.cl (jE2 Tryz.call10) (jW CB cl.length cd cl h g F H q wc hHc jo hrC m1 m2) rfl ?_
  rintro e wd ⟨F3, q3, rfl, hH3, hk3⟩
  refine ⟨_, rfl, ?_⟩
  rw [← hH3e] at hH3 m2 m3 hbd
  rw [← he3] at m3 hbd ⊢
  have hFl : ∀ x ∈ h :: F, x < wr.heap.size := hHl
  have hup3 : ∀ x ∈ h :: F3, w.heap.size ≤ x := fun x hx => by
   rcases hk3.2 x hx with h1 | h1
   · exact hup x h1
   have := Kc.size; omega
  have Kd := Kc.own hk3.1 hup
  have hb3 := hk3.1.size
  have hrb3 : RdB wd A m ls := ⟨hrb.len, (((hrb.rd.frm hfb jp).frm hfc jp)).frm hk3.1 (fun _ y hy => (hoff y hy).2), hrb.num⟩
  have hA3 : ∀ y ∈ ob A, y < wr.heap.size ∧ y ∉ h :: F3 := fun y hy => ⟨(hoff y hy).1, hk3.out (by have := (hoff y hy).1; omega) (hoff y hy).2⟩
  have hrC3 : RdC wd CB cl.length cl := ((hqC.frm hfc).aside hk3.1 (fun y h1 h2 hx => by have := hFl y hx; omega)).rdc rfl ((hoC.rd.frm hfc jp).frm hk3.1 (fun _ y hy hx => by have := hFl y hx; have := hupC y hy; omega)) cn co
  have hN3 : H3.N = 38 := by
   rcases m3 with h1 | h1
   ·
    have h2 := h1.2.2.2.2.1
    unfold Hm.N at hN ⊢
    omega
   rw [h1.2]; exact hN
  refine jb rfl rfl (Bin.eqlN _ 0) (jO (jN (jv8 0 3 5 7 8 9 10 57 ?_)))
  refine VC.meet (σ := Option Addr × Nat × Nat × List Bq × (Nat → List Nat)) (fun s => [(0, .slice (some adL) n0 c0), (3, .pointer (some ⟨g, 0, none⟩)), (5, .pointer (some ⟨h, 0, none⟩)), (7, .slice s.1 s.2.1 s.2.2.1), (8, .int .i64 ((i : Nat) : Int))]) (fun s wz => Frm [] wd wz ∧ InvH H3 s.2.2.2.2 ∧ HasI H3 s.2.2.2.2 s.2.2.2.1 ∧ InvD H3 ∧ RdB wz s.1 s.2.1 s.2.2.2.1 ∧ ∀ y ∈ ob s.1, y < wz.heap.size ∧ y ∉ h :: F3) ?_ ?_
  ·
   refine jD rfl (fun hc4 => ?_) fun hc4 => ?_
   ·
    refine jR (jm rfl (jM ?_))
    refine Ops.cl (jE2 Tryz.call11) (qZj A CB m ca cl.length cd ls cl wd jo jo hrb3 hrC3) rfl ?_
    rintro e we ⟨A4, m4, c4, rfl, hrb4, hf4, hA4⟩
    refine ⟨_, rfl, ?_⟩
    have hz3 : e3 = 0 := jo
    obtain ⟨-, mm, -, minv, -, mdir, mkey⟩ := m3.resolve_right (fun hx => hx.1 hz3)
    have hs4 := hf4.size
    refine ja rfl (jO ?_)
    refine jN ⟨(A4, m4, c4, hZ ls (chL cl), eX B (chL cl)), (js5 rfl rfl rfl rfl rfl), ?_⟩
    exact ⟨hf4, minv, qJw hhas mm mkey, hbd hz3, hrb4, fun y hy => by
     have hH3l := hH3.lt
     rcases hA4 y hy with h1 | h1
     ·
      have := hA3 y h1
      exact ⟨jo, this.2⟩
     exact ⟨h1.2, fun hx => by have := hH3l y hx; omega⟩⟩
   refine jS (jR (jM ?_))
   refine Ops.cl (jE1 zfb) (dM h g F3 H3 q3 wd hH3) rfl ?_
   rintro e we ⟨UB, ub, rfl, hoUB, hf4, hupUB⟩
   refine ⟨_, rfl, ?_⟩
   have he : H3 = H := (m3.resolve_left (fun hx => jo)).2
   rw [he]
   refine je (Run.lenS rfl zl) (jm rfl (je (Run.lenS rfl zl) (jb rfl rfl (Bin.neqN _ _) (jO (jN (jv6 0 3 5 7 8 66 ?_))))))
   refine VC.condF rfl (decide_eq_false jp) ?_
   refine jQ ?_
   refine jN ⟨(A, m, ca, ls, B), (js5 rfl rfl rfl rfl rfl), ?_⟩
   have hs4 := hf4.size
   have h9 : ∀ y ∈ ob A, y < we.heap.size ∧ y ∉ h :: F3 := fun y hy => ⟨by have := hA3 y hy; omega, (hA3 y hy).2⟩
   subst he
   exact ⟨hf4, hinv, hhas, hinvd, hrb3.frm hf4, h9⟩
  rintro ⟨A4, m4, c4, l4, B4⟩ wz ⟨hfz, hinv4, hhas4, hinvd4, hrb4, hoff4⟩ Γ hΓ
  dsimp only at hinv4 hhas4 hrb4 hoff4
  have hHz := hH3.frm hfz
  have hsz := hfz.size
  have Kz := Kd.trans hfz jp
  have h44 := hH3.ok.sz
  refine jN (VC.sub _ hΓ (jS (jR (jM ?_))))
  refine Ops.cl (jE1 Tryz.call12) (qQ7 g F3 H3.dk wz hHz.dk h44 (by have := hH3.ok.wts; omega) (by rw [uL hinv4 hinvd4]) H3 (by rw [uL hinv4 hinvd4]) (qJ0 hinv4 hinvd4)) rfl ?_
  rintro e w5 ⟨x, F5, q5, rfl, hX5, hk5, hx5⟩
  refine ⟨_, rfl, ?_⟩
  have hH5 : IsHt w5 h g F5 H3 q3 := hHz.dks (d' := H3.dk) hX5.dk ⟨hk5.1, fun y hy => hk5.2 y (by simp [hy])⟩ hHz.ok rfl
  have hz5 := hk5.1.size
  have hup5 : ∀ y ∈ x :: F5, w.heap.size ≤ y := fun y hy => by
   rcases hk5.2 y hy with h1 | h1
   · exact hup3 y (by simp [h1])
   have := Kz.size; omega
  have K5 := Kz.own hk5.1 (fun y hy => hup3 y (by simp [hy]))
  have hrb5 : RdB w5 A4 m4 l4 := ⟨hrb4.len, hrb4.rd.frm hk5.1 (fun _ y hy hx => (hoff4 y hy).2 (by simp [hx])), hrb4.num⟩
  have hoff5 : ∀ y ∈ ob A4, y < w5.heap.size ∧ y ∉ x :: F5 := fun y hy => ⟨by have := (hoff4 y hy).1; omega, hk5.out (hoff4 y hy).1 (fun hx => (hoff4 y hy).2 (by simp [hx]))⟩
  have hinv5 := uO hinv4
  have hhas5 := qZv hhas4
  have hrm := pJ hinv5 hhas5
  have hue := qQ9 hinv4
  have hm6 : m4 ≤ 600 := by
   have h1 := (pJ hinv4 hhas4).2
   have h2 := hH3.ok.n600
   have h3 := hrb4.len
   omega
  obtain ⟨HX, hHX⟩ : ∃ HX, HX = H3.count := ⟨_, rfl⟩
  rw [← hHX] at hX5 hinv5 hhas5 hrm hue
  obtain ⟨U, hU⟩ : ∃ U, U = (List.range H3.N).filter H3.used := ⟨_, rfl⟩
  rw [← hU] at hue
  have hUl : U.length ≤ 38 := by rw [hU]; exact zas (zcs _ _) (by rw [zdh]; omega)
  refine jm rfl (je (Run.extract rfl rfl) (je (Run.extract rfl rfl) (ja rfl (ja rfl (jO (jN (jv7 0 3 5 7 8 11 12 ?_)))))))
  refine jS (jS (jR (jm rfl (jb rfl rfl (Bin.neqN _ 0) (jM ?_)))))
  refine Ops.rg rfl (rfl) (Run.mv rfl) rfl ?_
  refine Ops.rg rfl (rfl) (Run.eqlNilP rfl rfl Tryz.underlying27) rfl ?_
  refine je (Run.pickF rfl rfl (rfl)) (jM ?_)
  refine Ops.rg rfl (rfl) (Run.mv rfl) rfl ?_
  refine Ops.rg rfl (rfl) (Run.mv rfl) rfl ?_
  refine Ops.clg rfl (rfl) (jE2 Tryz.call13) (yR A4 m4 c4 l4 x g F5 HX q5 w5 hX5 jo hrb5) rfl ?_
  rintro e w6 ⟨hf6, b, rfl, hb⟩
  obtain rfl : b = true := hb hrm.1 hrm.2
  refine ⟨_, rfl, ?_⟩
  refine Ops.rg rfl (rfl) (Run.not rfl) rfl ?_
  refine je (Run.pickF rfl rfl (rfl)) (jM ?_)
  refine Ops.rg rfl (rfl) (Run.mv rfl) rfl ?_
  refine Ops.clg rfl (rfl) (jE1 zfb) (dM x g F5 HX q5 w6 (hX5.frm hf6)) rfl ?_
  rintro e w7 ⟨UC, uc, rfl, hoUC, hf7, hupUC⟩
  refine ⟨_, rfl, ?_⟩
  rw [hue]
  refine Ops.rg rfl (rfl) (Run.lenS rfl zl) rfl ?_
  refine Ops.rg rfl (rfl) (Run.mv rfl) rfl ?_
  refine Ops.clg rfl (rfl) (jE1 zfb) (dM h g F5 H3 q3 w7 ((hH5.frm hf6).frm hf7)) rfl ?_
  rintro e w8 ⟨UD, ud, rfl, hoUD, hf8, hupUD⟩
  refine ⟨_, rfl, ?_⟩
  rw [← hU]
  refine Ops.rg rfl (rfl) (Run.lenS rfl zl) rfl ?_
  refine Ops.rg rfl (rfl) (Run.bin rfl rfl (Bin.neqN _ _)) rfl ?_
  refine je (Run.pickF rfl rfl (rfl)) (jO (jN (jv7 0 3 5 7 8 11 92 ?_)))
  refine VC.condF rfl (decide_eq_false jp) ?_
  refine jQ (jN (jv6 0 3 5 7 8 11 ?_))
  refine jS (jR (jM ?_))
  refine Ops.cl (jE1 zfb) (dM x g F5 HX q5 w8 (((hX5.frm hf6).frm hf7).frm hf8)) rfl ?_
  rintro e w9 ⟨UE, ue, rfl, hoE, hf9, hupUE⟩
  refine ⟨_, rfl, ?_⟩
  rw [hue] at hoE ⊢
  refine jM ?_
  refine Ops.cl (jE1 zfb) (dM h g F5 H3 q3 w9 ((((hH5.frm hf6).frm hf7).frm hf8).frm hf9)) rfl ?_
  rintro e wf ⟨UG, ug, rfl, hoG, hfg, hupUG⟩
  refine ⟨_, rfl, ?_⟩
  rw [← hU] at hoG ⊢
  have hoE := hoE.frm hfg jp
  have k5f : Frm [] w5 wf := (((hf6.trans hf7 jp).trans hf8 jp).trans hf9 jp).trans hfg jp
  refine ja rfl (ja rfl (jO (jN (jv7 0 3 7 8 11 13 14 ?_))))
  refine jS (jS (jR (jz 0 (jO (jN (jB ?_))))))
  refine VC.loop (σ := Nat) (fun s => [(0, .slice (some adL) n0 c0), (3, .pointer (some ⟨g, 0, none⟩)), (7, .slice A4 m4 c4), (8, .int .i64 ((i : Nat) : Int)), (11, .pointer (some ⟨x, 0, none⟩)), (13, .slice UE U.length ue), (14, .slice UG U.length ug), (15, .int .i64 ((s : Nat) : Int))]) (fun s wr => s ≤ U.length ∧ Frm [] wf wr) (fun s => U.length - s) 0 (js8 rfl rfl rfl rfl rfl rfl rfl rfl) ⟨zi _, Frm.refl _ _⟩ ?_
  rintro k wk ⟨hk, Kk⟩
  refine jS (jS (jR (jm rfl (jm rfl (je (Run.lenS rfl zl) (jb rfl rfl (Bin.lssN _ _) (jO (jN (jv9 0 3 7 8 11 13 14 15 100 ?_)))))))))
  refine jD rfl (fun hc7 => ?_) fun hc7 => ?_
  ·
   obtain ⟨ad1, hE1, -⟩ := rdZ hoE.rd rfl hc7
   obtain ⟨ad2, hG1, -⟩ := rdZ hoG.rd rfl hc7
   have hEV : ∀ V, Frm [] wf V → V.cell? (ad1.add k) = some (.int .i64 ((U.getD k 0 : Nat) : Int)) := fun V hV => rdZV hoE rfl hc7 hE1 hV
   have hGV : ∀ V, Frm [] wf V → V.cell? (ad2.add k) = some (.int .i64 ((U.getD k 0 : Nat) : Int)) := fun V hV => rdZV hoG rfl hc7 hG1 hV
   subst hE1 hG1
   refine jQ (jN (jv8 0 3 7 8 11 13 14 15 ?_))
   refine jS (jB (jS ?_))
   refine VC.still jK jK ?_
   refine qM ?_
   refine qM ?_
   refine qE (Run.index1 _ rfl rfl zl zr jo) ?_
   refine qE (Run.load rfl zac (hEV _ (Kk.drawn (qV.drew _)))) ?_
   refine qM ?_
   refine qM ?_
   refine qE (Run.index1 _ rfl rfl zl zr jo) ?_
   refine qE (Run.load rfl zac (hGV _ (Kk.drawn (qV.drew _)))) ?_
   refine qE (Run.bin rfl rfl (Bin.neqN _ _)) ?_
   refine qF.nil ?_
   refine jN (jv9 0 3 7 8 11 13 14 15 111 ?_)
   refine VC.condF rfl (decide_eq_false jp) ?_
   refine jQ ?_
   refine qH (jN ?_)
   refine jv8 0 3 7 8 11 13 14 15 ?_
   refine jR (jm rfl (jb rfl rfl (Bin.add_i64 _ 1 jo) (ja rfl (jO ?_))))
   refine jN ⟨k + 1, (js8 rfl rfl rfl rfl rfl rfl rfl rfl), ?_, ?_⟩
   · exact ⟨hc7, Kk.drawn (qV.drew _)⟩
   first | omega | (dsimp only; omega)
  refine jX ?_
  refine qJ (qJ (qS ?_))
  refine jN (jv5 0 3 7 8 11 ?_)
  refine jR (jm rfl (ja rfl (jO ?_)))
  refine qH (jN ?_)
  refine jv5 0 3 5 7 8 ?_
  refine jR (jm rfl (jb rfl rfl (Bin.add_i64 _ 1 jo) (ja rfl (jO ?_))))
  refine jN ⟨⟨i + 1, A4, m4, c4, l4, x, F5, HX, B4, q5⟩, (js5 rfl rfl rfl rfl rfl), ?_, ?_⟩
  ·
   have kk := k5f.trans Kk jp
   have hqk := kk.size
   exact ⟨hin, hX5.frm kk, hinv5, by rw [hHX]; exact qQ8 hinvd4, hhas5, hrb5.frm kk, by rw [hHX]; exact hN3, K5.trans kk jp, hup5, fun y hy => ⟨by have := (hoff5 y hy).1; omega, (hoff5 y hy).2⟩⟩
  first | omega | (dsimp only; omega)
 refine jX ?_
 refine qJ (qJ (qS ?_))
 refine jN ?_
 refine VC.sub [] .nil ?_
 refine jS (jR ?_)
 refine Ops.cl (jE0 Tryz.call14) (yB wr) rfl ?_
 rintro e w9 ⟨rfl, hf9⟩
 refine ⟨_, rfl, ?_⟩
 refine ja rfl (jO (jN (jv1 2 ?_)))
 refine jT ?_
 refine qB rfl ?_
 exact ⟨rfl, K.trans hf9 jp⟩
end
end Go.Proofs.YtoniopdkbeogjaaGreat
