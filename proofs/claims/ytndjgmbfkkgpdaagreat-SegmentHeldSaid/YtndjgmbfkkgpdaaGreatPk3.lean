/-
  Lemmas on the way, joined: DefT, DefS, LimH, LimW, LimS, LimM, LimN, LimG, LimL, LimT, LimC, LimQ, LimR, LimX, LimK, LimY, LimO, DefM, InfPT, InfLF, BackA, DefN, DefO.
-/
import Derived.Test.YtndjgmbfkkgpdaaGreatPk2
set_option maxRecDepth 100000
set_option linter.unusedVariables false
set_option linter.unusedSimpArgs false
namespace Go.Proofs.YtndjgmbfkkgpdaaGreat
section
open Go.RowKit
theorem qY5 (A : Option Addr) (c least : Nat) (l : List Nat) (w : World) (hl : l.length ≤ 1000000) (hc : l.length ≤ c) (hr : Rd w 1 A l.length (NI l)) :
  Calls Tryz.prog 61 #[.slice A l.length c, .int .i64 ((least : Nat) : Int)] w fun e w' => (∃ B d, e = .returned (.slice B (cM l least).length d) ∧ Rd w 1 B (cM l least).length (NI (cM l least)) ∧ (cM l least).length ≤ d) ∧ w = w' := by
 refine VC.calls (nt := 24) (res := #[.tmp 4]) Tryz.func61 rfl Tryz.ntmps61 Tryz.results61 rfl ?_
 refine jS (jR (ja rfl (jO (jN (jv2 0 1 ?_)))))
 refine jS (jR (jm rfl (je (Run.lenS rfl zf) (ja rfl (jO (jN (jv3 0 1 5 ?_)))))))
 refine jS (jB ?_)
 refine VC.loop (σ := Nat) (fun s => [(0, .slice A l.length c), (1, .int .i64 ((least : Nat) : Int)), (5, .int .i64 ((s : Nat) : Int))]) (fun s wr => s ≤ l.length ∧ fX l least l.length = fX l least s ∧ w = wr) (fun s => s) l.length (js3 rfl rfl rfl) ⟨zk _, rfl, rfl⟩ ?_
 rintro n wr ⟨hn, hcn, rfl⟩
 refine jS (jS ?_)
 refine VC.split1 [(0, _), (1, _), (5, _)] (js3 rfl rfl rfl) 18 (.bool (decide (least < n ∧ l.getD (n - 1) 0 = 0))) ?_ ?_
 ·
  refine jR ?_
  refine jm rfl (jm rfl (jb rfl rfl (Bin.gtrN _ _) ?_))
  by_cases hs10 : least < n
  ·
   obtain ⟨ad, hA, _, hadc⟩ := hr.2 jo
   subst hA
   have hcell := hadc (n - 1) _ (jE l (n - 1) jo)
   refine jM ?_
   refine jG ?_
   refine jG ?_
   refine jk (Run.bin rfl rfl (Bin.sub_i64 _ 1 jo jo)) ?_
   refine jk (Run.index1 _ rfl rfl zf zd jo) ?_
   refine jk (Run.load rfl zg hcell) ?_
   refine jk (Run.bin rfl rfl (Bin.eqlN _ 0)) ?_
   by_cases hs17 : l.getD (n - 1) 0 = 0
   ·
    refine je (Run.pickT rfl rfl au) (jO ?_)
    refine jN ⟨(js4 (jC (by simp [*])) rfl rfl rfl), rfl⟩
   refine je (Run.pickT rfl rfl au) (jO ?_)
   refine jN ⟨(js4 (jC (by simp [*])) rfl rfl rfl), rfl⟩
  refine jM ?_
  refine jU ?_
  refine jU ?_
  refine jU ?_
  refine jU ?_
  refine jU ?_
  refine jU ?_
  refine je (Run.pickF rfl rfl au) (jO ?_)
  refine jN ⟨(js4 (jC (by simp [*])) rfl rfl rfl), rfl⟩
 intro Γ hΓ
 refine jN (VC.sub _ hΓ ?_)
 refine jD rfl (fun hc1 => ?_) fun hc1 => ?_
 ·
  refine jQ (jN (jv3 0 1 5 ?_))
  refine jB (jR (jm rfl (jb rfl rfl (Bin.sub_i64 _ 1 jo jo) (ja rfl (jO ?_)))))
  refine qK (jN ⟨n - 1, (js3 rfl rfl rfl), ?_, ?_⟩)
  · exact ⟨jo, hcn.trans (qP0 hc1.1 hc1.2), rfl⟩
  first | omega | (dsimp only; omega)
 refine jX ?_
 refine qZ (qZ (qP ?_))
 refine jN (jv2 0 5 ?_)
 refine jS (jR (jm rfl (jm rfl (je (Run.sliceS 0 n rfl zf zd evB.none_ (evB.some_ rfl) jo jo) (ja rfl (jO (jN (jv1 4 ?_))))))))
 refine jT ?_
 refine qC rfl ?_
 have e1 : fX l least l.length = n := hcn.trans (qY4 hc1)
 have e2 : cM l least = l.take n := by unfold cM; rw [e1]
 have e3 : (l.take n).length = n := by rw [zi, zbb hn]
 rw [e2, e3]
 refine ⟨⟨_, _, rfl, ?_, jo⟩, rfl⟩
 have := hr.cut (l := 0) (r := n) (cap := c) jo hn hc
 simpa [NI, zeg] using this
theorem qSh (A : Option Addr) (c a : Nat) (l : List Nat) (w : World) (hl : l.length ≤ 1000000) (ha : a < l.length) (hr : Rd w 1 A l.length (NI l)) :
  Calls Tryz.prog 98 #[.slice A l.length c, .int .i64 ((a : Nat) : Int)] w fun e w' => e = .returned (.int .i64 ((runN l a : Nat) : Int)) ∧ qQ w w' := by
 obtain ⟨ad, hA, _, hadc⟩ := hr.2 jo
 subst hA
 refine VC.calls (nt := 27) (res := #[.tmp 4]) Tryz.func98 rfl Tryz.ntmps98 Tryz.results98 rfl ?_
 refine jS (jR (jz 0 (jO (jN (jv2 0 1 ?_)))))
 refine jS (jR (jm rfl (ja rfl (jO (jN (jv3 0 1 5 ?_))))))
 refine jS (jB ?_)
 refine VC.loop (σ := Nat) (fun s => [(0, .slice (some ad) l.length c), (1, .int .i64 ((a : Nat) : Int)), (5, .int .i64 ((s : Nat) : Int))]) (fun s wr => a ≤ s ∧ s ≤ l.length ∧ runN l a = (s - a) + mW l (l.getD a 0) (l.length - s) s ∧ qQ w wr) (fun s => l.length - s) a (js3 rfl rfl rfl) ⟨zk _, jo, by simp [runN], qQ.refl w⟩ ?_
 rintro n wr ⟨hna, hn, hcn, hd⟩
 have hcell : ∀ j, j < l.length → wr.cell? (ad.add j) = some (.int .i64 ((l.getD j 0 : Nat) : Int)) := fun j hj => by
  obtain ⟨m, rfl⟩ := hd
  exact hadc j _ (jE l j hj)
 refine jS (jS ?_)
 refine VC.splitR [(0, .slice (some ad) l.length c), (1, .int .i64 ((a : Nat) : Int)), (5, .int .i64 ((n : Nat) : Int))] (qQ w) 21 (.bool (decide (n < l.length ∧ l.getD n 0 = l.getD a 0))) ?_ ?_
 ·
  refine VC.still jK jK ?_
  refine qM ?_
  refine qM ?_
  refine qE (Run.lenS rfl zf) ?_
  refine qE (Run.bin rfl rfl (Bin.lssN _ _)) ?_
  by_cases hs10 : n < l.length
  ·
   refine qM ?_
   refine qG (Run.mv rfl) ?_
   refine qG (Run.mv rfl) ?_
   refine qG (Run.index1 _ rfl rfl zf zd jo) ?_
   refine qG (Run.load rfl zg (hcell _ jo)) ?_
   refine qG (Run.mv rfl) ?_
   refine qG (Run.mv rfl) ?_
   refine qG (Run.index1 _ rfl rfl zf zd jo) ?_
   refine qG (Run.load rfl zg (hcell _ jo)) ?_
   refine qG (Run.bin rfl rfl (Bin.eqlN _ _)) ?_
   by_cases hs20 : l.getD n 0 = l.getD a 0
   ·
    refine qE (Run.pickT rfl rfl au) ?_
    refine qW.nil ?_
    refine jN ⟨(js4 (jC (by simp [*])) rfl rfl rfl), (hd.trans (qQ.drew _))⟩
   refine qE (Run.pickT rfl rfl au) ?_
   refine qW.nil ?_
   refine jN ⟨(js4 (jC (by simp [*])) rfl rfl rfl), (hd.trans (qQ.drew _))⟩
  refine qM ?_
  refine qU ?_
  refine qU ?_
  refine qU ?_
  refine qU ?_
  refine qU ?_
  refine qU ?_
  refine qU ?_
  refine qU ?_
  refine qU ?_
  refine qE (Run.pickF rfl rfl au) ?_
  refine qW.nil ?_
  refine jN ⟨(js4 (jC (by simp [*])) rfl rfl rfl), (hd.trans (qQ.drew _))⟩
 intro Γ wr2 hΓ hd2
 refine jN (VC.sub _ hΓ ?_)
 refine jD rfl (fun hc1 => ?_) fun hc1 => ?_
 ·
  refine jQ (jN (jv3 0 1 5 ?_))
  refine jB (jR (jm rfl (jb rfl rfl (Bin.add_i64 _ 1 jo) (ja rfl (jO ?_)))))
  refine qK (jN ⟨n + 1, (js3 rfl rfl rfl), ?_, ?_⟩)
  ·
   refine ⟨jo, jo, ?_, hd2⟩
   rw [hcn, xD hc1.1 hc1.2 jo, show l.length - (n + 1) = l.length - n - 1 by omega]
   omega
  first | omega | (dsimp only; omega)
 refine jX ?_
 refine qZ (qZ (qP ?_))
 refine jN (jv2 1 5 ?_)
 refine jS (jR (jm rfl (jm rfl (jb rfl rfl (Bin.sub_i64 _ _ jo jo) (ja rfl (jO (jN (jv1 4 ?_))))))))
 refine jT ?_
 refine qC rfl ?_
 refine ⟨?_, hd2⟩
 rw [hcn, zY hc1]
 simp
theorem qMs (A : Option Addr) (c : Nat) (l : List Nat) (w : World) (hl : l.length = 19) (hr : Rd w 1 A l.length (NI l)) :
  Calls Tryz.prog 63 #[.slice A l.length c] w fun e w' => ∃ B d, e = .returned (.slice B (cU l).length d) ∧ Own w' 3 1 B (cU l).length d (NI (cU l)) ∧ Frm [] w w' ∧ ∀ x ∈ ob B, w.heap.size ≤ x := by
 obtain ⟨ad, hA, _, hadc⟩ := hr.2 jo
 subst hA
 refine VC.calls (nt := 19) (res := #[.tmp 2]) Tryz.func63 rfl Tryz.ntmps63 Tryz.results63 rfl ?_
 refine jS (jR (ja rfl (jO (jN (jv1 0 ?_)))))
 refine jS (jR (ja rfl (jO (jN (jS (jS (jR (je (Run.buildA (evs.cons rfl (evs.cons rfl (evs.cons rfl (evs.cons rfl (evs.cons rfl (evs.cons rfl (evs.cons rfl (evs.cons rfl (evs.cons rfl (evs.cons rfl (evs.cons rfl (evs.cons rfl (evs.cons rfl (evs.cons rfl (evs.cons rfl (evs.cons rfl (evs.cons rfl (evs.cons rfl (evs.cons rfl evs.nil))))))))))))))))))) oS zej zd (cells := (NI bQ).toArray) jK) ?_))))))))
 refine jx .i64 0 ?_
 refine jO (jN (jB ?_))
 refine VC.loop (σ := Nat × Option Addr × Nat) (fun s => [(0, .slice (some ad) l.length c), (3, .slice s.2.1 s.1 s.2.2), (6, .agg (NI bQ).toArray), (7, .int .i64 ((s.1 : Nat) : Int))]) (fun s wr => s.1 ≤ 19 ∧ Own wr 3 1 s.2.1 s.1 s.2.2 (NI ((cU l).take s.1)) ∧ Frm [] w wr ∧ ∀ x ∈ ob s.2.1, w.heap.size ≤ x) (fun s => 19 - s.1) (0, none, 0) (js4 rfl rfl rfl rfl) ⟨zas _, Own.nil _ _ _, Frm.refl _ _, by simp [ob]⟩ ?_
 rintro ⟨i, B, d⟩ wr ⟨hi, hO, K, hup⟩
 dsimp only at hi hO hup ⊢
 refine jS (jR (jb rfl rfl (Bin.lssN _ 19) (jO (jN (jS ?_)))))
 refine jD rfl (fun hc1 => ?_) fun hc1 => ?_
 ·
  have hcell : ∀ j, j < l.length → wr.cell? (ad.add j) = some (.int .i64 ((l.getD j 0 : Nat) : Int)) := fun j hj => by
   exact (K.cell (hadc j _ (jE l j hj)) jp)
  have hs19 : bQ.getD i 0 < 19 := by
   have h : ∀ i, i < 19 → bQ.getD i 0 < 19 := jd
   exact h i hc1
  have hot : (NI bQ).toArray[i]? = some (.int .i64 ((bQ.getD i 0 : Nat) : Int)) := by
   rw [zco]
   exact jE bQ i (by have e : bQ.length = 19 := rfl; omega)
  have hsn : (cU l).take (i + 1) = (cU l).take i ++ [l.getD (bQ.getD i 0) 0] := by
   have hlen : (cU l).length = 19 := by simp [cU, bQ]
   rw [zaj, za jo]
   congr 1
   have e : bQ.length = 19 := rfl
   simp [cU, zc, za (jo : i < bQ.length)]
  refine jQ (jN (jv4 0 3 6 7 ?_))
  refine jS (jB (jS (jR (je (Run.indexArr1 i rfl rfl zej zg zd rfl hot) (ja rfl (jO (jN (jv5 0 3 5 6 7 ?_))))))))
  refine jR (jm rfl (jm rfl (jm rfl (je (Run.index1 _ rfl rfl zf zd jo) (jl rfl zg (hcell _ jo) ?_)))))
  refine Ops.m (qJ.buildS1 rfl zf zd gF jd jd rfl rfl) rfl ?_
  rintro _ w1 ⟨rfl, hF1⟩
  have hO1 := hO.frm hF1.frm jp
  have hrd1 : Rd w1 1 (some ⟨wr.heap.size, 0, none⟩) 1 (NI [l.getD (bQ.getD i 0) 0]) := Rd.of_blk hF1.blk rfl
  refine Ops.m (qJ.app rfl rfl zf (fT) rfl jd hO1 hrd1 (gN _) jo jo) rfl ?_
  rintro _ w2 ⟨B2, d2, rfl, hO2, hf2, hob2⟩
  rw [← nF, ← hsn] at hO2
  refine ja rfl (jO ?_)
  refine qK (jN ?_)
  refine jv4 0 3 6 7 ?_
  refine jR (jb rfl rfl (Bin.add_i64 _ 1 jo) (jm rfl (jO ?_)))
  refine jN ⟨(i + 1, B2, d2), (js4 rfl rfl rfl rfl), ?_, ?_⟩
  · exact ⟨hc1, hO2, (K.trans hF1.frm jp).own hf2 hup, cO hup hob2 (by have := K.size; have := hF1.size; omega)⟩
  first | omega | (dsimp only; omega)
 refine jX ?_
 refine qZ (qZ (qP ?_))
 refine jN (jv1 3 ?_)
 refine jS (jR (jm rfl (ja rfl (jO (jN (jv1 2 ?_))))))
 refine jT ?_
 refine qC rfl ?_
 have ei : i = 19 := jo
 have hlen : (cU l).length = 19 := by simp [cU, bQ]
 rw [ei, zn jo] at hO
 rw [hlen]
 exact ⟨B, d, by rw [ei], hO, K, hup⟩
theorem qMt {l : List Nat} {a r : Nat} (h : runN l a = r) : bT l a = if l.getD a 0 = 0 ∧ 11 ≤ r then ((18, 7, min r 138 - 11), min r 138)
  else if l.getD a 0 = 0 ∧ 3 ≤ r then ((17, 3, min r 10 - 3), min r 10)
  else if 0 < a ∧ l.getD (a - 1) 0 = l.getD a 0 ∧ 3 ≤ r then ((16, 2, min r 6 - 3), min r 6)
  else ((l.getD a 0, 0, 0), 1) := by
 unfold bT
 rw [h]
def sdC (t : Sd) : List Value := [.int .i64 ((t.1 : Nat) : Int), .int .i64 ((t.2.1 : Nat) : Int), .int .i64 ((t.2.2 : Nat) : Int)]
def SDC (l : List Sd) : List Value := l.flatMap sdC
theorem mR (a b : List Sd) : SDC (a ++ b) = SDC a ++ SDC b := by simp [SDC]
theorem SDC_one (l : List Sd) : ∀ u ∈ SDC l, u.oneCell' = true := by
 intro u hu
 obtain ⟨t, _, ht⟩ := List.mem_flatMap.1 hu
 simp only [sdC, zcq, zcj, or_false] at ht
 rcases ht with rfl | rfl | rfl <;> rfl
theorem qSi (A : Option Addr) (c : Nat) (l : List Nat) (w : World) (hl : l.length ≤ 100000) (hr : Rd w 1 A l.length (NI l)) :
  Calls Tryz.prog 62 #[.slice A l.length c] w fun e w' => ∃ B d, e = .returned (.slice B (dL l 0).length d) ∧ Own w' 113 3 B (dL l 0).length d (SDC (dL l 0)) ∧ Frm [] w w' ∧ ∀ x ∈ ob B, w.heap.size ≤ x := by
 refine VC.calls (nt := 88) (res := #[.tmp 2]) Tryz.func62 rfl Tryz.ntmps62 Tryz.results62 rfl ?_
 refine jS (jR (ja rfl (jO (jN (jv1 0 ?_)))))
 refine jS (jR (ja rfl (jO (jN (jS (jS (jR (jz 0 (jO (jN (jB ?_)))))))))))
 refine VC.loop (σ := Nat × List Sd × Option Addr × Nat) (fun s => [(0, .slice A l.length c), (3, .slice s.2.2.1 s.2.1.length s.2.2.2), (4, .int .i64 ((s.1 : Nat) : Int))]) (fun s wr => s.1 ≤ l.length ∧ dL l 0 = s.2.1 ++ dL l s.1 ∧ s.2.1.length ≤ s.1 ∧ Own wr 113 3 s.2.2.1 s.2.1.length s.2.2.2 (SDC s.2.1) ∧ Frm [] w wr ∧ ∀ x ∈ ob s.2.2.1, w.heap.size ≤ x) (fun s => l.length - s.1) (0, [], none, 0) (js3 rfl rfl rfl) ⟨zas _, rfl, zk _, Own.nil _ _ _, Frm.refl _ _, by simp [ob]⟩ ?_
 rintro ⟨a, pre, B, d⟩ wr ⟨ha, hsp, hpl, hO, K, hup⟩
 dsimp only at ha hsp hpl hO hup ⊢
 refine jS (jS (jR (jm rfl (jm rfl (je (Run.lenS rfl zf) (jb rfl rfl (Bin.lssN _ _) (jO (jN (jv4 0 3 4 9 ?_)))))))))
 refine jD rfl (fun hc1 => ?_) fun hc1 => ?_
 ·
  refine jQ (jN (jv3 0 3 4 ?_))
  refine jB (jS (jR (jm rfl (jM ?_))))
  refine Ops.cl (jE2 Tryz.call98) (qSh A c a l wr jo hc1 (hr.frm K jp)) rfl ?_
  rintro e w1 ⟨rfl, hd1⟩
  refine ⟨_, rfl, ?_⟩
  have hO := hO.drawn hd1
  have K := K.drawn hd1
  have hrn := qKe (l := l) (a := a)
  have hrp := qXw hc1
  generalize hrv : runN l a = r at hrn hrp ⊢
  have hat := qMt hrv
  obtain ⟨ad, hA, _, hadc⟩ := (hr.frm K jp).2 jo
  subst hA
  have hcell : ∀ j, j < l.length → w1.cell? (ad.add j) = some (.int .i64 ((l.getD j 0 : Nat) : Int)) := fun j hj => hadc j _ (jE l j hj)
  refine ja rfl (jO (jN (jv4 0 3 4 5 ?_)))
  refine jS (jB (jS ?_))
  refine VC.split1 [(0, _), (3, _), (4, _), (5, _)] (js4 rfl rfl rfl rfl) 21 (.bool (decide (l.getD a 0 = 0 ∧ 11 ≤ r))) ?_ ?_
  ·
   refine jR ?_
   refine jm rfl (jm rfl (je (Run.index1 _ rfl rfl zf zd jo) (jl rfl zg (hcell _ hc1) (jb rfl rfl (Bin.eqlN _ 0) ?_))))
   by_cases hs26 : l.getD a 0 = 0
   ·
    refine jM ?_
    refine jG ?_
    refine jk (Run.bin rfl rfl (Bin.geqN _ 11)) ?_
    by_cases hs29 : 11 ≤ r
    ·
     refine je (Run.pickT rfl rfl au) (ja rfl (jO ?_))
     refine jN ⟨(js5 (jC (by first | exact decide_eq_decide.2 ⟨fun h => ⟨by assumption, h⟩, fun h => h.2⟩ | exact (decide_eq_false (fun h => absurd h.1 (by assumption))).symm)) rfl rfl rfl rfl), rfl⟩
    refine je (Run.pickT rfl rfl au) (ja rfl (jO ?_))
    refine jN ⟨(js5 (jC (by first | exact decide_eq_decide.2 ⟨fun h => ⟨by assumption, h⟩, fun h => h.2⟩ | exact (decide_eq_false (fun h => absurd h.1 (by assumption))).symm)) rfl rfl rfl rfl), rfl⟩
   refine jM ?_
   refine jU ?_
   refine jU ?_
   refine je (Run.pickF rfl rfl au) (ja rfl (jO ?_))
   refine jN ⟨(js5 (jC (by first | exact decide_eq_decide.2 ⟨fun h => ⟨by assumption, h⟩, fun h => h.2⟩ | exact (decide_eq_false (fun h => absurd h.1 (by assumption))).symm)) rfl rfl rfl rfl), rfl⟩
  intro Γ hΓ
  refine jN (VC.sub _ hΓ ?_)
  refine jD rfl (fun hc2 => ?_) fun hc2 => ?_
  ·
   have hs : bT l a = ((18, 7, min r 138 - 11), min r 138) := by rw [hat, if_pos hc2]
   refine jS (jR (jm rfl (je (Run.minI rfl rfl) ?_)))
   have em : (if (138 : Int) < ((r : Nat) : Int) then (138 : Int) else ((r : Nat) : Int)) = ((min r 138 : Nat) : Int) := by split <;> omega
   rw [em]
   refine ja rfl (jO (jN (jv4 0 3 4 5 ?_)))
   refine jR (jm rfl (jm rfl (jb rfl rfl (Bin.subZ _ 11 jo jo) ?_)))
   have es : (((min r 138 : Nat) : Int) - 11) = ((min r 138 - 11 : Nat) : Int) := jo
   rw [es]
   refine je (Run.build (evs.cons rfl (evs.cons rfl (evs.cons rfl evs.nil))) gZ (fG).choose_spec.1 (fG).choose_spec.2 rfl) ?_
   refine Ops.m (qJ.buildS1 rfl zch zdw gZ jd jd rfl rfl) rfl ?_
   rintro _ w2 ⟨rfl, hF2⟩
   have hO2 := hO.frm hF2.frm jp
   have hrd2 : Rd w2 3 (some ⟨_, 0, none⟩) 1 (SDC [(18, 7, min r 138 - 11)]) := Rd.of_blk (n := 1) (size := 3) hF2.blk rfl
   refine Ops.m (qJ.app rfl rfl zch (tB) rfl jd hO2 hrd2 (SDC_one _) jo jo) rfl ?_
   rintro _ w3 ⟨B3, d3, rfl, hO3, hf3, hob3⟩
   rw [← mR] at hO3
   have K3 := (K.trans hF2.frm jp).own hf3 hup
   have hup3 := cO hup hob3 (by have := K.size; have := hF2.size; omega)
   refine ja rfl (jO ?_)
   refine qK (jN ?_)
   refine jv4 0 3 4 5 ?_
   refine jR (jm rfl (jm rfl (jb rfl rfl (Bin.addZ _ _ jo jo) (ja rfl (jO ?_)))))
   refine qK (jN ⟨(a + min r 138, pre ++ [(18, 7, min r 138 - 11)], B3, d3), (js3 rfl (by rw [zb]; rfl) rfl), ?_, ?_⟩)
   ·
    refine ⟨by dsimp only; omega, ?_, by rw [zb]; simp only [zq, zct]; omega, by rw [zb]; exact hO3, K3, hup3⟩
    rw [hsp, lL hc1, hs]
    simp
   first | omega | (dsimp only; omega)
  refine jS ?_
  refine VC.split1 [(0, _), (3, _), (4, _), (5, _)] (js4 rfl rfl rfl rfl) 39 (.bool (decide (l.getD a 0 = 0 ∧ 3 ≤ r))) ?_ ?_
  ·
   refine jR ?_
   refine jm rfl (jm rfl (je (Run.index1 _ rfl rfl zf zd jo) (jl rfl zg (hcell _ hc1) (jb rfl rfl (Bin.eqlN _ 0) ?_))))
   by_cases hs44 : l.getD a 0 = 0
   ·
    refine jM ?_
    refine jG ?_
    refine jk (Run.bin rfl rfl (Bin.geqN _ 3)) ?_
    by_cases hs47 : 3 ≤ r
    ·
     refine je (Run.pickT rfl rfl au) (ja rfl (jO ?_))
     refine jN ⟨(js5 (jC (by first | exact decide_eq_decide.2 ⟨fun h => ⟨by assumption, h⟩, fun h => h.2⟩ | exact (decide_eq_false (fun h => absurd h.1 (by assumption))).symm)) rfl rfl rfl rfl), rfl⟩
    refine je (Run.pickT rfl rfl au) (ja rfl (jO ?_))
    refine jN ⟨(js5 (jC (by first | exact decide_eq_decide.2 ⟨fun h => ⟨by assumption, h⟩, fun h => h.2⟩ | exact (decide_eq_false (fun h => absurd h.1 (by assumption))).symm)) rfl rfl rfl rfl), rfl⟩
   refine jM ?_
   refine jU ?_
   refine jU ?_
   refine je (Run.pickF rfl rfl au) (ja rfl (jO ?_))
   refine jN ⟨(js5 (jC (by first | exact decide_eq_decide.2 ⟨fun h => ⟨by assumption, h⟩, fun h => h.2⟩ | exact (decide_eq_false (fun h => absurd h.1 (by assumption))).symm)) rfl rfl rfl rfl), rfl⟩
  intro Γ hΓ
  refine jN (VC.sub _ hΓ ?_)
  refine jD rfl (fun hc3 => ?_) fun hc3 => ?_
  ·
   have hs : bT l a = ((17, 3, min r 10 - 3), min r 10) := by rw [hat, if_neg hc2, if_pos hc3]
   refine jS (jR (jm rfl (je (Run.minI rfl rfl) ?_)))
   have em : (if (10 : Int) < ((r : Nat) : Int) then (10 : Int) else ((r : Nat) : Int)) = ((min r 10 : Nat) : Int) := by split <;> omega
   rw [em]
   refine ja rfl (jO (jN (jv4 0 3 4 5 ?_)))
   refine jR (jm rfl (jm rfl (jb rfl rfl (Bin.subZ _ 3 jo jo) ?_)))
   have es : (((min r 10 : Nat) : Int) - 3) = ((min r 10 - 3 : Nat) : Int) := jo
   rw [es]
   refine je (Run.build (evs.cons rfl (evs.cons rfl (evs.cons rfl evs.nil))) gZ (fG).choose_spec.1 (fG).choose_spec.2 rfl) ?_
   refine Ops.m (qJ.buildS1 rfl zch zdw gZ jd jd rfl rfl) rfl ?_
   rintro _ w2 ⟨rfl, hF2⟩
   have hO2 := hO.frm hF2.frm jp
   have hrd2 : Rd w2 3 (some ⟨_, 0, none⟩) 1 (SDC [(17, 3, min r 10 - 3)]) := Rd.of_blk (n := 1) (size := 3) hF2.blk rfl
   refine Ops.m (qJ.app rfl rfl zch (tB) rfl jd hO2 hrd2 (SDC_one _) jo jo) rfl ?_
   rintro _ w3 ⟨B3, d3, rfl, hO3, hf3, hob3⟩
   rw [← mR] at hO3
   have K3 := (K.trans hF2.frm jp).own hf3 hup
   have hup3 := cO hup hob3 (by have := K.size; have := hF2.size; omega)
   refine ja rfl (jO ?_)
   refine qK (jN ?_)
   refine jv4 0 3 4 5 ?_
   refine jR (jm rfl (jm rfl (jb rfl rfl (Bin.addZ _ _ jo jo) (ja rfl (jO ?_)))))
   refine qK (jN ⟨(a + min r 10, pre ++ [(17, 3, min r 10 - 3)], B3, d3), (js3 rfl (by rw [zb]; rfl) rfl), ?_, ?_⟩)
   ·
    refine ⟨by dsimp only; omega, ?_, by rw [zb]; simp only [zq, zct]; omega, by rw [zb]; exact hO3, K3, hup3⟩
    rw [hsp, lL hc1, hs]
    simp
   first | omega | (dsimp only; omega)
  refine jS ?_
  refine VC.splitR [(0, .slice (some ad) l.length c), (3, .slice B pre.length d), (4, .int .i64 ((a : Nat) : Int)), (5, .int .i64 ((r : Nat) : Int))] (qQ w1) 57 (.bool (decide (0 < a ∧ l.getD (a - 1) 0 = l.getD a 0 ∧ 3 ≤ r))) ?_ ?_
  ·
   refine VC.still jK jK ?_
   refine qM ?_
   refine qE (Run.bin rfl rfl (Bin.gtrN _ 0)) ?_
   by_cases hs59 : 0 < a
   ·
    refine qM ?_
    refine qG (Run.mv rfl) ?_
    refine qG (Run.mv rfl) ?_
    refine qG (Run.bin rfl rfl (Bin.sub_i64 _ 1 jo jo)) ?_
    refine qG (Run.index1 _ rfl rfl zf zd jo) ?_
    refine qG (Run.load rfl zg (hcell _ jo)) ?_
    refine qG (Run.mv rfl) ?_
    refine qG (Run.mv rfl) ?_
    refine qG (Run.index1 _ rfl rfl zf zd jo) ?_
    refine qG (Run.load rfl zg (hcell _ hc1)) ?_
    refine qG (Run.bin rfl rfl (Bin.eqlN _ _)) ?_
    by_cases hs70 : l.getD (a - 1) 0 = l.getD a 0
    ·
     refine qE (Run.pickT rfl rfl au) ?_
     refine qM ?_
     refine qG (Run.mv rfl) ?_
     refine qG (Run.bin rfl rfl (Bin.geqN _ 3)) ?_
     by_cases hs74 : 3 ≤ r
     ·
      refine qE (Run.pickT rfl rfl au) ?_
      refine qA ?_
      refine qW.nil ?_
      refine jN ⟨(js5 (jC (by first | exact decide_eq_decide.2 ⟨fun h => ⟨by assumption, by assumption, h⟩, fun h => h.2.2⟩ | exact (decide_eq_false (fun h => absurd h.1 (by assumption))).symm | exact (decide_eq_false (fun h => absurd h.2.1 (by assumption))).symm)) rfl rfl rfl rfl), (qQ.drew _)⟩
     refine qE (Run.pickT rfl rfl au) ?_
     refine qA ?_
     refine qW.nil ?_
     refine jN ⟨(js5 (jC (by first | exact decide_eq_decide.2 ⟨fun h => ⟨by assumption, by assumption, h⟩, fun h => h.2.2⟩ | exact (decide_eq_false (fun h => absurd h.1 (by assumption))).symm | exact (decide_eq_false (fun h => absurd h.2.1 (by assumption))).symm)) rfl rfl rfl rfl), (qQ.drew _)⟩
    refine qE (Run.pickT rfl rfl au) ?_
    refine qM ?_
    refine qU ?_
    refine qU ?_
    refine qE (Run.pickF rfl rfl au) ?_
    refine qA ?_
    refine qW.nil ?_
    refine jN ⟨(js5 (jC (by first | exact decide_eq_decide.2 ⟨fun h => ⟨by assumption, by assumption, h⟩, fun h => h.2.2⟩ | exact (decide_eq_false (fun h => absurd h.1 (by assumption))).symm | exact (decide_eq_false (fun h => absurd h.2.1 (by assumption))).symm)) rfl rfl rfl rfl), (qQ.drew _)⟩
   refine qM ?_
   refine qU ?_
   refine qU ?_
   refine qU ?_
   refine qU ?_
   refine qU ?_
   refine qU ?_
   refine qU ?_
   refine qU ?_
   refine qU ?_
   refine qU ?_
   refine qE (Run.pickF rfl rfl au) ?_
   refine qM ?_
   refine qU ?_
   refine qU ?_
   refine qE (Run.pickF rfl rfl au) ?_
   refine qA ?_
   refine qW.nil ?_
   refine jN ⟨(js5 (jC (by first | exact decide_eq_decide.2 ⟨fun h => ⟨by assumption, by assumption, h⟩, fun h => h.2.2⟩ | exact (decide_eq_false (fun h => absurd h.1 (by assumption))).symm | exact (decide_eq_false (fun h => absurd h.2.1 (by assumption))).symm)) rfl rfl rfl rfl), (qQ.drew _)⟩
  intro Γ w9 hΓ hd9
  refine jN (VC.sub _ hΓ ?_)
  refine jD rfl (fun hc4 => ?_) fun hc4 => ?_
  ·
   have hs : bT l a = ((16, 2, min r 6 - 3), min r 6) := by rw [hat, if_neg hc2, if_neg hc3, if_pos hc4]
   have hO := hO.drawn hd9
   have K := K.drawn hd9
   refine jS (jR (jm rfl (je (Run.minI rfl rfl) ?_)))
   have em : (if (6 : Int) < ((r : Nat) : Int) then (6 : Int) else ((r : Nat) : Int)) = ((min r 6 : Nat) : Int) := by split <;> omega
   rw [em]
   refine ja rfl (jO (jN (jv4 0 3 4 5 ?_)))
   refine jR (jm rfl (jm rfl (jb rfl rfl (Bin.subZ _ 3 jo jo) ?_)))
   have es : (((min r 6 : Nat) : Int) - 3) = ((min r 6 - 3 : Nat) : Int) := jo
   rw [es]
   refine je (Run.build (evs.cons rfl (evs.cons rfl (evs.cons rfl evs.nil))) gZ (fG).choose_spec.1 (fG).choose_spec.2 rfl) ?_
   refine Ops.m (qJ.buildS1 rfl zch zdw gZ jd jd rfl rfl) rfl ?_
   rintro _ w2 ⟨rfl, hF2⟩
   have hO2 := hO.frm hF2.frm jp
   have hrd2 : Rd w2 3 (some ⟨_, 0, none⟩) 1 (SDC [(16, 2, min r 6 - 3)]) := Rd.of_blk (n := 1) (size := 3) hF2.blk rfl
   refine Ops.m (qJ.app rfl rfl zch (tB) rfl jd hO2 hrd2 (SDC_one _) jo jo) rfl ?_
   rintro _ w3 ⟨B3, d3, rfl, hO3, hf3, hob3⟩
   rw [← mR] at hO3
   have K3 := (K.trans hF2.frm jp).own hf3 hup
   have hup3 := cO hup hob3 (by have := K.size; have := hF2.size; omega)
   refine ja rfl (jO ?_)
   refine qK (jN ?_)
   refine jv4 0 3 4 5 ?_
   refine jR (jm rfl (jm rfl (jb rfl rfl (Bin.addZ _ _ jo jo) (ja rfl (jO ?_)))))
   refine qK (jN ⟨(a + min r 6, pre ++ [(16, 2, min r 6 - 3)], B3, d3), (js3 rfl (by rw [zb]; rfl) rfl), ?_, ?_⟩)
   ·
    refine ⟨by dsimp only; omega, ?_, by rw [zb]; simp only [zq, zct]; omega, by rw [zb]; exact hO3, K3, hup3⟩
    rw [hsp, lL hc1, hs]
    simp
   first | omega | (dsimp only; omega)
  have hs : bT l a = ((l.getD a 0, 0, 0), 1) := by rw [hat, if_neg hc2, if_neg hc3, if_neg hc4]
  have hO := hO.drawn hd9
  have K := K.drawn hd9
  have hcell2 : ∀ j, j < l.length → w9.cell? (ad.add j) = some (.int .i64 ((l.getD j 0 : Nat) : Int)) := fun j hj => by
   obtain ⟨m, rfl⟩ := hd9
   exact hcell j hj
  refine jS (jR (jz 1 (jO (jN (jv4 0 3 4 5 ?_)))))
  refine jR (jm rfl (jm rfl (jm rfl (je (Run.index1 _ rfl rfl zf zd jo) (jl rfl zg ((hcell2 _ hc1)) (je (Run.build (evs.cons rfl (evs.cons rfl (evs.cons rfl evs.nil))) gZ (fG).choose_spec.1 (fG).choose_spec.2 rfl) ?_))))))
  refine Ops.m (qJ.buildS1 rfl zch zdw gZ jd jd rfl rfl) rfl ?_
  rintro _ w2 ⟨rfl, hF2⟩
  have hO2 := hO.frm hF2.frm jp
  have hrd2 : Rd w2 3 (some ⟨_, 0, none⟩) 1 (SDC [(l.getD a 0, 0, 0)]) := Rd.of_blk (n := 1) (size := 3) hF2.blk rfl
  refine Ops.m (qJ.app rfl rfl zch (tB) rfl jd hO2 hrd2 (SDC_one _) jo jo) rfl ?_
  rintro _ w3 ⟨B3, d3, rfl, hO3, hf3, hob3⟩
  rw [← mR] at hO3
  have K3 := (K.trans hF2.frm jp).own hf3 hup
  have hup3 := cO hup hob3 (by have := K.size; have := hF2.size; omega)
  refine ja rfl (jO ?_)
  refine qK (jN ?_)
  refine jv4 0 3 4 5 ?_
  refine jR (jm rfl (jm rfl (jb rfl rfl (Bin.add_i64 _ _ jo) (ja rfl (jO ?_)))))
  refine qK (jN ⟨(a + 1, pre ++ [(l.getD a 0, 0, 0)], B3, d3), (js3 rfl (by rw [zb]; rfl) rfl), ?_, ?_⟩)
  ·
   refine ⟨by dsimp only; omega, ?_, by rw [zb]; simp only [zq, zct]; omega, by rw [zb]; exact hO3, K3, hup3⟩
   rw [hsp, lL hc1, hs]
   simp
  first | omega | (dsimp only; omega)
 refine jX ?_
 refine qZ (qZ (qP ?_))
 refine jN (jv1 3 ?_)
 refine jS (jR (jm rfl (ja rfl (jO (jN (jv1 2 ?_))))))
 refine jT ?_
 refine qC rfl ?_
 have ea : a = l.length := jo
 have et : dL l 0 = pre := by rw [hsp, qXy jo, zcz]
 rw [et]
 exact ⟨B, d, rfl, hO, K, hup⟩
end
section
open Go.RowKit
def dE (c : List Nat) (t : Tk) : List Nat := if t.2.1 = 0 then c.set t.1 (c.getD t.1 0 + 1) else c.set (257 + lenS t.2.1) (c.getD (257 + lenS t.2.1) 0 + 1)
def eN (c : List Nat) (t : Tk) : List Nat := if t.2.1 = 0 then c else c.set (wayS t.2.2) (c.getD (wayS t.2.2) 0 + 1)
def pF : List Nat := (List.replicate 286 0).set 256 1
def cA (l : List Tk) : List Nat := l.foldl dE pF
def eW (l : List Tk) : List Nat := l.foldl eN (List.replicate 30 0)
theorem qY6 (l : List Tk) (t : Tk) : cA (l ++ [t]) = dE (cA l) t := by unfold cA; rw [zfw]; rfl
theorem qY7 (l : List Tk) (t : Tk) : eW (l ++ [t]) = eN (eW l) t := by unfold eW; rw [zfw]; rfl
theorem litStep_len (c : List Nat) (t : Tk) : (dE c t).length = c.length := by unfold dE; split <;> rw [zci]
theorem wayStep_len (c : List Nat) (t : Tk) : (eN c t).length = c.length := by
 unfold eN
 split
 · rfl
 rw [zci]
theorem qMu (l : List Tk) : ∀ c : List Nat, (l.foldl dE c).length = c.length := by
 induction l with
 | nil => exact fun _ => rfl
 | cons t l ih => intro c; rw [zdy, ih, litStep_len]
theorem qMv (l : List Tk) : ∀ c : List Nat, (l.foldl eN c).length = c.length := by
 induction l with
 | nil => exact fun _ => rfl
 | cons t l ih => intro c; rw [zdy, ih, wayStep_len]
theorem dW (l : List Tk) : (cA l).length = 286 := by unfold cA pF; rw [qMu, zci, zba]
theorem eQ (l : List Tk) : (eW l).length = 30 := by unfold eW; rw [qMv, zba]
theorem wU {c : List Nat} {i n : Nat} (h : ∀ x ∈ c, x ≤ n) : ∀ x ∈ c.set i (c.getD i 0 + 1), x ≤ n + 1 := by
 intro x hx
 rcases zfd hx with h1 | h1
 · have := h x h1; omega
 subst h1
 have : c.getD i 0 ≤ n := by
  rw [zc]
  cases hc : c[i]? with
  | none => exact zas _
  | some y => exact h y (zcw hc)
 omega
theorem qSj (l : List Tk) : ∀ (c : List Nat) (n : Nat), (∀ x ∈ c, x ≤ n) → ∀ x ∈ l.foldl dE c, x ≤ n + l.length := by
 induction l with
 | nil => exact fun _ _ h => h
 | cons t l ih =>
  intro c n h x hx
  have h2 : ∀ x ∈ dE c t, x ≤ n + 1 := by
   unfold dE
   split
   · exact wU h
   exact wU h
  have := ih _ (n + 1) h2 x hx
  rw [zq]
  omega
theorem qSk (l : List Tk) : ∀ (c : List Nat) (n : Nat), (∀ x ∈ c, x ≤ n) → ∀ x ∈ l.foldl eN c, x ≤ n + l.length := by
 induction l with
 | nil => exact fun _ _ h => h
 | cons t l ih =>
  intro c n h x hx
  have h2 : ∀ x ∈ eN c t, x ≤ n + 1 := by
   unfold eN
   split
   · exact fun x hx => Nat.le_succ_of_le (h x hx)
   exact wU h
  have := ih _ (n + 1) h2 x hx
  rw [zq]
  omega
theorem qKf (l : List Tk) : ∀ x ∈ cA l, x ≤ 1 + l.length := qSj l pF 1 (fun x hx => by
 rcases zfd hx with h1 | h1
 · rw [zfi h1]; omega
 omega)
theorem qKg (l : List Tk) : ∀ x ∈ eW l, x ≤ 0 + l.length := qSk l _ 0 (fun x hx => by rw [zfi hx]; omega)
def SyC (a b : List Nat) : Array Value := (NI a ++ NI b).toArray
theorem qX0 (a : List Nat) (i x : Nat) : NI (a.set i x) = (NI a).set i (.int .i64 ((x : Nat) : Int)) := by simp [NI, List.map_set]
theorem eX (a b : List Nat) : (SyC a b).size = a.length + b.length := by simp [SyC, NI]
theorem xE {a b : List Nat} {i : Nat} (h : i < a.length) (x : Nat) : (SyC a b).setIfInBounds i (.int .i64 ((x : Nat) : Int)) = SyC (a.set i x) b := by
 unfold SyC
 rw [qX0, List.setIfInBounds_toArray, List.set_append_left _ _ (by simpa [NI] using h)]
theorem qP1 {a b : List Nat} {i : Nat} (x : Nat) : (SyC a b).setIfInBounds (a.length + i) (.int .i64 ((x : Nat) : Int)) = SyC a (b.set i x) := by
 unfold SyC
 have e : (NI a).length = a.length := by simp [NI]
 rw [qX0, List.setIfInBounds_toArray, List.set_append_right _ _ (by rw [e]; omega), e, zdd]
theorem zH {a b : List Nat} {i : Nat} (h : i < a.length) : (SyC a b)[i]? = some (.int .i64 ((a.getD i 0 : Nat) : Int)) := by
 unfold SyC
 rw [zco, zaf (by simpa [NI] using h)]
 exact jE a i h
theorem qY8 {a b : List Nat} {i : Nat} (h : i < b.length) : (SyC a b)[a.length + i]? = some (.int .i64 ((b.getD i 0 : Nat) : Int)) := by
 unfold SyC
 have e : (NI a).length = a.length := by simp [NI]
 rw [zco, zah (by rw [e]; omega), e, zdd]
 exact jE b i h
theorem tI {c : List Nat} {n : Nat} (h : ∀ x ∈ c, x ≤ n) (i : Nat) : c.getD i 0 ≤ n := by
 rw [zc]
 cases hc : c[i]? with
 | none => exact zas _
 | some y => exact h y (zcw hc)
def rep (n : Nat) : List Nat := List.replicate n 0
theorem qX1 (w : World) : (zeroValue 103).run Tryz.prog w = .ok (.agg (SyC (rep 286) (rep 30))) w := by
 simp only [zeroValue, Sem.run_bind, Tryz.typeInfo103, Result.andThen_ok]; rfl
theorem qKh (a b : List Nat) : ∀ v ∈ (SyC a b).toList, v.oneCell' = true := by
 intro v hv
 rcases List.mem_append.1 (show v ∈ NI a ++ NI b by simpa [SyC] using hv) with h | h
 · exact gN a v h
 exact gN b v h
theorem qMw (Bt : Option Addr) (ct : Nat) (lt : List Tk) (w : World) (hlt : ∀ t ∈ lt, pU t) (hll : lt.length ≤ 1000000) (hot : Own w 132 3 Bt lt.length ct (TC lt)) :
  Calls Tryz.prog 58 #[.slice Bt lt.length ct] w fun e w' => e = .returned (.agg (SyC (cA lt) (eW lt))) ∧ Frm [] w w' := by
 refine VC.calls (nt := 61) (res := #[.cell 2 103]) Tryz.func58 rfl Tryz.ntmps58 Tryz.results58 rfl ?_
 refine jS (jR ?_)
 refine Ops.m (qJ.alloc qX1) rfl ?_
 rintro _ w1 ⟨rfl, hF1⟩
 have hb2 : Blk w1 w.heap.size 103 (SyC (rep 286) (rep 30)) := hF1.blk
 have hgs := hF1.size
 refine jO (jN (jS (jR ?_)))
 refine Ops.m (qJ.alloc qX1) rfl ?_
 rintro _ w2 ⟨rfl, hF2⟩
 have hb2 := hb2.frm hF2.frm jp
 have hb3 : Blk w2 w1.heap.size 103 (SyC (rep 286) (rep 30)) := hF2.blk
 have K := hF1.frm.trans hF2.frm jp
 have hot := (hot.frm hF1.frm jp).frm hF2.frm jp
 generalize hg2 : w.heap.size = g2 at *
 generalize hg3 : w1.heap.size = g3 at *
 refine jO (jN (jS (jR (jf rfl zdc rfl zgc (je (Run.indexA1 256 rfl rfl zew zd jo) ?_)))))
 refine Ops.st (qR.store rfl rfl zd hb3 (by rw [zed, eX]; simp [rep]) rfl) ?_
 rintro w3 ⟨hb3n, hf3, hs3⟩
 have hb3 : Blk w3 g3 103 (SyC (cA (lt.take 0)) (eW (lt.take 0))) := by
  have e := xE (a := rep 286) (b := rep 30) (i := 256) (by simp [rep]) 1
  have e2 : (SyC (rep 286) (rep 30)).setIfInBounds 256 (.int .i64 ((1 : Nat) : Int)) = SyC (cA (lt.take 0)) (eW (lt.take 0)) := e
  rw [← e2]
  exact hb3n
 have hb2 := hb2.frm hf3 (by simp; omega)
 have K := K.own hf3 (by simp; omega)
 have hot := hot.frm hf3 (fun x hx hx2 => by rw [zh] at hx2; subst hx2; exact hot.ne_blk hF2.blk jd (hg3 ▸ hx))
 refine jO (jN (jv3 0 2 3 ?_))
 refine jS (jS (jR (jm rfl (je (Run.lenS rfl zdx) ?_))))
 refine jx .i64 0 ?_
 refine jO (jN (jv5 2 3 14 15 16 ?_))
 refine jB ?_
 refine VC.loop (σ := Nat) (fun s => [(2, .pointer (some ⟨g2, 0, none⟩)), (3, .pointer (some ⟨g3, 0, none⟩)), (14, .slice Bt lt.length ct), (15, .int .i64 ((lt.length : Nat) : Int)), (16, .int .i64 ((s : Nat) : Int))]) (fun s wr => s ≤ lt.length ∧ Blk wr g3 103 (SyC (cA (lt.take s)) (eW (lt.take s))) ∧ Blk wr g2 103 (SyC (rep 286) (rep 30)) ∧ Own wr 132 3 Bt lt.length ct (TC lt) ∧ Frm [] w wr) (fun s => lt.length - s) 0 (js5 rfl rfl rfl rfl rfl) ⟨zas _, hb3, hb2, hot, K⟩ ?_
 rintro i wr ⟨hi, hb3, hb2, hot, K⟩
 refine jS (jR (jb rfl rfl (Bin.lssN _ _) (jO (jN (jS ?_)))))
 refine jD rfl (fun hc1 => ?_) fun hc1 => ?_
 ·
  obtain ⟨ad, rfl, hel⟩ := hot.rd.elem hc1
  rw [qV0 lt i hc1] at hel
  have hsn := vK hc1
  have hqok := hlt (lt.getD i (0, 0, 0)) (by rw [zc, za hc1]; exact zw hc1)
  generalize lt.getD i (0, 0, 0) = q at hel hsn hqok
  have hll1 := dW (lt.take i)
  have hwl1 := eQ (lt.take i)
  have hle1 := qKf (lt.take i)
  have hle2 := qKg (lt.take i)
  rw [zi, zbb hi] at hle1 hle2
  have hl1 := qY6 (lt.take i) q
  have hl2 := qY7 (lt.take i) q
  rw [← hsn] at hl1 hl2
  generalize cA (lt.take i) = cl at *
  generalize eW (lt.take i) = cw at *
  refine jQ (jN (jv5 2 3 14 15 16 ?_))
  refine jS (jB (jS (jR (je (Run.indexS _ rfl rfl zdx zen jo) (je (Run.loadA rfl Tryz.isAgg132 zen hel (by first | rfl | (simp; done))) ?_)))))
  refine Ops.m (qJ.alloc mA) rfl ?_
  rintro _ w4 ⟨rfl, hF4⟩
  have hgl3 := hb3.lt
  have hgl2 := hb2.lt
  refine Ops.st (qR.storeA rfl rfl zen hF4.blk rfl (by intro v hv; exact TC_one [q] v (by simpa [TC] using hv))) ?_
  rintro w5 ⟨hb11, hf5, hs5⟩
  have hf45 : Frm [] wr w5 := hF4.frm.own hf5 jp
  have hb3 := hb3.frm hf45 jp
  have hb2 := hb2.frm hf45 jp
  have hot := hot.frm hf45 jp
  have K := K.trans hf45 jp
  refine jO (jN (jv6 2 3 5 14 15 16 ?_))
  refine jS (jS (jR (jf rfl zdb rfl zd (jl rfl zg (hb11.cell 1) (jb rfl rfl (Bin.eqlN _ 0) (jO (jN (jv7 2 3 5 14 15 16 22 ?_))))))))
  refine jD rfl (fun hc2 => ?_) fun hc2 => ?_
  ·
   have hq8 : q.1 < 256 := by rcases hqok with ⟨_, _, h⟩ | ⟨_, h, _⟩ <;> omega
   have hv1 := tI hle1 q.1
   unfold dE at hl1
   rw [if_pos hc2] at hl1
   unfold eN at hl2
   rw [if_pos hc2] at hl2
   refine jS (jR (jf rfl zdb rfl zad (jl rfl zdn (hb11.cell 0) (jf rfl zdc rfl zgc (je (Run.indexA1 _ rfl rfl zew zd jo) (jl rfl zg ((hb3.cell _).trans (by rw [zan]; exact zH jo)) (jb rfl rfl (Bin.add_i64 _ 1 jo) (jf rfl zdc rfl zgc (je (Run.indexA1 _ rfl rfl zew zd jo) ?_)))))))))
   refine Ops.st (qR.store rfl rfl zd hb3 (by rw [zed, eX]; omega) rfl) ?_
   rintro w6 ⟨hb3n, hf6, hs6⟩
   rw [zan, xE jo, ← hl1, ← hl2] at hb3n
   refine jO (jN (jv5 2 3 14 15 16 ?_))
   refine jX ?_
   refine qZ (qP ?_)
   refine jN (jR (jb rfl rfl (Bin.add_i64 _ 1 jo) (jm rfl (jO ?_))))
   refine jN ⟨i + 1, (js5 rfl rfl rfl rfl rfl), ?_, ?_⟩
   · exact ⟨hc1, hb3n, hb2.frm hf6 (by simp; omega), hot.frm hf6 (fun x hx hx2 => by rw [zh] at hx2; subst hx2; exact hot.ne_blk hb3 jd hx), K.own hf6 (by simp; omega)⟩
   first | omega | (dsimp only; omega)
  obtain ⟨q1, q3, q4, q5, q6⟩ : q.1 = 0 ∧ 3 ≤ q.2.1 ∧ q.2.1 ≤ 258 ∧ 1 ≤ q.2.2 ∧ q.2.2 ≤ 32768 := by
   rcases hqok with ⟨h, _⟩ | h
   · exact absurd h hc2
   exact h
  have hlf := hZ q3 q4
  have hwf := jZ q5 q6
  have hv1 := tI hle1 (257 + lenS q.2.1)
  have hv2 := tI hle2 (wayS q.2.2)
  unfold dE at hl1
  rw [if_neg hc2] at hl1
  unfold eN at hl2
  rw [if_neg hc2] at hl2
  refine jQ (jN (jv6 2 3 5 14 15 16 ?_))
  refine jS (jR (jf rfl zdb rfl zd (jl rfl zg (hb11.cell 1) ?_)))
  refine Ops.cl (jE1 Tryz.call93) (qXu _ _ q3 q4) rfl ?_
  rintro e w6 ⟨rfl, hf6⟩
  refine ⟨_, rfl, ?_⟩
  have hb3 := hb3.frm hf6 jp
  have hb2 := hb2.frm hf6 jp
  have hb11 := hb11.frm hf6 jp
  have hot := hot.frm hf6 jp
  have K := K.trans hf6 jp
  refine jm rfl (je (Run.extract rfl rfl) (je (Run.extract rfl rfl) (je (Run.extract rfl rfl) (ja rfl (ja rfl (ja rfl (jO (jN (jv7 2 3 5 6 14 15 16 ?_)))))))))
  refine jS (jR (jf rfl zdb rfl zd (jl rfl zg (hb11.cell 2) ?_)))
  refine Ops.cl (jE1 Tryz.call94) (qXv _ _ q5 q6) rfl ?_
  rintro e w7 ⟨rfl, hf7⟩
  refine ⟨_, rfl, ?_⟩
  have hb3 := hb3.frm hf7 jp
  have hb2 := hb2.frm hf7 jp
  have hot := hot.frm hf7 jp
  have K := K.trans hf7 jp
  refine jm rfl (je (Run.extract rfl rfl) (je (Run.extract rfl rfl) (je (Run.extract rfl rfl) (ja rfl (ja rfl (ja rfl (jO (jN (jv7 2 3 6 9 14 15 16 ?_)))))))))
  refine jS (jR (jm rfl (jf rfl zdc rfl zgc (je (Run.indexA1 _ rfl rfl zew zd jo) (jl rfl zg ((hb3.cell _).trans (by rw [zan]; exact zH jo)) (jb rfl rfl (Bin.add_i64 _ 1 jo) (jf rfl zdc rfl zgc (je (Run.indexA1 _ rfl rfl zew zd jo) ?_))))))))
  refine Ops.st (qR.store rfl rfl zd hb3 (by rw [zed, eX]; omega) rfl) ?_
  rintro w8 ⟨hb3n, hf8, hs8⟩
  rw [zan, xE jo, ← hl1] at hb3n
  have hll3 : (cA (lt.take (i + 1))).length = 286 := dW _
  refine jO (jN (jv6 2 3 9 14 15 16 ?_))
  refine jR (jm rfl (jf rfl zdc rfl Tryz.sizeOf101 (je (Run.indexA1 _ rfl rfl Tryz.underlying101 zd jo) (jl rfl zg ((hb3n.cell (286 + wayS q.2.2)).trans (by rw [show 286 + wayS q.2.2 = (cA (lt.take (i + 1))).length + wayS q.2.2 by rw [hll3]]; exact qY8 jo)) (jb rfl rfl (Bin.add_i64 _ 1 jo) (jf rfl zdc rfl Tryz.sizeOf101 (je (Run.indexA1 _ rfl rfl Tryz.underlying101 zd jo) ?_)))))))
  refine Ops.st (qR.store (i := 286 + wayS q.2.2) rfl rfl zd hb3n (by rw [zed, eX]; omega) rfl) ?_
  rintro w9 ⟨hb3m, hf9, hs9⟩
  rw [show 286 + wayS q.2.2 = (cA (lt.take (i + 1))).length + wayS q.2.2 by rw [hll3], qP1, ← hl2] at hb3m
  refine jO ?_
  refine qK (jN ?_)
  refine jv5 2 3 14 15 16 ?_
  refine jR (jb rfl rfl (Bin.add_i64 _ 1 jo) (jm rfl (jO ?_)))
  refine jN ⟨i + 1, (js5 rfl rfl rfl rfl rfl), ?_, ?_⟩
  ·
   have hot8 := hot.frm hf8 (fun x hx hx2 => by rw [zh] at hx2; subst hx2; exact hot.ne_blk hb3 jd hx)
   exact ⟨hc1, hb3m, (hb2.frm hf8 (by simp; omega)).frm hf9 (by simp; omega), hot8.frm hf9 (fun x hx hx2 => by rw [zh] at hx2; subst hx2; exact hot8.ne_blk hb3n jd hx), (K.own hf8 (by simp; omega)).own hf9 (by simp; omega)⟩
  first | omega | (dsimp only; omega)
 refine jX ?_
 refine qZ (qZ (qP ?_))
 refine jN (jv2 2 3 ?_)
 refine jS (jR (je (Run.loadB rfl Tryz.isAgg103 Tryz.sizeOf103 hb3 (by rw [eX, dW, eQ])) ?_))
 refine Ops.st (qR.storeA rfl rfl (fun w => by rw [eX, dW, eQ]; exact Tryz.sizeOf103 w) hb2 (by rw [eX, eX, dW, eQ]; simp [rep]) (qKh _ _)) ?_
 rintro w10 ⟨hb2n, hf10, hs10⟩
 have ei : i = lt.length := jo
 subst ei
 rw [zbl] at hb2n
 refine jO (jN (jv1 2 ?_))
 refine jT ?_
 refine lJ ?_
 refine eF rfl Tryz.isAgg103 Tryz.sizeOf103 hb2n (by rw [eX, dW, eQ]) ?_
 refine eM ?_
 exact ⟨rfl, K.own hf10 (by simp; omega)⟩
end
section
def sw (k : Nat → Nat) (i j : Nat) : Nat → Nat := fun x => if x = i then k j else if x = j then k i else k x
def eK (k : Nat → Nat) (n : Nat) : Prop := ∀ i, 0 < i → i < n → k ((i - 1) / 2) ≤ k i
def pA (k : Nat → Nat) (j n : Nat) : Prop :=
 (∀ i, 0 < i → i < n → i ≠ j → k ((i - 1) / 2) ≤ k i) ∧ ∀ i, 0 < i → i < n → (i - 1) / 2 = j → 0 < j → k ((j - 1) / 2) ≤ k i
def lM (k : Nat → Nat) (j n : Nat) : Prop :=
 (∀ i, 0 < i → i < n → (i - 1) / 2 ≠ j → k ((i - 1) / 2) ≤ k i) ∧ ∀ i, 0 < i → i < n → (i - 1) / 2 = j → 0 < j → k ((j - 1) / 2) ≤ k i
theorem qX2 {k : Nat → Nat} {n : Nat} (h : eK k n) : pA k n (n + 1) :=
 ⟨fun i h0 hi hij => h i h0 jo, fun i h0 hi hp _ => jo⟩
theorem qY9 {k : Nat → Nat} {j n : Nat} (h : pA k j n) (hj : 0 < j) (hjn : j < n) (hlt : k j < k ((j - 1) / 2)) : pA (sw k ((j - 1) / 2) j) ((j - 1) / 2) n := by
 obtain ⟨h1, h2⟩ := h
 have hpj : (j - 1) / 2 < j := jo
 generalize hp : (j - 1) / 2 = p at *
 have hjp : ¬ j = p := jo
 constructor
 ·
  intro i h0 hi hip
  by_cases hij : i = j
  ·
   subst hij
   unfold sw
   rw [hp, if_pos rfl, if_neg hjp, if_pos rfl]
   omega
  by_cases hq : (i - 1) / 2 = p
  ·
   have := h1 i h0 hi hij
   unfold sw
   rw [hq] at this ⊢
   rw [if_pos rfl, if_neg hip, if_neg hij]
   omega
  by_cases hq2 : (i - 1) / 2 = j
  ·
   have := h2 i h0 hi hq2 hj
   unfold sw
   rw [hq2, if_neg hjp, if_pos rfl, if_neg hip, if_neg hij]
   omega
  have := h1 i h0 hi hij
  unfold sw
  rw [if_neg hq, if_neg hq2, if_neg hip, if_neg hij]
  omega
 intro i h0 hi hip hp0
 have hqp : (p - 1) / 2 < p := jo
 have hpp := h1 p hp0 jo jo
 by_cases hij : i = j
 ·
  subst hij
  unfold sw
  rw [if_neg jo, if_neg jo, if_neg hjp, if_pos rfl]
  exact hpp
 have h3 := h1 i h0 hi hij
 rw [hip] at h3
 unfold sw
 rw [if_neg jo, if_neg jo, if_neg jo, if_neg hij]
 omega
theorem qMx {k : Nat → Nat} {j n : Nat} (h : pA k j n) (hj : j = 0 ∨ ¬ k j < k ((j - 1) / 2)) : eK k n := by
 intro i h0 hi
 by_cases hij : i = j
 ·
  subst hij
  rcases hj with h3 | h3
  · omega
  omega
 exact h.1 i h0 hi hij
theorem qX3 {k : Nat → Nat} {n : Nat} (h : eK k (n + 1)) : lM (sw k 0 n) 0 n := by
 constructor
 ·
  intro i h0 hi hp
  have := h i h0 jo
  unfold sw
  rw [if_neg hp, if_neg jo, if_neg jo, if_neg jo]
  exact this
 intro i _ _ _ h0
 omega
theorem qGa {k : Nat → Nat} {i j n : Nat} (h : lM k i n) (hj : (j - 1) / 2 = i) (hj0 : 0 < j) (hjn : j < n) (hlt : k j < k i) (hmin : ∀ c, 0 < c → c < n → (c - 1) / 2 = i → k j ≤ k c) : lM (sw k i j) j n := by
 obtain ⟨h1, h2⟩ := h
 have hij : i < j := jo
 constructor
 ·
  intro c h0 hc hp
  by_cases hci : c = i
  ·
   subst hci
   have h3 := h2 j hj0 hjn hj h0
   unfold sw
   rw [if_neg jo, if_neg hp, if_pos rfl]
   omega
  by_cases hcj : c = j
  ·
   subst hcj
   unfold sw
   rw [hj, if_pos rfl, if_neg jo, if_pos rfl]
   omega
  by_cases hpi : (c - 1) / 2 = i
  ·
   have := hmin c h0 hc hpi
   unfold sw
   rw [hpi, if_pos rfl, if_neg hci, if_neg hcj]
   omega
  have := h1 c h0 hc hpi
  unfold sw
  rw [if_neg hpi, if_neg hp, if_neg hci, if_neg hcj]
  exact this
 intro c h0 hc hp hj1
 have h3 := h1 c h0 hc jo
 unfold sw
 rw [hj, if_pos rfl, if_neg jo, if_neg jo]
 rw [hp] at h3
 exact h3
theorem qX4 {k : Nat → Nat} {i n : Nat} (h : lM k i n) (hd : ∀ c, 0 < c → c < n → (c - 1) / 2 = i → k i ≤ k c) : eK k n := by
 intro c h0 hc
 by_cases hp : (c - 1) / 2 = i
 · rw [hp]; exact hd c h0 hc hp
 exact h.1 c h0 hc hp
theorem qMy {k : Nat → Nat} {n : Nat} (h : eK k n) : ∀ i, i < n → k 0 ≤ k i := by
 intro i
 induction i using Nat.strongRecOn with
 | _ i ih =>
  intro hi
  by_cases h0 : i = 0
  · subst h0; exact zk _
  have h1 := h i jo hi
  have h2 := ih ((i - 1) / 2) jo jo
  omega
end
section
open Go.RowKit
structure PkC where
 count : Nat
 A : Option Addr
 c : Nat
 sy : List Nat
def PkC.cells (p : PkC) : List Value := [.int .i64 ((p.count : Nat) : Int), .slice p.A p.sy.length p.c]
theorem PkC.cells_len (p : PkC) : p.cells.length = 2 := rfl
theorem PkC.one (p : PkC) : ∀ v ∈ p.cells, v.oneCell' = true := by
 intro v hv
 simp only [PkC.cells, zcq, zcj, or_false] at hv
 rcases hv with rfl | rfl <;> rfl
def PkC.zero : PkC := ⟨0, none, 0, []⟩
def PkC.key (p : PkC) : Nat := p.count * 1024 + p.sy.headD 0
def eS (w : World) (p : PkC) : Prop := Own w 3 1 p.A p.sy.length p.c (NI p.sy)
theorem eS.frm {w w' : World} {p : PkC} {S : List Nat} (h : eS w p) (k : Frm S w w') (hS : ∀ x ∈ ob p.A, x ∉ S) : eS w' p := Own.frm h k hS
def Pks (w : World) (A : Option Addr) (c : Nat) (ps : List PkC) : Prop := Own w 169 2 A ps.length c (ps.flatMap PkC.cells) ∧ ∀ p ∈ ps, eS w p
theorem Pks.frm {w w' : World} {A : Option Addr} {c : Nat} {ps : List PkC} {S : List Nat} (h : Pks w A c ps) (k : Frm S w w') (hA : ∀ x ∈ ob A, x ∉ S) (hS : ∀ p ∈ ps, ∀ x ∈ ob p.A, x ∉ S) : Pks w' A c ps :=
 ⟨h.1.frm k hA, fun p hp => (h.2 p hp).frm k (hS p hp)⟩
def kk (ps : List PkC) (x : Nat) : Nat := (ps.getD x PkC.zero).key
theorem qV1 (ps : List PkC) (x : Nat) (h : x < ps.length) : kk ps x = ps[x].key := by simp [kk, List.getD, za h]
def eO (ps : List PkC) (i j : Nat) : List PkC := (ps.set i (ps.getD j PkC.zero)).set j (ps.getD i PkC.zero)
theorem lO (ps : List PkC) (i j : Nat) : (eO ps i j).length = ps.length := by simp [eO]
theorem vG (ps : List PkC) (i j : Nat) (hi : i < ps.length) (hj : j < ps.length) : kk (eO ps i j) = sw (kk ps) i j := by
 funext x
 unfold kk eO sw
 simp only [List.getD, zek, zci]
 by_cases h1 : j = x
 ·
  subst h1
  by_cases h2 : j = i
  · subst h2; simp [hj, kk]
  simp [hj, h2, kk]
 have h1' : ¬ x = j := fun e => h1 e.symm
 by_cases h2 : i = x
 · subst h2; simp [hi, h1, kk]
 have h2' : ¬ x = i := fun e => h2 e.symm
 simp [h1, h2, h1', h2', kk]
open Classical in
theorem mS (ps : List PkC) (i j : Nat) (hi : i < ps.length) (hj : j < ps.length) : (eO ps i j).Perm ps := by
 rw [List.perm_iff_count]
 intro a
 unfold eO
 have e1 : ps.getD i PkC.zero = ps[i] := by simp [List.getD, za hi]
 have e2 : ps.getD j PkC.zero = ps[j] := by simp [List.getD, za hj]
 rw [e1, e2, List.count_set (by simpa using hj), List.count_set hi]
 have h1 : (if ps[i] == a then 1 else 0) ≤ ps.count a := by
  split
  ·
   rename_i h
   have := beq_iff_eq.1 h
   subst this
   exact List.count_pos_iff.2 (zw hi)
  exact zas _
 have h2 : ((ps.set i ps[j])[j]'(by simpa using hj)) = if i = j then ps[j] else ps[j] := by
  rw [List.getElem_set]
 rw [h2]
 simp only [ite_self]
 all_goals omega
theorem qSl (v : Value) (w : World) (args : Array Value) : (callMethod (.iface 208 v) "Push" args).run Tryz.prog w = .ok (.enter 167 (#[v] ++ args)) w := by kernel_rfl
theorem qN1 (v : Value) (w : World) (args : Array Value) : (callMethod (.iface 208 v) "Len" args).run Tryz.prog w = .ok (.enter 126 (#[v] ++ args)) w := by kernel_rfl
theorem qS1 (v : Value) (w : World) (args : Array Value) : (callMethod (.iface 208 v) "Pop" args).run Tryz.prog w = .ok (.enter 166 (#[v] ++ args)) w := by kernel_rfl
theorem qX5 {a : Addr} {v : Value} {w : World} (hc : w.cell? a = some v) (args : Array Value) : (callMethod (.iface 208 (.pointer (some a))) "Less" args).run Tryz.prog w = .ok (.enter 165 (#[v] ++ args)) w :=
 qQw (m := ((Tryz.prog.info? 208).bind fun i => i.methods.find? (·.name == "Less")).get jK) (i := (Tryz.prog.info? 208).get jK) jK jK jK jK zgu (rI zgl hc) Tryz.call165 args
theorem qX6 {a : Addr} {v : Value} {w : World} (hc : w.cell? a = some v) (args : Array Value) : (callMethod (.iface 208 (.pointer (some a))) "Swap" args).run Tryz.prog w = .ok (.enter 168 (#[v] ++ args)) w :=
 qQw (m := ((Tryz.prog.info? 208).bind fun i => i.methods.find? (·.name == "Swap")).get jK) (i := (Tryz.prog.info? 208).get jK) jK jK jK jK zgu (rI zgl hc) Tryz.call168 args
def IsC (w : World) (g : Nat) (A : Option Addr) (c : Nat) (ps : List PkC) : Prop := Blk w g 209 #[.slice A ps.length c] ∧ Pks w A c ps
theorem sF (g c : Nat) (A : Option Addr) (ps : List PkC) (w : World) (h : IsC w g A c ps) :
  Calls Tryz.prog 126 #[.pointer (some ⟨g, 0, none⟩)] w fun e w' => e = .returned (.int .i64 ((ps.length : Nat) : Int)) ∧ w = w' := by
 refine VC.calls (nt := 7) (res := #[.tmp 2]) Tryz.func126 rfl Tryz.ntmps126 Tryz.results126 rfl ?_
 refine jS (jR (jz 0 (jO (jN (jv1 0 ?_)))))
 refine jS (jR (jm rfl (je (Run.nilck rfl) (jl rfl zgl (h.1.cell 0) (je (Run.lenS rfl zav) (ja rfl (jO (jN (jv1 2 ?_)))))))))
 refine jT ?_
 refine qC rfl ?_
 exact ⟨rfl, rfl⟩
theorem pI (A : Option Addr) (c i j : Nat) (ps : List PkC) (w : World) (h : Pks w A c ps) (hi : i < ps.length) (hj : j < ps.length) (hs : ∀ p ∈ ps, ∃ s, p.sy = [s] ∧ s < 1024) :
  Calls Tryz.prog 165 #[.slice A ps.length c, .int .i64 ((i : Nat) : Int), .int .i64 ((j : Nat) : Int)] w fun e w' => e = .returned (.bool (decide (kk ps i < kk ps j))) ∧ qQ w w' := by
 rw [qV1 ps i hi, qV1 ps j hj]
 obtain ⟨ad, rfl, heli⟩ := h.1.rd.elem hi
 obtain ⟨ad2, had, helj⟩ := h.1.rd.elem hj
 obtain rfl : ad = ad2 := by injection had
 rw [dV PkC.cells 2 PkC.cells_len ps i hi] at heli
 rw [dV PkC.cells 2 PkC.cells_len ps j hj] at helj
 have hoi := h.2 _ (zw hi)
 have hoj := h.2 _ (zw hj)
 obtain ⟨si, hsi, hsil⟩ := hs _ (zw hi)
 obtain ⟨sj, hsj, hsjl⟩ := hs _ (zw hj)
 generalize ps[i] = pi at *
 generalize ps[j] = pj at *
 have hki : pi.key = pi.count * 1024 + si := by unfold PkC.key; rw [hsi]; rfl
 have hkj : pj.key = pj.count * 1024 + sj := by unfold PkC.key; rw [hsj]; rfl
 unfold eS at hoi hoj
 obtain ⟨ai, hai, hci⟩ := tF hoi.rd (k := 0) (by rw [hsi]; simp)
 obtain ⟨aj, haj, hcj⟩ := tF hoj.rd (k := 0) (by rw [hsj]; simp)
 have hci' : w.cell? (ai.add 0) = some (.int .i64 ((si : Nat) : Int)) := by rw [hci]; simp [hsi]
 have hcj' : w.cell? (aj.add 0) = some (.int .i64 ((sj : Nat) : Int)) := by rw [hcj]; simp [hsj]
 have hli : pi.sy.length = 1 := by rw [hsi]; rfl
 have hlj : pj.sy.length = 1 := by rw [hsj]; rfl
 have h1i : (PkC.cells pi)[1]? = some (.slice (some ai) 1 pi.c) := by simp [PkC.cells, hai, hli]
 have h1j : (PkC.cells pj)[1]? = some (.slice (some aj) 1 pj.c) := by simp [PkC.cells, haj, hlj]
 refine VC.calls (nt := 44) (res := #[.tmp 6]) Tryz.func165 rfl Tryz.ntmps165 Tryz.results165 rfl ?_
 refine jS (jR (ja rfl (jO (jN (jv3 0 1 2 ?_)))))
 refine jS (jS ?_)
 refine VC.still jK jK ?_
 refine qM ?_
 refine qM ?_
 refine qE (Run.indexS _ rfl rfl zav zv jo) ?_
 refine qE (Run.fieldAddr rfl zau rfl zd jd) ?_
 refine qE (Run.load rfl zg (heli 0 _ rfl)) ?_
 refine qM ?_
 refine qM ?_
 refine qE (Run.indexS _ rfl rfl zav zv jo) ?_
 refine qE (Run.fieldAddr rfl zau rfl zd jd) ?_
 refine qE (Run.load rfl zg (helj 0 _ rfl)) ?_
 refine qE (Run.bin rfl rfl (Bin.neqN _ _)) ?_
 refine qW.nil ?_
 refine jN (jv4 0 1 2 17 ?_)
 refine jD rfl (fun hc1 => ?_) fun hc1 => ?_
 ·
  refine jS ?_
  refine VC.still jK jK ?_
  refine qM ?_
  refine qM ?_
  refine qE (Run.indexS _ rfl rfl zav zv jo) ?_
  refine qE (Run.fieldAddr rfl zau rfl zd jd) ?_
  refine qE (Run.load rfl zg (heli 0 _ rfl)) ?_
  refine qM ?_
  refine qM ?_
  refine qE (Run.indexS _ rfl rfl zav zv jo) ?_
  refine qE (Run.fieldAddr rfl zau rfl zd jd) ?_
  refine qE (Run.load rfl zg (helj 0 _ rfl)) ?_
  refine qE (Run.bin rfl rfl (Bin.lssN _ _)) ?_
  refine qA ?_
  refine qW.nil ?_
  refine jN (jv1 6 ?_)
  refine jT ?_
  refine qN (qC rfl ?_)
  refine ⟨?_, (qQ.drew _).trans (qQ.drew _)⟩
  rw [hki, hkj]
  congr 2
  rw [decide_eq_decide]
  omega
 refine jQ (jN (jv3 0 1 2 ?_))
 refine jS ?_
 refine VC.still jK jK ?_
 refine qM ?_
 refine qM ?_
 refine qE (Run.indexS _ rfl rfl zav zv jo) ?_
 refine qE (Run.fieldAddr rfl zau rfl zay jd) ?_
 refine qE (Run.load rfl zbu (heli 1 _ h1i)) ?_
 refine qE (Run.index1 0 rfl rfl zf zd jo) ?_
 refine qE (Run.load rfl zg hci') ?_
 refine qM ?_
 refine qM ?_
 refine qE (Run.indexS _ rfl rfl zav zv jo) ?_
 refine qE (Run.fieldAddr rfl zau rfl zay jd) ?_
 refine qE (Run.load rfl zbu (helj 1 _ h1j)) ?_
 refine qE (Run.index1 0 rfl rfl zf zd jo) ?_
 refine qE (Run.load rfl zg hcj') ?_
 refine qE (Run.bin rfl rfl (Bin.lssN _ _)) ?_
 refine qA ?_
 refine qW.nil ?_
 refine jN (jv1 6 ?_)
 refine jT ?_
 refine qC rfl ?_
 refine ⟨?_, (qQ.drew _).trans (qQ.drew _)⟩
 rw [hki, hkj]
 congr 2
 rw [decide_eq_decide]
 omega
theorem qX7 (ps : List PkC) (i : Nat) (h : i < ps.length) : ps.getD i PkC.zero = ps[i] := by simp [List.getD, za h]
theorem Pks.ne {w : World} {A : Option Addr} {c : Nat} {ps : List PkC} (h : Pks w A c ps) : ∀ p ∈ ps, ∀ x ∈ ob p.A, x ∉ ob A := fun p hp => (h.2 p hp).ne_own h.1 jd
theorem IsC.lt {w : World} {g c : Nat} {A : Option Addr} {ps : List PkC} (h : IsC w g A c ps) : g < w.heap.size := h.1.lt
theorem IsC.neA {w : World} {g c : Nat} {A : Option Addr} {ps : List PkC} (h : IsC w g A c ps) : g ∉ ob A := h.2.1.ne_blk h.1 jd
theorem IsC.neP {w : World} {g c : Nat} {A : Option Addr} {ps : List PkC} (h : IsC w g A c ps) : ∀ p ∈ ps, g ∉ ob p.A := fun p hp => (h.2.2 p hp).ne_blk h.1 jd
theorem pL (A : Option Addr) (c i j : Nat) (ps : List PkC) (w : World) (h : Pks w A c ps) (hi : i < ps.length) (hj : j < ps.length) :
  Calls Tryz.prog 168 #[.slice A ps.length c, .int .i64 ((i : Nat) : Int), .int .i64 ((j : Nat) : Int)] w fun e w' => e = .returned (.tuple #[]) ∧ Pks w' A c (eO ps i j) ∧ Frm (ob A) w w' := by
 have hpm := mS ps i j hi hj
 have hsl := lO ps i j
 unfold eO at hpm hsl ⊢
 rw [qX7 ps i hi, qX7 ps j hj] at hpm hsl ⊢
 obtain ⟨ad, rfl, heli⟩ := h.1.rd.elem hi
 obtain ⟨ad2, had, helj⟩ := h.1.rd.elem hj
 obtain rfl : ad = ad2 := by injection had
 rw [dV PkC.cells 2 PkC.cells_len ps i hi] at heli
 rw [dV PkC.cells 2 PkC.cells_len ps j hj] at helj
 generalize ps[i] = pi at *
 generalize ps[j] = pj at *
 refine VC.calls (nt := 20) (res := #[]) Tryz.func168 rfl Tryz.ntmps168 Tryz.results168 rfl ?_
 refine VC.held (fun _ => True) jK ?_
 refine jH 0 rfl trivial (fun w0 hw0 => Run.mv rfl) ?_
 refine jH 1 rfl trivial (fun w0 hw0 => Run.mv rfl) ?_
 refine jH 2 rfl trivial (fun w0 hw0 => Run.mv rfl) ?_
 refine jH 3 rfl trivial (fun w0 hw0 => Run.mv rfl) ?_
 refine jH 4 rfl trivial (fun w0 hw0 => Run.mv rfl) ?_
 refine jH 5 rfl trivial (fun w0 hw0 => Run.mv rfl) ?_
 refine jH 6 rfl trivial (fun w0 hw0 => Run.indexS _ rfl rfl zav zv jo) ?_
 refine jH 8 rfl trivial (fun w0 hw0 => Run.mv rfl) ?_
 refine jH 9 rfl trivial (fun w0 hw0 => Run.mv rfl) ?_
 refine jH 10 rfl trivial (fun w0 hw0 => Run.indexS _ rfl rfl zav zv jo) ?_
 refine qV.r2 7 11 rfl rfl jK jK jK jK trivial rfl rfl (Run.loadA rfl zdk zv helj (by first | rfl | (simp; done))) (Run.loadA rfl zdk zv heli (by first | rfl | (simp; done))) (Run.loadA rfl zdk zv heli (by first | rfl | (simp; done))) (Run.loadA rfl zdk zv helj (by first | rfl | (simp; done))) rfl rfl rfl rfl rfl ?_
 refine jH 12 rfl trivial (fun w0 hw0 => Run.indexS _ rfl rfl zav zv jo) ?_
 refine qV.st 13 rfl jK (qR.storeOwnA PkC.cells pj i rfl rfl zv PkC.cells_len rfl (h.1.drawn (qQ.drew _)) rfl hi (PkC.one _)) trivial rfl ?_
 rintro w3 ⟨ho3, hf3, hs3⟩
 refine ⟨trivial, ?_⟩
 refine jH 14 rfl trivial (fun w0 hw0 => Run.indexS _ rfl rfl zav zv jo) ?_
 refine qV.st 15 rfl jK (qR.storeOwnA PkC.cells pi j rfl rfl zv PkC.cells_len jp ho3 rfl hj (PkC.one _)) trivial rfl ?_
 rintro w4 ⟨ho4, hf4, hs4⟩
 refine ⟨trivial, ?_⟩
 refine qV.done jK ?_
 refine eV ?_
 have hf := ((qQ.drew w).frm.mono (T := ob (some ad)) jp).trans (hf3.trans hf4 (fun x hx => .inl hx)) (fun x hx => .inl hx)
 refine ⟨rfl, ⟨?_, fun p hp => ?_⟩, hf⟩
 · rw [hsl]; exact ho4
 have hp2 := hpm.mem_iff.1 hp
 exact (h.2 p hp2).frm hf (h.ne p hp2)
theorem qV2 (g c : Nat) (A : Option Addr) (ps : List PkC) (p : PkC) (w : World) (h : IsC w g A c ps) (hp : eS w p) (hl : ps.length ≤ 1000000) :
  Calls Tryz.prog 167 #[.pointer (some ⟨g, 0, none⟩), .iface 169 (.agg p.cells.toArray)] w fun e w' => e = .returned (.tuple #[]) ∧ ∃ A' c', IsC w' g A' c' (ps ++ [p]) ∧ Frm (g :: ob A) w w' ∧ ∀ x ∈ ob A', x ∈ ob A ∨ w.heap.size ≤ x := by
 refine VC.calls (nt := 13) (res := #[]) Tryz.func167 rfl Tryz.ntmps167 Tryz.results167 rfl ?_
 refine VC.held (fun _ => True) jK ?_
 refine jH 0 rfl trivial (fun w0 hw0 => Run.mv rfl) ?_
 refine jH 1 rfl trivial (fun w0 hw0 => Run.mv rfl) ?_
 refine jH 2 rfl trivial (fun w0 hw0 => Run.nilck rfl) ?_
 refine jH 4 rfl trivial (fun w0 hw0 => Run.mv rfl) ?_
 refine jH 5 rfl trivial (fun w0 hw0 => Run.assertT rfl zau rfl) ?_
 refine qV.rm 3 6 (l2 := [3, 6]) rfl rfl jK jp jp jK jK jK trivial rfl rfl (Run.load rfl zgl (h.1.cell 0)) (qJ.buildS1 rfl zav zv fV jd jd rfl rfl) (qJ.buildS1 rfl zav zv fV jd jd rfl rfl) (fun v w2 hR => ⟨trivial, Run.load rfl zgl (((h.1.drawn (qQ.drew _)).frm hR.2.frm jp).cell 0)⟩) rfl rfl rfl rfl rfl ?_
 rintro _ w1 ⟨rfl, hF1⟩
 have hd := qQ.drew w
 have hb1 := (h.1.drawn hd).frm hF1.frm jp
 have ho1 := (h.2.1.drawn hd).frm hF1.frm jp
 have hrd : Rd w1 2 (some ⟨w.drew.heap.size, 0, none⟩) 1 p.cells := Rd.of_blk (n := 1) (size := 2) hF1.blk rfl
 refine qV.m 7 rfl jK (qJ.app rfl rfl zav (oT) rfl jd ho1 hrd p.one jo jo) trivial rfl rfl ?_
 rintro _ w2 ⟨A2, c2, rfl, ho2, hf2, hob2⟩
 refine ⟨trivial, ?_⟩
 have hb2 := hb1.frm hf2 h.neA
 refine jH 8 rfl trivial (fun w0 hw0 => Run.nilck rfl) ?_
 refine qV.st 9 rfl jK (qR.store rfl rfl Tryz.sizeOf209 hb2 rfl rfl) trivial rfl ?_
 rintro w3 ⟨hb3, hf3, hs3⟩
 refine ⟨trivial, ?_⟩
 refine qV.done jK ?_
 refine eV ?_
 have hsz : w.heap.size ≤ w.drew.heap.size := zk _
 have h1s := hF1.frm.size
 have F1 : Frm [] w w1 := hd.frm.own hF1.frm jp
 have hf : Frm (g :: ob A) w w3 := ((F1.mono (T := g :: ob A) jp).trans hf2 (fun x hx => .inl (by simp [hx]))).trans hf3 (fun x hx => .inl (by simp at hx; simp [hx]))
 have hl2 : (ps ++ [p]).length = ps.length + 1 := zb
 have hg2 : g ∉ ob A2 := ho2.ne_blk hb2 jd
 refine ⟨rfl, A2, c2, ⟨?_, ?_, ?_⟩, hf, ?_⟩
 · rw [hl2]; exact hb3
 ·
  rw [hl2, zaa]
  have := ho2.frm hf3 (fun x hx hx2 => by simp at hx2; subst hx2; exact hg2 hx)
  simpa using this
 ·
  intro q hq
  rcases List.mem_append.1 hq with hq | hq
  ·
   refine (h.2.2 q hq).frm hf (fun x hx hx2 => ?_)
   rcases zcq.1 hx2 with h5 | h5
   · subst h5; exact h.neP q hq hx
   exact h.2.ne q hq x hx h5
  simp at hq
  subst hq
  refine hp.frm hf (fun x hx hx2 => ?_)
  rcases zcq.1 hx2 with h5 | h5
  · subst h5; exact hp.ne_blk h.1 jd hx
  exact hp.ne_own h.2.1 jd x hx h5
 intro x hx
 rcases hob2 with h5 | h5 <;> rw [h5] at hx
 · exact .inl hx
 simp at hx; subst hx; exact .inr (zo hsz h1s)
theorem qGb (ps : List PkC) (p : PkC) (i : Nat) (h : i < ps.length) : kk (ps ++ [p]) i = kk ps i := by simp [kk, List.getD, zaf h]
theorem zM (A : Option Addr) (c sz : Nat) : cP A c 0 sz = A := by
 unfold cP
 split
 · rfl
 cases A with
 | none => rfl
 | some a => simp [yG]
theorem Own.shrink {w : World} {e size n cap m : Nat} {A : Option Addr} {xs : List Value} (h : Own w e size A n cap xs) (hm : m ≤ n) : Own w e size A m cap (xs.take (m * size)) := by
 have hmn : m * size ≤ n * size := zcv _ hm
 rcases h.cases with ⟨rfl, rfl, rfl, rfl⟩ | ⟨g, cur, rfl, hb, h1, h2, h3, h4⟩
 ·
  have : m = 0 := jo
  subst this
  simpa using Own.nil w e size
 refine ⟨?_, .inr ⟨g, cap, cur, rfl, zas _, hb, jo, h2, h3, ?_⟩⟩
 · rw [zi, h.1]; omega
 rw [← h4, zga, zbb hmn]
theorem qMz (j : Nat) (hj : j ≤ 9223372036854775807) : Bin .quo .i64 ((j : Int) - 1) .i64 2 (.int .i64 (((j - 1) / 2 : Nat) : Int)) := by
 rcases zcg j with h | h
 ·
  subst h
  intro P T w
  rfl
 have e : (j : Int) - 1 = ((j - 1 : Nat) : Int) := jo
 rw [e]
 exact Bin.quo_i64 (j - 1) 2 jo jo
def One (ps : List PkC) : Prop := ∀ p ∈ ps, ∃ s, p.sy = [s] ∧ s < 1024
theorem One.perm {ps qs : List PkC} (h : One ps) (hp : qs.Perm ps) : One qs := fun p hq => h p (hp.mem_iff.1 hq)
theorem IsC.drawn {w w' : World} {g c : Nat} {A : Option Addr} {ps : List PkC} (h : IsC w g A c ps) (k : qQ w w') : IsC w' g A c ps := ⟨h.1.drawn k, h.2.frm k.frm jp (fun _ _ _ _ => jp)⟩
theorem qGc (g c : Nat) (A : Option Addr) (qs : List PkC) (p : PkC) (w : World) (h : IsC w g A c (qs ++ [p])) (hl : qs.length ≤ 1000000) :
  Calls Tryz.prog 166 #[.pointer (some ⟨g, 0, none⟩)] w fun e w' => e = .returned (.iface 169 (.agg p.cells.toArray)) ∧ IsC w' g A c qs ∧ eS w' p ∧ Frm [g] w w' := by
 have hle : (qs ++ [p]).length = qs.length + 1 := zb
 obtain ⟨ad, rfl, hel⟩ := h.2.1.rd.elem (k := qs.length) jo
 rw [dV PkC.cells 2 PkC.cells_len (qs ++ [p]) qs.length jo] at hel
 have hget : (qs ++ [p])[qs.length]'jo = p := jp
 rw [hget] at hel
 have h1 := h.1
 rw [hle] at h1
 have hcap := h.2.1.le
 rw [hle] at hcap
 refine VC.calls (nt := 23) (res := #[.tmp 2]) Tryz.func166 rfl Tryz.ntmps166 Tryz.results166 rfl ?_
 refine jS (jR (ja rfl (jO (jN (jv1 0 ?_)))))
 refine jS (jR (jm rfl (je (Run.nilck rfl) (jl rfl zgl (h1.cell 0) (ja rfl (jO (jN (jv2 0 3 ?_))))))))
 refine jS (jR (jm rfl (jm rfl (je (Run.lenS rfl zav) (jb rfl rfl (Bin.sub_i64 _ 1 jo jo) (je (Run.indexS _ rfl rfl zav zv jo) (je (Run.loadA rfl zdk zv hel (by first | rfl | (simp; done))) ?_)))))))
 refine Ops.m (qJ.alloc fV) rfl ?_
 rintro _ w1 ⟨rfl, hF1⟩
 have hb1 := hF1.blk
 refine Ops.st (qR.storeA rfl rfl zv hb1 rfl p.one) ?_
 rintro w2 ⟨hb2, hf2, hs2⟩
 have hg1 := (h1.frm hF1.frm jp).frm hf2 (by have := h1.lt; simp; omega)
 refine jO (jN (jv3 0 3 4 ?_))
 refine jS (jR (jm rfl (jm rfl (jm rfl (je (Run.lenS rfl zav) (jb rfl rfl (Bin.sub_i64 _ 1 jo jo) (je (Run.sliceS 0 _ rfl zav zv evB.none_ (evB.some_ rfl) jo jo) ?_)))))))
 rw [zM, zcn, zcn]
 refine je (Run.nilck rfl) ?_
 refine Ops.st (qR.store rfl rfl Tryz.sizeOf209 hg1 rfl rfl) ?_
 rintro w3 ⟨hb3, hf3, hs3⟩
 have hb23 := hb2.frm hf3 (by have := h1.lt; simp; omega)
 refine jO (jN (jv1 4 ?_))
 refine jS (jR (je (Run.loadA rfl zdk zv hb23.cells (by first | rfl | (simp; done))) (je (Run.mkIface rfl zau rfl) (ja rfl (jO (jN (jv1 2 ?_)))))))
 refine jT ?_
 refine qC rfl ?_
 have hlt := h1.lt
 have hf : Frm [g] w w3 := ((hF1.frm.mono (T := [g]) jp).trans hf2 (fun x hx => .inr (by simp at hx; omega))).trans hf3 (fun x hx => .inl hx)
 have hno : ∀ q ∈ qs ++ [p], ∀ x ∈ ob q.A, x ∉ [g] := fun q hq x hx hx2 => by simp at hx2; subst hx2; exact h.neP q hq hx
 refine ⟨rfl, ⟨by simpa using hb3, ?_, fun q hq => (h.2.2 q (by simp [hq])).frm hf (hno q (by simp [hq]))⟩, (h.2.2 p jp).frm hf (hno p jp), hf⟩
 have ho := (h.2.1.frm hf (fun x hx hx2 => by simp at hx2; subst hx2; exact h.neA hx)).shrink (m := qs.length) jo
 have e : ((qs ++ [p]).flatMap PkC.cells).take (qs.length * 2) = qs.flatMap PkC.cells := by
  rw [zaa, zbs (by rw [pV PkC.cells 2 PkC.cells_len]; exact zk _), zn (by rw [pV PkC.cells 2 PkC.cells_len]; exact zk _)]
 rw [e] at ho
 exact ho
theorem qM0 (g c j : Nat) (A : Option Addr) (ps : List PkC) (w : World) (h : IsC w g A c ps) (hl : ps.length ≤ 1000000) (hj : j < ps.length) (hu : pA (kk ps) j ps.length) (h1 : One ps) :
  Calls Tryz.prog 141 #[.iface 208 (.pointer (some ⟨g, 0, none⟩)), .int .i64 ((j : Nat) : Int)] w fun e w' => e = .returned (.tuple #[]) ∧ ∃ qs, qs.Perm ps ∧ eK (kk qs) ps.length ∧ IsC w' g A c qs ∧ Frm (ob A) w w' := by
 refine VC.calls (nt := 23) (res := #[]) Tryz.func141 rfl Tryz.ntmps141 Tryz.results141 rfl ?_
 refine jB ?_
 refine VC.loop (σ := Nat × List PkC) (fun s => [(0, .iface 208 (.pointer (some ⟨g, 0, none⟩))), (1, .int .i64 ((s.1 : Nat) : Int))]) (fun s wr => s.1 < ps.length ∧ s.2.Perm ps ∧ pA (kk s.2) s.1 ps.length ∧ IsC wr g A c s.2 ∧ Frm (ob A) w wr) (fun s => s.1) (j, ps) (js2 rfl rfl) ⟨hj, List.Perm.refl _, hu, h, Frm.refl _ _⟩ ?_
 clear hu h hj
 rintro ⟨j, qs⟩ wr ⟨hj, hp, hu, h, hfr⟩
 dsimp only at hj hp hu h hfr ⊢
 have h1q := h1.perm hp
 have hlq := hp.length_eq
 refine jB (jS (jR (jm rfl (jb rfl rfl (Bin.subZ _ 1 jo jo) (jb rfl rfl (qMz j jo) (ja rfl (jO (jN (jv3 0 1 4 ?_)))))))))
 refine jS (jS ?_)
 refine VC.splitR [(0, .iface 208 (.pointer (some ⟨g, 0, none⟩))), (1, .int .i64 ((j : Nat) : Int)), (4, .int .i64 (((j - 1) / 2 : Nat) : Int))] (fun w1 => qQ wr w1) 17 (.bool (decide ((j - 1) / 2 = j ∨ ¬ kk qs j < kk qs ((j - 1) / 2)))) ?_ ?_
 ·
  refine jR ?_
  refine jm rfl (jm rfl (jb rfl rfl (Bin.eql _ _) ?_))
  by_cases hs10 : (j - 1) / 2 = j
  ·
   refine jM ?_
   refine jU ?_
   refine jU ?_
   refine jU ?_
   refine jU ?_
   refine jU ?_
   refine je (Run.pickT rfl rfl au) (jO ?_)
   refine jN ⟨(js4 (jC (by simp [*])) rfl rfl rfl), (by first | assumption | exact qQ.refl _)⟩
  refine jM ?_
  refine jG ?_
  refine jG ?_
  refine jG ?_
  refine Ops.clg rfl au (bW.inv rfl (evs.cons rfl (evs.cons rfl evs.nil)) (qX5 (h.1.cell 0))) (pI A c j ((j - 1) / 2) qs _ h.2 jo jo h1q) rfl ?_
  rintro e w4 ⟨rfl, hd4⟩
  refine ⟨_, rfl, ?_⟩
  by_cases hs15 : kk qs j < kk qs ((j - 1) / 2)
  ·
   refine jk (Run.not rfl) ?_
   refine je (Run.pickF rfl rfl au) (jO ?_)
   refine jN ⟨(js4 (jC (by simp [*])) rfl rfl rfl), (by first | assumption | exact qQ.refl _)⟩
  refine jk (Run.not rfl) ?_
  refine je (Run.pickF rfl rfl au) (jO ?_)
  refine jN ⟨(js4 (jC (by simp [*])) rfl rfl rfl), (by first | assumption | exact qQ.refl _)⟩
 intro Γ w5 hΓ hd5
 refine jN (VC.sub _ hΓ ?_)
 refine jD rfl (fun hc1 => ?_) fun hc1 => ?_
 ·
  have hheap := qMx hu (by rcases hc1 with h5 | h5; exact .inl jo; exact .inr h5)
  refine jX ?_
  refine qZ (pJ rfl (qZ (qP ?_)))
  refine eV ?_
  exact ⟨rfl, qs, hp, hheap, h.drawn hd5, hfr.drawn hd5⟩
 have hj0 : 0 < j := by
  rcases zcg j with h5 | h5
  · exact absurd (.inl jo) hc1
  exact h5
 have hlt : kk qs j < kk qs ((j - 1) / 2) := by
  rcases zgs (kk qs j) (kk qs ((j - 1) / 2)) with h5 | h5
  · exact h5
  exact absurd (.inr jo) hc1
 have h5 := h.drawn hd5
 refine jQ (jN (jv3 0 1 4 ?_))
 refine jS (jR (jm rfl (jm rfl (jM ?_))))
 refine Ops.cl (bW.inv rfl (evs.cons rfl (evs.cons rfl evs.nil)) (qX6 (h5.1.cell 0))) (pL A c ((j - 1) / 2) j qs _ h5.2 jo jo) rfl ?_
 rintro e w6 ⟨rfl, hP6, hf6⟩
 refine ⟨_, rfl, ?_⟩
 have hb6 := h5.1.frm hf6 h5.neA
 refine jO (jN (jv2 0 4 ?_))
 refine jR (jm rfl (ja rfl (jO ?_)))
 refine qK (jN ⟨((j - 1) / 2, eO qs ((j - 1) / 2) j), (js2 rfl rfl), ?_, ?_⟩)
 ·
  refine ⟨by dsimp only; omega, (mS qs _ _ jo jo).trans hp, ?_, ⟨by rw [lO]; exact hb6, hP6⟩, (hfr.drawn hd5).trans hf6 (fun x hx => .inl hx)⟩
  dsimp only
  rw [vG qs _ _ jo jo]
  exact qY9 hu hj0 hj hlt
 first | omega | (dsimp only; omega)
theorem qV3 (ps : List PkC) (i j n : Nat) (hi : i < n) (hj : j < n) : (eO ps i j).drop n = ps.drop n := by
 unfold eO
 rw [List.drop_set_of_lt hj, List.drop_set_of_lt hi]
theorem qV4 (g c n : Nat) (A : Option Addr) (ps : List PkC) (w : World) (h : IsC w g A c ps) (hl : ps.length ≤ 1000000) (hn : n ≤ ps.length) (hu : lM (kk ps) 0 n) (h1 : One ps) :
  Calls Tryz.prog 142 #[.iface 208 (.pointer (some ⟨g, 0, none⟩)), .int .i64 ((0 : Nat) : Int), .int .i64 ((n : Nat) : Int)] w fun e w' => (∃ b, e = .returned (.bool b)) ∧ ∃ qs, qs.Perm ps ∧ eK (kk qs) n ∧ qs.drop n = ps.drop n ∧ IsC w' g A c qs ∧ Frm (ob A) w w' := by
 refine VC.calls (nt := 48) (res := #[.tmp 6]) Tryz.func142 rfl Tryz.ntmps142 Tryz.results142 rfl ?_
 refine jS (jR (ja rfl (jO (jN (jv3 0 1 2 ?_)))))
 refine jS (jR (jm rfl (ja rfl (jO (jN (jv4 0 1 2 7 ?_))))))
 refine jS (jB ?_)
 refine VC.loop (σ := Nat × List PkC) (fun s => [(0, .iface 208 (.pointer (some ⟨g, 0, none⟩))), (1, .int .i64 ((0 : Nat) : Int)), (2, .int .i64 ((n : Nat) : Int)), (7, .int .i64 ((s.1 : Nat) : Int))]) (fun s wr => s.1 ≤ n ∧ s.2.Perm ps ∧ lM (kk s.2) s.1 n ∧ s.2.drop n = ps.drop n ∧ IsC wr g A c s.2 ∧ Frm (ob A) w wr) (fun s => n - s.1) (0, ps) (js4 rfl rfl rfl rfl) ⟨by dsimp only; omega, List.Perm.refl _, hu, rfl, h, Frm.refl _ _⟩ ?_
 clear hu h
 rintro ⟨i, qs⟩ wr ⟨hi, hp, hu, hdr, h, hfr⟩
 dsimp only at hi hp hu hdr h hfr ⊢
 have h1q := h1.perm hp
 have hlq := hp.length_eq
 refine jB (jS (jR (jm rfl (jb rfl rfl (Bin.mul_i64 2 _ jo) (jb rfl rfl (Bin.add_i64 _ 1 jo) (ja rfl (jO (jN (jv5 0 1 2 7 8 ?_)))))))))
 refine jS (jS ?_)
 refine VC.split1 [(0, _), (1, _), (2, _), (7, _), (8, _)] (js5 rfl rfl rfl rfl rfl) 21 (.bool (decide ((n ≤ 2 * i + 1) ∨ (2 * i + 1 < 0)))) ?_ ?_
 ·
  by_cases hs0 : n ≤ 2 * i + 1
  ·
   refine jR (jm rfl (jm rfl (jb rfl rfl (Bin.geqN _ _) (jM ?_))))
   refine jU ?_
   refine jU ?_
   refine je (Run.pickT rfl rfl au) (jO ?_)
   refine jN ⟨(js6 (by rw [qQt hs0]; rfl) rfl rfl rfl rfl rfl), rfl⟩
  refine jR (jm rfl (jm rfl (jb rfl rfl (Bin.geqN _ _) (jM ?_))))
  refine jG ?_
  refine jk (Run.bin rfl rfl (Bin.lssN _ 0)) ?_
  refine je (Run.pickF rfl rfl au) (jO ?_)
  refine jN ⟨(js6 (by rw [qQu hs0]; rfl) rfl rfl rfl rfl rfl), rfl⟩
 intro Γ hΓ
 refine jN (VC.sub _ hΓ ?_)
 refine jD rfl (fun hc1 => ?_) fun hc1 => ?_
 ·
  have hheap : eK (kk qs) n := qX4 hu (fun c h0 hc hpc => jo)
  refine jX ?_
  refine qZ (pJ rfl (qZ (qP ?_)))
  refine jN (jv2 1 7 ?_)
  refine jS (jR (jm rfl (jm rfl (jb rfl rfl (Bin.gtrN _ _) (ja rfl (jO (jN (jv1 6 ?_))))))))
  refine jT ?_
  refine qC rfl ?_
  exact ⟨⟨_, rfl⟩, qs, hp, hheap, hdr, h, hfr⟩
 refine jQ (jN (jv5 0 1 2 7 8 ?_))
 refine jS (jR (jm rfl (ja rfl (jO (jN (jv6 0 1 2 7 8 9 ?_))))))
 refine jS (jS (jR (jm rfl (jb rfl rfl (Bin.add_i64 _ 1 jo) (ja rfl (jO (jN (jv7 0 1 2 7 8 9 10 ?_))))))))
 refine jS ?_
 refine VC.splitR [(0, .iface 208 (.pointer (some ⟨g, 0, none⟩))), (1, .int .i64 ((0 : Nat) : Int)), (2, .int .i64 ((n : Nat) : Int)), (7, .int .i64 ((i : Nat) : Int)), (9, .int .i64 ((2 * i + 1 : Nat) : Int)), (10, .int .i64 ((2 * i + 1 + 1 : Nat) : Int))] (fun w1 => qQ wr w1) 33 (.bool (decide (2 * i + 1 + 1 < n ∧ kk qs (2 * i + 1 + 1) < kk qs (2 * i + 1)))) ?_ ?_
 ·
  refine jR ?_
  refine jm rfl (jm rfl (jb rfl rfl (Bin.lssN _ _) ?_))
  by_cases hs27 : 2 * i + 1 + 1 < n
  ·
   refine jM ?_
   refine jG ?_
   refine jG ?_
   refine jG ?_
   refine Ops.clg rfl au (bW.inv rfl (evs.cons rfl (evs.cons rfl evs.nil)) (qX5 (h.1.cell 0))) (pI A c (2 * i + 1 + 1) (2 * i + 1) qs _ h.2 jo jo h1q) rfl ?_
   rintro e w4 ⟨rfl, hd4⟩
   refine ⟨_, rfl, ?_⟩
   by_cases hs32 : kk qs (2 * i + 1 + 1) < kk qs (2 * i + 1)
   ·
    refine je (Run.pickT rfl rfl au) (jO ?_)
    refine jN ⟨(js7 (jC (by simp [*])) rfl rfl rfl rfl rfl rfl), (by first | assumption | exact qQ.refl _)⟩
   refine je (Run.pickT rfl rfl au) (jO ?_)
   refine jN ⟨(js7 (jC (by simp [*])) rfl rfl rfl rfl rfl rfl), (by first | assumption | exact qQ.refl _)⟩
  refine jM ?_
  refine jU ?_
  refine jU ?_
  refine jU ?_
  refine jU ?_
  refine je (Run.pickF rfl rfl au) (jO ?_)
  refine jN ⟨(js7 (jC (by simp [*])) rfl rfl rfl rfl rfl rfl), (by first | assumption | exact qQ.refl _)⟩
 intro Γ w5 hΓ hd5
 refine jN (VC.sub _ hΓ ?_)
 refine VC.meet (σ := Nat) (fun s => [(0, .iface 208 (.pointer (some ⟨g, 0, none⟩))), (1, .int .i64 ((0 : Nat) : Int)), (2, .int .i64 ((n : Nat) : Int)), (7, .int .i64 ((i : Nat) : Int)), (9, .int .i64 ((s : Nat) : Int))]) (fun s w9 => (s - 1) / 2 = i ∧ 0 < s ∧ s < n ∧ (∀ c, 0 < c → c < n → (c - 1) / 2 = i → kk qs s ≤ kk qs c) ∧ w5 = w9) ?_ ?_
 ·
  refine jD rfl (fun hc2 => ?_) fun hc2 => ?_
  ·
   refine jR (jm rfl (ja rfl (jO ?_)))
   refine jN ⟨(2 * i + 1 + 1), (js5 rfl rfl rfl rfl rfl), ?_⟩
   refine ⟨jo, jo, hc2.1, fun c h0 hc hpc => ?_, rfl⟩
   have : c = 2 * i + 1 ∨ c = 2 * i + 1 + 1 := jo
   rcases this with h6 | h6 <;> subst h6
   · exact Nat.le_of_lt hc2.2
   exact zk _
  refine jQ ?_
  refine jN ⟨(2 * i + 1), (js5 rfl rfl rfl rfl rfl), ?_⟩
  refine ⟨jo, jo, jo, fun c h0 hc hpc => ?_, rfl⟩
  have : c = 2 * i + 1 ∨ c = 2 * i + 1 + 1 := jo
  rcases this with h6 | h6 <;> subst h6
  · exact zk _
  rcases zgs (kk qs (2 * i + 1 + 1)) (kk qs (2 * i + 1)) with h7 | h7
  · exact absurd ⟨hc, h7⟩ hc2
  exact h7
 rintro j _ ⟨hj2, hj0, hjn, hmin, rfl⟩ Γ hΓ
 have h5 := h.drawn hd5
 refine jN (VC.sub _ hΓ (jS (jS (jR (jm rfl (jm rfl (jM ?_)))))))
 refine Ops.cl (bW.inv rfl (evs.cons rfl (evs.cons rfl evs.nil)) (qX5 (h5.1.cell 0))) (pI A c j i qs _ h5.2 jo jo h1q) rfl ?_
 rintro e w6 ⟨rfl, hd6⟩
 refine ⟨_, rfl, ?_⟩
 have h6 := h5.drawn hd6
 refine je (Run.not rfl) (jO (jN (jv6 0 1 2 7 9 39 ?_)))
 refine VC.condB rfl (fun hc3 => ?_) (fun hc3 => ?_)
 ·
  have hnl : ¬ kk qs j < kk qs i := by simpa using hc3
  have hheap : eK (kk qs) n := qX4 hu (fun c h0 hc hpc => zo jo (hmin c h0 hc hpc))
  refine jX ?_
  refine qZ (pJ rfl (qZ (qP ?_)))
  refine jN (jv2 1 7 ?_)
  refine jS (jR (jm rfl (jm rfl (jb rfl rfl (Bin.gtrN _ _) (ja rfl (jO (jN (jv1 6 ?_))))))))
  refine jT ?_
  refine qC rfl ?_
  exact ⟨⟨_, rfl⟩, qs, hp, hheap, hdr, h6, (hfr.drawn hd5).drawn hd6⟩
 have hlt : kk qs j < kk qs i := by simpa using hc3
 refine jQ (jN (jv5 0 1 2 7 9 ?_))
 refine jS (jR (jm rfl (jm rfl (jM ?_))))
 refine Ops.cl (bW.inv rfl (evs.cons rfl (evs.cons rfl evs.nil)) (qX6 (h6.1.cell 0))) (pL A c i j qs _ h6.2 jo jo) rfl ?_
 rintro e w7 ⟨rfl, hP7, hf7⟩
 refine ⟨_, rfl, ?_⟩
 have hb7 := h6.1.frm hf7 h6.neA
 refine jO (jN (jv4 0 1 2 9 ?_))
 refine jR (jm rfl (ja rfl (jO ?_)))
 refine qK (jN ⟨(j, eO qs i j), (js4 rfl rfl rfl rfl), ?_, ?_⟩)
 ·
  refine ⟨by dsimp only; omega, (mS qs _ _ jo jo).trans hp, ?_, ?_, ⟨by rw [lO]; exact hb7, hP7⟩, ((hfr.drawn hd5).drawn hd6).trans hf7 (fun x hx => .inl hx)⟩
  ·
   dsimp only
   rw [vG qs _ _ jo jo]
   exact qGa hu hj2 hj0 hjn hlt hmin
  dsimp only
  rw [qV3 qs i j n jo hjn]
  exact hdr
 first | omega | (dsimp only; omega)
theorem qV5 (g c : Nat) (A : Option Addr) (ps : List PkC) (p : PkC) (w : World) (h : IsC w g A c ps) (hl : ps.length ≤ 100000) (hp : eS w p) (hu : eK (kk ps) ps.length) (h1 : One ps) (hp1 : ∃ s, p.sy = [s] ∧ s < 1024) :
  Calls Tryz.prog 125 #[.iface 208 (.pointer (some ⟨g, 0, none⟩)), .iface 169 (.agg p.cells.toArray)] w fun e w' => e = .returned (.tuple #[]) ∧ ∃ A' c' qs, qs.Perm (p :: ps) ∧ eK (kk qs) qs.length ∧ IsC w' g A' c' qs ∧ Frm (g :: ob A) w w' ∧ ∀ x ∈ ob A', x ∈ ob A ∨ w.heap.size ≤ x := by
 refine VC.calls (nt := 12) (res := #[]) Tryz.func125 rfl Tryz.ntmps125 Tryz.results125 rfl ?_
 refine jS (jR (jm rfl (jM ?_)))
 refine Ops.cl (bW.inv rfl (evs.cons rfl evs.nil) (qSl _ _)) (qV2 g c A ps p _ h hp jo) rfl ?_
 rintro e w1 ⟨rfl, A1, c1, hC1, hf1, hA1⟩
 refine ⟨_, rfl, ?_⟩
 have hl1 : (ps ++ [p]).length = ps.length + 1 := zb
 refine jO (jN (jv1 0 ?_))
 refine jR (jm rfl (jM ?_))
 refine Ops.cl (bW.inv rfl evs.nil (qN1 _ _)) (sF g c1 A1 _ _ hC1) rfl ?_
 rintro e _ ⟨rfl, rfl⟩
 refine ⟨_, rfl, ?_⟩
 have hone : One (ps ++ [p]) := fun q hq => by
  rcases List.mem_append.1 hq with h5 | h5
  · exact h1 q h5
  simp at h5; subst h5; exact hp1
 have hup : pA (kk (ps ++ [p])) ps.length (ps ++ [p]).length := by
  rw [hl1]
  refine qX2 (fun i h0 hi => ?_)
  have := hu i h0 hi
  rw [qGb ps p _ jo, qGb ps p _ hi]
  exact this
 refine jb rfl rfl (Bin.sub_i64 _ 1 jo jo) ?_
 refine Ops.cl (jE2 Tryz.call141) ((by have h5 := qM0 g c1 ps.length A1 (ps ++ [p]) w1 hC1 jo jo hup hone; rw [show ((ps.length : Nat) : Int) = (((ps ++ [p]).length - 1 : Nat) : Int) by omega] at h5; exact h5)) rfl ?_
 rintro e w2 ⟨rfl, qs, hq, hh, hC2, hf2⟩
 refine ⟨_, rfl, ?_⟩
 refine jO ?_
 refine eV ?_
 refine ⟨rfl, A1, c1, qs, hq.trans (List.perm_append_singleton p ps), by rw [hq.length_eq]; exact hh, hC2, hf1.trans hf2 (fun x hx => ?_), hA1⟩
 rcases hA1 x hx with h5 | h5
 · exact .inl (by simp [h5])
 exact .inr h5
theorem qGd (g c : Nat) (A : Option Addr) (ps : List PkC) (w : World) (h : IsC w g A c ps) (hl : ps.length ≤ 100000) (h0 : 0 < ps.length) (hu : eK (kk ps) ps.length) (h1 : One ps) :
  Calls Tryz.prog 127 #[.iface 208 (.pointer (some ⟨g, 0, none⟩))] w fun e w' => ∃ p qs, e = .returned (.iface 169 (.agg p.cells.toArray)) ∧ (qs ++ [p]).Perm ps ∧ (∀ q ∈ ps, p.key ≤ q.key) ∧ eK (kk qs) qs.length ∧ IsC w' g A c qs ∧ eS w' p ∧ Frm (g :: ob A) w w' := by
 obtain ⟨n, hn⟩ : ∃ n, ps.length = n + 1 := ⟨ps.length - 1, jo⟩
 refine VC.calls (nt := 15) (res := #[.tmp 2]) Tryz.func127 rfl Tryz.ntmps127 Tryz.results127 rfl ?_
 refine jS (jR (ja rfl (jO (jN (jv1 0 ?_)))))
 refine jS (jR (jM ?_))
 refine Ops.cl (bW.inv rfl evs.nil (qN1 _ _)) (sF g c A _ _ h) rfl ?_
 rintro e _ ⟨rfl, rfl⟩
 refine ⟨_, rfl, ?_⟩
 rw [hn]
 refine jb rfl rfl (Bin.sub_i64 _ 1 jo jo) (ja rfl (jO (jN (jv2 0 3 ?_))))
 refine jS (jR (jm rfl (jM ?_)))
 refine Ops.cl (bW.inv rfl (evs.cons rfl (evs.cons rfl evs.nil)) (qX6 (h.1.cell 0))) (pL A c 0 (n + 1 - 1) ps _ h.2 jo jo) rfl ?_
 rintro e w2 ⟨rfl, hP2, hf2⟩
 refine ⟨_, rfl, ?_⟩
 have hC2 : IsC w2 g A c (eO ps 0 n) := ⟨by rw [lO]; exact h.1.frm hf2 h.neA, hP2⟩
 have hpm := mS ps 0 n jo jo
 have hdi : lM (kk (eO ps 0 n)) 0 n := by
  rw [vG ps 0 n jo jo]
  exact qX3 (by rw [hn] at hu; exact hu)
 have hsl := lO ps 0 n
 refine jO (jN (jv2 0 3 ?_))
 refine jS (jR (jm rfl (jM ?_)))
 refine Ops.cl (jE3 Tryz.call142) (qV4 g c (n + 1 - 1) A (eO ps 0 n) _ hC2 jo jo hdi (h1.perm hpm)) rfl ?_
 rintro e w3 ⟨⟨b, rfl⟩, rs, hr, hh, hdr, hC3, hf3⟩
 refine ⟨_, rfl, ?_⟩
 have hrl := hr.length_eq
 have hps0 : (eO ps 0 n).drop n = [ps.getD 0 PkC.zero] := by
  apply zap
  intro i
  rw [zda]
  unfold eO
  rcases zcg i with h5 | h5
  ·
   subst h5
   rw [zdh, zec (by simp; omega)]
   rfl
  rw [zr (by simp; omega), zr (by simp; omega)]
 have hrs : rs = rs.take n ++ [ps.getD 0 PkC.zero] := by
  have h5 : rs.drop n = [ps.getD 0 PkC.zero] := by rw [← hps0]; exact hdr
  rw [← h5, zcb]
 have hqk : ∀ i, i < n → kk (rs.take n) i = kk rs i := fun i hi => by simp [kk, List.getD, zao hi]
 have hql : (rs.take n).length = n := by simp; omega
 have hheap : eK (kk (rs.take n)) (rs.take n).length := by
  rw [hql]
  intro i h5 h6
  rw [hqk i h6, hqk _ jo]
  exact hh i h5 h6
 have hmin : ∀ q ∈ ps, (ps.getD 0 PkC.zero).key ≤ q.key := by
  intro q hq
  obtain ⟨i, hi, rfl⟩ := zbc hq
  have h5 := qMy hu i hi
  rw [qV1 ps i hi] at h5
  exact h5
 have hperm : (rs.take n ++ [ps.getD 0 PkC.zero]).Perm ps := by rw [← hrs]; exact hr.trans hpm
 rw [hrs] at hC3
 generalize ps.getD 0 PkC.zero = p at *
 generalize rs.take n = qs at *
 refine jO (jN (jv1 0 ?_))
 refine jS (jR (jM ?_))
 refine Ops.cl (bW.inv rfl evs.nil (qS1 _ _)) (qGc g c A qs p _ hC3 jo) rfl ?_
 rintro e w4 ⟨rfl, hC4, hp4, hf4⟩
 refine ⟨_, rfl, ?_⟩
 refine ja rfl (jO (jN (jv1 2 ?_)))
 refine jT ?_
 refine qC rfl ?_
 exact ⟨p, qs, rfl, hperm, hmin, hheap, hC4, hp4, ((hf2.trans hf3 (fun x hx => .inl hx)).mono (T := g :: ob A) (fun x hx => .inl (by simp [hx]))).trans hf4 (fun x hx => .inl (by simp at hx; simp [hx]))⟩
end
section
open Go.RowKit
def PkC.abs (p : PkC) : Nat × List Nat := (p.count, p.sy)
def dB (x : Nat × List Nat) : Nat := x.1 * 1024 + x.2.headD 0
def cX (cs : List Nat) (n : Nat) : List (Nat × List Nat) := ((List.range n).filter fun k => 0 < cs.getD k 0).map fun k => (cs.getD k 0, [k])
theorem nV (cs : List Nat) (n : Nat) : cX cs (n + 1) = cX cs n ++ if 0 < cs.getD n 0 then [(cs.getD n 0, [n])] else [] := by
 unfold cX
 rw [zex, zfo, zbx]
 congr 1
 by_cases h : 0 < cs.getD n 0
 · rw [if_pos h, zgx (by simpa using h)]; rfl
 rw [if_neg h, zgy (by simpa using h)]; rfl
theorem rD (cs : List Nat) (n : Nat) (hn : n ≤ 1024) : ((cX cs n).map dB).Nodup := by
 unfold cX
 rw [zdg]
 refine List.Pairwise.of_map (S := (· ≠ ·)) (fun x => x % 1024) (fun a b h e => h (by rw [e])) ?_
 rw [zdg]
 have e : ((List.range n).filter fun k => decide (0 < cs.getD k 0)).map ((fun x => x % 1024) ∘ (dB ∘ fun k => (cs.getD k 0, [k]))) = ((List.range n).filter fun k => decide (0 < cs.getD k 0)).map id := by
  apply zcx
  intro k hk
  have hk2 := (List.mem_filter.1 hk).1
  simp at hk2
  simp [dB]
  omega
 rw [e, List.map_id]
 exact List.Pairwise.filter _ List.nodup_range
theorem fZ {cs : List Nat} {n : Nat} {x : Nat × List Nat} (h : x ∈ cX cs n) : ∃ k, k < n ∧ 0 < cs.getD k 0 ∧ x = (cs.getD k 0, [k]) := by
 obtain ⟨k, hk, rfl⟩ := List.mem_map.1 h
 obtain ⟨h1, h2⟩ := List.mem_filter.1 hk
 exact ⟨k, by simpa using h1, by simpa using h2, rfl⟩
theorem qGe {cs : List Nat} {n : Nat} {ps : List PkC} (h : (ps.map PkC.abs).Perm (cX cs n)) (hn : n ≤ 1000) : One ps := by
 intro p hp
 have : p.abs ∈ cX cs n := h.mem_iff.1 (zem hp)
 obtain ⟨k, h1, _, h2⟩ := fZ this
 have h3 : p.sy = [k] := congrArg Prod.snd h2
 exact ⟨k, h3, jo⟩
def dX (cs : List Nat) (l : List (Nat × List Nat)) : Prop := l.Perm (cX cs cs.length) ∧ l.Pairwise fun a b => dB a < dB b
def UpP (B : Nat) (A : Option Addr) (ps : List PkC) : Prop := (∀ x ∈ ob A, B ≤ x) ∧ ∀ p ∈ ps, ∀ x ∈ ob p.A, B ≤ x
theorem qJh (A0 : Option Addr) (c0 : Nat) (cs : List Nat) (w : World) (hl : cs.length ≤ 320) (hcs : ∀ x ∈ cs, x ≤ 2147483647) (hr : Rd w 1 A0 cs.length (NI cs)) :
  Calls Tryz.prog 96 #[.slice A0 cs.length c0] w fun e w' => ∃ B c ps, e = .returned (.slice B ps.length c) ∧ Pks w' B c ps ∧ dX cs (ps.map PkC.abs) ∧ Frm [] w w' ∧ UpP w.heap.size B ps := by
 refine VC.calls (nt := 41) (res := #[.tmp 2]) Tryz.func96 rfl Tryz.ntmps96 Tryz.results96 rfl ?_
 refine jS (jR (ja rfl (jO (jN (jv1 0 ?_)))))
 refine jS (jR ?_)
 refine Ops.m (qJ.buildS0 zav zv) rfl ?_
 rintro _ w1 ⟨rfl, hF1⟩
 have ho1 : Own w1 169 2 (some ⟨w.heap.size, 0, none⟩) 0 0 [] := Own.of_blk hF1.blk rfl (by simp [maxLen])
 have hs1 := hF1.size
 refine Ops.m (qJ.box rfl) rfl ?_
 rintro _ w2 ⟨rfl, hF2⟩
 have hb2 : Blk w2 w1.heap.size 209 #[.slice (some ⟨w.heap.size, 0, none⟩) 0 0] := hF2.blk
 have hfr2 := hF1.frm.own hF2.frm jp
 have hC2 : IsC w2 w1.heap.size (some ⟨w.heap.size, 0, none⟩) 0 [] := ⟨hb2, ho1.frm hF2.frm jp, jp⟩
 have hg1 := hF1.frm.size
 generalize hg : w1.heap.size = g at *
 refine ja rfl (jO (jN (jv2 0 3 ?_)))
 refine jS (jS (jR (jm rfl (je (Run.lenS rfl zf) ?_))))
 refine jx .i64 0 ?_
 refine jO (jN (jv4 3 10 11 12 ?_))
 refine jB ?_
 refine VC.loop (σ := Nat × Option Addr × Nat × List PkC) (fun s => [(3, .pointer (some ⟨g, 0, none⟩)), (10, .slice A0 cs.length c0), (11, .int .i64 ((cs.length : Nat) : Int)), (12, .int .i64 ((s.1 : Nat) : Int))]) (fun s wr => s.1 ≤ cs.length ∧ (s.2.2.2.map PkC.abs).Perm (cX cs s.1) ∧ eK (kk s.2.2.2) s.2.2.2.length ∧ IsC wr g s.2.1 s.2.2.1 s.2.2.2 ∧ Frm [] w wr ∧ UpP w.heap.size s.2.1 s.2.2.2) (fun s => cs.length - s.1) (0, some ⟨w.heap.size, 0, none⟩, 0, []) (js4 (by rw [← hg]; rfl) rfl rfl rfl) ⟨jo, by simp [cX], fun i _ h => by simp at h, hC2, hfr2, by simp [ob], jp⟩ ?_
 rintro ⟨i, A, c, hs⟩ wr ⟨hi, hpm, hh, hC, hfr, huA, hup⟩
 dsimp only at hi hpm hh hC hfr huA hup ⊢
 have hlen : hs.length ≤ i := by
  have h5 := hpm.length_eq
  rw [zu] at h5
  rw [h5]
  unfold cX
  rw [zu]
  exact zo (zgg _ _) jp
 refine jS (jR (jb rfl rfl (Bin.lssN _ _) (jO (jN (jS ?_)))))
 refine jD rfl (fun hc1 => ?_) fun hc1 => ?_
 ·
  obtain ⟨ad, rfl, hcell⟩ := tF (hr.belowW hfr.below) hc1
  have hgt : cs.getD i 0 = cs[i] := by simp [List.getD, za hc1]
  have hx := hcs _ (zw hc1)
  have hct := nV cs i
  rw [hgt] at hct
  generalize cs[i] = x at *
  refine jQ (jN (jv4 3 10 11 12 ?_))
  refine jS (jB (jS (jR (jm rfl (je (Run.index1 _ rfl rfl zf zd jo) (jl rfl zg hcell (ja rfl (ja rfl (jO (jN (jv6 3 4 5 10 11 12 ?_)))))))))))
  refine jS (jR (jm rfl (jb rfl rfl (Bin.gtrN _ 0) (jO (jN (jv7 3 4 5 10 11 12 18 ?_))))))
  refine jD rfl (fun hc2 => ?_) fun hc2 => ?_
  ·
   refine jR (jm rfl (je (Run.mkIface rfl zgu rfl) (jm rfl (jM ?_))))
   refine Ops.m (qJ.buildS1 rfl zf zd gF jd jd rfl rfl) rfl ?_
   rintro _ w3 ⟨rfl, hF3⟩
   have hp3 : eS w3 ⟨x, some ⟨wr.heap.size, 0, none⟩, 1, [i]⟩ := Own.of_blk hF3.blk rfl (by simp [maxLen])
   have hC3 : IsC w3 g A c hs := ⟨hC.1.frm hF3.frm jp, hC.2.frm hF3.frm jp (fun _ _ _ _ => jp)⟩
   have hfr3 := hfr.own hF3.frm jp
   have hsz := hfr.size
   refine je (Run.build (evs.cons rfl (evs.cons rfl evs.nil)) fV (nU).choose_spec.1 (nU).choose_spec.2 rfl) (je (Run.mkIface rfl zau rfl) ?_)
   refine Ops.cl (jE2 Tryz.call125) (qV5 g c A hs ⟨x, some ⟨wr.heap.size, 0, none⟩, 1, [i]⟩ _ hC3 jo hp3 hh (qGe hpm jo) ⟨i, rfl, jo⟩) rfl ?_
   rintro e w4 ⟨rfl, A4, c4, qs, hq, hh4, hC4, hf4, hA4⟩
   refine ⟨_, rfl, ?_⟩
   have hfr4 := hfr3.own hf4 (tT hg1 huA)
   refine jO ?_
   refine qK (jN ?_)
   refine jv4 3 10 11 12 ?_
   refine jR (jb rfl rfl (Bin.add_i64 _ 1 jo) (jm rfl (jO ?_)))
   refine jN ⟨(i + 1, A4, c4, qs), (js4 rfl rfl rfl rfl), ?_, ?_⟩
   ·
    refine ⟨by dsimp only; omega, ?_, hh4, hC4, hfr4, qPa huA hA4 hfr3.size, ?_⟩
    ·
     dsimp only
     rw [hct, if_pos jo]
     refine (hq.map PkC.abs).trans ?_
     rw [zbj]
     exact ((List.Perm.cons _ hpm).trans (List.perm_append_singleton _ _).symm)
    intro p hp y hy
    rcases zcq.1 (hq.mem_iff.1 hp) with h5 | h5
    · subst h5; simp [ob] at hy; omega
    exact hup p h5 y hy
   first | omega | (dsimp only; omega)
  refine jQ ?_
  refine qK (jN ?_)
  refine jv4 3 10 11 12 ?_
  refine jR (jb rfl rfl (Bin.add_i64 _ 1 jo) (jm rfl (jO ?_)))
  refine jN ⟨(i + 1, A, c, hs), (js4 rfl rfl rfl rfl), ?_, ?_⟩
  ·
   refine ⟨by dsimp only; omega, ?_, hh, hC, hfr, huA, hup⟩
   dsimp only
   rw [hct, if_neg jo, zcz]
   exact hpm
  first | omega | (dsimp only; omega)
 have hin : i = cs.length := jo
 subst hin
 refine jX ?_
 refine qZ (qZ (qP ?_))
 refine jN (jv1 3 ?_)
 refine jS (jR (ja rfl (jO (jN (jS (jS (jR (jm rfl (je (Run.mkFunc (evs.cons rfl evs.nil) evs.nil) (ja rfl (jO (jN (jv3 3 6 7 ?_)))))))))))))
 refine jB ?_
 refine VC.loop (σ := List PkC × List PkC × Option Addr × Nat × Option Addr × Nat) (fun s => [(3, .pointer (some ⟨g, 0, none⟩)), (6, .slice s.2.2.1 s.1.length s.2.2.2.1), (7, .func (.func 126) #[.pointer (some ⟨g, 0, none⟩)] #[])]) (fun s wr => ((s.1 ++ s.2.1).map PkC.abs).Perm (cX cs cs.length) ∧ eK (kk s.2.1) s.2.1.length ∧ s.1.Pairwise (fun a b => a.key < b.key) ∧ (∀ p ∈ s.1, ∀ q ∈ s.2.1, p.key < q.key) ∧ IsC wr g s.2.2.2.2.1 s.2.2.2.2.2 s.2.1 ∧ Pks wr s.2.2.1 s.2.2.2.1 s.1 ∧ Frm [] w wr ∧ (∀ x ∈ ob s.2.2.2.2.1, w.heap.size ≤ x) ∧ UpP w.heap.size s.2.2.1 (s.1 ++ s.2.1) ∧ (∀ x ∈ ob s.2.2.1, x ∉ ob s.2.2.2.2.1)) (fun s => s.2.1.length) ([], hs, none, 0, A, c) (js3 rfl rfl rfl) ⟨by simpa using hpm, hh, .nil, jp, hC, ⟨Own.nil _ _ _, jp⟩, hfr, huA, ⟨lE, by simpa using hup⟩, by simp [ob]⟩ ?_
 clear hpm hh hC hfr huA hup hlen
 rintro ⟨ps, hs, B, cb, A, c⟩ wr ⟨hpm, hh, hpw, hlt, hC, hP, hfr, huA, ⟨huB, hup⟩, hAB⟩
 dsimp only at hpm hh hpw hlt hC hP hfr huA huB hup hAB ⊢
 have hlen : ps.length + hs.length ≤ cs.length := by
  have h5 := hpm.length_eq
  rw [zu, zb] at h5
  rw [h5]
  unfold cX
  rw [zu]
  exact zo (zgg _ _) jp
 refine jS (jS (jR (jM ?_)))
 refine Ops.cl (bW.dyn rfl evs.nil Tryz.call126) (sF g c A _ _ hC) rfl ?_
 rintro e _ ⟨rfl, rfl⟩
 refine ⟨_, rfl, ?_⟩
 refine jb rfl rfl (Bin.gtrN _ 0) (jO (jN (jv4 3 6 7 32 ?_)))
 refine jD rfl (fun hc3 => ?_) fun hc3 => ?_
 ·
  refine jQ (jN (jv3 3 6 7 ?_))
  refine jB (jR (jm rfl (jm rfl (je (Run.mkIface rfl zgu rfl) ?_))))
  refine Ops.cl (jE1 Tryz.call127) (qGd g c A hs _ hC jo hc3 hh (fun p hp => qGe hpm jo p (by simp [hp]))) rfl ?_
  rintro e w3 ⟨p, qs, rfl, hq, hmin, hh3, hC3, hp3, hf3⟩
  refine ⟨_, rfl, ?_⟩
  have hfr3 := hfr.own hf3 (tT hg1 huA)
  have hgB : g ∉ ob B := hP.1.ne_blk hC.1 jd
  have hP3 : Pks w3 B cb ps := hP.frm hf3 (fun x hx hx2 => by
    rcases zcq.1 hx2 with h5 | h5
    · subst h5; exact hgB hx
    · exact hAB x hx h5) (fun q hq x hx hx2 => by
    rcases zcq.1 hx2 with h5 | h5
    · subst h5; exact (hP.2 q hq).ne_blk hC.1 jd hx
    exact (hP.2 q hq).ne_own hC.2.1 jd x hx h5)
  refine je (Run.assertT rfl zau rfl) ?_
  refine Ops.m (qJ.buildS1 rfl zy zv fV jd jd rfl rfl) rfl ?_
  rintro _ w5 ⟨rfl, hF5⟩
  have hrd5 : Rd w5 2 (some ⟨w3.heap.size, 0, none⟩) 1 p.cells := Rd.of_blk (n := 1) (size := 2) hF5.blk rfl
  have ho5 := hP3.1.frm hF5.frm jp
  have hfr5 := hfr3.own hF5.frm jp
  refine Ops.m (qJ.app rfl rfl zy (oT) rfl jd ho5 hrd5 p.one jo jo) rfl ?_
  rintro _ w6 ⟨B6, c6, rfl, ho6, hf6, hob6⟩
  have hfr6 := hfr5.own hf6 huB
  have hf36 : Frm (ob B) w3 w6 := (hF5.frm.mono (T := ob B) jp).trans hf6 (fun x hx => .inl hx)
  refine ja rfl (jO ?_)
  have hl1 : (ps ++ [p]).length = ps.length + 1 := zb
  refine qK (jN ⟨(ps ++ [p], qs, B6, c6, A, c), (js3 rfl (by rw [hl1]; rfl) rfl), ?_, ?_⟩)
  ·
   have hnd : ((ps ++ hs).map PkC.key).Nodup := by
    have h5 := (hpm.map dB).nodup_iff.2 (rD cs cs.length jo)
    rw [zdg] at h5
    exact h5
   have hpin : p ∈ hs := hq.mem_iff.1 jp
   have hne : ∀ q ∈ qs, p.key ≠ q.key := by
    intro q hqq
    rw [zbx] at hnd
    have h5 := (List.nodup_append.1 hnd).2.1
    have h6 := ((hq.map PkC.key).nodup_iff).2 h5
    rw [zbx] at h6
    have h7 := (List.nodup_append.1 h6).2.2 q.key (zem hqq) p.key jp
    exact fun e => h7 e.symm
   have hgA := hC3.neA
   have hC6 : IsC w6 g A c qs := ⟨hC3.1.frm hf36 hgB, hC3.2.frm hf36 (fun x hx hx2 => hAB x hx2 hx) (fun q hqq => (hC3.2.2 q hqq).ne_own hP3.1 jd)⟩
   have hp6 : eS w6 p := hp3.frm hf36 (hp3.ne_own hP3.1 jd)
   refine ⟨?_, hh3, ?_, ?_, hC6, ⟨?_, ?_⟩, hfr6, huA, ⟨cO huB hob6 hfr5.size, ?_⟩, ?_⟩
   ·
    dsimp only
    refine List.Perm.trans (List.Perm.map _ ?_) hpm
    rw [zj]
    exact List.Perm.append_left ps ((List.perm_append_comm).trans hq)
   ·
    dsimp only
    rw [List.pairwise_append]
    exact ⟨hpw, jp, fun a ha b hb => by simp at hb; subst hb; exact hlt a ha _ hpin⟩
   ·
    intro a ha q hqq
    rcases List.mem_append.1 ha with h5 | h5
    · exact hlt a h5 q (hq.mem_iff.1 (by simp [hqq]))
    simp at h5
    subst h5
    have h6 := hmin q (hq.mem_iff.1 (by simp [hqq]))
    have h7 := hne q hqq
    omega
   ·
    dsimp only
    rw [hl1, zaa]
    simpa using ho6
   ·
    intro a ha
    rcases List.mem_append.1 ha with h5 | h5
    · exact (hP3.2 a h5).frm hf36 ((hP3.2 a h5).ne_own hP3.1 jd)
    simp at h5; subst h5; exact hp6
   ·
    intro a ha
    rcases List.mem_append.1 ha with h5 | h5
    ·
     rcases List.mem_append.1 h5 with h6 | h6
     · exact hup a (by simp [h6])
     simp at h6; subst h6; exact hup _ (by simp [hpin])
    exact hup a (by simp; exact .inr (hq.mem_iff.1 (by simp [h5])))
   intro x hx hx2
   rcases hob6 with h5 | h5 <;> rw [h5] at hx
   · exact hAB x hx hx2
   simp at hx
   have h6 := hC3.2.1.lt x hx2
   have h7 := hF5.frm.size
   omega
  have h5 := hq.length_eq
  simp at h5
  dsimp only
  omega
 have hnil : hs = [] := zz jo
 subst hnil
 rw [zcz] at hpm hup
 refine jX ?_
 refine qZ (qZ (qP ?_))
 refine jN (jv1 6 ?_)
 refine jS (jR (jm rfl (ja rfl (jO (jN (jv1 2 ?_))))))
 refine jT ?_
 refine qC rfl ?_
 exact ⟨B, cb, ps, rfl, hP, ⟨hpm, by rw [List.pairwise_map]; exact hpw⟩, hfr, huB, hup⟩
end
section
open Go.RowKit
def sA (l : List Int) : Prop := l.length ≤ 320 ∧ ∀ x ∈ l, 0 ≤ x ∧ x ≤ 2147483647
instance (l : List Int) : Decidable (sA l) := inferInstanceAs (Decidable (_ ∧ _))
theorem qM1 (A : Option Addr) (c0 : Nat) (l : List Int) (w : World) (hl : l.length ≤ 1000000000) (hr : Rd w 1 A l.length (IB l)) :
  Calls Tryz.prog 95 #[.slice A l.length c0] w fun e w' => e = .returned (.bool (decide (sA l))) ∧ w = w' := by
 refine VC.calls (nt := 21) (res := #[.tmp 2]) Tryz.func95 rfl Tryz.ntmps95 Tryz.results95 rfl ?_
 refine jS (jR (ja rfl (jO (jN (jv1 0 ?_)))))
 refine jS (jS (jR (jm rfl (je (Run.lenS rfl zf) ?_))))
 refine jx .i64 0 ?_
 refine jO (jN (jB ?_))
 refine VC.loop (σ := Nat) (fun s => [(0, .slice A l.length c0), (5, .slice A l.length c0), (6, .int .i64 ((l.length : Nat) : Int)), (7, .int .i64 s)]) (fun s wr => s ≤ l.length ∧ (∀ x ∈ l.take s, 0 ≤ x ∧ x ≤ 2147483647) ∧ w = wr) (fun s => l.length - s) 0 (js4 rfl rfl rfl rfl) ⟨jo, jp, rfl⟩ ?_
 rintro i _ ⟨hi, hpre, rfl⟩
 refine jS (jR (jb rfl rfl (Bin.lssN _ _) (jO (jN (jS ?_)))))
 refine jD rfl (fun hc1 => ?_) fun hc1 => ?_
 ·
  obtain ⟨ad, rfl, hcell⟩ := tE hr hc1
  have htk : l.take (i + 1) = l.take i ++ [l[i]] := by rw [zaj, za hc1]; rfl
  generalize hx : l[i] = x at *
  refine jQ (jN (jv4 0 5 6 7 ?_))
  refine jS (jB (jS (jR (je (Run.index1 _ rfl rfl zf zd jo) (jl rfl zg hcell (ja rfl (jO (jN (jv5 0 4 5 6 7 ?_)))))))))
  refine jS ?_
  refine VC.split1 [(0, _), (5, _), (6, _), (7, _)] (js4 rfl rfl rfl rfl) 16 (.bool (decide ((x < 0) ∨ (2147483647 < x)))) ?_ ?_
  ·
   by_cases hs0 : x < 0
   ·
    refine jR (jm rfl (jb rfl rfl (Bin.lss _ 0) (jM ?_)))
    refine jU ?_
    refine jU ?_
    refine je (Run.pickT rfl rfl au) (jO ?_)
    refine jN ⟨(js5 (by rw [qQt hs0]; rfl) rfl rfl rfl rfl), rfl⟩
   refine jR (jm rfl (jb rfl rfl (Bin.lss _ 0) (jM ?_)))
   refine jG ?_
   refine jk (Run.bin rfl rfl (Bin.gtr _ 2147483647)) ?_
   refine je (Run.pickF rfl rfl au) (jO ?_)
   refine jN ⟨(js5 (by rw [qQu hs0]; rfl) rfl rfl rfl rfl), rfl⟩
  intro Γ hΓ
  refine jN (VC.sub _ hΓ ?_)
  refine jD rfl (fun hc2 => ?_) fun hc2 => ?_
  ·
   refine jS (jR (ja rfl (jO (jN (jv1 2 ?_)))))
   refine jT ?_
   refine qD (qN (qN (qD (qN (qC rfl ?_)))))
   refine ⟨?_, rfl⟩
   rw [decide_eq_false]
   intro h
   have := h.2 x (by rw [← hx]; exact zw hc1)
   omega
  refine jQ ?_
  refine qK (jN ?_)
  refine jv4 0 5 6 7 ?_
  refine jR (jb rfl rfl (Bin.add_i64 _ 1 jo) (jm rfl (jO ?_)))
  refine jN ⟨(i + 1), (js4 rfl rfl rfl rfl), ?_, ?_⟩
  ·
   refine ⟨hc1, ?_, rfl⟩
   rw [htk]
   intro y hy
   rcases List.mem_append.1 hy with h | h
   · exact hpre y h
   simp at h; subst h; omega
  first | omega | (dsimp only; omega)
 have hil : i = l.length := jo
 subst hil
 rw [zbl] at hpre
 refine jX ?_
 refine qZ (qZ (qP ?_))
 refine jN (jv1 0 ?_)
 refine jS (jR (jm rfl (je (Run.lenS rfl zf) (jb rfl rfl (Bin.leqN _ 320) (ja rfl (jO (jN (jv1 2 ?_))))))))
 refine jT ?_
 refine qC rfl ?_
 refine ⟨?_, rfl⟩
 congr 2
 rw [decide_eq_decide]
 exact ⟨fun h => ⟨h, hpre⟩, fun h => h.1⟩
theorem qGf (a b : PkC) (w : World) (ha : eS w a) (hb : eS w b) (hc : a.count + b.count ≤ 9223372036854775807) (hl : a.sy.length + b.sy.length ≤ 1000000) :
  Calls Tryz.prog 128 #[.agg a.cells.toArray, .agg b.cells.toArray] w fun e w' => ∃ A c, e = .returned (.agg (PkC.cells ⟨a.count + b.count, A, c, a.sy ++ b.sy⟩).toArray) ∧ eS w' ⟨a.count + b.count, A, c, a.sy ++ b.sy⟩ ∧ Frm [] w w' ∧ ∀ x ∈ ob A, w.heap.size ≤ x := by
 refine VC.calls (nt := 17) (res := #[.cell 4 169]) Tryz.func128 rfl Tryz.ntmps128 Tryz.results128 rfl ?_
 refine jS (jR ?_)
 refine Ops.m (qJ.box rfl) rfl ?_
 rintro _ w1 ⟨rfl, hF1⟩
 have hb1 : Blk w1 w.heap.size 169 a.cells.toArray := hF1.blk
 refine Ops.m (qJ.box rfl) rfl ?_
 rintro _ w2 ⟨rfl, hF2⟩
 have hb2 : Blk w2 w1.heap.size 169 b.cells.toArray := hF2.blk
 have hb12 := hb1.frm hF2.frm jp
 refine Ops.m (qJ.alloc fV) rfl ?_
 rintro _ w3 ⟨rfl, hF3⟩
 have hb3 : Blk w3 w2.heap.size 169 PkC.zero.cells.toArray := hF3.blk
 have hb13 := hb12.frm hF3.frm jp
 have hb23 := hb2.frm hF3.frm jp
 have hfr3 := (hF1.frm.own hF2.frm jp).own hF3.frm jp
 have l1 := hb1.lt
 have l2 := hb2.lt
 have l3 := hF1.frm.size
 generalize hg1 : w.heap.size = g1 at hb13 l1 l3 ⊢
 generalize hg2 : w1.heap.size = g2 at *
 generalize hg3 : w2.heap.size = g3 at *
 refine jO (jN (jv3 2 3 4 ?_))
 refine jS ?_
 refine VC.held (fun v => Blk v g1 169 a.cells.toArray ∧ Blk v g2 169 b.cells.toArray) jK ?_
 have hS : (fun v => Blk v g1 169 a.cells.toArray ∧ Blk v g2 169 b.cells.toArray) w3.drew := ⟨hb13.drawn (qQ.drew _), hb23.drawn (qQ.drew _)⟩
 have hb3 := hb3.drawn (qQ.drew _)
 have hfr3 := hfr3.drawn (qQ.drew _)
 have ha3 := ha.frm hfr3 jp
 have hbb3 := hb.frm hfr3 jp
 refine jH 0 rfl hS (fun w0 hw0 => Run.fieldAddr rfl zau rfl zd jd) ?_
 refine jH 1 rfl hS (fun w0 hw0 => Run.load rfl zg (hw0.1.cell 0)) ?_
 refine jH 2 rfl hS (fun w0 hw0 => Run.fieldAddr rfl zau rfl zd jd) ?_
 refine jH 3 rfl hS (fun w0 hw0 => Run.load rfl zg (hw0.2.cell 0)) ?_
 refine jH 4 rfl hS (fun w0 hw0 => Run.bin rfl rfl (Bin.add_i64 _ _ jo)) ?_
 refine jH 5 rfl hS (fun w0 hw0 => Run.fieldAddr rfl zau rfl zay jd) ?_
 refine jH 6 rfl hS (fun w0 hw0 => Run.load rfl zbu (hw0.1.cell 1)) ?_
 refine jH 8 rfl hS (fun w0 hw0 => Run.fieldAddr rfl zau rfl zay jd) ?_
 refine jH 9 rfl hS (fun w0 hw0 => Run.load rfl zbu (hw0.2.cell 1)) ?_
 refine qV.m 7 rfl jK (qJ.app rfl rfl zf (fT) rfl jd (Own.nil _ _ _) ha3.rd (gN _) jo jo) trivial rfl rfl ?_
 rintro _ w4 ⟨A4, c4, rfl, ho4, hf4, hob4⟩
 have hS : (fun v => Blk v g1 169 a.cells.toArray ∧ Blk v g2 169 b.cells.toArray) w4 := ⟨hS.1.frm hf4 (by simp [ob]), hS.2.frm hf4 (by simp [ob])⟩
 refine ⟨hS, ?_⟩
 have hb4 := hb3.frm hf4 (by simp [ob])
 have hbb4 : Own w4 3 1 b.A b.sy.length b.c (NI b.sy) := hbb3.frm hf4 (by simp [ob])
 have hfr4 := hfr3.own hf4 (by simp [ob])
 have hu4 : ∀ x ∈ ob A4, w.heap.size ≤ x := cO lE hob4 hfr3.size
 refine qV.m 10 rfl jK (qJ.app rfl rfl zf (fT) rfl jd ho4 hbb4.rd (gN _) jo jo) trivial rfl rfl ?_
 rintro _ w5 ⟨A5, c5, rfl, ho5, hf5, hob5⟩
 have hS : (fun v => Blk v g1 169 a.cells.toArray ∧ Blk v g2 169 b.cells.toArray) w5 := ⟨hS.1.frm hf5 (ho4.ne_blk hS.1 jd), hS.2.frm hf5 (ho4.ne_blk hS.2 jd)⟩
 refine ⟨hS, ?_⟩
 have hb5 := hb4.frm hf5 (ho4.ne_blk hb4 jd)
 have hfr5 := hfr4.own hf5 hu4
 have hu5 := cO hu4 hob5 hfr4.size
 have hl5 : 0 + a.sy.length + b.sy.length = (a.sy ++ b.sy).length := by rw [zb]; omega
 rw [hl5] at ho5 ⊢
 rw [zbo, ← nF] at ho5
 refine jH 11 rfl hS (fun w0 hw0 => Run.build (evs.cons rfl (evs.cons rfl evs.nil)) fV (nU).choose_spec.1 (nU).choose_spec.2 (cells := (PkC.cells ⟨a.count + b.count, A5, c5, a.sy ++ b.sy⟩).toArray) rfl) ?_
 refine qV.st 12 rfl jK (qR.storeA rfl rfl zv hb5 rfl (PkC.one _)) trivial rfl ?_
 rintro w6 ⟨hb6, hf6, hs6⟩
 refine ⟨⟨hS.1.frm hf6 (by simp; omega), hS.2.frm hf6 (by simp; omega)⟩, ?_⟩
 refine qV.done jK ?_
 refine jN (jv1 4 ?_)
 refine jT ?_
 refine lJ ?_
 refine yH rfl zdk zv (hb6.cells) (by first | rfl | (simp; done)) ?_
 refine eM ?_
 exact ⟨A5, c5, rfl, eS.frm (p := ⟨a.count + b.count, A5, c5, a.sy ++ b.sy⟩) ho5 hf6 (fun x hx hx2 => by simp at hx2; subst hx2; exact ho5.ne_blk hb5 jd hx), by subst hg1; exact hfr5.own hf6 (by simp; omega), by rw [← hg1]; exact hu5⟩
end
section
open Go.RowKit
def kF (a b : Nat × List Nat) : Nat × List Nat := (a.1 + b.1, a.2 ++ b.2)
def qF : List (Nat × List Nat) → List (Nat × List Nat)
 | a :: b :: r => kF a b :: qF r
 | _ => []
def bX : List (Nat × List Nat) → List (Nat × List Nat) → List (Nat × List Nat)
 | [], ps => ps
 | c :: cs, [] => c :: cs
 | c :: cs, p :: ps => if c.1 ≤ p.1 then c :: bX cs (p :: ps) else p :: bX (c :: cs) ps
 termination_by cs ps => cs.length + ps.length
theorem qJi (l : List (Nat × List Nat)) : ∀ k, (h : 2 * k + 1 < l.length) → qF (l.take (2 * k + 2)) = qF (l.take (2 * k)) ++ [kF l[2 * k] l[2 * k + 1]] := by
 intro k
 induction k generalizing l with
 | zero =>
  intro h
  match l, h with
  | a :: b :: r, _ => simp [qF]
 | succ k ih =>
  intro h
  match l, h with
  | a :: b :: r, h =>
   have h2 : 2 * k + 1 < r.length := by simp at h; omega
   have e1 : 2 * (k + 1) + 2 = (2 * k + 2) + 1 + 1 := jo
   have e2 : 2 * (k + 1) = (2 * k) + 1 + 1 := jo
   have e3 : (a :: b :: r)[2 * (k + 1)] = r[2 * k]'jo := by simp [e2]
   have e4 : (a :: b :: r)[2 * (k + 1) + 1] = r[2 * k + 1]'h2 := by simp [e2]
   rw [e3, e4, e1, zac, zac, qF, ih r h2, e2, zac, zac, qF]
   rfl
theorem wB (l : List (Nat × List Nat)) : ∀ k, k ≤ l.length → l.length ≤ k + 1 → k % 2 = 0 → qF (l.take k) = qF l := by
  match l with
  | [] => intro k _ _ _; simp
  | [a] => intro k h1 h2 h3
           have : k = 0 := by simp at h1 h2; omega
           subst this; rfl
  | a :: b :: r =>
    intro k h1 h2 h3
    simp at h1 h2
    obtain ⟨j, rfl⟩ : ∃ j, k = j + 1 + 1 := ⟨k - 2, jo⟩
    rw [zac, zac, qF, qF, wB r j jo jo jo]
end
section
open Go.RowKit
theorem qKi {w : World} {A : Option Addr} {p : PkC} {l : List PkC} {c : Nat} (h : Rd w 2 A (l.length + 1) ((p :: l).flatMap PkC.cells)) (hc : l.length + 1 ≤ c) : Rd w 2 (cP A c 1 2) l.length (l.flatMap PkC.cells) := by
 have e := h.cut (l := 1) (r := l.length + 1) (cap := c) jo (zk _) hc
 have e2 : ((((p :: l).flatMap PkC.cells).drop (1 * 2)).take ((l.length + 1 - 1) * 2)) = l.flatMap PkC.cells := by
  rw [zm]
  show ((l.flatMap PkC.cells).take ((l.length + 1 - 1) * 2)) = _
  rw [zn (by rw [pV PkC.cells 2 PkC.cells_len]; omega)]
 rw [e2, zfp] at e
 exact e
theorem pO (l : List (Nat × List Nat)) : (qF l).length = l.length / 2 := by
 match l with
 | [] => rfl
 | [a] => simp [qF]
 | a :: b :: r => rw [qF, zq, pO r]; simp; omega
theorem qJj (A1 A2 : Option Addr) (c1 c2 : Nat) (ps ls : List PkC) (w : World) (hr1 : Rd w 2 A1 ps.length (ps.flatMap PkC.cells)) (h1 : ∀ p ∈ ps, eS w p) (hr2 : Rd w 2 A2 ls.length (ls.flatMap PkC.cells)) (h2 : ∀ p ∈ ls, eS w p)
  (hcap : ps.length ≤ c1) (hl1 : ps.length ≤ 10000) (hl2 : ls.length ≤ 10000) (hs : ∀ p ∈ ls, p.count ≤ 2305843009213693951 ∧ p.sy.length ≤ 100000)
  (G : Nat → Prop) (hG : ∀ x, w.heap.size ≤ x → G x) (hg1 : ∀ p ∈ ps, ∀ x ∈ ob p.A, G x) :
  Calls Tryz.prog 97 #[.slice A1 ps.length c1, .slice A2 ls.length c2] w fun e w' => ∃ B c qs, e = .returned (.slice B qs.length c) ∧ Pks w' B c qs ∧ qs.map PkC.abs = bX (ps.map PkC.abs) (qF (ls.map PkC.abs)) ∧ Frm [] w w' ∧ (∀ x ∈ ob B, w.heap.size ≤ x) ∧ ∀ p ∈ qs, ∀ x ∈ ob p.A, G x := by
 refine VC.calls (nt := 72) (res := #[.tmp 4]) Tryz.func97 rfl Tryz.ntmps97 Tryz.results97 rfl ?_
 refine jS (jR (ja rfl (jO (jN (jv2 0 1 ?_)))))
 refine jS (jR (ja rfl (ja rfl (jO (jN (jS (jS (jR (jz 0 (jO (jN (jB ?_))))))))))))
 refine VC.loop (σ := Nat × Option Addr × Nat × List PkC) (fun s => [(0, .slice A1 ps.length c1), (1, .slice A2 ls.length c2), (5, .slice s.2.1 s.2.2.2.length s.2.2.1), (6, .slice none 0 0), (7, .int .i64 ((2 * s.1 : Nat) : Int))]) (fun s wr => 2 * s.1 ≤ ls.length ∧ Pks wr s.2.1 s.2.2.1 s.2.2.2 ∧ s.2.2.2.map PkC.abs = qF ((ls.map PkC.abs).take (2 * s.1)) ∧ Frm [] w wr ∧ (∀ x ∈ ob s.2.1, w.heap.size ≤ x) ∧ ∀ p ∈ s.2.2.2, ∀ x ∈ ob p.A, G x) (fun s => ls.length - 2 * s.1) (0, none, 0, []) (js5 rfl rfl rfl rfl rfl) ⟨jo, ⟨Own.nil _ _ _, jp⟩, rfl, Frm.refl _ _, lE, jp⟩ ?_
 rintro ⟨k, B, c, qs⟩ w7 ⟨hk, hP, hq, hfr, huB, hqg⟩
 dsimp only at hk hP hq hfr huB hqg ⊢
 have hql : qs.length ≤ ls.length := by
  have h5 := congrArg List.length hq
  rw [zu, pO, zi, zu] at h5
  omega
 refine jS (jS (jR (jm rfl (jb rfl rfl (Bin.add_i64 _ 1 jo) (jm rfl (je (Run.lenS rfl zy) (jb rfl rfl (Bin.lssN _ _) (jO (jN (jv6 0 1 5 6 7 12 ?_))))))))))
 refine jD rfl (fun hc1 => ?_) fun hc1 => ?_
 ·
  have hkl : 2 * k < ls.length := jo
  obtain ⟨ad, rfl, hea⟩ := hr2.elem hkl
  obtain ⟨ad2, had, heb⟩ := hr2.elem hc1
  obtain rfl : ad = ad2 := by injection had
  have hpt := qJi (ls.map PkC.abs) k (by simpa using hc1)
  rw [zfh, zfh] at hpt
  have ha := h2 _ (zw hkl)
  have hb := h2 _ (zw hc1)
  have hsa := hs _ (zw hkl)
  have hsb := hs _ (zw hc1)
  rw [dV PkC.cells 2 PkC.cells_len ls _ hkl] at hea
  rw [dV PkC.cells 2 PkC.cells_len ls _ hc1] at heb
  generalize ls[2 * k] = a at *
  generalize ls[2 * k + 1] = b at *
  refine jQ (jN (jv5 0 1 5 6 7 ?_))
  refine jS (jB ?_)
  refine VC.held (fun v => Frm [] w v) jK ?_
  have hS : (fun v => Frm [] w v) w7.drew := hfr.drawn (qQ.drew _)
  have hPd : Pks w7.drew B c qs := hP.frm (qQ.drew _).frm jp (fun _ _ _ _ => jp)
  refine jH 0 rfl hS (fun w0 hw0 => Run.mv rfl) ?_
  refine jH 1 rfl hS (fun w0 hw0 => Run.mv rfl) ?_
  refine jH 2 rfl hS (fun w0 hw0 => Run.mv rfl) ?_
  refine jH 3 rfl hS (fun w0 hw0 => Run.indexS _ rfl rfl zy zv jo) ?_
  refine jH 4 rfl hS (fun w0 hw0 => Run.loadA rfl zdk zv (fun j v h => hw0.cell (hea j v h) jp) (by first | rfl | (simp; done))) ?_
  refine jH 5 rfl hS (fun w0 hw0 => Run.mv rfl) ?_
  refine jH 6 rfl hS (fun w0 hw0 => Run.mv rfl) ?_
  refine jH 7 rfl hS (fun w0 hw0 => Run.bin rfl rfl (Bin.add_i64 _ 1 jo)) ?_
  refine jH 8 rfl hS (fun w0 hw0 => Run.indexS _ rfl rfl zy zv jo) ?_
  refine jH 9 rfl hS (fun w0 hw0 => Run.loadA rfl zdk zv (fun j v h => hw0.cell (heb j v h) jp) (by first | rfl | (simp; done))) ?_
  refine qV.cl 10 rfl jK (jE2 Tryz.call128) (qGf a b _ (ha.frm hS jp) (hb.frm hS jp) jo jo) trivial rfl rfl ?_
  have hszb := Frm.size hS
  rintro e w4 ⟨A4, c4, rfl, hp4, hf4, hA4⟩
  have hS : (fun v => Frm [] w v) w4 := hS.own hf4 jp
  refine ⟨_, rfl, hS, ?_⟩
  have hP4 := hPd.frm hf4 jp (fun _ _ _ _ => jp)
  generalize hpk : (⟨a.count + b.count, A4, c4, a.sy ++ b.sy⟩ : PkC) = p at *
  have hpa : p.abs = kF a.abs b.abs := by subst hpk; rfl
  have hpG : ∀ x ∈ ob p.A, G x := by subst hpk; exact fun x hx => hG x (zo hszb (hA4 x hx))
  refine qV.m 11 rfl jK (qJ.buildS1 rfl zy zv fV jd jd rfl rfl) trivial rfl rfl ?_
  rintro _ w5 ⟨rfl, hF5⟩
  have hS : (fun v => Frm [] w v) w5 := hS.own hF5.frm jp
  refine ⟨hS, ?_⟩
  have hrd5 : Rd w5 2 (some ⟨w4.heap.size, 0, none⟩) 1 p.cells := Rd.of_blk (n := 1) (size := 2) hF5.blk rfl
  have hP5 := hP4.frm hF5.frm jp (fun _ _ _ _ => jp)
  have hp5 := hp4.frm hF5.frm jp
  refine qV.m 12 rfl jK (qJ.app rfl rfl zy (oT) rfl jd hP5.1 hrd5 p.one jo jo) trivial rfl rfl ?_
  rintro _ w6 ⟨B6, c6, rfl, ho6, hf6, hob6⟩
  have hsz5 := Frm.size hS
  have hS : (fun v => Frm [] w v) w6 := Frm.own hS hf6 huB
  refine ⟨hS, ?_⟩
  refine jH 13 rfl hS (fun w0 hw0 => Run.asg rfl) ?_
  refine qV.done jK ?_
  refine qK (jN ?_)
  refine jv5 0 1 5 6 7 ?_
  refine jR (jm rfl (jb rfl rfl (Bin.add_i64 _ 2 jo) (ja rfl (jO ?_))))
  refine jN ⟨(k + 1, B6, c6, qs ++ [p]), (js5 rfl rfl (by rw [show (qs ++ [p]).length = qs.length + 1 from zb]; rfl) rfl (congrArg (fun z : Nat => some (Value.int .i64 (z : Int))) jo)), ?_, ?_⟩
  ·
   refine ⟨by dsimp only; omega, ⟨?_, ?_⟩, ?_, hS, cO huB hob6 hsz5, fun q hq2 => (List.mem_append.1 hq2).elim (hqg q) (fun h5 => by simp at h5; subst h5; exact hpG)⟩
   ·
    rw [show (qs ++ [p]).length = qs.length + 1 from zb, zaa]
    simpa using ho6
   ·
    intro q hq2
    rcases List.mem_append.1 hq2 with h5 | h5
    · exact (hP5.2 q h5).frm hf6 (hP5.ne q h5)
    simp at h5; subst h5; exact hp5.frm hf6 (Own.ne_own hp5 hP5.1 jd)
   dsimp only
   rw [zbx, hq, show 2 * (k + 1) = 2 * k + 2 by omega, hpt, zbj, hpa]
   rfl
  first | omega | (dsimp only; omega)
 have hqa : qs.map PkC.abs = qF (ls.map PkC.abs) := by rw [hq, wB _ (2 * k) (by simp; omega) (by simp; omega) jo]
 rw [← hqa]
 have hql2 : qs.length ≤ 10000 := jo
 clear hqa hq hk
 refine jX ?_
 refine qZ (qZ (qP ?_))
 refine jN (jv3 0 5 6 ?_)
 refine jS (jB ?_)
 refine VC.loop (σ := List PkC × List PkC × List PkC × Option Addr × Nat × Option Addr × Nat × Option Addr × Nat) (fun s => [(0, .slice s.2.2.2.1 s.1.length s.2.2.2.2.1), (5, .slice s.2.2.2.2.2.1 s.2.1.length s.2.2.2.2.2.2.1), (6, .slice s.2.2.2.2.2.2.2.1 s.2.2.1.length s.2.2.2.2.2.2.2.2)]) (fun s wr => bX (ps.map PkC.abs) (qs.map PkC.abs) = s.2.2.1.map PkC.abs ++ bX (s.1.map PkC.abs) (s.2.1.map PkC.abs) ∧ Rd w 2 s.2.2.2.1 s.1.length (s.1.flatMap PkC.cells) ∧ s.1.length ≤ s.2.2.2.2.1 ∧ (∀ p ∈ s.1, eS w p) ∧ Rd w7 2 s.2.2.2.2.2.1 s.2.1.length (s.2.1.flatMap PkC.cells) ∧ s.2.1.length ≤ s.2.2.2.2.2.2.1 ∧ (∀ p ∈ s.2.1, eS w7 p) ∧ Pks wr s.2.2.2.2.2.2.2.1 s.2.2.2.2.2.2.2.2 s.2.2.1 ∧ Frm [] w7 wr ∧ (∀ x ∈ ob s.2.2.2.2.2.2.2.1, w7.heap.size ≤ x) ∧ s.2.2.1.length + s.1.length + s.2.1.length ≤ 30000 ∧ (∀ p ∈ s.1, ∀ x ∈ ob p.A, G x) ∧ (∀ p ∈ s.2.1, ∀ x ∈ ob p.A, G x) ∧ ∀ p ∈ s.2.2.1, ∀ x ∈ ob p.A, G x) (fun s => s.1.length + s.2.1.length) (ps, qs, [], A1, c1, B, c, none, 0) (js3 rfl rfl rfl) ⟨jp, hr1, hcap, h1, hP.1.rd, hP.1.le, hP.2, ⟨Own.nil _ _ _, jp⟩, Frm.refl _ _, lE, by simp; omega, hg1, hqg, jp⟩ ?_
 rintro ⟨cs, pk, out, Ac, ca, Bp, cp, Bo, co⟩ wr ⟨hm, hrc, hcc, hoc, hrp, hcp, hop, hPo, hfo, huo, hlen, hcg, hpg, hog⟩
 dsimp only at hm hrc hcc hoc hrp hcp hop hPo hfo huo hlen hcg hpg hog ⊢
 have hfw : Frm [] w wr := hfr.own hfo jp
 refine jS (jS ?_)
 refine VC.split1 [(0, _), (5, _), (6, _)] (js3 rfl rfl rfl) 35 (.bool (decide ((0 < cs.length) ∨ (0 < pk.length)))) ?_ ?_
 ·
  by_cases hs0 : 0 < cs.length
  ·
   refine jR (jm rfl (je (Run.lenS rfl zy) (jb rfl rfl (Bin.gtrN _ 0) (jM ?_))))
   refine jU ?_
   refine jU ?_
   refine jU ?_
   refine je (Run.pickT rfl rfl au) (jO ?_)
   refine jN ⟨(js4 (by rw [qQt hs0]; rfl) rfl rfl rfl), rfl⟩
  refine jR (jm rfl (je (Run.lenS rfl zy) (jb rfl rfl (Bin.gtrN _ 0) (jM ?_))))
  refine jG ?_
  refine jk (Run.lenS rfl zy) ?_
  refine jk (Run.bin rfl rfl (Bin.gtrN _ 0)) ?_
  refine je (Run.pickF rfl rfl au) (jO ?_)
  refine jN ⟨(js4 (by rw [qQu hs0]; rfl) rfl rfl rfl), rfl⟩
 intro Γ hΓ
 refine jN (VC.sub _ hΓ ?_)
 refine jD rfl (fun hc2 => ?_) fun hc2 => ?_
 ·
  refine jQ (jN (jv3 0 5 6 ?_))
  refine jB (jS ?_)
  refine VC.splitR [(0, .slice Ac cs.length ca), (5, .slice Bp pk.length cp), (6, .slice Bo out.length co)] (fun w1 => w1 = wr.drew) 54 (.bool (decide (pk.length = 0 ∨ 0 < cs.length ∧ (cs.headD PkC.zero).count ≤ (pk.headD PkC.zero).count))) ?_ ?_
  ·
   refine VC.still jK jK ?_
   refine qM ?_
   refine qE (Run.lenS rfl zy) ?_
   refine qE (Run.bin rfl rfl (Bin.eqlN _ 0)) ?_
   by_cases hs38 : pk.length = 0
   ·
    refine qM ?_
    refine qU ?_
    refine qU ?_
    refine qU ?_
    refine qU ?_
    refine qW.skU rfl rfl ?_
    refine qW.skU rfl rfl ?_
    refine qW.skU rfl rfl ?_
    refine qW.skU rfl rfl ?_
    refine qW.skU rfl rfl ?_
    refine qW.skU rfl rfl ?_
    refine qW.skU rfl rfl ?_
    refine qW.skU rfl rfl ?_
    refine qW.skU rfl rfl ?_
    refine qU ?_
    refine qE (Run.pickT rfl rfl au) ?_
    refine qW.nil ?_
    refine jN ⟨(js4 (jC (by simp [*])) rfl rfl rfl), (rfl)⟩
   refine qM ?_
   refine qG (Run.mv rfl) ?_
   refine qG (Run.lenS rfl zy) ?_
   refine qG (Run.bin rfl rfl (Bin.gtrN _ 0)) ?_
   by_cases hs42 : 0 < cs.length
   ·
    have hpk0 : 0 < pk.length := jo
    obtain ⟨ad, rfl, hea⟩ := hrc.elem hs42
    obtain ⟨ad2, rfl, heb⟩ := hrp.elem hpk0
    rw [dV PkC.cells 2 PkC.cells_len cs 0 hs42, show cs[0] = cs.headD PkC.zero by cases cs <;> simp at hs42 ⊢] at hea
    rw [dV PkC.cells 2 PkC.cells_len pk 0 hpk0, show pk[0] = pk.headD PkC.zero by cases pk <;> simp at hpk0 ⊢] at heb
    have hca := (hfw.drawn (qQ.drew wr)).cell (hea 0 _ rfl) jp
    have hcb := (hfo.drawn (qQ.drew wr)).cell (heb 0 _ rfl) jp
    refine qG (Run.mv rfl) ?_
    refine qG (Run.mv rfl) ?_
    refine qG (Run.indexS 0 rfl rfl zy zv jo) ?_
    refine qG (Run.fieldAddr rfl zau rfl zd jd) ?_
    refine qG (Run.load rfl zg hca) ?_
    refine qG (Run.mv rfl) ?_
    refine qG (Run.indexS 0 rfl rfl zy zv jo) ?_
    refine qG (Run.fieldAddr rfl zau rfl zd jd) ?_
    refine qG (Run.load rfl zg hcb) ?_
    refine qG (Run.bin rfl rfl (Bin.leqN _ _)) ?_
    by_cases hs52 : (cs.headD PkC.zero).count ≤ (pk.headD PkC.zero).count
    ·
     refine qG (Run.pickT rfl rfl au) ?_
     refine qE (Run.pickF rfl rfl au) ?_
     refine qW.nil ?_
     refine jN ⟨(js4 (jC (by simp [*])) rfl rfl rfl), (rfl)⟩
    refine qG (Run.pickT rfl rfl au) ?_
    refine qE (Run.pickF rfl rfl au) ?_
    refine qW.nil ?_
    refine jN ⟨(js4 (jC (by simp [*])) rfl rfl rfl), (rfl)⟩
   refine qG (Run.mv rfl) ?_
   refine qU ?_
   refine qU ?_
   refine qU ?_
   refine qU ?_
   refine qU ?_
   refine qU ?_
   refine qU ?_
   refine qU ?_
   refine qU ?_
   refine qG (Run.pickF rfl rfl au) ?_
   refine qE (Run.pickF rfl rfl au) ?_
   refine qW.nil ?_
   refine jN ⟨(js4 (jC (by simp [*])) rfl rfl rfl), (rfl)⟩
  intro Γ w8 hΓ hw8
  refine jN (VC.sub _ hΓ ?_)
  refine jD rfl (fun hc3 => ?_) fun hc3 => ?_
  ·
   subst hw8
   obtain ⟨c0, cs, rfl⟩ : ∃ c0 cs2, cs = c0 :: cs2 := by
    cases cs with
    | nil => exfalso; simp only [zct] at hc2 hc3; omega
    | cons c0 cs2 => exact ⟨_, _, rfl⟩
   have hmc : bX ((c0 :: cs).map PkC.abs) (pk.map PkC.abs) = c0.abs :: bX (cs.map PkC.abs) (pk.map PkC.abs) := by
    cases pk with
    | nil => cases cs <;> simp [bX]
    | cons p0 pk2 =>
     rw [zbj, zbj, bX, if_pos]
     rcases hc3 with h5 | h5
     · simp at h5
     exact h5.2
   rw [hmc] at hm
   obtain ⟨ad, rfl, hea⟩ := hrc.elem (k := 0) jp
   rw [dV PkC.cells 2 PkC.cells_len (c0 :: cs) 0 jp] at hea
   have hcl : (c0 :: cs).length = cs.length + 1 := rfl
   have hd1 := hfo.drawn (qQ.drew wr)
   refine VC.held (fun v => Frm [] w7 v) jK ?_
   have hS : (fun v => Frm [] w7 v) wr.drew.drew := hd1.drawn (qQ.drew _)
   have hPd : Pks wr.drew.drew Bo co out := hPo.frm ((qQ.drew wr).trans (qQ.drew _)).frm jp (fun _ _ _ _ => jp)
   refine jH 0 rfl hS (fun w0 hw0 => Run.mv rfl) ?_
   refine jH 1 rfl hS (fun w0 hw0 => Run.mv rfl) ?_
   refine jH 2 rfl hS (fun w0 hw0 => Run.indexS 0 rfl rfl zy zv jo) ?_
   refine jH 3 rfl hS (fun w0 hw0 => Run.loadA rfl zdk zv (fun j v h => (hfr.own hw0 jp).cell (hea j v h) jp) (by first | rfl | (simp; done))) ?_
   refine jH 6 rfl hS (fun w0 hw0 => Run.mv rfl) ?_
   refine jH 7 rfl hS (fun w0 hw0 => Run.sliceS 1 _ rfl zy zv (evB.some_ rfl) evB.none_ jo jo) ?_
   refine qV.m 4 rfl jK (qJ.buildS1 rfl zy zv fV jd jd rfl rfl) trivial rfl rfl ?_
   rintro _ w5 ⟨rfl, hF5⟩
   have hS : (fun v => Frm [] w7 v) w5 := hS.own hF5.frm jp
   refine ⟨hS, ?_⟩
   have hrd5 : Rd w5 2 (some ⟨wr.drew.drew.heap.size, 0, none⟩) 1 c0.cells := Rd.of_blk (n := 1) (size := 2) hF5.blk rfl
   have hP5 := hPd.frm hF5.frm jp (fun _ _ _ _ => jp)
   refine qV.m 5 rfl jK (qJ.app rfl rfl zy (oT) rfl jd hP5.1 hrd5 c0.one jo jo) trivial rfl rfl ?_
   rintro _ w6 ⟨B6, c6, rfl, ho6, hf6, hob6⟩
   have hsz5 := Frm.size hS
   have hp6 : eS w6 c0 := (hoc c0 jp).frm (hfr.own (Frm.own hS hf6 huo) jp) jp
   have hS : (fun v => Frm [] w7 v) w6 := Frm.own hS hf6 huo
   refine ⟨hS, ?_⟩
   refine jH 8 rfl hS (fun w0 hw0 => Run.asg rfl) ?_
   refine jH 9 rfl hS (fun w0 hw0 => Run.asg rfl) ?_
   refine qV.done jK ?_
   refine qK (jN ⟨(cs, pk, out ++ [c0], cP (some ad) ca 1 2, ca - 1, Bp, cp, B6, c6), (js3 rfl rfl (by rw [show (out ++ [c0]).length = out.length + 1 from zb]; rfl)), ?_, ?_⟩)
   ·
    refine ⟨?_, qKi hrc (by rw [← hcl]; exact hcc), by dsimp only; rw [hcl] at hcc; omega, fun q hq2 => hoc q (by simp [hq2]), hrp, hcp, hop, ⟨?_, ?_⟩, hS, cO huo hob6 hsz5, by dsimp only; simp at hlen ⊢; omega, fun q hq2 => hcg q (by simp [hq2]), hpg, fun q hq2 => (List.mem_append.1 hq2).elim (hog q) (fun h5 => hcg q (by simp at h5; simp [h5]))⟩
    ·
     dsimp only
     rw [hm, zbx, zj]
     rfl
    ·
     rw [show (out ++ [c0]).length = out.length + 1 from zb, zaa]
     simpa using ho6
    intro q hq2
    rcases List.mem_append.1 hq2 with h5 | h5
    · exact (hP5.2 q h5).frm hf6 (hP5.ne q h5)
    simp at h5; subst h5; exact hp6
   dsimp only; simp
  subst hw8
  obtain ⟨p0, pk, rfl⟩ : ∃ p0 pk2, pk = p0 :: pk2 := by
   cases pk with
   | nil => exact absurd (.inl rfl) hc3
   | cons p0 pk2 => exact ⟨_, _, rfl⟩
  have hmc : bX (cs.map PkC.abs) ((p0 :: pk).map PkC.abs) = p0.abs :: bX (cs.map PkC.abs) (pk.map PkC.abs) := by
   cases cs with
   | nil => simp [bX]
   | cons c0 cs2 =>
    rw [zbj, zbj, bX, if_neg]
    intro h5
    exact hc3 (.inr ⟨jp, h5⟩)
  rw [hmc] at hm
  obtain ⟨ad, rfl, hea⟩ := hrp.elem (k := 0) jp
  rw [dV PkC.cells 2 PkC.cells_len (p0 :: pk) 0 jp] at hea
  have hcl : (p0 :: pk).length = pk.length + 1 := rfl
  have hd1 := hfo.drawn (qQ.drew wr)
  refine VC.held (fun v => Frm [] w7 v) jK ?_
  have hS : (fun v => Frm [] w7 v) wr.drew.drew := hd1.drawn (qQ.drew _)
  have hPd : Pks wr.drew.drew Bo co out := hPo.frm ((qQ.drew wr).trans (qQ.drew _)).frm jp (fun _ _ _ _ => jp)
  refine jH 0 rfl hS (fun w0 hw0 => Run.mv rfl) ?_
  refine jH 1 rfl hS (fun w0 hw0 => Run.mv rfl) ?_
  refine jH 2 rfl hS (fun w0 hw0 => Run.indexS 0 rfl rfl zy zv jo) ?_
  refine jH 3 rfl hS (fun w0 hw0 => Run.loadA rfl zdk zv (fun j v h => hw0.cell (hea j v h) jp) (by first | rfl | (simp; done))) ?_
  refine jH 6 rfl hS (fun w0 hw0 => Run.mv rfl) ?_
  refine jH 7 rfl hS (fun w0 hw0 => Run.sliceS 1 _ rfl zy zv (evB.some_ rfl) evB.none_ jo jo) ?_
  refine qV.m 4 rfl jK (qJ.buildS1 rfl zy zv fV jd jd rfl rfl) trivial rfl rfl ?_
  rintro _ w5 ⟨rfl, hF5⟩
  have hS : (fun v => Frm [] w7 v) w5 := hS.own hF5.frm jp
  refine ⟨hS, ?_⟩
  have hrd5 : Rd w5 2 (some ⟨wr.drew.drew.heap.size, 0, none⟩) 1 p0.cells := Rd.of_blk (n := 1) (size := 2) hF5.blk rfl
  have hP5 := hPd.frm hF5.frm jp (fun _ _ _ _ => jp)
  refine qV.m 5 rfl jK (qJ.app rfl rfl zy (oT) rfl jd hP5.1 hrd5 p0.one jo jo) trivial rfl rfl ?_
  rintro _ w6 ⟨B6, c6, rfl, ho6, hf6, hob6⟩
  have hsz5 := Frm.size hS
  have hp6 : eS w6 p0 := (hop p0 jp).frm (Frm.own hS hf6 huo) jp
  have hS : (fun v => Frm [] w7 v) w6 := Frm.own hS hf6 huo
  refine ⟨hS, ?_⟩
  refine jH 8 rfl hS (fun w0 hw0 => Run.asg rfl) ?_
  refine jH 9 rfl hS (fun w0 hw0 => Run.asg rfl) ?_
  refine qV.done jK ?_
  refine qK (jN ⟨(cs, pk, out ++ [p0], Ac, ca, cP (some ad) cp 1 2, cp - 1, B6, c6), (js3 rfl rfl (by rw [show (out ++ [p0]).length = out.length + 1 from zb]; rfl)), ?_, ?_⟩)
  ·
   refine ⟨?_, hrc, hcc, hoc, qKi hrp (by rw [← hcl]; exact hcp), by dsimp only; rw [hcl] at hcp; omega, fun q hq2 => hop q (by simp [hq2]), ⟨?_, ?_⟩, hS, cO huo hob6 hsz5, by dsimp only; simp at hlen ⊢; omega, hcg, fun q hq2 => hpg q (by simp [hq2]), fun q hq2 => (List.mem_append.1 hq2).elim (hog q) (fun h5 => hpg q (by simp at h5; simp [h5]))⟩
   ·
    dsimp only
    rw [hm, zbx, zj]
    rfl
   ·
    rw [show (out ++ [p0]).length = out.length + 1 from zb, zaa]
    simpa using ho6
   intro q hq2
   rcases List.mem_append.1 hq2 with h5 | h5
   · exact (hP5.2 q h5).frm hf6 (hP5.ne q h5)
   simp at h5; subst h5; exact hp6
  dsimp only; simp
 have e1 : cs = [] := zz jo
 have e2 : pk = [] := zz jo
 subst e1 e2
 rw [show bX (List.map PkC.abs []) (List.map PkC.abs []) = [] by simp [bX], zcz] at hm
 refine jX ?_
 refine qZ (qZ (qP ?_))
 refine jN (jv1 6 ?_)
 refine jS (jR (jm rfl (ja rfl (jO (jN (jv1 4 ?_))))))
 refine jT ?_
 refine qC rfl ?_
 exact ⟨Bo, co, out, rfl, hPo, hm.symm, hfr.own hfo jp, fun x hx => zo hfr.size (huo x hx), hog⟩
end
section
open Go.RowKit
def eU (l : List (Nat × List Nat)) : Nat := (l.map Prod.fst).sum
def dY (l : List (Nat × List Nat)) : Nat := (l.map fun p => p.2.length).sum
theorem rQ : ∀ (a b : List (Nat × List Nat)), eU (bX a b) = eU a + eU b
 | [], b => by simp [bX, eU]
 | c :: cs, [] => by simp [bX, eU]
 | c :: cs, p :: ps => by
  rw [bX]
  split
  ·
   have := rQ cs (p :: ps)
   simp [eU] at this ⊢
   omega
  have := rQ (c :: cs) ps
  simp [eU] at this ⊢
  omega
 termination_by a b => a.length + b.length
theorem rX : ∀ (a b : List (Nat × List Nat)), dY (bX a b) = dY a + dY b
 | [], b => by simp [bX, dY]
 | c :: cs, [] => by simp [bX, dY]
 | c :: cs, p :: ps => by
  rw [bX]
  split
  ·
   have := rX cs (p :: ps)
   simp [dY] at this ⊢
   omega
  have := rX (c :: cs) ps
  simp [dY] at this ⊢
  omega
 termination_by a b => a.length + b.length
theorem nI : ∀ (a b : List (Nat × List Nat)), (bX a b).length = a.length + b.length
 | [], b => by simp [bX]
 | c :: cs, [] => by simp [bX]
 | c :: cs, p :: ps => by
  rw [bX]
  split
  ·
   have := nI cs (p :: ps)
   simp at this ⊢
   omega
  have := nI (c :: cs) ps
  simp at this ⊢
  omega
 termination_by a b => a.length + b.length
theorem wC : ∀ (l : List (Nat × List Nat)), eU (qF l) ≤ eU l
 | [] => by simp [qF]
 | [a] => by simp [qF, eU]
 | a :: b :: r => by
  have := wC r
  simp [qF, eU, kF] at this ⊢
  omega
theorem wD : ∀ (l : List (Nat × List Nat)), dY (qF l) ≤ dY l
 | [] => by simp [qF]
 | [a] => by simp [qF, dY]
 | a :: b :: r => by
  have := wD r
  simp [qF, dY, kF] at this ⊢
  omega
def bG (cs : List (Nat × List Nat)) : Nat → List (Nat × List Nat)
 | 0 => cs
 | k + 1 => bX cs (qF (bG cs k))
theorem wE (cs : List (Nat × List Nat)) : ∀ k, eU (bG cs k) ≤ (k + 1) * eU cs
 | 0 => by simp [bG]
 | k + 1 => by
  have h1 := wE cs k
  have h2 := wC (bG cs k)
  rw [bG, rQ, zeb (k + 1)]
  omega
theorem rZ (cs : List (Nat × List Nat)) : ∀ k, dY (bG cs k) ≤ (k + 1) * dY cs
 | 0 => by simp [bG]
 | k + 1 => by
  have h1 := rZ cs k
  have h2 := wD (bG cs k)
  rw [bG, rX, zeb (k + 1)]
  omega
theorem sI (cs : List (Nat × List Nat)) : ∀ k, (bG cs k).length ≤ 2 * cs.length ∧ (2 * cs.length - (bG cs k).length) * 2 ^ k + 1 ≤ cs.length + 2 ^ k
 | 0 => by simp [bG]; omega
 | k + 1 => by
  obtain ⟨h1, h2⟩ := sI cs k
  have h3 : (qF (bG cs k)).length = (bG cs k).length / 2 := by
   generalize bG cs k = l
   clear h1 h2
   induction l using qF.induct with
   | case1 a b r ih => simp [qF, ih]; omega
   | case2 l h => 
    match l, h with
    | [], _ => rfl
    | [a], _ => simp [qF]
    | a :: b :: r, h => exact absurd rfl (h a b r)
  rw [bG, nI, h3]
  generalize (bG cs k).length = L at *
  refine ⟨jo, ?_⟩
  have h4 : (2 * cs.length - (cs.length + L / 2)) * 2 ≤ (2 * cs.length - L) + 1 := jo
  have h5 : (2 * cs.length - (cs.length + L / 2)) * 2 * 2 ^ k ≤ ((2 * cs.length - L) + 1) * 2 ^ k := zcv _ h4
  rw [zfr, zfs] at h5
  rw [zbt, zcf (2 ^ k) 2, ← zdu]
  omega
theorem sL (cs : List (Nat × List Nat)) (k : Nat) (h : cs.length ≤ 2 ^ (k + 1)) : 2 * cs.length - 2 ≤ (bG cs k).length := by
 obtain ⟨h1, h2⟩ := sI cs k
 rw [zbt] at h
 have h3 : (2 * cs.length - (bG cs k).length) * 2 ^ k < 3 * 2 ^ k := jo
 have h4 := Nat.lt_of_mul_lt_mul_right h3
 omega
theorem qM2 {l : List (Nat × List Nat)} {x : Nat × List Nat} (h : x ∈ l) : x.1 ≤ eU l := by
 induction l with
 | nil => simp at h
 | cons a r ih =>
  unfold eU at ih ⊢
  rw [zbj, zel]
  rcases zcq.1 h with rfl | h
  · omega
  have := ih h; omega
theorem qM3 {l : List (Nat × List Nat)} {x : Nat × List Nat} (h : x ∈ l) : x.2.length ≤ dY l := by
 induction l with
 | nil => simp at h
 | cons a r ih =>
  unfold dY at ih ⊢
  rw [zbj, zel]
  rcases zcq.1 h with rfl | h
  · omega
  have := ih h; omega
theorem sO {Q : Nat → Prop} : ∀ (a b : List (Nat × List Nat)), (∀ p ∈ a, ∀ s ∈ p.2, Q s) → (∀ p ∈ b, ∀ s ∈ p.2, Q s) → ∀ p ∈ bX a b, ∀ s ∈ p.2, Q s
 | [], b, _, hb => by simpa [bX] using hb
 | c :: cs, [], ha, _ => by simpa [bX] using ha
 | c :: cs, p :: ps, ha, hb => by
  rw [bX]
  split
  ·
   intro q hq
   rcases zcq.1 hq with rfl | hq
   · exact ha _ jp
   exact sO cs (p :: ps) (fun x hx => ha x (by simp [hx])) hb q hq
  intro q hq
  rcases zcq.1 hq with rfl | hq
  · exact hb _ jp
  exact sO (c :: cs) ps ha (fun x hx => hb x (by simp [hx])) q hq
 termination_by a b => a.length + b.length
theorem zN {Q : Nat → Prop} : ∀ (l : List (Nat × List Nat)), (∀ p ∈ l, ∀ s ∈ p.2, Q s) → ∀ p ∈ qF l, ∀ s ∈ p.2, Q s
 | [], _ => by simp [qF]
 | [a], _ => by simp [qF]
 | a :: b :: r, h => by
  intro q hq s hs
  rw [qF] at hq
  rcases zcq.1 hq with rfl | hq
  ·
   rcases List.mem_append.1 hs with h5 | h5
   · exact h a jp s h5
   exact h b jp s h5
  exact zN r (fun x hx => h x (by simp [hx])) q hq s hs
theorem zP {Q : Nat → Prop} (cs : List (Nat × List Nat)) (h : ∀ p ∈ cs, ∀ s ∈ p.2, Q s) : ∀ k, ∀ p ∈ bG cs k, ∀ s ∈ p.2, Q s
 | 0 => h
 | k + 1 => sO _ _ h (zN _ (zP cs h k))
theorem zR (cs : List Nat) (b : Nat) (hb : ∀ x ∈ cs, x ≤ b) : ∀ n, n ≤ cs.length → eU (cX cs n) ≤ n * b ∧ dY (cX cs n) ≤ n
 | 0, _ => by simp [cX, eU, dY]
 | n + 1, h => by
  obtain ⟨h1, h2⟩ := zR cs b hb n jo
  have hx : cs.getD n 0 ≤ b := by
   simp only [List.getD, za (jo : n < cs.length), zaz]
   exact hb _ (zw _)
  rw [nV, zeb]
  unfold eU dY at *
  rw [zbx, zbx, zgr, zgr]
  generalize cs.getD n 0 = x at *
  split <;> simp <;> omega
theorem qM4 {a b : List (Nat × List Nat)} (h : a.Perm b) : eU a = eU b ∧ dY a = dY b := ⟨(h.map _).sum_nat, (h.map _).sum_nat⟩
def tL (n : Nat) (l : List (Nat × List Nat)) : List Nat := (List.range n).map fun k => (l.map fun p => p.2.count k).sum
def cT (n m : Nat) (own : List (Nat × List Nat)) : List Nat := if own.length ≤ 1 then tL n own else tL n ((bG own (m - 1)).take (2 * own.length - 2))
end
section
open Go.RowKit
theorem qS2 {l : List Int} (h : ∀ x ∈ l, 0 ≤ x) : IB l = NI (l.map Int.toNat) := by
 unfold IB NI
 rw [zdg]
 apply zcx
 intro x hx
 have := h x hx
 simp
 omega
def eB (n : Nat) (l : List Nat) : List Nat := (List.range n).map fun k => l.count k
theorem qM5 (n : Nat) (l : List Nat) : (eB n l).length = n := by simp [eB]
theorem vH (n : Nat) : NI (eB n []) = (List.replicate n [Value.int .i64 0]).flatten := by
 apply zap
 intro j
 have e : (List.replicate n [Value.int .i64 0]).flatten = List.replicate n (Value.int .i64 0) := by
  induction n with
  | zero => rfl
  | succ n ih => rw [List.replicate_succ, List.flatten_cons, ih]; rfl
 rw [e]
 simp [NI, eB, zfk, zbk, zfj]
 by_cases h : j < n
 · simp [h]
 simp [h]
theorem zS {n s : Nat} (l : List Nat) (h : s < n) : NI (eB n (l ++ [s])) = (NI (eB n l)).set s (.int .i64 ((l.count s + 1 : Nat) : Int)) := by
 apply zap
 intro j
 by_cases hj : j = s
 ·
  subst hj
  rw [zec (by simp [NI, qM5, h])]
  simp [NI, eB, h]
 rw [zfc (Ne.symm hj)]
 simp only [NI, eB, zbk]
 by_cases hn : j < n
 · simp [hn, zaq, List.count_singleton, Ne.symm hj]
 simp [hn]
theorem qGg {w : World} {e n c k : Nat} {ad : Addr} {l : List Nat} (h : Own w e 1 (some ad) n c (NI (eB n l))) (hk : k < n) : w.cell? (ad.add k) = some (.int .i64 ((l.count k : Nat) : Int)) := by
 obtain ⟨ad', u, hA, hu, hc⟩ := h.rd.at1 hk
 injection hA with hA
 subst hA
 rw [hc]
 simp [NI, eB, hk] at hu
 rw [← hu]
theorem rJ (n : Nat) (l : List (Nat × List Nat)) : tL n l = eB n (l.flatMap Prod.snd) := by
 unfold tL eB
 apply zcx
 intro k _
 induction l with
 | nil => rfl
 | cons a r ih => rw [zbj, zel, ih, zm, zaq]
theorem qX8 (l : List (Nat × List Nat)) : (l.flatMap Prod.snd).length = dY l := by
 unfold dY
 induction l with
 | nil => rfl
 | cons a r ih => rw [zm, zb, ih, zbj, zel]
theorem qGh (l : List (Nat × List Nat)) (n : Nat) : dY (l.take n) ≤ dY l := by
 induction l generalizing n with
 | nil => simp
 | cons a r ih =>
  cases n with
  | zero => simp [dY]
  | succ n =>
   have := ih n
   unfold dY at *
   simp only [zac, zbj, zel]
   omega
theorem qX9 (A : Option Addr) (c0 : Nat) (l : List Int) (m : Int) (w : World) (hl : l.length ≤ 1000000) (hr : Rd w 1 A l.length (IB l)) :
  Calls Tryz.prog 60 #[.slice A l.length c0, .int .i64 m] w fun e w' => Frm [] w w' ∧
   if ¬ sA l ∨ m < 1 ∨ 15 < m then e = .returned (.tuple #[.slice none 0 0, .int .i64 ((1 : Nat) : Int)])
   else ∃ own, dX (l.map Int.toNat) own ∧ if 2 ^ m.toNat < own.length then e = .returned (.tuple #[.slice none 0 0, .int .i64 ((8 : Nat) : Int)])
    else ∃ B c, e = .returned (.tuple #[.slice B l.length c, .int .i64 ((0 : Nat) : Int)]) ∧ Own w' 3 1 B l.length c (NI (cT l.length m.toNat own)) ∧ ∀ x ∈ ob B, w.heap.size ≤ x := by
 refine VC.calls (nt := 89) (res := #[.tmp 4, .tmp 5]) Tryz.func60 rfl Tryz.ntmps60 Tryz.results60 rfl ?_
 refine jS (jR (ja rfl (jz 0 (jO (jN (jv2 0 1 ?_))))))
 refine jS (jS ?_)
 refine VC.split1 [(0, _), (1, _)] (js2 rfl rfl) 23 (.bool (decide (¬ sA l ∨ m < 1 ∨ 15 < m))) ?_ ?_
 ·
  refine jR (jM ?_)
  refine Ops.cl (jE1 Tryz.call95) (qM1 A c0 l _ jo hr) rfl ?_
  rintro e _ ⟨rfl, rfl⟩
  refine ⟨_, rfl, ?_⟩
  by_cases hs14 : sA l
  ·
   refine je (Run.not rfl) (jM ?_)
   refine jG ?_
   refine jk (Run.bin rfl rfl (Bin.lss _ 1)) ?_
   by_cases hs18 : m < 1
   ·
    refine je (Run.pickF rfl rfl au) (jM ?_)
    refine jU ?_
    refine jU ?_
    refine je (Run.pickT rfl rfl au) (jO ?_)
    refine jN ⟨(js3 (jC (by simp [*])) rfl rfl), rfl⟩
   refine je (Run.pickF rfl rfl au) (jM ?_)
   refine jG ?_
   refine jk (Run.bin rfl rfl (Bin.gtr _ 15)) ?_
   by_cases hs22 : 15 < m
   ·
    refine je (Run.pickF rfl rfl au) (jO ?_)
    refine jN ⟨(js3 (jC (by simp [*])) rfl rfl), rfl⟩
   refine je (Run.pickF rfl rfl au) (jO ?_)
   refine jN ⟨(js3 (jC (by simp [*])) rfl rfl), rfl⟩
  refine je (Run.not rfl) (jM ?_)
  refine jU ?_
  refine jU ?_
  refine je (Run.pickT rfl rfl au) (jM ?_)
  refine jU ?_
  refine jU ?_
  refine je (Run.pickT rfl rfl au) (jO ?_)
  refine jN ⟨(js3 (jC (by simp [*])) rfl rfl), rfl⟩
 intro Γ hΓ
 refine jN (VC.sub _ hΓ ?_)
 refine jD rfl (fun hc1 => ?_) fun hc1 => ?_
 ·
  refine jS (jR (ja rfl (jz 1 (jO (jN (jv2 4 5 ?_))))))
  refine jT ?_
  refine qN (cG rfl rfl ?_)
  exact ⟨Frm.refl [] w, by rw [if_pos hc1]⟩
 obtain ⟨m, rfl⟩ : ∃ k : Nat, m = k := ⟨m.toNat, jo⟩
 have hm1 : 1 ≤ m := jo
 have hm15 : m ≤ 15 := jo
 have hmay : sA l := Classical.not_not.1 (fun h => hc1 (.inl h))
 have hpos : ∀ x ∈ l, 0 ≤ x := fun x hx => (hmay.2 x hx).1
 have hll := hmay.1
 have hin := qS2 hpos
 generalize hcs : l.map Int.toNat = cs at *
 have hcl : cs.length = l.length := by rw [← hcs, zu]
 have hcx : ∀ x ∈ cs, x ≤ 2147483647 := by
  intro x hx
  rw [← hcs] at hx
  obtain ⟨y, hy, rfl⟩ := List.mem_map.1 hx
  have := hmay.2 y hy
  omega
 rw [hin, ← hcl] at hr
 rw [← hcl]
 refine jQ (jN (jv2 0 1 ?_))
 refine jS (jR (jM ?_))
 refine Ops.cl (jE1 Tryz.call96) (qJh A c0 cs _ jo hcx hr) rfl ?_
 rintro e w1 ⟨B1, c1, ps, rfl, hP1, hco, hf1, hu1⟩
 refine ⟨_, rfl, ?_⟩
 have hpl : ps.length ≤ 320 := by
  have h5 := hco.1.length_eq
  rw [zu] at h5
  rw [h5]
  unfold cX
  rw [zu]
  exact zo (zgg _ _) (by simp; omega)
 have hpw : 2 ^ m ≤ 2 ^ 15 := zae jo hm15
 refine ja rfl (jO (jN (jv3 0 1 6 ?_)))
 refine jS (jR (jm rfl (je (Run.lenS rfl zf) ?_)))
 refine Ops.m (qJ.makeS rfl rfl zf (fT) rfl jo jo) rfl ?_
 rintro _ w2 ⟨rfl, ho2, hf2, hs2⟩
 have hP2 := hP1.frm hf2 jp (fun _ _ _ _ => jp)
 have hfr2 := hf1.own hf2 jp
 have hgo := hf1.size
 generalize hgo2 : w1.heap.size = go at *
 refine ja rfl (jO (jN (jv3 1 6 7 ?_)))
 refine jS (jB (jS (jR (jm rfl (je (Run.lenS rfl zy) (jm rfl (jb rfl rfl (Bin.shl_i64 1 m jo jo) (jb rfl rfl (Bin.gtr _ _) (ja rfl (jO (jN (jv4 1 6 7 29 ?_))))))))))))
 refine jD rfl (fun hc2 => ?_) fun hc2 => ?_
 ·
  rw [zfs] at hc2
  have hc2n : 2 ^ m < ps.length := Int.ofNat_lt.1 hc2
  refine jS (jR (ja rfl (jz 8 (jO (jN (jv2 4 5 ?_))))))
  refine jT ?_
  refine qD (qN (cG rfl rfl ?_))
  refine ⟨hfr2, ?_⟩
  rw [if_neg hc1]
  refine ⟨_, hco, ?_⟩
  rw [zal, zu, if_pos hc2n]
 have hc2n : ¬ 2 ^ m < ps.length := fun h => hc2 (by rw [zfs]; exact Int.ofNat_lt.2 h)
 refine jS (jR (jm rfl (je (Run.lenS rfl zy) (jb rfl rfl (Bin.eqlN _ 1) (ja rfl (jO (jN (jv4 1 6 7 35 ?_))))))))
 refine jD rfl (fun hc3 => ?_) fun hc3 => ?_
 ·
  obtain ⟨p, rfl⟩ : ∃ p, ps = [p] := by
   match ps, hc3 with
   | [p], _ => exact ⟨p, rfl⟩
  obtain ⟨k, hk, hk0, hpe⟩ := fZ (hco.1.mem_iff.1 (zem (f := PkC.abs) (zh.2 rfl)))
  have hsy : p.sy = [k] := congrArg Prod.snd hpe
  obtain ⟨ad, rfl, hea⟩ := hP2.1.rd.elem (k := 0) jp
  rw [dV PkC.cells 2 PkC.cells_len [p] 0 jp] at hea
  have hpo := hP2.2 p jp
  unfold eS at hpo
  obtain ⟨ai, hai, hci⟩ := tF hpo.rd (k := 0) (by rw [hsy]; simp)
  have hci2 : w2.cell? (ai.add 0) = some (.int .i64 ((k : Nat) : Int)) := by rw [hci]; simp [hsy]
  have h1i : (PkC.cells p)[1]? = some (.slice (some ai) 1 p.c) := by simp [PkC.cells, hai, hsy]
  have hl1 : [p].length = 1 := rfl
  rw [hl1]
  refine jS (jR (jm rfl (jm rfl (je (Run.indexS 0 rfl rfl zy zv jo) (jf rfl zau rfl zay (jl rfl zbu (hea 1 _ h1i) (je (Run.index1 0 rfl rfl zf zd jo) (jl rfl zg hci2 (je (Run.index1 _ rfl rfl zf zd jo) ?_)))))))))
  refine Ops.st (qR.storeOwn k rfl rfl zd ho2 rfl jo rfl) ?_
  rintro w3 ⟨ho3, hf3, hs3⟩
  refine jO (jN (jv1 7 ?_))
  refine jS (jR (jm rfl (ja rfl (jz 0 (jO (jN (jv2 4 5 ?_)))))))
  refine jT ?_
  refine qD (qN (cG rfl rfl ?_))
  refine ⟨hfr2.own hf3 (fun x hx => by simp [ob] at hx; omega), ?_⟩
  rw [if_neg hc1]
  refine ⟨_, hco, ?_⟩
  rw [zal, zu, if_neg hc2n]
  refine ⟨_, _, rfl, ?_, fun x hx => ?_⟩
  ·
   have h5 : cT cs.length m ([p].map PkC.abs) = eB cs.length ([] ++ [k]) := by
    unfold cT
    rw [if_pos (show ([p].map PkC.abs).length ≤ 1 from zk 1), rJ]
    simp [PkC.abs, hsy]
   have h6 : (List.replicate cs.length (Value.int .i64 0).cells.toList).flatten = NI (eB cs.length []) := (vH _).symm
   rw [h5, zS [] hk]
   rw [h6] at ho3
   exact ho3
  simp [ob] at hx
  omega
 refine jS (jR (jm rfl (je (Run.lenS rfl zy) (jb rfl rfl (Bin.eqlN _ 0) (ja rfl (jO (jN (jv4 1 6 7 48 ?_))))))))
 refine jD rfl (fun hc4 => ?_) fun hc4 => ?_
 ·
  refine jS (jR (jm rfl (ja rfl (jz 0 (jO (jN (jv2 4 5 ?_)))))))
  refine jT ?_
  refine qD (qN (cG rfl rfl ?_))
  refine ⟨hfr2, ?_⟩
  rw [if_neg hc1]
  refine ⟨_, hco, ?_⟩
  rw [zal, zu, if_neg hc2n]
  refine ⟨_, _, rfl, ?_, fun x hx => ?_⟩
  ·
   have hpn : ps = [] := zz hc4
   have h5 : cT cs.length m (ps.map PkC.abs) = eB cs.length [] := by
    unfold cT
    rw [if_pos (by simp [hpn]), rJ, hpn]
    rfl
   have h6 : (List.replicate cs.length (Value.int .i64 0).cells.toList).flatten = NI (eB cs.length []) := (vH _).symm
   rw [h5, ← h6]
   exact ho2
  simp [ob] at hx
  omega
 have hn2 : 2 ≤ ps.length := jo
 have hown : ps.map PkC.abs = bG (ps.map PkC.abs) 0 := rfl
 have htc := zR cs 2147483647 hcx cs.length (zk _)
 have htp := qM4 hco.1
 have htm : cs.length * 2147483647 ≤ 320 * 2147483647 := zcv _ jo
 have htC : eU (ps.map PkC.abs) ≤ 320 * 2147483647 := jo
 have htS : dY (ps.map PkC.abs) ≤ 320 := jo
 have hpg0 : ∀ p ∈ ps, ∀ x ∈ ob p.A, x ≠ go := fun p hp x hx => by
  have h5 := (hP1.2 p hp).lt x hx
  omega
 have hsy : ∀ k, ∀ p ∈ bG (ps.map PkC.abs) k, ∀ s ∈ p.2, s < cs.length := zP _ (fun p hp s hs => by
  obtain ⟨j, hj, _, rfl⟩ := fZ (hco.1.mem_iff.1 hp)
  simp at hs
  omega)
 refine jQ ?_
 refine qK (jN ?_)
 refine jv3 1 6 7 ?_
 refine jS (jR (jm rfl (ja rfl (jO (jN (jv4 1 6 7 8 ?_))))))
 refine jS (jS (jR (jm rfl (jb rfl rfl (Bin.sub_i64 _ 1 jo jo) ?_))))
 refine jx .i64 0 ?_
 refine jO (jN (jv5 6 7 8 55 56 ?_))
 refine jB ?_
 refine VC.loop (σ := Nat × Option Addr × Nat × List PkC) (fun s => [(6, .slice B1 ps.length c1), (7, .slice (some ⟨go, 0, none⟩) cs.length cs.length), (8, .slice s.2.1 s.2.2.2.length s.2.2.1), (55, .int .i64 ((m - 1 : Nat) : Int)), (56, .int .i64 ((s.1 : Nat) : Int))]) (fun s wr => s.1 ≤ m - 1 ∧ s.2.2.2.map PkC.abs = bG (ps.map PkC.abs) s.1 ∧ Pks wr s.2.1 s.2.2.1 s.2.2.2 ∧ Pks wr B1 c1 ps ∧ Own wr 3 1 (some ⟨go, 0, none⟩) cs.length cs.length (List.replicate cs.length [Value.int .i64 0]).flatten ∧ Frm [] w wr ∧ ∀ p ∈ s.2.2.2, ∀ x ∈ ob p.A, x ≠ go) (fun s => m - 1 - s.1) (0, B1, c1, ps) (js5 rfl rfl rfl rfl rfl) ⟨jo, rfl, hP2, hP2, ho2, hfr2, hpg0⟩ ?_
 rintro ⟨k, Bk, ck, lst⟩ wr ⟨hk, hlv, hPk, hPo, hoo, hfr, hpg⟩
 dsimp only at hk hlv hPk hPo hoo hfr hpg ⊢
 have hlen := (sI (ps.map PkC.abs) k).1
 rw [← hlv, zu, zu] at hlen
 have hgw : go < wr.heap.size := hoo.lt go (by simp [ob])
 refine jS (jR (jb rfl rfl (Bin.lss _ _) (jO (jN (jS ?_)))))
 refine jD rfl (fun hc5 => ?_) fun hc5 => ?_
 ·
  have hbd : ∀ p ∈ lst, p.count ≤ 2305843009213693951 ∧ p.sy.length ≤ 100000 := by
   intro p hp
   have h5 : p.abs ∈ bG (ps.map PkC.abs) k := by rw [← hlv]; exact zem hp
   have h6 : p.count ≤ _ := qM2 h5
   have h7 : p.sy.length ≤ _ := qM3 h5
   have h8 := wE (ps.map PkC.abs) k
   have h9 := rZ (ps.map PkC.abs) k
   have h10 : (k + 1) * eU (ps.map PkC.abs) ≤ 16 * (320 * 2147483647) := zgw jo htC
   have h11 : (k + 1) * dY (ps.map PkC.abs) ≤ 16 * 320 := zgw jo htS
   exact ⟨jo, jo⟩
  refine jQ (jN (jv5 6 7 8 55 56 ?_))
  refine jS (jB (jR (jm rfl (jM ?_))))
  refine Ops.cl (jE2 Tryz.call97) (qJj B1 Bk c1 ck ps lst _ hPo.1.rd hPo.2 hPk.1.rd hPk.2 hPo.1.le jo jo hbd (fun x => x ≠ go) (fun x hx => jo) hpg0) rfl ?_
  rintro e w5 ⟨B5, c5, qs, rfl, hP5, hq5, hf5, hu5, hg5⟩
  refine ⟨_, rfl, ?_⟩
  refine ja rfl (jO ?_)
  refine qK (jN ?_)
  refine jv5 6 7 8 55 56 ?_
  refine jR (jb rfl rfl (Bin.add_i64 _ 1 jo) (jm rfl (jO ?_)))
  refine jN ⟨(k + 1, B5, c5, qs), (js5 rfl rfl rfl rfl rfl), ?_, ?_⟩
  · exact ⟨by dsimp only; omega, by dsimp only; rw [hq5, hlv]; rfl, hP5, hPo.frm hf5 jp (fun _ _ _ _ => jp), hoo.frm hf5 jp, hfr.own hf5 jp, hg5⟩
  first | omega | (dsimp only; omega)
 have hkm : k = m - 1 := jo
 subst hkm
 have hen := sL (ps.map PkC.abs) (m - 1) (by rw [zu, show m - 1 + 1 = m by omega]; omega)
 rw [← hlv, zu, zu] at hen
 have hcc := hPk.1.le
 rw [← vH] at hoo
 have hall : ∀ i, i ≤ lst.length → ((lst.take i).flatMap PkC.sy).length ≤ 16 * 320 := by
  intro i _
  have h8 := rZ (ps.map PkC.abs) (m - 1)
  have h9 : (m - 1 + 1) * dY (ps.map PkC.abs) ≤ 16 * 320 := zgw jo htS
  have h10 := qGh (lst.map PkC.abs) i
  rw [← qX8, ← zeg, List.flatMap_map, hlv] at h10
  exact zo h10 (zo h8 h9)
 have hsyl : ∀ p ∈ lst, ∀ s ∈ p.sy, s < cs.length := fun p hp s hs => hsy (m - 1) p.abs (by rw [← hlv]; exact zem hp) s hs
 refine jX ?_
 refine qZ (qZ (qP ?_))
 refine jN (jv3 6 7 8 ?_)
 refine jS (jS (jR (jm rfl (jm rfl (je (Run.lenS rfl zy) (jb rfl rfl (Bin.mul_i64 2 _ jo) (jb rfl rfl (Bin.sub_i64 _ 2 jo jo) (je (Run.sliceS 0 _ rfl zy zv evB.none_ (evB.some_ rfl) jo jo) ?_))))))))
 rw [zM, zcn, zcn]
 refine je (Run.lenS rfl zy) ?_
 refine jx .i64 0 ?_
 refine jO (jN (jv4 7 67 68 69 ?_))
 refine jB ?_
 refine VC.loop (σ := Nat) (fun s => [(7, .slice (some ⟨go, 0, none⟩) cs.length cs.length), (67, .slice Bk (2 * ps.length - 2) ck), (68, .int .i64 ((2 * ps.length - 2 : Nat) : Int)), (69, .int .i64 ((s : Nat) : Int))]) (fun s wr => s ≤ 2 * ps.length - 2 ∧ Pks wr Bk ck lst ∧ Own wr 3 1 (some ⟨go, 0, none⟩) cs.length cs.length (NI (eB cs.length ((lst.take s).flatMap PkC.sy))) ∧ Frm [] w wr) (fun s => 2 * ps.length - 2 - s) 0 (js4 rfl rfl rfl rfl) ⟨jo, hPk, by simpa using hoo, hfr⟩ ?_
 clear hPk hoo hfr hgw
 rintro i w5 ⟨hi, hPk, hoo, hfr⟩
 refine jS (jR (jb rfl rfl (Bin.lssN _ _) (jO (jN (jS ?_)))))
 refine jD rfl (fun hc6 => ?_) fun hc6 => ?_
 ·
  have hil : i < lst.length := jo
  obtain ⟨ad, rfl, hea⟩ := hPk.1.rd.elem (k := i) hil
  rw [dV PkC.cells 2 PkC.cells_len lst i hil] at hea
  have hpok := hPk.2 lst[i] (zw _)
  have hpgi := hpg lst[i] (zw _)
  have hpsy := hsyl lst[i] (zw _)
  have htk : lst.take (i + 1) = lst.take i ++ [lst[i]] := by rw [zaj, za hil]; rfl
  have hfl := hall (i + 1) hil
  rw [htk, zaa] at hfl
  simp only [zm, List.flatMap_nil, zcz, zb] at hfl
  generalize lst[i] = p at *
  refine jQ (jN (jv4 7 67 68 69 ?_))
  refine jS (jB (jS (jR (je (Run.indexS _ rfl rfl zy zv jo) (je (Run.loadA rfl zdk zv hea (by first | rfl | (simp; done))) ?_)))))
  refine Ops.m (qJ.alloc fV) rfl ?_
  rintro _ w6 ⟨rfl, hF6⟩
  refine Ops.st (qR.storeA rfl rfl zv hF6.blk rfl p.one) ?_
  rintro w7 ⟨hb7, hf7, hs7⟩
  have h74 : w7.cell? ((⟨w5.heap.size, 0, none⟩ : Addr).add 1) = some (.slice p.A p.sy.length p.c) := by rw [kT, hb7.cell]; rfl
  have hf67 : Frm [] w5 w7 := hF6.frm.own hf7 jp
  refine jO (jN (jv5 7 10 67 68 69 ?_))
  refine jS (jR (jf rfl zau rfl zay (jl rfl zbu h74 (je (Run.lenS rfl zf) ?_))))
  refine jx .i64 0 ?_
  refine jO (jN (jv7 7 67 68 69 74 75 76 ?_))
  refine jB ?_
  refine VC.loop (σ := Nat) (fun s => [(7, .slice (some ⟨go, 0, none⟩) cs.length cs.length), (67, .slice (some ad) (2 * ps.length - 2) ck), (68, .int .i64 ((2 * ps.length - 2 : Nat) : Int)), (69, .int .i64 ((i : Nat) : Int)), (74, .slice p.A p.sy.length p.c), (75, .int .i64 ((p.sy.length : Nat) : Int)), (76, .int .i64 ((s : Nat) : Int))]) (fun s wr => s ≤ p.sy.length ∧ Pks wr (some ad) ck lst ∧ eS wr p ∧ Own wr 3 1 (some ⟨go, 0, none⟩) cs.length cs.length (NI (eB cs.length ((lst.take i).flatMap PkC.sy ++ p.sy.take s))) ∧ Frm [] w wr) (fun s => p.sy.length - s) 0 (js7 rfl rfl rfl rfl rfl rfl rfl) ⟨jo, hPk.frm hf67 jp (fun _ _ _ _ => jp), hpok.frm hf67 jp, by simpa using hoo.frm hf67 jp, hfr.own hf67 jp⟩ ?_
  clear hPk hoo hfr hpok hea
  rintro j w8 ⟨hj, hPk, hpok, hoo, hfr⟩
  refine jS (jR (jb rfl rfl (Bin.lssN _ _) (jO (jN (jS ?_)))))
  refine jD rfl (fun hc7 => ?_) fun hc7 => ?_
  ·
   obtain ⟨ai, hai, hci⟩ := tF (Own.rd hpok) hc7
   have hsn := hpsy p.sy[j] (zw _)
   have hct := qGg hoo hsn
   have htk2 : p.sy.take (j + 1) = p.sy.take j ++ [p.sy[j]] := by rw [zaj, za hc7]; rfl
   have hcl2 : ((lst.take i).flatMap PkC.sy ++ p.sy.take j).count p.sy[j] ≤ 5120 := by
    refine zo zgk ?_
    rw [zb, zi]
    omega
   have hsl : p.A = some ai := hai
   generalize p.sy[j] = sj at *
   rw [hsl]
   refine jQ (jN (jv7 7 67 68 69 74 75 76 ?_))
   refine jS (jB (jS (jR (je (Run.index1 _ rfl rfl zf zd jo) (jl rfl zg hci (ja rfl (jO (jN (jv8 7 12 67 68 69 74 75 76 ?_)))))))))
   refine jR (jm rfl (jm rfl (je (Run.index1 _ rfl rfl zf zd jo) (jl rfl zg hct (jb rfl rfl (Bin.add_i64 _ 1 jo) (je (Run.index1 _ rfl rfl zf zd jo) ?_))))))
   refine Ops.st (qR.storeOwn sj rfl rfl zd hoo rfl jo rfl) ?_
   rintro w9 ⟨ho9, hf9, hs9⟩
   rw [← zS _ hsn, zj, ← htk2] at ho9
   refine jO ?_
   refine qK (jN ?_)
   refine jv7 7 67 68 69 74 75 76 ?_
   refine jR (jb rfl rfl (Bin.add_i64 _ 1 jo) (jm rfl (jO ?_)))
   refine jN ⟨(j + 1), (js7 rfl rfl rfl rfl (by rw [← hsl]; rfl) rfl rfl), ?_, ?_⟩
   ·
    refine ⟨hc7, hPk.frm hf9 (hPk.1.ne_own hoo jd) (fun q hq x hx => by simp [ob]; exact hpg q hq x hx), hpok.frm hf9 (fun x hx => by simp [ob]; exact hpgi x hx), ho9, hfr.own hf9 (fun x hx => ?_)⟩
    simp [ob] at hx
    omega
   first | omega | (dsimp only; omega)
  have hjl : j = p.sy.length := jo
  subst hjl
  rw [zbl] at hoo
  refine jX ?_
  refine qZ (qZ (qP ?_))
  refine qK (jN ?_)
  refine jv4 7 67 68 69 ?_
  refine jR (jb rfl rfl (Bin.add_i64 _ 1 jo) (jm rfl (jO ?_)))
  refine jN ⟨(i + 1), (js4 rfl rfl rfl rfl), ?_, ?_⟩
  ·
   refine ⟨jo, hPk, ?_, hfr⟩
   rw [htk, zaa]
   simpa using hoo
  first | omega | (dsimp only; omega)
 have hin2 : i = 2 * ps.length - 2 := jo
 subst hin2
 refine jX ?_
 refine qZ (qZ (qP ?_))
 refine jN (jv1 7 ?_)
 refine jS (jR (jm rfl (ja rfl (jz 0 (jO (jN (jv2 4 5 ?_)))))))
 refine jT ?_
 refine cG rfl rfl ?_
 refine ⟨hfr, ?_⟩
 rw [if_neg hc1]
 refine ⟨_, hco, ?_⟩
 rw [zal, zu, if_neg hc2n]
 refine ⟨_, _, rfl, ?_, fun x hx => ?_⟩
 ·
  have h5 : cT cs.length m (ps.map PkC.abs) = eB cs.length ((lst.take (2 * ps.length - 2)).flatMap PkC.sy) := by
   unfold cT
   rw [if_neg (by rw [zu]; omega), rJ, ← hlv, zu, ← zeg, List.flatMap_map]
   rfl
  rw [h5]
  exact hoo
 simp [ob] at hx
 omega
end
section
open Go.RowKit
theorem qZa {cs : List Nat} {a b : List (Nat × List Nat)} (ha : dX cs a) (hb : dX cs b) : a = b := by
 have hp : a.Perm b := ha.1.trans hb.1.symm
 have : ∀ (a b : List (Nat × List Nat)), a.Perm b → a.Pairwise (fun a b => dB a < dB b) → b.Pairwise (fun a b => dB a < dB b) → a = b := by
  intro a
  induction a with
  | nil => intro b h _ _; exact (List.Perm.nil_eq h)
  | cons x r ih =>
   intro b h h1 h2
   cases b with
   | nil => exact absurd h.length_eq jp
   | cons y t =>
    have hxy : x = y := by
     rcases zcq.1 (h.mem_iff.1 (zbf : x ∈ x :: r)) with h3 | h3
     · exact h3
     rcases zcq.1 (h.symm.mem_iff.1 (zbf : y ∈ y :: t)) with h4 | h4
     · exact h4.symm
     have h5 := (List.pairwise_cons.1 h1).1 _ h4
     have h6 := (List.pairwise_cons.1 h2).1 _ h3
     omega
    subst hxy
    rw [ih t (List.Perm.cons_inv h) (List.pairwise_cons.1 h1).2 (List.pairwise_cons.1 h2).2]
 exact this a b hp ha.2 hb.2
def okC (a b : List Int) (i : Nat) : Prop := (sA a ∧ a.length = b.length) ∧ ∀ x ∈ b.take i, 0 ≤ x ∧ x ≤ 15
instance (a b : List Int) (i : Nat) : Decidable (okC a b i) := by unfold okC; infer_instance
end
section
open Go.RowKit
def kyC (cs : List Nat) (k : Nat) : Nat := cs.getD k 0 * 1024 + k
def Rem (cs js : List Nat) (k : Nat) : Prop := 0 < cs.getD k 0 ∧ k ∉ js
def qGi (cs js : List Nat) (i : Nat) : Option Nat → Prop
 | none => ∀ k, k < i → ¬ Rem cs js k
 | some b => b < i ∧ Rem cs js b ∧ ∀ k, k < i → Rem cs js k → kyC cs b ≤ kyC cs k
structure JsOk (cs js : List Nat) : Prop where
 nodup : js.Nodup
 mem : ∀ k ∈ js, k < cs.length ∧ 0 < cs.getD k 0
 rise : js.Pairwise fun a b => kyC cs a < kyC cs b
 left : ∀ j ∈ js, ∀ k, k < cs.length → Rem cs js k → kyC cs j < kyC cs k
theorem tQ : ∀ (n : Nat) (l : List Nat), l.Nodup → (∀ x ∈ l, x < n) → l.length ≤ n
 | 0, l, _, h => by
  cases l with
  | nil => simp
  | cons a r => exact absurd (h a jp) jo
 | n + 1, l, hd, h => by
  by_cases hn : n ∈ l
  ·
   have h1 := tQ n (l.erase n) (hd.erase n) (fun x hx => by
    have h2 := h x (List.mem_of_mem_erase hx)
    have h3 : x ≠ n := fun e => by subst e; exact (hd.not_mem_erase) hx
    omega)
   rw [List.length_erase_of_mem hn] at h1
   omega
  have := tQ n l hd (fun x hx => by
   have h2 := h x hx
   have h3 : x ≠ n := fun e => hn (by rw [← e]; exact hx)
   omega)
  omega
theorem JsOk.len {cs js : List Nat} (h : JsOk cs js) : js.length ≤ cs.length := tQ _ _ h.nodup (fun k hk => (h.mem k hk).1)
theorem JsOk.nil (cs : List Nat) : JsOk cs [] := ⟨List.nodup_nil, jp, .nil, jp⟩
theorem JsOk.add {cs js : List Nat} {b : Nat} (h : JsOk cs js) (hb : qGi cs js cs.length (some b)) (hn : cs.length ≤ 320) : JsOk cs (js ++ [b]) := by
 obtain ⟨h1, h2, h3⟩ := hb
 refine ⟨?_, ?_, ?_, ?_⟩
 ·
  rw [List.nodup_append]
  refine ⟨h.nodup, jp, fun a ha c hc => ?_⟩
  simp at hc
  subst hc
  exact fun e => h2.2 (by rw [← e]; exact ha)
 ·
  intro k hk
  rcases List.mem_append.1 hk with hk | hk
  · exact h.mem k hk
  simp at hk; subst hk; exact ⟨h1, h2.1⟩
 ·
  rw [List.pairwise_append]
  refine ⟨h.rise, jp, fun a ha c hc => ?_⟩
  simp at hc
  subst hc
  exact h.left a ha c h1 h2
 intro j hj k hk hr
 have hr2 : Rem cs js k := ⟨hr.1, fun h4 => hr.2 (List.mem_append_left _ h4)⟩
 rcases List.mem_append.1 hj with hj | hj
 · exact h.left j hj k hk hr2
 simp at hj
 subst hj
 have h5 := h3 k hk hr2
 have h6 : k ≠ j := fun e => hr.2 (by rw [e]; simp)
 unfold kyC at h5 ⊢
 omega
theorem JsOk.done {cs js : List Nat} (h : JsOk cs js) (hb : qGi cs js cs.length none) : dX cs (js.map fun k => (cs.getD k 0, [k])) := by
 refine ⟨?_, ?_⟩
 ·
  unfold cX
  refine List.Perm.map _ ((List.perm_ext_iff_of_nodup h.nodup (List.Pairwise.filter _ List.nodup_range)).2 fun k => ?_)
  rw [List.mem_filter, List.mem_range]
  constructor
  · intro hk; exact ⟨(h.mem k hk).1, by simpa using (h.mem k hk).2⟩
  rintro ⟨h1, h2⟩
  exact Classical.byContradiction fun h3 => hb k h1 ⟨by simpa using h2, h3⟩
 rw [List.pairwise_map]
 exact h.rise.imp (fun {a b} hab => by simpa [dB, kyC] using hab)
def kA (l : List (Nat × List Nat)) : Prop := l.Pairwise fun a b => a.1 ≤ b.1
theorem tX : ∀ (a b : List (Nat × List Nat)) (x : Nat × List Nat), x ∈ bX a b → x ∈ a ∨ x ∈ b
 | [], b, x, h => by simp [bX] at h; exact .inr h
 | c :: cs, [], x, h => by simp only [bX] at h; exact .inl h
 | c :: cs, p :: ps, x, h => by
  rw [bX] at h
  split at h
  ·
   rcases zcq.1 h with rfl | h
   · exact .inl jp
   rcases tX cs (p :: ps) x h with h | h
   · exact .inl (by simp [h])
   exact .inr h
  rcases zcq.1 h with rfl | h
  · exact .inr jp
  rcases tX (c :: cs) ps x h with h | h
  · exact .inl h
  exact .inr (by simp [h])
 termination_by a b => a.length + b.length
theorem zT : ∀ (l : List (Nat × List Nat)) (x : Nat × List Nat), x ∈ qF l → ∃ u v, u ∈ l ∧ v ∈ l ∧ x = kF u v
 | [], x, h => by simp [qF] at h
 | [a], x, h => by simp [qF] at h
 | a :: b :: r, x, h => by
  rw [qF] at h
  rcases zcq.1 h with rfl | h
  · exact ⟨a, b, jp, jp, rfl⟩
  obtain ⟨u, v, hu, hv, rfl⟩ := zT r x h
  exact ⟨u, v, by simp [hu], by simp [hv], rfl⟩
theorem rK : ∀ (a b : List (Nat × List Nat)), kA a → kA b → kA (bX a b)
 | [], b, _, hb => by simpa [bX] using hb
 | c :: cs, [], ha, _ => by simpa [bX] using ha
 | c :: cs, p :: ps, ha, hb => by
  have h1 := List.pairwise_cons.1 ha
  have h2 := List.pairwise_cons.1 hb
  have hm : ∀ (a b : List (Nat × List Nat)) x, x ∈ bX a b → x ∈ a ∨ x ∈ b := tX
  rw [bX]
  split
  ·
   rename_i h
   refine List.pairwise_cons.2 ⟨fun x hx => ?_, rK cs (p :: ps) h1.2 hb⟩
   rcases hm _ _ x hx with h3 | h3
   · exact h1.1 x h3
   rcases zcq.1 h3 with rfl | h3
   · exact h
   exact zo h (h2.1 x h3)
  rename_i h
  refine List.pairwise_cons.2 ⟨fun x hx => ?_, rK (c :: cs) ps ha h2.2⟩
  rcases hm _ _ x hx with h3 | h3
  ·
   rcases zcq.1 h3 with rfl | h3
   · omega
   have := h1.1 x h3; omega
  exact h2.1 x h3
 termination_by a b => a.length + b.length
theorem rV : ∀ (l : List (Nat × List Nat)), kA l → kA (qF l)
 | [], _ => .nil
 | [a], _ => .nil
 | a :: b :: r, h => by
  have h1 := List.pairwise_cons.1 h
  have h2 := List.pairwise_cons.1 h1.2
  rw [qF]
  refine List.pairwise_cons.2 ⟨fun x hx => ?_, rV r h2.2⟩
  obtain ⟨u, v, hu, hv, rfl⟩ := zT r x hx
  have := h1.1 u (by simp [hu])
  have := h2.1 v hv
  simp only [kF]
  omega
theorem qV6 {cs : List Nat} {l : List (Nat × List Nat)} (h : dX cs l) (hn : cs.length ≤ 320) : kA l := by
 refine h.2.imp_of_mem (fun {a b} ha hb hab => ?_)
 obtain ⟨k, hk, _, rfl⟩ := fZ (h.1.mem_iff.1 ha)
 obtain ⟨j, hj, _, rfl⟩ := fZ (h.1.mem_iff.1 hb)
 simp only [dB, List.headD_cons] at hab ⊢
 omega
theorem wF (cs : List (Nat × List Nat)) (h : kA cs) : ∀ k, kA (bG cs k)
 | 0 => h
 | k + 1 => rK _ _ h (rV _ (wF cs h k))
end
section
open Go.RowKit
def RC (n : Nat) (p : PkC) : List Value := [.int .i64 ((p.count : Nat) : Int), .slice p.A n p.c]
def xF (w : World) (n : Nat) (p : PkC) : Prop := Own w 3 1 p.A n p.c (NI (eB n p.sy))
theorem xF.frm {w w' : World} {n : Nat} {p : PkC} {S : List Nat} (h : xF w n p) (k : Frm S w w') (hS : ∀ x ∈ ob p.A, x ∉ S) : xF w' n p := Own.frm h k hS
def Rps (w : World) (n : Nat) (A : Option Addr) (c : Nat) (ps : List PkC) : Prop := Own w 186 2 A ps.length c (ps.flatMap (RC n)) ∧ ∀ p ∈ ps, xF w n p
theorem Rps.frm {w w' : World} {n : Nat} {A : Option Addr} {c : Nat} {ps : List PkC} {S : List Nat} (h : Rps w n A c ps) (k : Frm S w w') (hA : ∀ x ∈ ob A, x ∉ S) (hS : ∀ p ∈ ps, ∀ x ∈ ob p.A, x ∉ S) : Rps w' n A c ps :=
 ⟨h.1.frm k hA, fun p hp => (h.2 p hp).frm k (hS p hp)⟩
theorem Rps.ne {w : World} {n : Nat} {A : Option Addr} {c : Nat} {ps : List PkC} (h : Rps w n A c ps) : ∀ p ∈ ps, ∀ x ∈ ob p.A, x ∉ ob A := fun p hp => Own.ne_own (h.2 p hp) h.1 jd
theorem xF.at1 {w : World} {n k : Nat} {p : PkC} (h : xF w n p) (hk : k < n) : ∃ ad, p.A = some ad ∧ w.cell? (ad.add k) = some (.int .i64 ((p.sy.count k : Nat) : Int)) := by
 obtain ⟨ad, u, hA, hu, hc⟩ := (Own.rd h).at1 hk
 refine ⟨ad, hA, ?_⟩
 rw [hc]
 simp [NI, eB, hk] at hu
 rw [← hu]
end
section
open Go.RowKit
theorem qS3 (l : List Nat) : NI l = IB (l.map fun x : Nat => (x : Int)) := by simp [NI, IB]
theorem qM6 (n m : Nat) (own : List (Nat × List Nat)) : (cT n m own).length = n := by
 unfold cT
 split <;> simp [tL]
end
section
open Go.RowKit
def sg (f : Nat → Nat) : Nat → Nat
 | 0 => 0
 | n + 1 => sg f n + f n
theorem cI {f h : Nat → Nat} : ∀ n, (∀ k, k < n → f k = h k) → sg f n = sg h n
 | 0, _ => rfl
 | n + 1, e => by rw [sg, sg, cI n (fun k hk => e k jo), e n jo]
theorem qZb (f h : Nat → Nat) : ∀ n, sg (fun k => f k + h k) n = sg f n + sg h n
 | 0 => rfl
 | n + 1 => by rw [sg, sg, sg, qZb f h n]; omega
theorem tO : ∀ n, sg (fun _ => 0) n = 0
 | 0 => rfl
 | n + 1 => by rw [sg, tO n]
theorem qZc (f : Nat → Nat) (c : Nat) : ∀ n, sg (fun k => f k * c) n = sg f n * c
 | 0 => by simp [sg]
 | n + 1 => by rw [sg, sg, qZc f c n, zfr]
theorem qKj (f : Nat → Nat → Nat) (m : Nat) : ∀ n, sg (fun i => sg (fun j => f i j) m) n = sg (fun j => sg (fun i => f i j) n) m
 | 0 => by simp only [sg]; rw [tO]
 | n + 1 => by rw [sg, qKj f m n, ← qZb]; rfl
theorem qN2 (a : Nat) : ∀ n, a ≤ n → sg (fun i => if i < a then 1 else 0) n = a
 | 0, h => by simp [sg]; omega
 | n + 1, h => by
  rw [sg]
  by_cases h2 : a = n + 1
  ·
   subst h2
   rw [cI (h := fun _ => 1) n (fun k hk => by simp; omega), if_pos jo]
   have : ∀ n, sg (fun _ => 1) n = n := fun n => by
    induction n with
    | zero => rfl
    | succ n ih => rw [sg, ih]
   rw [this]
  rw [qN2 a n jo, if_neg jo]; rfl
abbrev PL := List (Nat × List Nat)
theorem zU (cs : List Nat) (g : Nat × List Nat → Nat) : ∀ n, ((cX cs n).map g).sum = sg (fun k => if 0 < cs.getD k 0 then g (cs.getD k 0, [k]) else 0) n
 | 0 => rfl
 | n + 1 => by
  rw [nV, zbx, zgr, zU cs g n, sg]
  by_cases h : 0 < cs.getD n 0
  · rw [if_pos h, if_pos h]; simp
  rw [if_neg h, if_neg h]; simp
theorem xI {cs : List Nat} {own : PL} (h : dX cs own) (g : Nat × List Nat → Nat) : (own.map g).sum = sg (fun k => if 0 < cs.getD k 0 then g (cs.getD k 0, [k]) else 0) cs.length := by
 rw [← zU, (h.1.map g).sum_nat]
theorem zB (f : Nat → Nat) (s : Nat) : ∀ n, sg (fun i => if i = s then f i else 0) n = if s < n then f s else 0
 | 0 => by simp [sg]
 | n + 1 => by
  rw [sg, zB f s n]
  by_cases h : n = s
  · subst h; simp
  by_cases h2 : s < n
  · rw [if_pos h2, if_neg h, if_pos jo]; rfl
  rw [if_neg h2, if_neg h, if_neg jo]
theorem nW (n : Nat) (l : PL) (i : Nat) (hi : i < n) : (tL n l).getD i 0 = (l.flatMap Prod.snd).count i := by
 rw [rJ]
 simp [eB, List.getD, hi]
theorem kV (s : Nat) : ∀ a b : PL, ((bX a b).flatMap Prod.snd).count s = (a.flatMap Prod.snd).count s + (b.flatMap Prod.snd).count s
 | [], b => by simp [bX]
 | c :: cs, [] => by simp [bX]
 | c :: cs, p :: ps => by
  rw [bX]
  split
  · rw [zm, zaq, kV s cs (p :: ps), zm (x := c), zaq]; omega
  rw [zm, zaq, kV s (c :: cs) ps, zm (x := p), zaq]; omega
 termination_by a b => a.length + b.length
theorem nY (s : Nat) : ∀ l : PL, ((qF l).flatMap Prod.snd).count s ≤ (l.flatMap Prod.snd).count s
 | [] => by simp [qF]
 | [a] => by simp [qF]
 | a :: b :: r => by
  have := nY s r
  rw [qF, zm, zm, zm]
  simp only [kF, zaq]
  omega
theorem nG (own : PL) (s : Nat) : ∀ k, ((bG own k).flatMap Prod.snd).count s ≤ (k + 1) * (own.flatMap Prod.snd).count s
 | 0 => by simp [bG]
 | k + 1 => by
  have ih := nG own s k
  have h := nY s (bG own k)
  rw [bG, kV, zeb]
  omega
theorem nL {cs : List Nat} {own : PL} (h : dX cs own) (s : Nat) : (own.flatMap Prod.snd).count s = if s < cs.length ∧ 0 < cs.getD s 0 then 1 else 0 := by
 have e : (own.flatMap Prod.snd).count s = (own.map fun p => p.2.count s).sum := by
  clear h
  induction own with
  | nil => rfl
  | cons a r ih => rw [zm, zaq, ih, zbj, zel]
 rw [e, xI h]
 have h2 := zB (fun k => if 0 < cs.getD k 0 then 1 else 0) s cs.length
 rw [cI (h := fun i => if i = s then (if 0 < cs.getD i 0 then 1 else 0) else 0) _ (fun k _ => ?_), h2]
 ·
  by_cases h3 : s < cs.length
  · simp [h3]
  simp [h3]
 by_cases hk : k = s
 · subst hk; simp
 simp [hk, zgq]
theorem kI (l : PL) (s x : Nat) : ((l.take x).flatMap Prod.snd).count s ≤ (l.flatMap Prod.snd).count s := by
 have h : l.flatMap Prod.snd = (l.take x).flatMap Prod.snd ++ (l.drop x).flatMap Prod.snd := by rw [← zaa, zcb]
 rw [h, zaq]
 omega
theorem qGj {cs : List Nat} {own : PL} {m : Nat} (h : dX cs own) (hm : 1 ≤ m) (i : Nat) (hi : i < cs.length) : (cT cs.length m own).getD i 0 ≤ m ∧ (cs.getD i 0 = 0 → (cT cs.length m own).getD i 0 = 0) := by
 have h1 := nL h i
 unfold cT
 split
 ·
  rw [nW _ _ _ hi, h1]
  split
  · rename_i h2; exact ⟨hm, fun h3 => jo⟩
  exact ⟨jo, fun _ => rfl⟩
 rw [nW _ _ _ hi]
 have h2 := kI (bG own (m - 1)) i (2 * own.length - 2)
 have h3 := nG own i (m - 1)
 rw [show m - 1 + 1 = m by omega] at h3
 rw [h1] at h3
 split at h3
 · rename_i h4; exact ⟨jo, fun h5 => jo⟩
 exact ⟨jo, fun _ => jo⟩
end
section
open Go.RowKit
noncomputable section
open Classical in
def rgt (a b : List Int) (m : Int) (i : Nat) : Prop := (chk b = 0 ∨ chk b = 2) ∧ ∀ k, k < i → b.getD k 0 ≤ m ∧ (0 < b.getD k 0 ∨ a.getD k 0 = 0)
instance (a b : List Int) (m : Int) (i : Nat) : Decidable (rgt a b m i) := Classical.propDecidable _
end
theorem xL (l : List Int) : ∀ i, i ≤ l.length → sX (l.take i) = sg (fun k => if 0 < (l.getD k 0).toNat then 2 ^ (15 - (l.getD k 0).toNat) else 0) i
 | 0, _ => by simp [sX, sg]
 | i + 1, h => by
  rw [qYe l i jo, xL l i jo, sg]
  have e : l.getD i 0 = l[i] := by simp [List.getD, za (jo : i < l.length)]
  rw [e]
  by_cases h2 : 0 < l[i]
  · rw [if_pos h2, if_pos jo]
  rw [if_neg h2, if_neg jo]
end
section
open Go.RowKit
theorem tZ : ∀ (A B : PL) (x : Nat), kA A → kA B → x ≤ A.length + B.length → ∃ a p, a + p = x ∧ a ≤ A.length ∧ p ≤ B.length ∧ ((bX A B).take x).Perm (A.take a ++ B.take p) ∧ ∀ i j (hi : i < A.length) (hj : j < B.length), j < p → A[i].1 ≤ B[j].1 → i < a
 | [], B, x, _, _, h => ⟨0, x, jo, jp, by simpa using h, by simp [bX], fun i j hi => by simp at hi⟩
 | c :: cs, [], x, _, _, h => ⟨x, 0, jo, by simpa using h, jp, by simp [bX], fun i j hi hj => by simp at hj⟩
 | c :: cs, p0 :: ps, 0, _, _, h => ⟨0, 0, rfl, jo, jo, jp, fun i j hi hj h2 => jo⟩
 | c :: cs, p0 :: ps, x + 1, hA, hB, h => by
  have h1 := List.pairwise_cons.1 hA
  have h2 := List.pairwise_cons.1 hB
  rw [bX]
  by_cases hc : c.1 ≤ p0.1
  ·
   obtain ⟨a, p, e, ha, hp, hperm, hb⟩ := tZ cs (p0 :: ps) x h1.2 hB (by simp at h ⊢; omega)
   rw [if_pos hc]
   refine ⟨a + 1, p, jo, by simpa using ha, hp, ?_, ?_⟩
   ·
    rw [zac, zac, zdf]
    exact hperm.cons c
   intro i j hi hj hjp hle
   cases i with
   | zero => omega
   | succ i =>
    have := hb i j (by simpa using hi) hj hjp hle
    omega
  obtain ⟨a, p, e, ha, hp, hperm, hb⟩ := tZ (c :: cs) ps x hA h2.2 (by simp at h ⊢; omega)
  rw [if_neg hc]
  refine ⟨a, p + 1, jo, ha, by simpa using hp, ?_, ?_⟩
  ·
   rw [zac, zac]
   exact (hperm.cons p0).trans List.perm_middle.symm
  intro i j hi hj hjp hle
  cases j with
  | zero =>
   exfalso
   have h3 : c.1 ≤ ((c :: cs)[i]).1 := by
    cases i with
    | zero => exact zk _
    | succ i => exact h1.1 _ (zw _)
   simp only [List.getElem_cons_zero] at hle
   omega
  | succ j => exact hb i j hi (by simpa using hj) jo hle
 termination_by A B => A.length + B.length
theorem qKk : ∀ (L : PL) (q : Nat) (hq : q < L.length) (h : q / 2 < (qF L).length), L[q].1 ≤ ((qF L)[q / 2]).1
 | [], q, hq, _ => by simp at hq
 | [a], q, _, h => by simp [qF] at h
 | a :: b :: r, 0, _, _ => by simp [qF, kF]
 | a :: b :: r, 1, _, _ => by simp [qF, kF]
 | a :: b :: r, q + 2, hq, h => by
  have e : (q + 2) / 2 = q / 2 + 1 := jo
  have h2 : q / 2 < (qF r).length := by simp only [qF, zq, e] at h; omega
  have := qKk r q (by simpa using hq) h2
  simp only [List.getElem_cons_succ, qF, e]
  exact this
theorem wA : ∀ (L : PL) (p : Nat), 2 * p ≤ L.length → ((qF L).take p).flatMap Prod.snd = (L.take (2 * p)).flatMap Prod.snd
 | L, 0, _ => jp
 | [], p + 1, h => by simp at h
 | [a], p + 1, h => by simp at h; omega
 | a :: b :: r, p + 1, h => by
  have ih := wA r p (by simp at h; omega)
  rw [qF, zac, zm, ih, show 2 * (p + 1) = (2 * p) + 1 + 1 by omega, zac, zac, zm, zm]
  simp [kF]
theorem uN {l : PL} {i x : Nat} (hi : i < l.length) (h : i < x) : l[i] ∈ l.take x := by
 have : (l.take x)[i]'(by simp; omega) = l[i] := jp
 rw [← this]
 exact zw _
theorem zC {own : PL} (hs : kA own) : ∀ k x, x ≤ (bG own k).length → ∃ a : Nat → Nat, (∀ j, j ≤ k → a j ≤ own.length) ∧ (∀ j, j < k → a j ≤ a (j + 1)) ∧ x * 2 ^ k = sg (fun j => a j * 2 ^ j) (k + 1) ∧
  (∀ s, (((bG own k).take x).flatMap Prod.snd).count s = sg (fun j => ((own.take (a j)).flatMap Prod.snd).count s) (k + 1)) ∧ ∀ i (hi : i < own.length), i < a k → own[i] ∈ (bG own k).take x
 | 0, x, h => ⟨fun _ => x, fun _ _ => h, fun _ _ => zk _, by simp [sg], fun s => by simp [sg, bG], fun i hi hx => uN hi hx⟩
 | k + 1, x, h => by
  have hsl := wF own hs k
  have hsp := rV _ hsl
  rw [bG, nI] at h
  obtain ⟨a', p, e, ha, hp, hperm, hb⟩ := tZ own (qF (bG own k)) x hs hsp h
  have hpl := pO (bG own k)
  have h2p : 2 * p ≤ (bG own k).length := jo
  obtain ⟨a, h1, h2, h3, h4, h5⟩ := zC hs k (2 * p) h2p
  have hmono : a k ≤ a' := by
   refine Nat.le_of_not_lt fun hlt => ?_
   have hi : a' < own.length := zat hlt (h1 k (zk _))
   obtain ⟨q, hq, hqe⟩ := zbc (h5 a' hi hlt)
   rw [zi] at hq
   have hq2 : q / 2 < (qF (bG own k)).length := jo
   have h6 := qKk (bG own k) q jo hq2
   rw [List.getElem_take] at hqe
   rw [hqe] at h6
   have := hb a' (q / 2) hi hq2 jo h6
   omega
  have hc : ∀ (f : Nat → Nat → Nat), sg (fun j => f (if j ≤ k then a j else a') j) (k + 1) = sg (fun j => f (a j) j) (k + 1) := fun f => cI _ (fun j hj => by rw [if_pos jo])
  refine ⟨fun j => if j ≤ k then a j else a', ?_, ?_, ?_, ?_, ?_⟩
  ·
   intro j hj
   dsimp only
   split
   · exact h1 j (by assumption)
   exact ha
  ·
   intro j hj
   dsimp only
   rw [if_pos jo]
   by_cases hjk : j = k
   · subst hjk; rw [if_neg jo]; exact hmono
   rw [if_pos jo]; exact h2 j jo
  ·
   rw [sg, hc (fun y j => y * 2 ^ j), ← h3]
   dsimp only
   rw [if_neg jo, ← e, zfr, zbt, zcf 2 p, zdu p 2, zcf 2 (2 ^ k)]
   omega
  ·
   intro s
   rw [sg, hc (fun y j => ((own.take y).flatMap Prod.snd).count s), ← h4 s, ← wA _ _ h2p, bG]
   dsimp only
   rw [if_neg jo, (hperm.flatMap_right _).count_eq, zaa, zaq]
   omega
  intro i hi hia
  dsimp only at hia
  rw [if_neg jo] at hia
  rw [bG]
  exact hperm.mem_iff.2 (List.mem_append_left _ (uN hi hia))
theorem qKl {a : Nat → Nat} {k : Nat} (h : ∀ j, j < k → a j ≤ a (j + 1)) : ∀ d j, j + d = k → a j ≤ a k
 | 0, j, e => by subst e; exact zk _
 | d + 1, j, e => zo (h j jo) (qKl h d (j + 1) jo)
theorem qZd (a : Nat → Nat) (i : Nat) : ∀ k, (∀ j, j < k → a j ≤ a (j + 1)) → sg (fun j => if i < a j then 1 else 0) (k + 1) ≤ k + 1 ∧ sg (fun j => if i < a j then 2 ^ j else 0) (k + 1) + 2 ^ (k + 1 - sg (fun j => if i < a j then 1 else 0) (k + 1)) = 2 ^ (k + 1)
 | 0, _ => by
  by_cases h : i < a 0
  · simp [sg, h]
  simp [sg, h]
 | k + 1, hm => by
  obtain ⟨h1, h2⟩ := qZd a i k (fun j hj => hm j jo)
  have e1 : ∀ f : Nat → Nat, sg f (k + 1 + 1) = sg f (k + 1) + f (k + 1) := fun _ => rfl
  rw [e1, e1]
  by_cases h : i < a (k + 1)
  ·
   rw [if_pos h, if_pos h]
   refine ⟨jo, ?_⟩
   have h3 : 2 ^ (k + 1 + 1) = 2 ^ (k + 1) * 2 := zbt ..
   rw [show k + 1 + 1 - (sg (fun j => if i < a j then 1 else 0) (k + 1) + 1) = k + 1 - sg (fun j => if i < a j then 1 else 0) (k + 1) by omega]
   omega
  have h4 : ∀ j, j < k + 1 → ¬ i < a j := fun j hj h5 => h (zat h5 (qKl hm (k + 1 - j) j jo))
  have h5 : sg (fun j => if i < a j then 1 else 0) (k + 1) = 0 := by rw [cI (h := fun _ => 0) _ (fun j hj => if_neg (h4 j hj)), tO]
  have h6 : sg (fun j => if i < a j then 2 ^ j else 0) (k + 1) = 0 := by rw [cI (h := fun _ => 0) _ (fun j hj => if_neg (h4 j hj)), tO]
  rw [if_neg h, if_neg h, h5, h6]
  simp
theorem wI (g : Nat × List Nat → Nat) (l : PL) : ∀ i, i ≤ l.length → ((l.take i).map g).sum = sg (fun k => g (l.getD k (0, []))) i
 | 0, _ => rfl
 | i + 1, h => by
  rw [zaj, za (jo : i < l.length), zbx, zgr, wI g l i jo, sg]
  simp [List.getD, za (jo : i < l.length)]
theorem qN3 (f : Nat → Nat) (i : Nat) : ∀ n, i < n → (∀ k, k < n → 1 ≤ f k) → f i + (n - 1) ≤ sg f n
 | 0, h, _ => jo
 | n + 1, h, h1 => by
  rw [sg]
  have h2 := h1 n jo
  by_cases e : i = n
  ·
   subst e
   have : ∀ m, m ≤ i → m ≤ sg f m := fun m => by
    induction m with
    | zero => intro _; omega
    | succ m ih =>
     intro hm
     have := ih jo
     have := h1 m jo
     rw [sg]; omega
   have := this i (zk _)
   omega
  have := qN3 f i n jo (fun k hk => h1 k jo)
  omega
theorem xO {cs : List Nat} {own : PL} (h : dX cs own) (i b : Nat) (hi : i < own.length) : ((own.take b).flatMap Prod.snd).count (own[i].2.headD 0) = if i < b then 1 else 0 := by
 obtain ⟨k, hk, hk0, he⟩ := fZ (h.1.mem_iff.1 (zw hi))
 have hsy : own[i].2 = [k] := by rw [he]
 rw [hsy, List.headD_cons]
 have h1 := nL h k
 rw [if_pos ⟨hk, hk0⟩] at h1
 have hsplit : own = own.take i ++ own[i] :: own.drop (i + 1) := by rw [← zcl hi, zcb]
 have h2 : ((own.take i).flatMap Prod.snd).count k + (1 + ((own.drop (i + 1)).flatMap Prod.snd).count k) = (own.flatMap Prod.snd).count k := by
  conv => rhs; rw [hsplit]
  rw [zaa, zm, hsy, zaq, zaq]
  simp
 rw [h1] at h2
 by_cases hb : i < b
 ·
  rw [if_pos hb]
  have h3 := kI own k b
  have h4 : own.take b = own.take i ++ own[i] :: (own.drop (i + 1)).take (b - (i + 1)) := by
   conv => lhs; rw [hsplit]
   rw [List.take_append, zi, zbb jo, zn (by simp; omega), show b - i = (b - (i + 1)) + 1 by omega, zac]
  rw [h4, zaa, zm, hsy, zaq, zaq]
  rw [h4, zaa, zm, hsy, zaq, zaq] at h3
  simp at h3 ⊢
  omega
 rw [if_neg hb]
 have h4 : own.take b = (own.take i).take b := by rw [zga, zbb jo]
 have h3 := kI (own.take i) k b
 rw [h4]
 omega
theorem qKm {cs : List Nat} {own : PL} {m : Nat} (hco : dX cs own) (hn : cs.length ≤ 320) (hm1 : 1 ≤ m) (hm15 : m ≤ 15) (hfit : own.length ≤ 2 ^ m) :
  (∀ i, i < cs.length → ((cT cs.length m own).getD i 0 = 0 ↔ cs.getD i 0 = 0)) ∧ sg (fun k => if 0 < (cT cs.length m own).getD k 0 then 2 ^ (15 - (cT cs.length m own).getD k 0) else 0) cs.length = if 2 ≤ own.length then 32768 else own.length * 16384 := by
 have hone : ∀ c : Nat, (own.map fun _ => c).sum = own.length * c := by
  intro c
  generalize own = l
  induction l with
  | nil => simp
  | cons a r ih => rw [zbj, zel, ih, zq, zeb]; omega
 by_cases h1 : own.length ≤ 1
 ·
  have hR : ∀ i, i < cs.length → (cT cs.length m own).getD i 0 = if 0 < cs.getD i 0 then 1 else 0 := by
   intro i hi
   unfold cT
   rw [if_pos h1, nW _ _ _ hi, nL hco]
   by_cases h2 : 0 < cs.getD i 0
   · rw [if_pos ⟨hi, h2⟩, if_pos h2]
   rw [if_neg (fun h => h2 h.2), if_neg h2]
  refine ⟨fun i hi => ?_, ?_⟩
  ·
   rw [hR i hi]
   by_cases h2 : 0 < cs.getD i 0
   · rw [if_pos h2]; omega
   rw [if_neg h2]; omega
  rw [if_neg jo, ← hone, xI hco]
  refine cI _ (fun i hi => ?_)
  rw [hR i hi]
  by_cases h2 : 0 < cs.getD i 0
  · rw [if_pos h2, if_pos h2, if_pos jo]
  rw [if_neg h2, if_neg h2, if_neg jo]
 obtain ⟨q, rfl⟩ : ∃ q, m = q + 1 := ⟨m - 1, jo⟩
 have hen := sL own q hfit
 obtain ⟨a, ha1, ha2, ha3, ha4, _⟩ := zC (qV6 hco hn) q (2 * own.length - 2) hen
 have hL : ∀ i (hi : i < own.length), (cT cs.length (q + 1) own).getD (own[i].2.headD 0) 0 = sg (fun j => if i < a j then 1 else 0) (q + 1) := by
  intro i hi
  obtain ⟨k, hk, hk0, he⟩ := fZ (hco.1.mem_iff.1 (zw hi))
  unfold cT
  rw [if_neg h1, zfp, nW _ _ _ (by rw [he]; exact hk), ha4]
  exact cI _ (fun j _ => xO hco i (a j) hi)
 have hsum : sg (fun i => 2 ^ (q + 1 - sg (fun j => if i < a j then 1 else 0) (q + 1))) own.length = 2 ^ (q + 1) := by
  have e1 : sg (fun i => sg (fun j => if i < a j then 2 ^ j else 0) (q + 1)) own.length = (2 * own.length - 2) * 2 ^ q := by
   rw [qKj, ha3]
   refine cI _ (fun j hj => ?_)
   have e2 : sg (fun i => (if i < a j then 1 else 0) * 2 ^ j) own.length = a j * 2 ^ j := by rw [qZc, qN2 _ _ (ha1 j jo)]
   rw [← e2]
   exact cI _ (fun i _ => by split <;> simp)
  have e3 : sg (fun i => sg (fun j => if i < a j then 2 ^ j else 0) (q + 1) + 2 ^ (q + 1 - sg (fun j => if i < a j then 1 else 0) (q + 1))) own.length = own.length * 2 ^ (q + 1) := by
   rw [cI (h := fun _ => 2 ^ (q + 1)) _ (fun i _ => (qZd a i q ha2).2)]
   generalize own.length = z
   induction z with
   | zero => simp [sg]
   | succ z ih => rw [sg, ih, zeb]
  rw [qZb, e1] at e3
  have e4 : (2 * own.length - 2) * 2 ^ q = own.length * 2 ^ (q + 1) - 2 ^ (q + 1) := by
   have h3 : 2 ^ (q + 1) = 2 ^ q * 2 := zbt ..
   rw [h3, Nat.sub_mul, zcf 2 own.length, zdu, zcf (2 ^ q) 2]
  have e5 : 2 ^ (q + 1) ≤ own.length * 2 ^ (q + 1) := Nat.le_mul_of_pos_left _ jo
  omega
 have hpos : ∀ i, i < own.length → 0 < sg (fun j => if i < a j then 1 else 0) (q + 1) := by
  intro i hi
  refine Nat.pos_of_ne_zero fun h0 => ?_
  have h2 := qN3 (fun i => 2 ^ (q + 1 - sg (fun j => if i < a j then 1 else 0) (q + 1))) i own.length hi (fun k _ => Nat.pow_pos jo)
  rw [hsum] at h2
  rw [h0, zcn] at h2
  omega
 have hcome : ∀ s, s < cs.length → 0 < cs.getD s 0 → ∃ i, ∃ hi : i < own.length, own[i].2.headD 0 = s := by
  intro s hs hs0
  have hmem : (cs.getD s 0, [s]) ∈ own := by
   refine hco.1.mem_iff.2 ?_
   unfold cX
   exact List.mem_map.2 ⟨s, List.mem_filter.2 ⟨List.mem_range.2 hs, by simpa using hs0⟩, rfl⟩
  obtain ⟨i, hi, he⟩ := zbc hmem
  exact ⟨i, hi, by rw [he]; rfl⟩
 have hz : ∀ i, i < cs.length → ((cT cs.length (q + 1) own).getD i 0 = 0 ↔ cs.getD i 0 = 0) := by
  intro s hs
  refine ⟨fun h => ?_, (qGj hco hm1 s hs).2⟩
  refine Classical.byContradiction fun h2 => ?_
  obtain ⟨i, hi, he⟩ := hcome s hs jo
  have h3 := hL i hi
  rw [he, h] at h3
  have := hpos i hi
  omega
 refine ⟨hz, ?_⟩
 rw [if_pos jo]
 have e6 : sg (fun k => if 0 < (cT cs.length (q + 1) own).getD k 0 then 2 ^ (15 - (cT cs.length (q + 1) own).getD k 0) else 0) cs.length = (own.map fun c => 2 ^ (15 - (cT cs.length (q + 1) own).getD (c.2.headD 0) 0)).sum := by
  rw [xI hco]
  refine cI _ (fun k hk => ?_)
  have h2 := hz k hk
  by_cases h3 : 0 < cs.getD k 0
  · rw [if_pos h3, if_pos jo]; rfl
  rw [if_neg h3, if_neg jo]
 rw [e6]
 have e7 := wI (fun c => 2 ^ (15 - (cT cs.length (q + 1) own).getD (c.2.headD 0) 0)) own own.length (zk _)
 rw [zbl] at e7
 rw [e7]
 have e8 : sg (fun k => 2 ^ (15 - (cT cs.length (q + 1) own).getD ((own.getD k (0, [])).2.headD 0) 0)) own.length = sg (fun i => 2 ^ (q + 1 - sg (fun j => if i < a j then 1 else 0) (q + 1)) * 2 ^ (15 - (q + 1))) own.length := by
  refine cI _ (fun i hi => ?_)
  have h2 : own.getD i (0, []) = own[i] := by simp [List.getD, za hi]
  have h3 := (qZd a i q ha2).1
  rw [h2, hL i hi, ← Nat.pow_add]
  congr 1
  omega
 rw [e8, qZc, hsum, ← Nat.pow_add, show q + 1 + (15 - (q + 1)) = 15 by omega]
end
section
open Go.RowKit
def toZ (l : List Nat) : List Int := l.map fun x : Nat => (x : Int)
theorem bL (l : List Nat) : (toZ l).length = l.length := by simp [toZ]
theorem wL (l : List Nat) : NI l = IB (toZ l) := qS3 l
theorem qP2 (l : List Nat) : (toZ l).map Int.toNat = l := by simp [toZ, Function.comp_def]
theorem lN (l : List Nat) (i : Nat) : (toZ l).getD i 0 = ((l.getD i 0 : Nat) : Int) := by
 simp only [toZ, List.getD, zbk]
 cases l[i]? <;> simp
noncomputable section
open Classical in
def qZe (cs : List Nat) : PL := if h : ∃ own, dX cs own then h.choose else []
def dJ (cs : List Nat) (m : Nat) : List Nat := cT cs.length m (qZe cs)
end
theorem tJ {cs : List Nat} {own : PL} (h : dX cs own) : qZe cs = own := by
 have h1 : ∃ own, dX cs own := ⟨own, h⟩
 unfold qZe
 rw [dif_pos h1]
 exact qZa h1.choose_spec h
theorem qM7 (cs : List Nat) (m : Nat) : (dJ cs m).length = cs.length := qM6 _ _ _
theorem vM {cs : List Nat} {own : PL} (h : dX cs own) : own.length ≤ cs.length := by
 rw [h.1.length_eq]
 unfold cX
 rw [zu]
 exact zo (zgg _ _) jp
structure LenOk (cs ls : List Nat) (m : Nat) : Prop where
 len : ls.length = cs.length
 ok : LOk (toZ ls)
 most : ∀ i, ls.getD i 0 ≤ m
 come : ∀ i, i < cs.length → (ls.getD i 0 = 0 ↔ cs.getD i 0 = 0)
theorem qKn {cs : List Nat} {own : PL} {m : Nat} (h : dX cs own) (hl : cs.length ≤ 320) (hm1 : 1 ≤ m) (hm2 : m ≤ 15) (hf : cs.length ≤ 2 ^ m) : LenOk cs (dJ cs m) m := by
 have hfit : own.length ≤ 2 ^ m := zo (vM h) hf
 obtain ⟨h1, h2⟩ := qKm h hl hm1 hm2 hfit
 have hE : dJ cs m = cT cs.length m own := by unfold dJ; rw [tJ h]
 have hlen := qM7 cs m
 have hle : ∀ i, (dJ cs m).getD i 0 ≤ m := fun i => by
  by_cases hi : i < cs.length
  · rw [hE]; exact (qGj h hm1 i hi).1
  rw [zc, zr jo]
  exact zas _
 have hr : ∀ x ∈ toZ (dJ cs m), 0 ≤ x ∧ x ≤ 15 := fun x hx => by
  obtain ⟨y, hy, rfl⟩ := List.mem_map.1 hx
  obtain ⟨i, hi, rfl⟩ := zbc hy
  have := hle i
  rw [zc, za hi, zaz] at this
  omega
 refine ⟨hlen, ⟨⟨by rw [bL]; omega, hr⟩, ?_⟩, hle, fun i hi => by rw [hE]; exact h1 i hi⟩
 rw [qJ5 _ hr]
 have h3 := xL (toZ (dJ cs m)) _ (zk _)
 rw [zbl] at h3
 rw [h3, bL, hlen, cI (h := fun k => if 0 < (cT cs.length m own).getD k 0 then 2 ^ (15 - (cT cs.length m own).getD k 0) else 0) _ (fun k _ => by rw [lN, zal, hE]), h2]
 split
 · exact zk _
 have : own.length ≤ 1 := jo
 omega
theorem qP3 (A : Option Addr) (c0 : Nat) (cs : List Nat) (m : Nat) (w : World) (hl : cs.length ≤ 320) (hb : ∀ x ∈ cs, x ≤ 2147483647) (hm1 : 1 ≤ m) (hm2 : m ≤ 15) (hf : cs.length ≤ 2 ^ m) (hr : Rd w 1 A cs.length (NI cs)) :
  Calls Tryz.prog 60 #[.slice A cs.length c0, .int .i64 ((m : Nat) : Int)] w fun e w' => ∃ B c, e = .returned (.tuple #[.slice B cs.length c, .int .i64 ((0 : Nat) : Int)]) ∧ Own w' 3 1 B cs.length c (NI (dJ cs m)) ∧ Frm [] w w' ∧ (∀ x ∈ ob B, w.heap.size ≤ x) ∧ LenOk cs (dJ cs m) m := by
 have h1 := qX9 A c0 (toZ cs) m w (by rw [bL]; omega) (by rw [bL, ← wL]; exact hr)
 rw [bL, qP2] at h1
 refine h1.mono ?_
 rintro e w' ⟨hfr, h2⟩
 have hmay : sA (toZ cs) := ⟨by rw [bL]; exact hl, fun x hx => by
  obtain ⟨y, hy, rfl⟩ := List.mem_map.1 hx
  have := hb y hy
  omega⟩
 rw [if_neg (by rintro (h | h | h); exact h hmay; omega; omega)] at h2
 obtain ⟨own, hco, h2⟩ := h2
 rw [zal, if_neg (by have := vM hco; omega)] at h2
 obtain ⟨B, c, he, ho, hn⟩ := h2
 have hE : dJ cs m = cT cs.length m own := by unfold dJ; rw [tJ hco]
 exact ⟨B, c, he, by rw [hE]; exact ho, hfr, hn, qKn hco hl hm1 hm2 hf⟩
def vN (t : Sd) : Prop := t.1 < 19 ∧ t.2.1 ≤ 7 ∧ t.2.2 < 2 ^ t.2.1
theorem qZf {l : List Nat} (h : ∀ i, l.getD i 0 ≤ 15) (a : Nat) : vN (bT l a).1 := by
 have h1 := h a
 unfold bT vN
 split
 · dsimp only; omega
 split
 · dsimp only; omega
 split
 · dsimp only; omega
 dsimp only; omega
theorem qKo {l : List Nat} (h : ∀ i, l.getD i 0 ≤ 15) : ∀ m a, ∀ t ∈ lH l m a, vN t
 | 0, _, t, ht => by simp [lH] at ht
 | m + 1, a, t, ht => by
  unfold lH at ht
  split at ht
  · cases ht
  rcases zcq.1 ht with rfl | ht
  · exact qZf h a
  exact qKo h m _ t ht
theorem qP4 {l : List Nat} (h : ∀ i, l.getD i 0 ≤ 15) : ∀ t ∈ dL l 0, vN t := qKo h _ _
theorem qM8 (l : List Nat) : (dL l 0).length ≤ l.length := qXz l _ _
def timeStep (c : List Nat) (t : Sd) : List Nat := c.set t.1 (c.getD t.1 0 + 1)
def dC (l : List Sd) : List Nat := l.foldl timeStep (rep 19)
theorem qJk (l : List Sd) (t : Sd) : dC (l ++ [t]) = timeStep (dC l) t := by unfold dC; rw [zfw]; rfl
theorem qGk (l : List Sd) : ∀ c : List Nat, (l.foldl timeStep c).length = c.length := by
 induction l with
 | nil => intro c; rfl
 | cons t r ih => intro c; rw [zdy, ih]; unfold timeStep; rw [zci]
theorem fA (l : List Sd) : (dC l).length = 19 := by unfold dC; rw [qGk]; rfl
theorem qP5 (l : List Sd) : ∀ (c : List Nat) (n : Nat), (∀ x ∈ c, x ≤ n) → ∀ x ∈ l.foldl timeStep c, x ≤ n + l.length := by
 induction l with
 | nil => intro c n h; exact h
 | cons t r ih =>
  intro c n h x hx
  have := ih _ (n + 1) (wU h) x hx
  simp only [zq]
  omega
theorem zD (l : List Sd) : ∀ x ∈ dC l, x ≤ 0 + l.length := qP5 l _ 0 (fun x hx => by rw [zfi hx]; omega)
noncomputable section
def dT (bs : List Nat) : List Nat := dJ (cA (bJ bs 0)) 15
def eY (bs : List Nat) : List Nat := dJ (eW (bJ bs 0)) 15
def bV (bs : List Nat) : List Nat := cM (dT bs) 257
def bO (bs : List Nat) : List Nat := cM (eY bs) 1
def bH (bs : List Nat) : List Sd := dL (bV bs ++ bO bs) 0
def bD (bs : List Nat) : List Nat := dJ (dC (bH bs)) 7
def bP (bs : List Nat) : List Nat := cM (cU (bD bs)) 4
def dR (third : List Int) (t : Sd) : List Bool := bK third t.1 ++ bitsL t.2.2 t.2.1
def gS (bs : List Nat) : List Bool :=
 bitsL 1 1 ++ bitsL 2 2 ++ bitsL ((bV bs).length - 257) 5 ++ bitsL ((bO bs).length - 1) 5 ++ bitsL ((bP bs).length - 4) 4 ++ (bP bs).flatMap (fun n => bitsL n 3) ++ (bH bs).flatMap (dR (toZ (bD bs))) ++ cN (toZ (dT bs)) (toZ (eY bs)) (bJ bs 0)
end
theorem mT (l : List Nat) (least : Nat) (h : least ≤ l.length) : least ≤ (cM l least).length ∧ (cM l least).length ≤ l.length := by
 rw [fF]
 exact ⟨qKc l least _ h, pQ l least _⟩
theorem mQ (l : List Nat) (least n : Nat) (h : ∀ i, l.getD i 0 ≤ n) (i : Nat) : (cM l least).getD i 0 ≤ n := by
 unfold cM
 by_cases hi : i < fX l least l.length
 ·
  rw [zc, zao hi, ← zc]
  exact h i
 rw [zc, List.getElem?_take_eq_none jo]
 exact zas _
theorem uP (a b : List Nat) (n : Nat) (ha : ∀ i, a.getD i 0 ≤ n) (hb : ∀ i, b.getD i 0 ≤ n) (i : Nat) : (a ++ b).getD i 0 ≤ n := by
 rw [zc, List.getElem?_append]
 split
 · rw [← zc]; exact ha i
 rw [← zc]; exact hb _
theorem lP (l : List Nat) : (cU l).length = 19 := by unfold cU; rw [zu]; rfl
theorem qGl (l : List Nat) (n : Nat) (h : ∀ i, l.getD i 0 ≤ n) (i : Nat) : (cU l).getD i 0 ≤ n := by
 unfold cU
 rw [zc, zbk]
 cases bQ[i]? with
 | none => exact zas _
 | some s => exact h s
theorem qZg {third : List Int} (h3 : LOk third) (hl : 19 ≤ third.length) : ∀ L : List Sd, (∀ t ∈ L, vN t) → (L.flatMap (dR third)).length ≤ 22 * L.length
 | [], _ => jp
 | t :: L, h => by
  have h1 := qZg h3 hl L (fun t ht => h t (zbi _ ht))
  obtain ⟨h4, h5, _⟩ := h t zbf
  have h2 := fH h3.1 h3.2 (jo : t.1 < third.length)
  have h6 : (dR third t).length = (bK third t.1).length + t.2.1 := by unfold dR; rw [zb, qH]
  rw [zm, zb, zq]
  omega
theorem mU : ∀ L : List Nat, (L.flatMap fun n => bitsL n 3).length = 3 * L.length
 | [] => jp
 | a :: L => by rw [zm, zb, mU L, qH, zq]; omega
end
section
open Go.RowKit
structure Sm {α : Type} (L' L : List Bool) (m' m : Nat) (pos len : α → Nat) (p o : Nat) (X Y : Except Nat α) : Prop where
 low : ∀ x, Y = .ok x → p ≤ pos x ∧ pos x ≤ L.length ∧ o ≤ len x
 sim : p ≤ L'.length → (X = Y ∧ ∀ x, Y = .ok x → pos x ≤ L'.length) ∨ (L' ≠ L ∧ X = .error 2 ∧ ∀ x, Y = .ok x → L'.length < pos x) ∨ (m' ≠ m ∧ X = .error 13 ∧ ∀ x, Y = .ok x → m' < len x)
section
variable {α β : Type} {L' L : List Bool} {m' m : Nat}
end
section
variable {L' L : List Bool} {m' m : Nat}
end
section
variable {L' L : List Bool} {m' m : Nat} (hL : L' <+: L)
include hL
end
section
variable {bs' bs : List Nat} {m' m : Nat} (hb : bs' <+: bs) (hm : m' ≤ m)
include hb hm
end
structure NZ {α : Type} (X : Except Nat α) : Prop where
 ne : X ≠ .error 0
theorem NZ.ok {α : Type} (x : α) : NZ (.ok x : Except Nat α) := ⟨by intro h; cases h⟩
theorem NZ.er {α : Type} (k : Nat) : NZ (.error (k + 1) : Except Nat α) := ⟨by intro h; injection h with h; cases h⟩
end
section
open Go.RowKit
def eC (h : Nat) (x : List Nat) : List Nat := [h, x.length % 256, x.length / 256, 255 - x.length % 256, 255 - x.length / 256] ++ x
def fQ : List (List Nat) → List Nat → List Nat
 | [], last => eC 1 last
 | x :: r, last => eC 0 x ++ fQ r last
theorem dS {L A B : List Bool} {n p : Nat} (hL : ∃ C, L = A ++ B ++ C) (hn : n = B.length) (hp : p = A.length) : bZ L n p = .ok (num B, p + n) := by
 obtain ⟨C, hL⟩ := hL
 subst hL hn hp
 unfold bZ
 rw [if_pos jp]
 rw [zj, zeo, zgd]
theorem qZh {h : Nat} (hh : h < 2) : bitsL h 8 = [decide (h = 1)] ++ [false, false] ++ [false, false, false, false, false] := by
 rcases (by omega : h = 0 ∨ h = 1) with rfl | rfl <;> rfl
theorem qN4 {a b : Nat} (ha : a < 256) (hb : b < 256) : num (bitsL a 8 ++ bitsL b 8) = a + 256 * b := by
 rw [pG, eG 8 a ha, eG 8 b hb, qH]
theorem zE {bs pre x post : List Nat} {h most : Nat} {out : List Nat} (hbs : bs = pre ++ eC h x ++ post) (hh : h < 2) (hx : x.length < 65536) (hm : out.length + x.length ≤ most) :
  gR bs most (8 * pre.length) out = .ok (decide (h = 0), 8 * (pre.length + 5 + x.length), out ++ x) := by
 have e0 : ofB bs = ofB pre ++ bitsL h 8 ++ (bitsL (x.length % 256) 8 ++ bitsL (x.length / 256) 8 ++ (bitsL (255 - x.length % 256) 8 ++ bitsL (255 - x.length / 256) 8 ++ ofB (x ++ post))) := by
  rw [hbs]
  simp only [eC, zdf, zbo, zj, kU, uF]
 have el := cW pre
 have hq : x.length / 256 < 256 := jo
 have hr : x.length % 256 < 256 := jo
 have hlen : bs.length = pre.length + 5 + x.length + post.length := by rw [hbs]; simp [eC]; omega
 unfold gR
 rw [dS (A := ofB pre) (B := [decide (h = 1)]) (n := 1) (p := 8 * pre.length) (⟨_, by rw [e0, qZh hh]; simp only [zj]; rfl⟩) rfl el.symm, qS]
 dsimp only
 rw [dS (A := ofB pre ++ [decide (h = 1)]) (B := [false, false]) (n := 2) (p := 8 * pre.length + 1) (⟨_, by rw [e0, qZh hh]; simp only [zj]; rfl⟩) rfl (by simp [el]), qS]
 dsimp only
 have n2 : num [false, false] = 0 := rfl
 rw [n2, if_neg jo, if_pos rfl]
 unfold kR
 rw [show (8 * pre.length + 1 + 2 + 7) / 8 * 8 = 8 * pre.length + 8 by omega]
 rw [dS (A := ofB pre ++ bitsL h 8) (B := bitsL (x.length % 256) 8 ++ bitsL (x.length / 256) 8) (n := 16) (p := 8 * pre.length + 8) (⟨_, by rw [e0]; simp only [zj]; rfl⟩) (by simp [qH]) (by simp [qH, el]), qS]
 dsimp only
 rw [dS (A := ofB pre ++ bitsL h 8 ++ (bitsL (x.length % 256) 8 ++ bitsL (x.length / 256) 8)) (B := bitsL (255 - x.length % 256) 8 ++ bitsL (255 - x.length / 256) 8) (n := 16) (p := 8 * pre.length + 8 + 16) (⟨_, by rw [e0]; simp only [zj]; rfl⟩) (by simp [qH]) (by simp [qH, el]), qS]
 dsimp only
 rw [qN4 hr hq, qN4 jo jo]
 have en : x.length % 256 + 256 * (x.length / 256) = x.length := Nat.mod_add_div ..
 rw [en]
 have hxor : x.length ^^^ (255 - x.length % 256 + 256 * (255 - x.length / 256)) = 65535 := (qPv jo jo).2 jo
 rw [hxor, if_neg jp, if_neg jo, if_neg jo, qS]
 have ed : bs.drop ((8 * pre.length + 8 + 16 + 16) / 8) = x ++ post := by
  rw [hbs, show (8 * pre.length + 8 + 16 + 16) / 8 = (pre ++ [h, x.length % 256, x.length / 256, 255 - x.length % 256, 255 - x.length / 256]).length by simp; omega]
  unfold eC
  rw [show pre ++ ([h, x.length % 256, x.length / 256, 255 - x.length % 256, 255 - x.length / 256] ++ x) ++ post = (pre ++ [h, x.length % 256, x.length / 256, 255 - x.length % 256, 255 - x.length / 256]) ++ (x ++ post) by simp only [zj]]
  rw [zeo]
 rw [ed, zgd]
 congr 2
 · rcases (by omega : h = 0 ∨ h = 1) with rfl | rfl <;> rfl
 congr 1
 omega
theorem wO {bs : List Nat} {most : Nat} {last : List Nat} (hl : last.length < 65536) : ∀ (r : List (List Nat)) (pre out : List Nat) (f : Nat), bs = pre ++ fQ r last → (∀ x ∈ r, x.length < 65536) → out.length + r.flatten.length + last.length ≤ most → r.length < f →
  gI bs most f (8 * pre.length) out = .ok (8 * bs.length, out ++ r.flatten ++ last)
 | r, pre, out, 0, _, _, _, hf => jo
 | [], pre, out, f + 1, hbs, hx, hm, hf => by
  unfold gI
  rw [zE (pre := pre) (x := last) (post := []) (h := 1) (by simpa [fQ] using hbs) jo hl (by simpa using hm), qS]
  have : bs.length = pre.length + 5 + last.length := by rw [hbs]; simp [fQ, eC]; omega
  simp [this]
 | x :: r, pre, out, f + 1, hbs, hx, hm, hf => by
  unfold gI
  simp only [List.flatten_cons, zb] at hm
  rw [zE (pre := pre) (x := x) (post := fQ r last) (h := 0) (by simpa [fQ] using hbs) jo (hx x jp) jo, qS]
  have e1 : pre.length + 5 + x.length = (pre ++ eC 0 x).length := by simp [eC]; omega
  simp only [decide_true, if_true]
  rw [e1, wO hl r (pre ++ eC 0 x) (out ++ x) f (by rw [hbs]; simp [fQ]) (fun y hy => hx y (by simp [hy])) (by simp only [zb]; omega) (by simpa using hf)]
  simp
theorem qM9 {r : List (List Nat)} {last : List Nat} (hx : ∀ x ∈ r, x.length < 65536) (hl : last.length < 65536) :
  gV (fQ r last) ((r.flatten ++ last).length : Nat) = .ok (r.flatten ++ last, (fQ r last).length) := by
 have hlen : ∀ r : List (List Nat), r.length < 8 * (fQ r last).length + 1 := by
  intro r
  induction r with
  | nil => simp
  | cons x r ih => simp only [fQ, eC, zq, zb] at *; omega
 unfold gV
 rw [if_neg jo]
 have h := wO (bs := fQ r last) (most := (r.flatten ++ last).length) hl r [] [] (8 * (fQ r last).length + 1) rfl hx jp (hlen r)
 simp only [zal]
 rw [show (0 : Nat) = 8 * ([] : List Nat).length from rfl, h, qS]
 simp
 omega
end
section
open Go.RowKit
theorem qGm (l : List Int) (i : Nat) : ∀ d, (bU l i + cn l i) * 2 ^ (d + 1) ≤ bU l (i + 1 + d)
 | 0 => zk _
 | d + 1 => by
  have ih := qGm l i d
  have e : bU l (i + 1 + (d + 1)) = (bU l (i + 1 + d) + cn l (i + 1 + d)) * 2 := rfl
  rw [e, zbt, ← zdu]
  omega
theorem qJl {l : List Int} {s n i : Nat} (hc : cE l s = (cY l s, (n : Int))) (hn : l.getD s 0 = (n : Int)) (hi : i < n) : hit l i (cY l s / 2 ^ (n - i)) = none := by
 refine qXe (fun h => ?_)
 obtain ⟨d, rfl⟩ : ∃ d, n = i + 1 + d := ⟨n - i - 1, jo⟩
 have h1 := qGm l i d
 have h2 : bU l (i + 1 + d) ≤ cY l s := by
  unfold cY
  rw [hn, zal]
  omega
 have h3 : bU l i + cn l i ≤ cY l s / 2 ^ (d + 1) := (Nat.le_div_iff_mul_le (Nat.pow_pos jo)).2 jo
 rw [show i + 1 + d - i = d + 1 by omega] at h
 omega
theorem qJm (c n i : Nat) (hi : i < n) : ((bitsL c n).reverse)[i]? = some (decide (c / 2 ^ (n - 1 - i) % 2 = 1)) := by
 rw [List.getElem?_reverse (by rw [qH]; exact hi), qH]
 exact nB c n (n - 1 - i) jo
theorem qNa (c k : Nat) : c / 2 ^ k = 2 * (c / 2 ^ (k + 1)) + (decide (c / 2 ^ k % 2 = 1)).toNat := by
 rw [zbt, ← zfu]
 by_cases h : c / 2 ^ k % 2 = 1
 ·
  rw [decide_eq_true h]
  simp
  omega
 rw [decide_eq_false h]
 simp
 omega
theorem qN5 {l : List Int} {L A C : List Bool} {s n : Nat} (hs : s < l.length) (hc : cE l s = (cY l s, (n : Int))) (hn : l.getD s 0 = (n : Int)) (hn1 : 1 ≤ n) (hn15 : n ≤ 15) (hlt : cY l s < 2 ^ n) (hL : L = A ++ bK l s ++ C) :
  ∀ d i m, i + d = n → 1 ≤ d → d ≤ m → tk l L m (i + 1) (cY l s / 2 ^ d) (A.length + i) = (s, A.length + n, 0)
 | 0, i, m, _, h0, _ => jo
 | d + 1, i, 0, _, _, h => jo
 | d + 1, i, m + 1, h1, h2, h3 => by
  have hcb : bK l s = (bitsL (cY l s) n).reverse := by unfold bK; rw [hc]; rfl
  have hb : L[A.length + i]? = some (decide (cY l s / 2 ^ d % 2 = 1)) := by
   rw [hL, zj, zah jo, zdd, zaf (by rw [hcb, zgn, qH]; omega), hcb, qJm _ _ _ jo, show n - 1 - i = d by omega]
  unfold tk
  rw [hb]
  dsimp only
  rw [← qNa]
  by_cases hd : d = 0
  ·
   subst hd
   obtain rfl : i + 1 = n := jo
   rw [Nat.pow_zero, Nat.div_one, (qJ2 l (i + 1) (cY l s) s hn1 hn15).2 ⟨hs, hc⟩]
   rfl
  have hno := qJl hc hn (jo : i + 1 < n)
  rw [show n - (i + 1) = d by omega] at hno
  rw [hno]
  dsimp only
  have := qN5 hs hc hn hn1 hn15 hlt hL d (i + 1) m jo jo jo
  rw [zee A.length i 1]
  exact this
theorem qP6 {l : List Int} {L : List Bool} {s n p : Nat} (hs : s < l.length) (hc : cE l s = (cY l s, (n : Int))) (hn : l.getD s 0 = (n : Int)) (hn1 : 1 ≤ n) (hn15 : n ≤ 15) (hlt : cY l s < 2 ^ n) (hm : n ≤ bM l) (hL : ∃ A C, L = A ++ bK l s ++ C ∧ p = A.length) :
  gJ L l p = .ok (s, p + n) := by
 obtain ⟨A, C, hL, rfl⟩ := hL
 have h : tk l L (bM l) 1 (cY l s / 2 ^ n) A.length = (s, A.length + n, 0) := qN5 hs hc hn hn1 hn15 hlt hL n 0 (bM l) jo hn1 hm
 rw [zeq hlt] at h
 unfold gJ
 rw [h]
 rfl
theorem nO (l : List Int) : (cJ l).length = atL l 16 := lA l 16
theorem yQ {l : List Int} {n : Nat} : ∀ m, n < m → cn l n ≤ atL l m
 | 0, h => jo
 | m + 1, h => by
  rw [atL]
  by_cases hm : n < m
  · have := yQ (l := l) m hm; omega
  obtain rfl : n = m := jo
  omega
theorem qKp {l : List Int} {n k : Nat} (hnk : n < k) : ∀ m, k < m → cn l n + cn l k ≤ atL l m
 | 0, h => jo
 | m + 1, h => by
  rw [atL]
  by_cases hm : k < m
  · have := qKp (l := l) hnk m hm; omega
  obtain rfl : k = m := jo
  have := yQ (l := l) k hnk
  omega
theorem qP7 {l : List Int} {s n : Nat} (he : newE l = 0) (hs : s < l.length) (hn : l.getD s 0 = (n : Int)) (hn1 : 1 ≤ n) (hn15 : n ≤ 15) : n ≤ bM l := by
 unfold bM
 split
 ·
  rename_i h2
  have hc : 1 ≤ cn l n := by have := pN l s n hs jo hn; omega
  have hp := yQ (l := l) (n := n) 16 jo
  unfold newE at he
  rw [h2] at he
  rw [nO] at he ⊢
  split at he
  ·
   rename_i h3
   rcases h3.2 with h4 | ⟨h4, h5⟩
   · omega
   by_cases hn2 : n = 1
   · omega
   have := qKp (l := l) (n := 1) (k := n) jo 16 jo
   omega
  omega
 exact hn15
def ROk (l : List Int) : Prop := LOk l ∧ newE l = 0
theorem gT {l : List Int} (h : ROk l) {s : Nat} (hs : s < l.length) (h0 : l.getD s 0 ≠ 0) {L : List Bool} {p : Nat} (hL : ∃ A C, L = A ++ bK l s ++ C ∧ p = A.length) : gJ L l p = .ok (s, p + (bK l s).length) ∧ 1 ≤ (bK l s).length := by
 rcases pT h.1.1 h.1.2 hs with h1 | ⟨n, h1, h2, h3, h4, h5⟩
 ·
  exfalso
  unfold cE at h1
  rw [if_neg h0] at h1
  exact h0 (Prod.mk.inj h1).2
 have hl : (bK l s).length = n := by unfold bK; rw [h1, zgn, qH]; rfl
 rw [hl]
 exact ⟨qP6 hs h1 h2 h3 h4 h5 (qP7 h.2 hs h2 h3 h4) hL, h3⟩
theorem nH (l : List Int) (k n : Nat) : cn (l ++ List.replicate k 0) n = cn l n := by
 unfold cn
 split
 · rfl
 rename_i h
 rw [zaq, List.count_replicate, if_neg (by simp; omega), zdh]
theorem qGn (l : List Int) (k n : Nat) : bU (l ++ List.replicate k 0) n = bU l n := wJ n (fun m _ => nH l k m)
theorem qJn (l : List Int) (k s : Nat) (hs : s < l.length) : cE (l ++ List.replicate k 0) s = cE l s := by
 have e : (l ++ List.replicate k 0).getD s 0 = l.getD s 0 := by rw [zc, zaf hs, ← zc]
 unfold cE cY mK
 rw [e, qGn, zbs jo]
theorem qJo (l : List Int) (k s : Nat) (hs : s < l.length) : bK (l ++ List.replicate k 0) s = bK l s := by unfold bK; rw [qJn l k s hs]
theorem yX {f g : Nat → Nat} (h : ∀ n, f n = g n) : ∀ i, KC f i = KC g i
 | 0 => rfl
 | i + 1 => by rw [KC, KC, yX h i, h i]
theorem zF (l : List Int) (k : Nat) : ∀ m, atL (l ++ List.replicate k 0) m = atL l m
 | 0 => rfl
 | m + 1 => by rw [atL, atL, zF l k m, nH]
theorem xQ {l : List Int} {k : Nat} (h : fC (l ++ List.replicate k 0)) : fC l := ⟨by have := h.1; rw [zb] at this; omega, fun x hx => h.2 x (List.mem_append.2 (.inl hx))⟩
theorem qGo {l : List Int} {k : Nat} (h : fC (l ++ List.replicate k 0)) : chk (l ++ List.replicate k 0) = chk l := by
 have e : KC (cn (l ++ List.replicate k 0)) 16 = KC (cn l) 16 := yX (nH l k) 16
 have h1 := xQ h
 unfold chk
 rw [e]
 simp only [h, h1, not_true_eq_false, if_false]
theorem ROk.zeros {l : List Int} {k : Nat} (h : ROk (l ++ List.replicate k 0)) : ROk l := by
 obtain ⟨⟨h1, h2⟩, h3⟩ := h
 refine ⟨⟨xQ h1, ?_⟩, ?_⟩
 ·
  rw [yX (nH l k) 16] at h2
  exact h2
 unfold newE at h3 ⊢
 rw [qGo h1, nO, zF, ← nO, nH] at h3
 exact h3
theorem oQ (l : List Nat) (least : Nat) : ∀ n i, fX l least n ≤ i → i < n → l.getD i 0 = 0
 | 0, _, _, h => jo
 | n + 1, i, h1, h2 => by
  unfold fX at h1
  split at h1
  ·
   rename_i h3
   by_cases hi : i = n
   · rw [hi]; exact h3.2
   exact oQ l least n i h1 jo
  omega
theorem qV7 (l : List Nat) (least : Nat) : l = cM l least ++ List.replicate (l.length - (cM l least).length) 0 := by
 have hle := pQ l least l.length
 apply zap
 intro i
 rw [fF]
 by_cases h1 : i < fX l least l.length
 · rw [zaf (by rw [fF]; exact h1), cM, zao h1]
 rw [zah (by rw [fF]; omega), fF]
 by_cases h2 : i < l.length
 ·
  have h3 := oQ l least l.length i jo h2
  rw [zc, za h2, zaz] at h3
  rw [za h2, h3, zfk, if_pos jo]
 rw [zr jo, zr (by rw [zba]; omega)]
theorem qZi (l : List Nat) (least : Nat) : toZ l = toZ (cM l least) ++ List.replicate (l.length - (cM l least).length) 0 := by
 have h := congrArg toZ (qV7 l least)
 have e : toZ (cM l least ++ List.replicate (l.length - (cM l least).length) 0) = toZ (cM l least) ++ List.replicate (l.length - (cM l least).length) 0 := by
  unfold toZ
  rw [zbx, List.map_replicate]
  rfl
 rw [e] at h
 exact h
theorem ROk.cut {l : List Nat} (least : Nat) (h : ROk (toZ l)) : ROk (toZ (cM l least)) := by
 rw [qZi l least] at h
 exact h.zeros
theorem oX (l : List Nat) (least s : Nat) (hs : s < (cM l least).length) : bK (toZ l) s = bK (toZ (cM l least)) s := by
 rw [qZi l least]
 exact qJo _ _ _ (by rw [bL]; exact hs)
theorem qJp (cs : List Nat) (hl : cs.length ≤ 1024) : ∃ own, dX cs own := by
 refine ⟨(cX cs cs.length).mergeSort (fun a b => decide (dB a ≤ dB b)), List.mergeSort_perm _ _, ?_⟩
 have h1 : ((cX cs cs.length).mergeSort (fun a b => decide (dB a ≤ dB b))).Pairwise (fun a b => decide (dB a ≤ dB b) = true) := by
  refine List.pairwise_mergeSort ?_ ?_ _
  ·
   intro a b c h1 h2
   simp only [decide_eq_true_eq] at h1 h2 ⊢
   omega
  intro a b
  simp only [Bool.or_eq_true, decide_eq_true_eq]
  omega
 have h2 : (((cX cs cs.length).mergeSort (fun a b => decide (dB a ≤ dB b))).map dB).Nodup := ((List.mergeSort_perm _ _).map dB).nodup_iff.2 (rD cs cs.length hl)
 have h3 : ((cX cs cs.length).mergeSort (fun a b => decide (dB a ≤ dB b))).Pairwise (fun a b => dB a ≠ dB b) := by
  unfold List.Nodup at h2
  exact List.pairwise_map.1 h2
 refine (h1.and h3).imp ?_
 rintro a b ⟨h4, h5⟩
 simp only [decide_eq_true_eq] at h4
 omega
theorem kL {l : List Nat} {i : Nat} (h : l.getD i 0 ≠ 0) : i < l.length := by
 by_cases hi : i < l.length
 · exact hi
 rw [zc, zr jo] at h
 exact absurd rfl h
theorem tK {cs : List Nat} {m : Nat} (hl : cs.length ≤ 320) (hm1 : 1 ≤ m) (hm2 : m ≤ 15) (hf : cs.length ≤ 2 ^ m) : LenOk cs (dJ cs m) m ∧ ROk (toZ (dJ cs m)) := by
 obtain ⟨own, hco⟩ := qJp cs jo
 have hok := qKn hco hl hm1 hm2 hf
 refine ⟨hok, hok.ok, ?_⟩
 have hfit : own.length ≤ 2 ^ m := zo (vM hco) hf
 obtain ⟨h1, h2⟩ := qKm hco hl hm1 hm2 hfit
 have hE : dJ cs m = cT cs.length m own := by unfold dJ; rw [tJ hco]
 have hg := hok.ok.1
 have hK : KC (cn (toZ (dJ cs m))) 16 = if 2 ≤ own.length then 32768 else own.length * 16384 := by
  rw [qJ5 _ hg.2]
  have h3 := xL (toZ (dJ cs m)) _ (zk _)
  rw [zbl] at h3
  rw [h3, bL, hok.len, cI (h := fun k => if 0 < (cT cs.length m own).getD k 0 then 2 ^ (15 - (cT cs.length m own).getD k 0) else 0) _ (fun k _ => by rw [lN, zal, hE]), h2]
 have hchk : chk (toZ (dJ cs m)) = if 2 ≤ own.length then 0 else 2 := by
  unfold chk
  rw [if_neg (fun hn => hn hg), hK]
  split
  · simp
  rw [if_neg jo, if_pos jo]
 unfold newE
 rw [hchk]
 by_cases h3 : 2 ≤ own.length
 ·
  rw [if_pos h3]
  simp
 rw [if_neg h3, if_pos]
 refine ⟨rfl, ?_⟩
 have hKK : KC (cn (toZ (dJ cs m))) 16 = own.length * 16384 := by rw [hK, if_neg h3]
 rw [nO]
 have hone : ∀ n, 2 ≤ n → cn (toZ (dJ cs m)) n = 0 := by
  intro n hn
  unfold cn
  rw [if_neg jo, List.count_eq_zero]
  intro hmem
  obtain ⟨y, hy, hyn⟩ := List.mem_map.1 hmem
  obtain ⟨i, hi, rfl⟩ := zbc hy
  have h5 : (dJ cs m).getD i 0 = n := by rw [zc, za hi, zaz]; omega
  rw [hE] at h5
  unfold cT at h5
  rw [if_pos jo, nW _ _ _ (by rw [hok.len] at hi; exact hi), nL hco] at h5
  split at h5 <;> omega
 have hat : ∀ d, atL (toZ (dJ cs m)) (2 + d) = cn (toZ (dJ cs m)) 1 := by
  intro d
  induction d with
  | zero => simp [atL, cn]
  | succ d ih => rw [show 2 + (d + 1) = (2 + d) + 1 by omega, atL, ih, hone (2 + d) jo, zdh]
 have hkc : ∀ d, KC (cn (toZ (dJ cs m))) (2 + d) = cn (toZ (dJ cs m)) 1 * 16384 := by
  intro d
  induction d with
  | zero => simp [KC, cn]
  | succ d ih => rw [show 2 + (d + 1) = (2 + d) + 1 by omega, KC, ih, hone (2 + d) jo, zff, zdh]
 have h6 := hat 14
 have h7 := hkc 14
 rw [hKK] at h7
 rw [show 2 + 14 = 16 from rfl] at h6
 rw [h6]
 omega
theorem xX : newE cK = 0 ∧ newE cH = 0 := by decide +kernel
theorem zA : ROk cK ∧ ROk cH := ⟨⟨lI, xX.1⟩, ⟨sD, xX.2⟩⟩
end
section
open Go.RowKit
def cD (bs : List Nat) : List Nat := if 65535 < bs.length then eC 0 (bs.take 65535) ++ cD (bs.drop 65535) else eC 1 bs
termination_by bs.length
decreasing_by simp; omega
theorem nM (bs : List Nat) : cD bs = if 65535 < bs.length then eC 0 (bs.take 65535) ++ cD (bs.drop 65535) else eC 1 bs := by rw [cD]
theorem qKq {h : Nat} {x : List Nat} (hh : h < 2) (hx : ∀ b ∈ x, b < 256) (hl : x.length ≤ 65535) : ∀ b ∈ eC h x, b < 256 := by
 intro b hb
 simp only [eC, List.mem_append, zcq, zcj, or_false] at hb
 rcases hb with (rfl | rfl | rfl | rfl | rfl) | hb
 · omega
 · omega
 · omega
 · omega
 · omega
 exact hx b hb
theorem vP (h : Nat) (x : List Nat) : (eC h x).length = x.length + 5 := by simp [eC]
theorem qV8 {pre : List Nat} {h : Nat} (hh : h < 2) : fU (ofB pre ++ bitsL h 1 ++ bitsL 0 2) = ofB (pre ++ [h]) := by
 rw [kU, show ofB [h] = bitsL h 8 ++ [] from rfl, qZh hh, zcz]
 unfold fU
 have e : (8 - (ofB pre ++ bitsL h 1 ++ bitsL 0 2).length % 8) % 8 = 5 := by
  simp only [zb, cW, qH]
  omega
 rw [e]
 have e1 : bitsL h 1 = [decide (h = 1)] := by rcases (by omega : h = 0 ∨ h = 1) with rfl | rfl <;> rfl
 rw [e1]
 simp only [zj]
 rfl
theorem qGp (l : List Nat) : fU (ofB l) = ofB l := qHo _ (by rw [cW]; omega)
theorem zI (g c0 n : Nat) (A B : Option Addr) (l : List Bool) (bs : List Nat) (w : World) (hn : bs.length = n) (hl : l.length ≤ 1000000000) (hbs : bs.length ≤ 1000000000) (hB : ∀ b ∈ bs, b < 256) (hW : IsW w g A l) (hr : Rd w 1 B bs.length (NB bs)) :
  Calls Tryz.prog 53 #[.pointer (some ⟨g, 0, none⟩), .slice B n c0] w fun e w' => e = .returned (.tuple #[]) ∧ ∃ A', IsW w' g A' (fU l ++ ofB bs) ∧ Frm (g :: ob A) w w' ∧ ∀ x ∈ ob A', x ∈ ob A ∨ w.heap.size ≤ x := by
 subst hn
 exact qQ6 g c0 A B l bs w hl hbs hB hW hr
theorem tV : ∀ n (bs : List Nat), bs.length ≤ n → (cD bs).length ≤ 2 * bs.length + 5
 | n, bs, h => by
  rw [nM]
  split
  ·
   rename_i h1
   have h2 := tV (n - 1) (bs.drop 65535) (by rw [zp]; omega)
   rw [zp] at h2
   rw [zb, vP, zi]
   omega
  rw [vP]; omega
 termination_by n => n
 decreasing_by omega
theorem vR : ∀ n (bs : List Nat), bs.length ≤ n → (∀ b ∈ bs, b < 256) → ∀ b ∈ cD bs, b < 256
 | n, bs, h, hB => by
  rw [nM]
  split
  ·
   intro b hb
   rcases List.mem_append.1 hb with hb | hb
   · exact qKq jo (fun b hb => hB b (zag hb)) (by rw [zi]; omega) b hb
   exact vR (n - 1) (bs.drop 65535) (by rw [zp]; omega) (fun b hb => hB b (zbn hb)) b hb
  exact qKq jo hB jo
 termination_by n => n
 decreasing_by omega
theorem qGq (b : Bool) (w : World) : Calls Tryz.prog 52 #[.bool b] w fun e w' => e = .returned (.int .u64 ((b.toNat : Nat) : Int)) ∧ w = w' := by
 refine VC.calls (nt := 4) (res := #[.tmp 2]) Tryz.func52 rfl Tryz.ntmps52 Tryz.results52 rfl ?_
 refine jS (jR ?_)
 refine jy .u64 0 ?_
 refine jO (jN (jv1 0 ?_))
 refine jS (jS (jR (jm rfl (jO (jN (jv1 3 ?_))))))
 refine VC.condB rfl (fun hc1 => ?_) (fun hc1 => ?_)
 ·
  refine jS (jR ?_)
  refine jy .u64 1 ?_
  refine jO (jN (jv1 2 ?_))
  refine jT ?_
  refine qN (qC rfl ?_)
  subst hc1
  exact ⟨rfl, rfl⟩
 refine jQ (jN ?_)
 refine VC.sub [] .nil ?_
 refine jS (jR ?_)
 refine jy .u64 0 ?_
 refine jO (jN (jT ?_))
 refine qC rfl ?_
 rw [show b = false from by simpa using hc1]
 exact ⟨rfl, rfl⟩
theorem qGr (A : Option Addr) (c : Nat) (bs : List Nat) (w : World) (hl : bs.length ≤ 1000000) (hc : bs.length ≤ c) (hB : ∀ b ∈ bs, b < 256) (hr : Rd w 1 A bs.length (NB bs)) :
  Calls Tryz.prog 32 #[.slice A bs.length c] w fun e w' => ∃ B d, e = .returned (.slice B (cD bs).length d) ∧ Own w' 5 1 B (cD bs).length d (NB (cD bs)) ∧ Frm [] w w' ∧ ∀ x ∈ ob B, w.heap.size ≤ x := by
 refine VC.calls (nt := 47) (res := #[.tmp 2]) Tryz.func32 rfl Tryz.ntmps32 Tryz.results32 rfl ?_
 refine jS (jR (ja rfl (jO (jN (jv1 0 ?_)))))
 refine jS (jR ?_)
 refine Ops.cl (jE0 Tryz.call50) (uA _) rfl ?_
 rintro e w2 ⟨rfl, hW, hf2, _⟩
 refine ⟨_, rfl, ?_⟩
 obtain ⟨g, hgl, hgv⟩ : ∃ g, w.heap.size ≤ g ∧ g = w.heap.size := ⟨_, zk _, rfl⟩
 rw [← hgv] at hW
 refine ja rfl (jO (jN (jv2 0 3 ?_)))
 refine jS (jS (jR (ja rfl (jO (jN (jB ?_))))))
 refine VC.loop (σ := Option Addr × Nat × List Nat × Bool × Option Addr × List Nat) (fun s => [(0, .slice s.1 s.2.2.1.length s.2.1), (3, .pointer (some ⟨g, 0, none⟩)), (4, .bool s.2.2.2.1)]) (fun s wr => IsW wr g s.2.2.2.2.1 (ofB s.2.2.2.2.2) ∧ Rd w 1 s.1 s.2.2.1.length (NB s.2.2.1) ∧ s.2.2.1.length ≤ s.2.1 ∧ (∀ b ∈ s.2.2.1, b < 256) ∧ Frm [] w wr ∧ (∀ x ∈ ob s.2.2.2.2.1, w.heap.size ≤ x) ∧ (s.2.2.2.1 = true → s.2.2.2.2.2 ++ cD s.2.2.1 = cD bs ∧ s.2.2.2.2.2.length + 2 * s.2.2.1.length ≤ 2 * bs.length) ∧ (s.2.2.2.1 = false → s.2.2.2.2.2 = cD bs) ∧ s.2.2.1.length ≤ bs.length) (fun s => s.2.2.1.length + s.2.2.2.1.toNat) (A, c, bs, true, none, []) (js3 rfl (by rw [hgv]; rfl) rfl) ⟨hW, hr, hc, hB, hf2, by simp [ob], fun _ => ⟨rfl, jp⟩, jp, zk _⟩ ?_
 rintro ⟨B, c1, rest, more, A1, pre⟩ wr ⟨hW, hr1, hcr, hB1, K, hA1, hm, hf, hlr⟩
 dsimp only at hW hr1 hcr hB1 hA1 hm hf hlr ⊢
 refine jS (jS (jR (jm rfl (jO (jN (jv3 0 3 7 ?_))))))
 refine VC.condB rfl (fun hc1 => ?_) (fun hc1 => ?_)
 ·
  obtain ⟨hm1, hm2⟩ := hm hc1
  refine jQ (jN (jv2 0 3 ?_))
  refine jB (jS (jR (jm rfl (je (Run.lenS rfl ze) (je (Run.minI rfl rfl) ?_)))))
  have em : (if (65535 : Int) < ((rest.length : Nat) : Int) then (65535 : Int) else ((rest.length : Nat) : Int)) = ((min rest.length 65535 : Nat) : Int) := by split <;> omega
  rw [em]
  have hnle : min rest.length 65535 ≤ 65535 := Nat.min_le_right _ _
  have hnl : min rest.length 65535 ≤ rest.length := Nat.min_le_left _ _
  have hnlt : ¬ min rest.length 65535 < rest.length → min rest.length 65535 = rest.length := jo
  have hnlt2 : min rest.length 65535 < rest.length → min rest.length 65535 = 65535 := jo
  generalize min rest.length 65535 = n at hnle hnl hnlt hnlt2 ⊢
  refine ja rfl (jO (jN (jv3 0 3 5 ?_)))
  refine jS (jR (jm rfl (jm rfl (je (Run.lenS rfl ze) (jb rfl rfl (Bin.lssN _ _) (ja rfl (jO (jN (jv4 0 3 4 5 ?_)))))))))
  refine jS (jR (jm rfl (jm rfl (je (Run.not rfl) ?_))))
  refine Ops.cl (jE1 Tryz.call52) (qGq _ _) rfl ?_
  rintro e _ ⟨rfl, rfl⟩
  refine ⟨_, rfl, ?_⟩
  have hh2 : (!decide (n < rest.length)).toNat < 2 := Bool.toNat_lt _
  generalize hhv : (!decide (n < rest.length)).toNat = hh at hh2 ⊢
  refine Ops.cl (jE3 zea) (gQ g hh 1 A1 (ofB pre) wr jo jo (by rw [cW]; omega) hW) rfl ?_
  rintro e w3 ⟨rfl, A2, hW2, hf3, hA2⟩
  refine ⟨_, rfl, ?_⟩
  have hgA : ∀ x ∈ g :: ob A1, w.heap.size ≤ x := fun x hx => by rcases zcq.1 hx with rfl | hx; exact hgl; exact hA1 x hx
  have K3 := K.own hf3 hgA
  have hA2 : ∀ x ∈ ob A2, w.heap.size ≤ x := fun x hx => by rcases hA2 x hx with h | h; exact hA1 x h; have := K.size; omega
  refine jO (jN (jv4 0 3 4 5 ?_))
  refine jS (jR (jM ?_))
  refine Ops.cl (jE3 zea) (gQ g 0 2 A2 _ w3 jd jo (by rw [zb, cW, qH]; omega) hW2) rfl ?_
  rintro e w4 ⟨rfl, A3, hW3, hf4, hA3⟩
  refine ⟨_, rfl, ?_⟩
  have hgA : ∀ x ∈ g :: ob A2, w.heap.size ≤ x := fun x hx => by rcases zcq.1 hx with rfl | hx; exact hgl; exact hA2 x hx
  have K4 := K3.own hf4 hgA
  have hA3 : ∀ x ∈ ob A3, w.heap.size ≤ x := fun x hx => by rcases hA3 x hx with h | h; exact hA2 x h; have := K3.size; omega
  refine jO (jN (jv4 0 3 4 5 ?_))
  refine jS (jR (jm rfl (jm rfl (je (Run.conv8 _ rfl zx zbh) (jm rfl (jb rfl rfl (Bin.shr_i64 _ 8 jo) (je (Run.conv8 _ rfl zx zbh) (jm rfl (je (Run.compl _ rfl jo) (je (Run.conv rfl zx zbh _ (qK9 n hnle)) (jm rfl (je (Run.compl _ rfl jo) (jb rfl rfl (Bin.shr_neg8 n) (je (Run.conv rfl zx zbh _ (qZ5 n hnle)) ?_))))))))))))))
  refine Ops.m (qJ.buildN (cells := (NB [n % 256, n / 2 ^ 8 % 256, (65535 - n) % 256, (65535 - n) / 256]).toArray) (evs.cons rfl (evs.cons rfl (evs.cons rfl (evs.cons rfl evs.nil)))) ze zad tU rfl rfl jK) rfl ?_
  rintro _ w5 ⟨rfl, hF5⟩
  have hrd : Rd w5 1 (some ⟨w4.heap.size, 0, none⟩) 4 (NB [n % 256, n / 2 ^ 8 % 256, (65535 - n) % 256, (65535 - n) / 256]) := Rd.of_blk (n := 4) (size := 1) hF5.blk rfl
  have hW3 := hW3.frm hF5.frm jp
  have K5 := K4.trans hF5.frm jp
  refine Ops.cl (jE2 Tryz.call53) (zI g 4 4 A3 _ _ [n % 256, n / 2 ^ 8 % 256, (65535 - n) % 256, (65535 - n) / 256] w5 rfl (by simp only [zb, cW, qH]; omega) jp (by intro b hb; simp only [zcq, zcj, or_false] at hb; rcases hb with rfl | rfl | rfl | rfl <;> omega) hW3 hrd) rfl ?_
  rintro e w6 ⟨rfl, A4, hW4, hf6, hA4⟩
  refine ⟨_, rfl, ?_⟩
  have hgA : ∀ x ∈ g :: ob A3, w.heap.size ≤ x := fun x hx => by rcases zcq.1 hx with rfl | hx; exact hgl; exact hA3 x hx
  have K6 := K5.own hf6 hgA
  have hA4 : ∀ x ∈ ob A4, w.heap.size ≤ x := fun x hx => by rcases hA4 x hx with h | h; exact hA3 x h; have := K5.size; omega
  rw [qV8 hh2, ← kU] at hW4
  refine jO (jN (jv4 0 3 4 5 ?_))
  refine jS (jR (jm rfl (jm rfl (jm rfl (je (Run.sliceS 0 n rfl ze zad evB.none_ (evB.some_ rfl) jo jo) ?_)))))
  rw [qXs, zcn, zcn]
  have hr6 : Rd w6 1 B rest.length (NB rest) := hr1.frm K6 jp
  have hr7 := oF rest 0 n jo hr6 hcr
  rw [qXs, zcd] at hr7
  have hln : (rest.take n).length = n := by rw [zi]; omega
  refine Ops.cl (jE2 Tryz.call53) (zI g _ n A4 B _ (rest.take n) w6 hln (by simp only [zb, cW, zq, zct]; omega) jo (fun b hb => hB1 b (zag hb)) hW4 hr7) rfl ?_
  rintro e w7 ⟨rfl, A5, hW5, hf7, hA5⟩
  refine ⟨_, rfl, ?_⟩
  have hgA : ∀ x ∈ g :: ob A4, w.heap.size ≤ x := fun x hx => by rcases zcq.1 hx with rfl | hx; exact hgl; exact hA4 x hx
  have K7 := K6.own hf7 hgA
  have hA5 : ∀ x ∈ ob A5, w.heap.size ≤ x := fun x hx => by rcases hA5 x hx with h | h; exact hA4 x h; have := K6.size; omega
  rw [qGp, ← kU] at hW5
  refine jO (jN (jv4 0 3 4 5 ?_))
  refine jR (jm rfl (jm rfl (je (Run.sliceS n _ rfl ze zad (evB.some_ rfl) evB.none_ jo jo) (ja rfl (jO ?_)))))
  refine qK (jN ⟨(cP B c1 n 1, c1 - n, rest.drop n, decide (n < rest.length), A5, pre ++ eC hh (rest.take n)), (js3 (by rw [zp]; rfl) rfl rfl), ?_, ?_⟩)
  ·
   have heq : pre ++ [hh] ++ [n % 256, n / 2 ^ 8 % 256, (65535 - n) % 256, (65535 - n) / 256] ++ rest.take n = pre ++ eC hh (rest.take n) := by
    have e1 : n / 2 ^ 8 % 256 = n / 256 := jo
    have e2 : (65535 - n) % 256 = 255 - n % 256 := jo
    have e3 : (65535 - n) / 256 = 255 - n / 256 := jo
    unfold eC
    rw [hln, e1, e2, e3]
    simp only [zj, zdf, zbo]
   rw [heq] at hW5
   refine ⟨hW5, ?_, by dsimp only; rw [zp]; omega, fun b hb => hB1 b (zbn hb), K7, hA5, fun h => ?_, fun h => ?_, by dsimp only; rw [zp]; omega⟩
   ·
    have h9 := oF rest n (rest.length - n) jo hr1 hcr
    rw [zn (by rw [zp]; omega)] at h9
    exact h9
   ·
    have h9 : n < rest.length := of_decide_eq_true h
    have h8 := hnlt2 h9
    subst h8
    have h7 : hh = 0 := by rw [← hhv, decide_eq_true h9]; rfl
    rw [nM, if_pos h9] at hm1
    rw [h7, zj]
    refine ⟨hm1, ?_⟩
    rw [zb, vP, hln, zp]
    omega
   have h9 : ¬ n < rest.length := of_decide_eq_false h
   have h8 := hnlt h9
   have h7 : hh = 1 := by rw [← hhv, decide_eq_false h9]; rfl
   rw [nM, if_neg jo] at hm1
   rw [h7, zn jo]
   exact hm1
  dsimp only
  rw [zp]
  have hdn : n < rest.length ∨ (decide (n < rest.length)).toNat = 0 := by
   by_cases h : n < rest.length
   · exact .inl h
   exact .inr (by rw [decide_eq_false h]; rfl)
  have hd1 : (decide (n < rest.length)).toNat < 2 := Bool.toNat_lt _
  have hd2 : more.toNat = 1 := by rw [hc1]; rfl
  omega
 refine jX ?_
 refine qZ (qZ (qP ?_))
 refine jN (jv1 3 ?_)
 refine jS (jR (jM ?_))
 refine Ops.cl (jE1 Tryz.call54) (pH g A1 (ofB pre) wr (by rw [cW]; have := hf (by simpa using hc1); rw [this]; have := tV _ bs (zk _); omega) hW) rfl ?_
 rintro e w9 ⟨Bz, dz, rfl, hBz, hfz, huz⟩
 refine ⟨_, rfl, ?_⟩
 refine ja rfl (jO (jN (jv1 2 ?_)))
 refine jT ?_
 refine qC rfl ?_
 have he := hf (by simpa using hc1)
 subst he
 rw [qQ2 _ (vR _ bs (zk _) hB)] at hBz ⊢
 exact ⟨Bz, dz, rfl, hBz, K.trans hfz jp, fun x hx => zo K.size (huz x hx)⟩
end
section
open Go.RowKit
theorem qP8 {w : World} {g : Nat} {t : TypeId} {a b : List Nat} {n : Nat} (h : Blk w g t (SyC a b)) (hn : a.length = n) : Rd w 1 (some ⟨g, 0, none⟩) n (NI a) := by
 subst hn
 refine ⟨by simp [NI], fun _ => ⟨_, rfl, h.lt, fun j u hu => ?_⟩⟩
 rw [kT, h.cell, SyC]
 have hj : j < (NI a).length := (List.getElem?_eq_some_iff.1 hu).1
 rw [zco, zaf hj]
 exact hu
theorem qP9 {w : World} {g : Nat} {t : TypeId} {a b : List Nat} {n m : Nat} (h : Blk w g t (SyC a b)) (hm : a.length = m) (hn : b.length = n) : Rd w 1 (some ⟨g, m, none⟩) n (NI b) := by
 subst hn hm
 refine ⟨by simp [NI], fun _ => ⟨_, rfl, h.lt, fun j u hu => ?_⟩⟩
 have e : ((⟨g, a.length, none⟩ : Addr).add j) = ⟨g, a.length + j, none⟩ := by simp [Addr.add]
 rw [e, h.cell, SyC, zco, zah (by simp [NI]), show a.length + j - (NI a).length = j by simp [NI]]
 exact hu
theorem qRa (Bt : Option Addr) (n ct : Nat) (lt : List Tk) (w : World) (hn : lt.length = n) (hlt : ∀ t ∈ lt, pU t) (hll : n ≤ 1000000) (hot : Own w 132 3 Bt n ct (TC lt)) :
  Calls Tryz.prog 58 #[.slice Bt n ct] w fun e w' => e = .returned (.agg (SyC (cA lt) (eW lt))) ∧ Frm [] w w' := by
 subst hn
 exact qMw Bt ct lt w hlt hll hot
theorem qZj (A : Option Addr) (n c0 : Nat) (cs : List Nat) (m : Nat) (w : World) (hn : cs.length = n) (hl : n ≤ 320) (hb : ∀ x ∈ cs, x ≤ 2147483647) (hm1 : 1 ≤ m) (hm2 : m ≤ 15) (hf : n ≤ 2 ^ m) (hr : Rd w 1 A n (NI cs)) :
  Calls Tryz.prog 60 #[.slice A n c0, .int .i64 ((m : Nat) : Int)] w fun e w' => ∃ B c, e = .returned (.tuple #[.slice B n c, .int .i64 ((0 : Nat) : Int)]) ∧ Own w' 3 1 B n c (NI (dJ cs m)) ∧ Frm [] w w' ∧ (∀ x ∈ ob B, w.heap.size ≤ x) ∧ LenOk cs (dJ cs m) m := by
 subst hn
 exact qP3 A c0 cs m w hl hb hm1 hm2 hf hr
theorem qN6 (A : Option Addr) (n c least : Nat) (l : List Nat) (w : World) (hn : l.length = n) (hl : n ≤ 1000000) (hc : n ≤ c) (hr : Rd w 1 A n (NI l)) :
  Calls Tryz.prog 61 #[.slice A n c, .int .i64 ((least : Nat) : Int)] w fun e w' => (∃ B d, e = .returned (.slice B (cM l least).length d) ∧ Rd w 1 B (cM l least).length (NI (cM l least)) ∧ (cM l least).length ≤ d) ∧ w = w' := by
 subst hn
 exact qY5 A c least l w hl hc hr
theorem qS4 (A : Option Addr) (n c : Nat) (l : List Nat) (w : World) (hn : l.length = n) (hl : n ≤ 100000) (hr : Rd w 1 A n (NI l)) :
  Calls Tryz.prog 62 #[.slice A n c] w fun e w' => ∃ B d, e = .returned (.slice B (dL l 0).length d) ∧ Own w' 113 3 B (dL l 0).length d (SDC (dL l 0)) ∧ Frm [] w w' ∧ ∀ x ∈ ob B, w.heap.size ≤ x := by
 subst hn
 exact qSi A c l w hl hr
theorem qRb (A : Option Addr) (c : Nat) (l : List Nat) (w : World) (hl : l.length = 19) (hr : Rd w 1 A 19 (NI l)) :
  Calls Tryz.prog 63 #[.slice A 19 c] w fun e w' => ∃ B d, e = .returned (.slice B (cU l).length d) ∧ Own w' 3 1 B (cU l).length d (NI (cU l)) ∧ Frm [] w w' ∧ ∀ x ∈ ob B, w.heap.size ≤ x := by
 have h := qMs A c l w hl (by rw [hl]; exact hr)
 rw [hl] at h
 exact h
theorem qRc (A : Option Addr) (n c0 : Nat) (l : List Nat) (w : World) (hn : l.length = n) (h : LOk (toZ l)) (hr : Rd w 1 A n (NI l)) :
  Calls Tryz.prog 66 #[.slice A n c0] w fun e w' => Frm [] w w' ∧ ∃ B c, e = .returned (.tuple #[.slice B n c, .int .i64 ((0 : Nat) : Int)]) ∧ Own w' 179 2 B n c ((eZ (toZ l)).flatMap CB) := by
 subst hn
 have h1 := vV A c0 (toZ l) w h (by rw [bL, ← wL]; exact hr)
 rw [bL] at h1
 exact h1
theorem qRd (n0 g g2 g3 s n v c : Nat) (A B : Option Addr) (l : List Bool) (ls : List Int) (w : World) (hn0 : ls.length = n0) (hg : fC ls) (hk : KC (cn ls) 16 ≤ 32768) (hs : s < n0) (hv : v < 2 ^ n) (hn : n ≤ 32) (hl : l.length ≤ 900000000) (hW : IsW w g A l) (ho : Own w 179 2 B n0 c ((eZ ls).flatMap CB))
  (hb2 : Blk w g2 88 #[.pointer (some ⟨g, 0, none⟩)]) (hb3 : Blk w g3 117 #[.slice B n0 c]) :
  Calls Tryz.prog 99 #[.int .i64 ((s : Nat) : Int), .int .i64 ((n : Nat) : Int), .int .i64 ((v : Nat) : Int), .pointer (some ⟨g2, 0, none⟩), .pointer (some ⟨g3, 0, none⟩)] w fun e w' => e = .returned (.tuple #[]) ∧ WR w w' g A (l ++ bK ls s ++ bitsL v n) := by
 subst hn0
 exact pB g g2 g3 s n v c A B l ls w hg hk hs hv hn hl hW ho hb2 hb3
theorem qNb (g ct c1 c2 na nb nt : Nat) (A Bt La Lb : Option Addr) (l : List Bool) (lt : List Tk) (a b : List Nat) (w : World) (hna : a.length = na) (hnb : b.length = nb) (hnt : lt.length = nt) (ha : LOk (toZ a)) (hb : LOk (toZ b)) (ha2 : 286 ≤ na) (hb2 : 30 ≤ nb) (hlt : ∀ t ∈ lt, pU t) (hll : nt ≤ 1000000) (hl : l.length ≤ 100000000) (hW : IsW w g A l) (hot : Own w 132 3 Bt nt ct (TC lt)) (hra : Rd w 1 La na (NI a)) (hrb : Rd w 1 Lb nb (NI b)) :
  Calls Tryz.prog 57 #[.pointer (some ⟨g, 0, none⟩), .slice Bt nt ct, .slice La na c1, .slice Lb nb c2] w fun e w' => e = .returned (.tuple #[]) ∧ WR w w' g A (l ++ cN (toZ a) (toZ b) lt) := by
 subst hna hnb hnt
 have h := uM g ct c1 c2 A Bt La Lb l lt (toZ a) (toZ b) w ha hb (by rw [bL]; exact ha2) (by rw [bL]; exact hb2) hlt hll hl hW hot (by rw [bL, ← wL]; exact hra) (by rw [bL, ← wL]; exact hrb)
 rw [bL, bL] at h
 exact h
theorem qZk : ∀ (L : List Sd) (s : Nat) (_ : s < L.length), ((SDC L).drop (s * 3)).take 3 = sdC (L.getD s (0, 0, 0))
 | a :: L, 0, _ => rfl
 | a :: L, s + 1, h => by
  have := qZk L s (by simpa using h)
  rw [show SDC (a :: L) = sdC a ++ SDC L from rfl, show (s + 1) * 3 = (sdC a).length + s * 3 by simp [sdC]; omega, zcp, zdz]
  exact this
theorem qKr {L : List Sd} {i : Nat} (h : i < L.length) : L.take (i + 1) = L.take i ++ [L.getD i (0, 0, 0)] := vK h
theorem rW {L : List Nat} {i : Nat} (h : i < L.length) : L.take (i + 1) = L.take i ++ [L.getD i 0] := by
 rw [zaj, za h, zc, za h]
 rfl
theorem qRe (a : List Nat) (i x : Nat) : (NI a).toArray.setIfInBounds i (.int .i64 ((x : Nat) : Int)) = (NI (a.set i x)).toArray := by rw [qX0]; simp
theorem qRf (a : List Nat) (i : Nat) (h : i < a.length) : (NI a).toArray[i]? = some (.int .i64 ((a.getD i 0 : Nat) : Int)) := by rw [zco]; exact jE a i h
theorem xZ (bs : List Nat) (hb : LenOk (cA (bJ bs 0)) (dT bs) 15) (hw : LenOk (eW (bJ bs 0)) (eY bs) 15) :
  (dT bs).length = 286 ∧ (eY bs).length = 30 ∧ 257 ≤ (bV bs).length ∧ (bV bs).length ≤ 286 ∧ 1 ≤ (bO bs).length ∧ (bO bs).length ≤ 30 ∧ (∀ t ∈ bH bs, vN t) ∧ (bH bs).length ≤ 316 := by
 have h1 : (dT bs).length = 286 := hb.len.trans (dW _)
 have h2 : (eY bs).length = 30 := hw.len.trans (eQ _)
 have h3 := mT (dT bs) 257 jo
 have h4 := mT (eY bs) 1 jo
 have h5 := qM8 (bV bs ++ bO bs)
 rw [zb] at h5
 refine ⟨h1, h2, h3.1, by unfold bV; omega, h4.1, by unfold bO; omega, qP4 (uP _ _ _ (mQ _ _ _ hb.most) (mQ _ _ _ hw.most)), ?_⟩
 have e1 : (bV bs).length = (cM (dT bs) 257).length := rfl
 have e2 : (bO bs).length = (cM (eY bs) 1).length := rfl
 unfold bH
 omega
theorem qGs (A : Option Addr) (c : Nat) (bs : List Nat) (w : World) (hl : bs.length ≤ 32768) (hc : bs.length ≤ c) (hB : ∀ b ∈ bs, b < 256) (hr : Rd w 1 A bs.length (NB bs)) :
  Calls Tryz.prog 34 #[.slice A bs.length c] w fun e w' => ∃ B d, e = .returned (.tuple #[.slice B (qL (gS bs)).length d, .int .i64 ((0 : Nat) : Int)]) ∧ Own w' 5 1 B (qL (gS bs)).length d (NB (qL (gS bs))) ∧ Frm [] w w' ∧ ∀ x ∈ ob B, w.heap.size ≤ x := by
 have htl := sC bs
 have hok := oO bs 0 hl hB
 refine VC.calls (nt := 138) (res := #[.tmp 2, .tmp 3]) Tryz.func34 rfl Tryz.ntmps34 Tryz.results34 rfl ?_
 refine jS (jR (ja rfl (jz 0 (jO (jN (jv1 0 ?_))))))
 refine jS (jR (jM ?_))
 refine Ops.cl (jE1 Tryz.call55) (wH A c bs w hl hc hB hr) rfl ?_
 rintro e w1 ⟨Bt, dt, rfl, hot, K, _⟩
 refine ⟨_, rfl, ?_⟩
 have hnt : (bJ bs 0).length = (bJ bs 0).length := rfl
 generalize hntv : (bJ bs 0).length = nt at *
 refine jm rfl (je (Run.extract rfl rfl) (je (Run.extract rfl rfl) (ja rfl (ja rfl (jO (jN (jv2 4 5 ?_)))))))
 refine jS (jS (jR (jm rfl (jb rfl rfl (Bin.neqN _ 0) (jO (jN (jv3 4 5 29 ?_)))))))
 refine VC.condF rfl jd ?_
 refine jQ (jN (jv1 4 ?_))
 refine jS (jR (jM ?_))
 refine Ops.cl (jE1 Tryz.call58) (qRa Bt nt dt (bJ bs 0) w1 hntv hok jo hot) rfl ?_
 rintro e w2 ⟨rfl, hf2⟩
 refine ⟨_, rfl, ?_⟩
 have hot := hot.frm hf2 jp
 have K := K.trans hf2 jp
 refine Ops.m (qJ.alloc qX1) rfl ?_
 rintro _ w3 ⟨rfl, hF3⟩
 have hg6 := K.size
 have hot := hot.frm hF3.frm jp
 have K := K.trans hF3.frm jp
 have hb3 : Blk w3 w2.heap.size 103 (SyC (rep 286) (rep 30)) := hF3.blk
 generalize w2.heap.size = g6 at hb3 hg6 ⊢
 refine Ops.st (qR.storeA rfl rfl (fun w => by rw [eX, dW, eQ]; exact Tryz.sizeOf103 w) hb3 (by rw [eX, eX, dW, eQ]; simp [rep]) (qKh _ _)) ?_
 rintro w4 ⟨hb4, hf4, hs4⟩
 have hot := hot.frm hf4 (fun x hx hx2 => by rw [zh] at hx2; subst hx2; exact hot.ne_blk hb3 jd hx)
 have K := K.own hf4 (by simp; omega)
 refine jO (jN (jv2 4 6 ?_))
 refine jS ?_
 refine VC.held (fun v => Blk v g6 103 (SyC (cA (bJ bs 0)) (eW (bJ bs 0)))) jK ?_
 have hS : (fun v => Blk v g6 103 (SyC (cA (bJ bs 0)) (eW (bJ bs 0)))) w4.drew := hb4.drawn (qQ.drew _)
 have hot := hot.drawn (qQ.drew w4)
 have K := K.drawn (qQ.drew w4)
 refine jH 0 rfl hS (fun w0 hw0 => Run.fieldAddr rfl zdc rfl zgc jd) ?_
 refine qV.take (v := .slice (some ⟨g6, 0, none⟩) 286 286) 1 rfl jK jK jK hS (fun w0 hw0 => Run.sliceA 0 286 rfl zew zd evB.none_ evB.none_ jo jo) trivial rfl rfl ?_
 refine jH 6 rfl hS (fun w0 hw0 => Run.fieldAddr rfl zdc rfl Tryz.sizeOf101 jd) ?_
 refine qV.take (v := .slice (some ⟨g6, 286, none⟩) 30 30) 7 rfl jK jK jK hS (fun w0 hw0 => Run.sliceA 0 30 rfl Tryz.underlying101 zd evB.none_ evB.none_ jo jo) trivial rfl rfl ?_
 refine qV.cl 2 rfl jK (jE2 Tryz.call60) (qZj (some ⟨g6, 0, none⟩) 286 286 (cA (bJ bs 0)) 15 _ (dW _) jo (fun x hx => by have := qKf _ x hx; omega) jo jo jd (qP8 hS (dW _))) trivial rfl rfl ?_
 rintro e w5 ⟨Ba, ca, rfl, hoa, hf5, hna, hlo⟩
 refine ⟨_, rfl, hS.frm hf5 jp, ?_⟩
 have hS := hS.frm hf5 jp
 have hot := hot.frm hf5 jp
 have K := K.trans hf5 jp
 refine jH 3 rfl hS (fun w0 hw0 => Run.extract rfl rfl) ?_
 refine jH 4 rfl hS (fun w0 hw0 => Run.extract rfl rfl) ?_
 refine qV.cl 5 rfl jK (jE2 Tryz.call59) (pD _ _ _) trivial rfl rfl ?_
 rintro e _ ⟨rfl, rfl⟩
 refine ⟨_, rfl, hS, ?_⟩
 refine qV.cl 8 rfl jK (jE2 Tryz.call60) (qZj (some ⟨g6, 286, none⟩) 30 30 (eW (bJ bs 0)) 15 _ (eQ _) jo (fun x hx => by have := qKg _ x hx; omega) jo jo jd (qP9 hS (dW _) (eQ _))) trivial rfl rfl ?_
 rintro e w6 ⟨Bb, cb, rfl, hob, hf6, hnb, hwo⟩
 refine ⟨_, rfl, hS.frm hf6 jp, ?_⟩
 have hS := hS.frm hf6 jp
 have hot := hot.frm hf6 jp
 have hoa := hoa.frm hf6 jp
 have K := K.trans hf6 jp
 have hlo : LenOk (cA (bJ bs 0)) (dT bs) 15 := hlo
 have hwo : LenOk (eW (bJ bs 0)) (eY bs) 15 := hwo
 have hoa : Own w6 3 1 Ba 286 ca (NI (dT bs)) := hoa
 have hob : Own w6 3 1 Bb 30 cb (NI (eY bs)) := hob
 obtain ⟨hL1, hL2, hM1, hM2, hF1, hF2, hLok, hLl⟩ := xZ bs hlo hwo
 refine jH 9 rfl hS (fun w0 hw0 => Run.extract rfl rfl) ?_
 refine jH 10 rfl hS (fun w0 hw0 => Run.extract rfl rfl) ?_
 refine qV.cl 11 rfl jK (jE2 Tryz.call59) (pD _ _ _) trivial rfl rfl ?_
 rintro e _ ⟨rfl, rfl⟩
 refine ⟨_, rfl, hS, ?_⟩
 refine jH 12 rfl hS (fun w0 hw0 => Run.asg rfl) ?_
 refine jH 13 rfl hS (fun w0 hw0 => Run.asg rfl) ?_
 refine qV.done jK ?_
 refine jN (jv3 4 7 8 ?_)
 refine jS (jR (jM ?_))
 refine Ops.cl (jE2 Tryz.call61) (qN6 Ba 286 ca 257 (dT bs) w6 hL1 jo hoa.le hoa.rd) rfl ?_
 rintro e _ ⟨⟨Bm, dm, rfl, hrm, hcm⟩, rfl⟩
 refine ⟨_, rfl, ?_⟩
 have hrm : Rd w6 1 Bm (bV bs).length (NI (bV bs)) := hrm
 have em : (cM (dT bs) 257).length = (bV bs).length := rfl
 rw [em]
 refine jM ?_
 refine Ops.cl (jE2 Tryz.call61) (qN6 Bb 30 cb 1 (eY bs) w6 hL2 jo hob.le hob.rd) rfl ?_
 rintro e _ ⟨⟨Bf, df, rfl, hrf, hcf⟩, rfl⟩
 refine ⟨_, rfl, ?_⟩
 have hrf : Rd w6 1 Bf (bO bs).length (NI (bO bs)) := hrf
 have ef : (cM (eY bs) 1).length = (bO bs).length := rfl
 rw [ef]
 clear hcm hcf
 generalize hvm : (bV bs).length = vm at *
 generalize hvf : (bO bs).length = vf at *
 refine ja rfl (ja rfl (jO (jN (jv5 4 7 8 9 10 ?_))))
 refine jS (jR (jM ?_))
 refine Ops.m (qJ.app rfl rfl zf (fT) rfl jd (Own.nil _ _ _) hrm (gN _) jo jo) rfl ?_
 rintro _ w7 ⟨A7, c7, rfl, ho7, hf7, hob7⟩
 have hf7 : Frm [] w6 w7 := hf7
 rw [zbo] at ho7
 have hrf := hrf.frm hf7 jp
 refine jM ?_
 refine Ops.m (qJ.app rfl rfl zf (fT) rfl jd ho7 hrf (gN _) jo jo) rfl ?_
 rintro _ w8 ⟨A8, c8, rfl, ho8, hf8, hob8⟩
 have hu7 : ∀ x ∈ ob A7, w6.heap.size ≤ x := fun x hx => by
  rcases hob7 with h | h
  · rw [h] at hx; cases hx
  rw [h, zh] at hx; omega
 have hf8 : Frm [] w6 w8 := hf7.own hf8 hu7
 rw [show NI (bV bs) ++ NI (bO bs) = NI (bV bs ++ bO bs) by simp [NI]] at ho8
 refine Ops.cl (jE1 Tryz.call62) (qS4 A8 (0 + vm + vf) c8 (bV bs ++ bO bs) w8 (by rw [zb]; omega) jo ho8.rd) rfl ?_
 rintro e w9 ⟨Bl, dl, rfl, hol, hf9, _⟩
 refine ⟨_, rfl, ?_⟩
 have hf9 := hf8.trans hf9 jp
 have hot := hot.frm hf9 jp
 have hoa := hoa.frm hf9 jp
 have hob := hob.frm hf9 jp
 have K := K.trans hf9 jp
 have hol : Own w9 113 3 Bl (bH bs).length dl (SDC (bH bs)) := hol
 have el : (dL (bV bs ++ bO bs) 0).length = (bH bs).length := rfl
 rw [el]
 clear ho8 ho7 hrm hrf hf8 hf7 hb4 hb3
 refine ja rfl (jO (jN (jv6 4 7 8 9 10 11 ?_)))
 refine jS (jR ?_)
 refine Ops.m (qJ.alloc oS) rfl ?_
 rintro _ w10 ⟨rfl, hF10⟩
 have hb12 : Blk w10 w9.heap.size 111 (NI (dC ((bH bs).take 0))).toArray := hF10.blk
 have hg12 : w9.heap.size ≤ w9.heap.size := zk _
 have K10 : Frm [] w9 w10 := hF10.frm
 generalize hgv : w9.heap.size = g12 at hb12 hg12 ⊢
 have hgl : w9.heap.size ≤ g12 := jo
 refine jO (jN (jS (jS (jR (jm rfl (je (Run.lenS rfl zch) ?_))))))
 refine jx .i64 0 ?_
 refine jO (jN (jB ?_))
 refine VC.loop (σ := Nat) (fun s => [(4, _), (7, _), (8, _), (9, _), (10, _), (11, _), (12, _), (54, .slice Bl (bH bs).length dl), (55, .int .i64 (((bH bs).length : Nat) : Int)), (56, .int .i64 ((s : Nat) : Int))]) (fun s wr => s ≤ (bH bs).length ∧ Blk wr g12 111 (NI (dC ((bH bs).take s))).toArray ∧ Frm [] w9 wr) (fun s => (bH bs).length - s) 0 (js10 rfl rfl rfl rfl rfl rfl rfl rfl rfl rfl) ⟨zas _, hb12, K10⟩ ?_
 rintro i wr ⟨hi, hb12, K10⟩
 refine jS (jR (jb rfl rfl (Bin.lssN _ _) (jO (jN (jS ?_)))))
 refine jD rfl (fun hc2 => ?_) fun hc2 => ?_
 ·
  have hol1 := hol.frm K10 jp
  obtain ⟨ad, rfl, hel⟩ := hol1.rd.elem hc2
  rw [qZk (bH bs) i hc2] at hel
  have hsn := qKr hc2
  have hqok := hLok ((bH bs).getD i (0, 0, 0)) (by rw [zc, za hc2]; exact zw hc2)
  generalize (bH bs).getD i (0, 0, 0) = q at hel hsn hqok
  have hq19 := hqok.1
  have hts := qJk ((bH bs).take i) q
  rw [← hsn] at hts
  have htl1 := fA ((bH bs).take i)
  have hle1 := zD ((bH bs).take i)
  rw [zi, zbb hi] at hle1
  generalize dC ((bH bs).take i) = ct at *
  have hv1 := tI hle1 q.1
  refine jQ (jN (jv10 4 7 8 9 10 11 12 54 55 56 ?_))
  refine jS (jB (jS (jR (je (Run.indexS _ rfl rfl zch zdw jo) (je (Run.loadA rfl Tryz.isAgg113 zdw hel (by first | rfl | (simp; done))) ?_)))))
  refine Ops.m (qJ.alloc gZ) rfl ?_
  rintro _ w11 ⟨rfl, hF11⟩
  refine Ops.st (qR.storeA rfl rfl zdw hF11.blk rfl (by intro v hv; exact SDC_one [q] v (by simpa [SDC] using hv))) ?_
  rintro w12 ⟨hb14, hf12, hs12⟩
  have hf12 : Frm [] wr w12 := hF11.frm.own hf12 jp
  have hb12 := hb12.frm hf12 jp
  have K10 := K10.trans hf12 jp
  refine jO (jN (jv11 4 7 8 9 10 11 12 14 54 55 56 ?_))
  refine jR (jf rfl zfn rfl zd (jl rfl zg (hb14.cell 0) (je (Run.indexA1 _ rfl rfl zej zd jo) (jl rfl zg ((hb12.cell _).trans (by rw [zan]; exact qRf _ _ jo)) (jb rfl rfl (Bin.add_i64 _ 1 jo) (je (Run.indexA1 _ rfl rfl zej zd jo) ?_))))))
  refine Ops.st (qR.store rfl rfl zd hb12 (by rw [zed]; simp [NI]; omega) rfl) ?_
  rintro w13 ⟨hb13, hf13, hs13⟩
  rw [zan, qRe] at hb13
  unfold timeStep at hts
  rw [← hts] at hb13
  refine jO ?_
  refine qK (jN ?_)
  refine jv10 4 7 8 9 10 11 12 54 55 56 ?_
  refine jR (jb rfl rfl (Bin.add_i64 _ 1 jo) (jm rfl (jO ?_)))
  refine jN ⟨i + 1, (js10 rfl rfl rfl rfl rfl rfl rfl rfl rfl rfl), ?_, ?_⟩
  · exact ⟨hc2, hb13, K10.own hf13 (by simp; omega)⟩
  first | omega | (dsimp only; omega)
 refine jX ?_
 refine qZ (qZ (qP ?_))
 refine jN (jv7 4 7 8 9 10 11 12 ?_)
 refine jS (jR ?_)
 have ei : i = (bH bs).length := jo
 subst ei
 rw [zbl] at hb12
 refine Ops.r (v := .slice (some ⟨g12, 0, none⟩) 19 19) (Run.sliceA 0 19 rfl zej zd evB.none_ evB.none_ jo jo) rfl ?_
 refine Ops.cl (jE2 Tryz.call60) (qZj (some ⟨g12, 0, none⟩) 19 19 (dC (bH bs)) 7 wr (fA _) jo (fun x hx => by have := zD _ x hx; omega) jo jo jd (Rd.of_blk (n := 19) (size := 1) hb12 (by simp [NI, fA]))) rfl ?_
 rintro e w14 ⟨B3, c3, rfl, ho3, hf14, _, h3o⟩
 refine ⟨_, rfl, ?_⟩
 have K10 := K10.trans hf14 jp
 have ho3 : Own w14 3 1 B3 19 c3 (NI (bD bs)) := ho3
 have h3o : LenOk (dC (bH bs)) (bD bs) 7 := h3o
 have h3l : (bD bs).length = 19 := h3o.len.trans (fA _)
 refine je (Run.extract rfl rfl) (je (Run.extract rfl rfl) ?_)
 refine Ops.cl (jE2 Tryz.call59) (pD _ _ _) rfl ?_
 rintro e _ ⟨rfl, rfl⟩
 refine ⟨_, rfl, ?_⟩
 refine ja rfl (jO (jN (jv7 4 7 8 9 10 11 15 ?_)))
 refine jS (jR (jM ?_))
 refine Ops.cl (jE1 Tryz.call63) (qRb B3 c3 (bD bs) w14 h3l ho3.rd) rfl ?_
 rintro e w15 ⟨Bo, co, rfl, hoo, hf15, _⟩
 refine ⟨_, rfl, ?_⟩
 have K10 := K10.trans hf15 jp
 have ho3 := ho3.frm hf15 jp
 refine Ops.cl (jE2 Tryz.call61) (qY5 Bo co 4 (cU (bD bs)) w15 (by rw [lP]; omega) hoo.le hoo.rd) rfl ?_
 rintro e _ ⟨⟨Bw, dw, rfl, hrw, hcw⟩, rfl⟩
 refine ⟨_, rfl, ?_⟩
 have hrw : Rd w15 1 Bw (bP bs).length (NI (bP bs)) := hrw
 have ew : (cM (cU (bD bs)) 4).length = (bP bs).length := rfl
 rw [ew]
 have hwb : 4 ≤ (bP bs).length ∧ (bP bs).length ≤ 19 := by
  have := mT (cU (bD bs)) 4 (by rw [lP]; omega)
  rw [lP] at this
  exact this
 have hw7 : ∀ i, (bP bs).getD i 0 ≤ 7 := mQ _ _ _ (qGl _ _ h3o.most)
 generalize hvw : (bP bs).length = vw at *
 have hot := hot.frm K10 jp
 have hoa := hoa.frm K10 jp
 have hob := hob.frm K10 jp
 have hol := hol.frm K10 jp
 have K := K.trans K10 jp
 clear hoo hcw
 refine ja rfl (jO (jN (jv8 4 7 8 9 10 11 15 16 ?_)))
 refine jS (jR ?_)
 refine Ops.cl (jE0 Tryz.call50) (uA _) rfl ?_
 rintro e w16 ⟨rfl, hW, hf16, _⟩
 refine ⟨_, rfl, ?_⟩
 have K11 := hf16
 obtain ⟨g, hgl, hgv⟩ : ∃ g, w15.heap.size ≤ g ∧ g = w15.heap.size := ⟨_, zk _, rfl⟩
 rw [← hgv] at hW
 rw [← hgv]
 have hA0 : ∀ x ∈ ob (none : Option Addr), w15.heap.size ≤ x := by simp [ob]
 refine ja rfl (jO (jN (jv9 4 7 8 9 10 11 15 16 17 ?_)))
 refine jS (jR (jM ?_))
 refine Ops.cl (jE3 zea) (gQ g 1 1 none _ w16 jd jo (by simp [qH]) hW) rfl ?_
 rintro e w17 ⟨rfl, A1, hW1, hfp, hAp⟩
 refine ⟨_, rfl, ?_⟩
 have K11n := K11.own hfp (fun x hx => by rcases zcq.1 hx with rfl | hx; exact hgl; exact hA0 x hx)
 have hA0 : ∀ x ∈ ob A1, w15.heap.size ≤ x := fun x hx => by rcases hAp x hx with h | h; exact hA0 x h; have := K11.size; omega
 have K11 := K11n
 clear K11n hfp hAp
 refine jO (jN (jv9 4 7 8 9 10 11 15 16 17 ?_))
 refine jS (jR (jM ?_))
 refine Ops.cl (jE3 zea) (gQ g 2 2 A1 _ w17 jd jo (by simp [qH]) hW1) rfl ?_
 rintro e w18 ⟨rfl, A2, hW2, hfp, hAp⟩
 refine ⟨_, rfl, ?_⟩
 have K11n := K11.own hfp (fun x hx => by rcases zcq.1 hx with rfl | hx; exact hgl; exact hA0 x hx)
 have hA0 : ∀ x ∈ ob A2, w15.heap.size ≤ x := fun x hx => by rcases hAp x hx with h | h; exact hA0 x h; have := K11.size; omega
 have K11 := K11n
 clear K11n hfp hAp
 refine jO (jN (jv9 4 7 8 9 10 11 15 16 17 ?_))
 refine jS (jR (jm rfl (jm rfl (je (Run.lenS rfl zf) (jb rfl rfl (Bin.sub_i64 _ 257 jo jo) (je (Run.convN _ rfl zx zab (by simp only [bmax]; omega)) ?_))))))
 refine Ops.cl (jE3 zea) (gQ g (vm - 257) 5 A2 _ w18 jo jo (by simp [qH]) hW2) rfl ?_
 rintro e w19 ⟨rfl, A3, hW3, hfp, hAp⟩
 refine ⟨_, rfl, ?_⟩
 have K11n := K11.own hfp (fun x hx => by rcases zcq.1 hx with rfl | hx; exact hgl; exact hA0 x hx)
 have hA0 : ∀ x ∈ ob A3, w15.heap.size ≤ x := fun x hx => by rcases hAp x hx with h | h; exact hA0 x h; have := K11.size; omega
 have K11 := K11n
 clear K11n hfp hAp
 refine jO (jN (jv8 4 7 8 10 11 15 16 17 ?_))
 refine jS (jR (jm rfl (jm rfl (je (Run.lenS rfl zf) (jb rfl rfl (Bin.sub_i64 _ 1 jo jo) (je (Run.convN _ rfl zx zab (by simp only [bmax]; omega)) ?_))))))
 refine Ops.cl (jE3 zea) (gQ g (vf - 1) 5 A3 _ w19 jo jo (by simp [qH]) hW3) rfl ?_
 rintro e w20 ⟨rfl, A4, hW4, hfp, hAp⟩
 refine ⟨_, rfl, ?_⟩
 have K11n := K11.own hfp (fun x hx => by rcases zcq.1 hx with rfl | hx; exact hgl; exact hA0 x hx)
 have hA0 : ∀ x ∈ ob A4, w15.heap.size ≤ x := fun x hx => by rcases hAp x hx with h | h; exact hA0 x h; have := K11.size; omega
 have K11 := K11n
 clear K11n hfp hAp
 refine jO (jN (jv7 4 7 8 11 15 16 17 ?_))
 refine jS (jR (jm rfl (jm rfl (je (Run.lenS rfl zf) (jb rfl rfl (Bin.sub_i64 _ 4 jo jo) (je (Run.convN _ rfl zx zab (by simp only [bmax]; omega)) ?_))))))
 refine Ops.cl (jE3 zea) (gQ g (vw - 4) 4 A4 _ w20 jo jo (by simp [qH]) hW4) rfl ?_
 rintro e w21 ⟨rfl, A5, hW5, hfp, hAp⟩
 refine ⟨_, rfl, ?_⟩
 have K11n := K11.own hfp (fun x hx => by rcases zcq.1 hx with rfl | hx; exact hgl; exact hA0 x hx)
 have hA0 : ∀ x ∈ ob A5, w15.heap.size ≤ x := fun x hx => by rcases hAp x hx with h | h; exact hA0 x h; have := K11.size; omega
 have K11 := K11n
 clear K11n hfp hAp
 refine jO (jN (jv7 4 7 8 11 15 16 17 ?_))
 refine jS (jS (jR (jm rfl (je (Run.lenS rfl zf) ?_))))
 refine jx .i64 0 ?_
 refine jO (jN (jv9 4 7 8 11 15 17 98 99 100 ?_))
 refine jB ?_
 obtain ⟨PRE, hPRE⟩ : ∃ P, P = (([] : List Bool) ++ bitsL 1 1 ++ bitsL 2 2 ++ bitsL (vm - 257) 5 ++ bitsL (vf - 1) 5 ++ bitsL (vw - 4) 4) := ⟨_, rfl⟩
 rw [← hPRE] at hW5
 have hPl : PRE.length = 17 := by rw [hPRE]; simp [qH]
 refine VC.loop (σ := Nat × Option Addr) (fun s => [(4, _), (7, _), (8, _), (11, _), (15, _), (17, .pointer (some ⟨g, 0, none⟩)), (98, .slice Bw vw dw), (99, .int .i64 ((vw : Nat) : Int)), (100, .int .i64 ((s.1 : Nat) : Int))]) (fun s wr => s.1 ≤ vw ∧ IsW wr g s.2 (PRE ++ ((bP bs).take s.1).flatMap (fun n => bitsL n 3)) ∧ Frm [] w15 wr ∧ ∀ x ∈ ob s.2, w15.heap.size ≤ x) (fun s => vw - s.1) (0, A5) (js9 rfl rfl rfl rfl rfl rfl rfl rfl rfl) ⟨zas _, by simpa using hW5, K11, hA0⟩ ?_
 rintro ⟨i, A6⟩ wr ⟨hi, hW6, K11, hA0⟩
 dsimp only at hi hW6 hA0 ⊢
 have hfl := mU ((bP bs).take i)
 have hti := List.length_take_le i (bP bs)
 refine jS (jR (jb rfl rfl (Bin.lssN _ _) (jO (jN (jS ?_)))))
 refine jD rfl (fun hc3 => ?_) fun hc3 => ?_
 ·
  obtain ⟨ad, rfl, _, hadc⟩ := (hrw.frm K11 jp).2 jo
  have hcell := hadc i _ (jE (bP bs) i jo)
  have hsn := rW (jo : i < (bP bs).length)
  have hq7 := hw7 i
  generalize (bP bs).getD i 0 = q at hcell hsn hq7
  refine jQ (jN (jv9 4 7 8 11 15 17 98 99 100 ?_))
  refine jS (jB (jS (jR (je (Run.index1 _ rfl rfl zf zd jo) (jl rfl zg hcell (ja rfl (jO (jN (jv10 4 7 8 11 15 17 19 98 99 100 ?_)))))))))
  refine jR (jm rfl (jm rfl (je (Run.convN _ rfl zx zab (by simp only [bmax]; omega)) ?_)))
  refine Ops.cl (jE3 zea) (gQ g q 3 A6 _ wr jo jo (by rw [zb]; omega) hW6) rfl ?_
  rintro e w22 ⟨rfl, A7, hW7, hfp, hAp⟩
  refine ⟨_, rfl, ?_⟩
  have K11n := K11.own hfp (fun x hx => by rcases zcq.1 hx with rfl | hx; exact hgl; exact hA0 x hx)
  have hA0 : ∀ x ∈ ob A7, w15.heap.size ≤ x := fun x hx => by rcases hAp x hx with h | h; exact hA0 x h; have := K11.size; omega
  refine jO ?_
  refine qK (jN ?_)
  refine jv9 4 7 8 11 15 17 98 99 100 ?_
  refine jR (jb rfl rfl (Bin.add_i64 _ 1 jo) (jm rfl (jO ?_)))
  refine jN ⟨(i + 1, A7), (js9 rfl rfl rfl rfl rfl rfl rfl rfl rfl), ?_, ?_⟩
  · exact ⟨hc3, by rw [hsn, zaa, zdq, ← zj]; exact hW7, K11n, hA0⟩
  first | omega | (dsimp only; omega)
 refine jX ?_
 refine qZ (qZ (qP ?_))
 refine jN (jv6 4 7 8 11 15 17 ?_)
 refine jS (jR (jm rfl (jM ?_)))
 refine Ops.cl (jE1 Tryz.call66) (qRc B3 19 c3 (bD bs) wr h3l h3o.ok (ho3.frm K11 jp).rd) rfl ?_
 rintro e w23 ⟨hf23, Bc, cc, rfl, hoc⟩
 refine ⟨_, rfl, ?_⟩
 have hW6 := hW6.new hf23
 have K11 := K11.trans hf23 jp
 refine je (Run.extract rfl rfl) (je (Run.extract rfl rfl) ?_)
 refine Ops.cl (jE2 Tryz.call65) (pE _ _ _) rfl ?_
 rintro e _ ⟨rfl, rfl⟩
 refine ⟨_, rfl, ?_⟩
 refine Ops.cl (jE2 Tryz.call64) (sT (.pointer (some ⟨g, 0, none⟩)) (.slice Bc 19 cc) rfl rfl _) rfl ?_
 rintro e w24 ⟨g2, g3, rfl, hg2, hg3, hf24⟩
 refine ⟨_, rfl, ?_⟩
 have hW6 := hW6.new hf24
 have hoc := hoc.frm hf24 jp
 have K11 := K11.trans hf24 jp
 have ei : i = vw := jo
 subst ei
 rw [← hvw, zbl] at hW6
 refine ja rfl (jO (jN (jv6 4 7 8 11 17 20 ?_)))
 refine jS (jS (jR (jm rfl (je (Run.lenS rfl zch) ?_))))
 refine jx .i64 0 ?_
 refine jO (jN (jv8 4 7 8 17 20 116 117 118 ?_))
 refine jB ?_
 refine VC.loop (σ := Nat × Option Addr) (fun s => [(4, _), (7, _), (8, _), (17, .pointer (some ⟨g, 0, none⟩)), (20, .func (.func 99) #[] #[.pointer (some ⟨g2, 0, none⟩), .pointer (some ⟨g3, 0, none⟩)]), (116, .slice Bl (bH bs).length dl), (117, .int .i64 (((bH bs).length : Nat) : Int)), (118, .int .i64 ((s.1 : Nat) : Int))]) (fun s wr => s.1 ≤ (bH bs).length ∧ IsW wr g s.2 (PRE ++ (bP bs).flatMap (fun n => bitsL n 3) ++ ((bH bs).take s.1).flatMap (dR (toZ (bD bs)))) ∧ Frm [] w15 wr ∧ (∀ x ∈ ob s.2, w15.heap.size ≤ x) ∧ Blk wr g2 88 #[.pointer (some ⟨g, 0, none⟩)] ∧ Blk wr g3 117 #[.slice Bc 19 cc] ∧ Own wr 179 2 Bc 19 cc ((eZ (toZ (bD bs))).flatMap CB)) (fun s => (bH bs).length - s.1) (0, A6) (js8 rfl rfl rfl rfl rfl rfl rfl rfl) ⟨zas _, by simpa using hW6, K11, hA0, hg2, hg3, hoc⟩ ?_
 rintro ⟨i, A8⟩ wr ⟨hi, hW8, K11, hA0, hg2, hg3, hoc⟩
 dsimp only at hi hW8 hA0 ⊢
 have hfl2 := qZg h3o.ok (by rw [bL, h3l]; omega) ((bH bs).take i) (fun t ht => hLok t (zag ht))
 have hti2 : ((bH bs).take i).length = i := by rw [zi, zbb hi]
 have hfl3 := mU (bP bs)
 have hbl : (PRE ++ (bP bs).flatMap (fun n => bitsL n 3) ++ ((bH bs).take i).flatMap (dR (toZ (bD bs)))).length ≤ 100000 := by
  rw [zb, zb, hPl, hfl3, hvw]
  omega
 refine jS (jR (jb rfl rfl (Bin.lssN _ _) (jO (jN (jS ?_)))))
 refine jD rfl (fun hc4 => ?_) fun hc4 => ?_
 ·
  have hol1 := hol.frm K11 jp
  obtain ⟨ad, rfl, hel⟩ := hol1.rd.elem hc4
  rw [qZk (bH bs) i hc4] at hel
  have hsn := qKr hc4
  have hqok := hLok ((bH bs).getD i (0, 0, 0)) (by rw [zc, za hc4]; exact zw hc4)
  generalize (bH bs).getD i (0, 0, 0) = q at hel hsn hqok
  refine jQ (jN (jv8 4 7 8 17 20 116 117 118 ?_))
  refine jS (jB (jS (jR (je (Run.indexS _ rfl rfl zch zdw jo) (je (Run.loadA rfl Tryz.isAgg113 zdw hel (by first | rfl | (simp; done))) ?_)))))
  refine Ops.m (qJ.alloc gZ) rfl ?_
  rintro _ w25 ⟨rfl, hF25⟩
  refine Ops.st (qR.storeA rfl rfl zdw hF25.blk rfl (by intro v hv; exact SDC_one [q] v (by simpa [SDC] using hv))) ?_
  rintro w26 ⟨hb22, hf26, hs26⟩
  have hf26 : Frm [] wr w26 := hF25.frm.own hf26 jp
  have hW8 := hW8.new hf26
  have hg2 := hg2.frm hf26 jp
  have hg3 := hg3.frm hf26 jp
  have hoc := hoc.frm hf26 jp
  have K11 := K11.trans hf26 jp
  refine jO (jN (jv9 4 7 8 17 20 22 116 117 118 ?_))
  refine jR (jm rfl (jf rfl zfn rfl zd (jl rfl zg (hb22.cell 0) (jf rfl zfn rfl zd (jl rfl zg (hb22.cell 1) (jf rfl zfn rfl zd (jl rfl zg (hb22.cell 2) ?_)))))))
  refine Ops.cl (bW.dyn rfl (evs.cons rfl (evs.cons rfl (evs.cons rfl evs.nil))) Tryz.call99) (qRd 19 g g2 g3 q.1 q.2.1 q.2.2 cc A8 Bc _ (toZ (bD bs)) w26 (by rw [bL, h3l]) h3o.ok.1 h3o.ok.2 hqok.1 hqok.2.2 (by have := hqok.2.1; omega) jo hW8 hoc hg2 hg3) rfl ?_
  rintro e w27 ⟨rfl, A9, hW9, hf27, hA9⟩
  refine ⟨_, rfl, ?_⟩
  have hg2 := hW8.keepB hf27 hg2 jd jd
  have hg3 := hW8.keepB hf27 hg3 jd jd
  have hoc := hW8.keepO hf27 hoc jd jd
  have hA0n : ∀ x ∈ ob A9, w15.heap.size ≤ x := fun x hx => by rcases hA9 x hx with h | h; exact hA0 x h; have := K11.size; omega
  have K11 := K11.own hf27 (fun x hx => by rcases zcq.1 hx with rfl | hx; exact hgl; exact hA0 x hx)
  refine jO ?_
  refine qK (jN ?_)
  refine jv8 4 7 8 17 20 116 117 118 ?_
  refine jR (jb rfl rfl (Bin.add_i64 _ 1 jo) (jm rfl (jO ?_)))
  refine jN ⟨(i + 1, A9), (js8 rfl rfl rfl rfl rfl rfl rfl rfl), ?_, ?_⟩
  · exact ⟨hc4, by rw [hsn, zaa, zdq]; unfold dR at hW9 ⊢; simpa [zj] using hW9, K11, hA0n, hg2, hg3, hoc⟩
  first | omega | (dsimp only; omega)
 refine jX ?_
 refine qZ (qZ (qP ?_))
 refine jN (jv4 4 7 8 17 ?_)
 refine jS (jR (jm rfl (jm rfl (jm rfl (jM ?_)))))
 refine Ops.cl (jE4 Tryz.call57) (qNb g dt ca cb 286 30 nt A8 Bt Ba Bb _ (bJ bs 0) (dT bs) (eY bs) wr hL1 hL2 hntv hlo.ok hwo.ok jo jo hok jo jo hW8 (hot.frm K11 jp) (hoa.frm K11 jp).rd (hob.frm K11 jp).rd) rfl ?_
 rintro e w28 ⟨rfl, A9, hW9, hf28, hA9⟩
 refine ⟨_, rfl, ?_⟩
 have K11 := K11.own hf28 (fun x hx => by rcases zcq.1 hx with rfl | hx; exact hgl; exact hA0 x hx)
 have ei : i = (bH bs).length := jo
 subst ei
 have hfin : PRE ++ (bP bs).flatMap (fun n => bitsL n 3) ++ ((bH bs).take (bH bs).length).flatMap (dR (toZ (bD bs))) ++ cN (toZ (dT bs)) (toZ (eY bs)) (bJ bs 0) = gS bs := by
  rw [zbl, hPRE]
  unfold gS
  rw [hvm, hvf, hvw, zbo]
 rw [hfin] at hW9
 refine jO (jN (jv1 17 ?_))
 refine jS (jR (jM ?_))
 refine Ops.cl (jE1 Tryz.call54) (pH g A9 (gS bs) w28 (by have h1 := nA hlo.ok hwo.ok (by rw [bL]; omega) (by rw [bL]; omega) _ hok; have h3 := fH hlo.ok.1 hlo.ok.2 (show 256 < (toZ (dT bs)).length by rw [bL]; omega); rw [← hfin]; unfold cN; simp only [zb] at hbl ⊢; omega) hW9) rfl ?_
 rintro e w29 ⟨B, d, rfl, hB7, hf29, hu7⟩
 refine ⟨_, rfl, ?_⟩
 refine ja rfl (jz 0 (jO (jN (jv2 2 3 ?_))))
 refine jT ?_
 refine cG rfl rfl ?_
 exact ⟨B, d, rfl, hB7, (K.trans K11 jp).trans hf29 jp, fun x hx => by have := hu7 x hx; have := K.size; have := K11.size; omega⟩
end
end Go.Proofs.YtndjgmbfkkgpdaaGreat
