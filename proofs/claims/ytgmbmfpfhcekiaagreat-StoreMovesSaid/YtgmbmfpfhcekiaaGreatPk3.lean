/-
  Lemmas on the way, joined: BoxK, StoY, StoZ, FlagA, BoxF, BoxX, BoxZ, StoZb, BoxL0, StoQ0, StoZg, StoZi, StoZk, StoZm, StoZn, StoZo, StoZp, StoZq, StoZr, Srt0, SrtA, SrtB.
-/
import Derived.Sort.AssemblyPlain
import Derived.Test.YtgmbmfpfhcekiaaGreatPk2
set_option maxRecDepth 100000
set_option linter.unusedVariables false
set_option linter.unusedSimpArgs false
namespace Go.Proofs.YtgmbmfpfhcekiaaGreat
section
open Go.RowKit Go.Sort
theorem mC (v n v2 n2 : Int) (A B : Option Addr) (c d : Nat) (l l2 : List Mc) (w : World) (hl : RdM w A l) (hl2 : RdM w B l2) (hn : l.length ≤ 1000000) (hn2 : l2.length ≤ 1000000) :
  Calls Tryz.prog 22 #[.agg #[.int .i64 v, .int .i64 n, .slice A l.length c], .agg #[.int .i64 v2, .int .i64 n2, .slice B l2.length d]] w fun e w' => e = .returned (.bool (decide (v = v2 ∧ n = n2 ∧ Ms l = Ms l2))) ∧ Frm [] w w' := by
 refine VC.calls (nt := 80) (res := #[.tmp 4]) Tryz.func22 rfl Tryz.ntmps22 Tryz.results22 rfl ?_
 refine jS (jR ?_)
 refine Ops.m (qH.box rfl) rfl ?_
 rintro _ w1 ⟨rfl, hF2⟩
 have hb2 := hF2.blk
 have hf2 := hF2.frm
 have hs2 : w.heap.size ≤ w.heap.size := zv _
 generalize hg2 : w.heap.size = g2 at hb2 ⊢
 refine Ops.m (qH.box rfl) rfl ?_
 rintro _ w2 ⟨rfl, hF3⟩
 have hb3 := hF3.blk
 have hb2 := hb2.frm hF3.frm jp
 have hf3 := hf2.trans hF3.frm jp
 have hs3 : w.heap.size ≤ w1.heap.size := hf2.size
 generalize hg3 : w1.heap.size = g3 at hb3 hs3 ⊢
 refine ja rfl (jO (jN (jv2 2 3 ?_)))
 refine jS (jS ?_)
 refine VC.split1 [(2, _), (3, _)] (js2 rfl rfl) 28 (.bool (decide (v ≠ v2 ∨ n ≠ n2 ∨ l.length ≠ l2.length))) ?_ ?_
 ·
  refine jR (jf rfl zw rfl zq (jl rfl zy (hb2.cell 0) (jf rfl zw rfl zq (jl rfl zy (hb3.cell 0) (jb rfl rfl (Bin.neq _ _) ?_)))))
  by_cases hs12 : v ≠ v2
  ·
   refine jM ?_
   refine jU ?_
   refine jU ?_
   refine jU ?_
   refine jU ?_
   refine jU ?_
   refine je (Run.pickT rfl rfl au) (jM ?_)
   refine jU ?_
   refine jU ?_
   refine jU ?_
   refine jU ?_
   refine jU ?_
   refine jU ?_
   refine jU ?_
   refine je (Run.pickT rfl rfl au) (jO ?_)
   refine jN ⟨(js3 (jC (Eq.symm (by simp [*]))) rfl rfl), rfl⟩
  refine jM ?_
  refine jk (Run.fieldAddr rfl zw rfl zq jd) ?_
  refine jk (Run.load rfl zy (hb2.cell 1)) ?_
  refine jk (Run.fieldAddr rfl zw rfl zq jd) ?_
  refine jk (Run.load rfl zy (hb3.cell 1)) ?_
  refine jk (Run.bin rfl rfl (Bin.neq _ _)) ?_
  by_cases hs18 : n ≠ n2
  ·
   refine je (Run.pickF rfl rfl au) (jM ?_)
   refine jU ?_
   refine jU ?_
   refine jU ?_
   refine jU ?_
   refine jU ?_
   refine jU ?_
   refine jU ?_
   refine je (Run.pickT rfl rfl au) (jO ?_)
   refine jN ⟨(js3 (jC (Eq.symm (by simp [*]))) rfl rfl), rfl⟩
  refine je (Run.pickF rfl rfl au) (jM ?_)
  refine jk (Run.fieldAddr rfl zw rfl zap jd) ?_
  refine jk (Run.load rfl zbd (hb2.cell 2)) ?_
  refine jk (Run.lenS rfl zaf) ?_
  refine jk (Run.fieldAddr rfl zw rfl zap jd) ?_
  refine jk (Run.load rfl zbd (hb3.cell 2)) ?_
  refine jk (Run.lenS rfl zaf) ?_
  refine jk (Run.bin rfl rfl (Bin.neqN _ _)) ?_
  by_cases hs27 : l.length ≠ l2.length
  ·
   refine je (Run.pickF rfl rfl au) (jO ?_)
   refine jN ⟨(js3 (jC (Eq.symm (by simp [*]))) rfl rfl), rfl⟩
  refine je (Run.pickF rfl rfl au) (jO ?_)
  refine jN ⟨(js3 (jC (Eq.symm (by simp [*]))) rfl rfl), rfl⟩
 intro Γ hΓ
 refine jN (VC.sub _ hΓ ?_)
 refine jD rfl (fun hc1 => ?_) fun hc1 => ?_
 ·
  refine jS (jR (ja rfl (jO (jN (jv1 4 ?_)))))
  refine jT ?_
  refine qZ (qF rfl ?_)
  refine ⟨?_, hf3⟩
  rw [decide_eq_false]
  rintro ⟨h1, h2, h3⟩
  have h4 := congrArg List.length h3
  simp only [Ms, zaj] at h4
  rcases hc1 with h | h | h
  · exact h h1
  · exact h h2
  exact h h4
 obtain ⟨hvv, hnn, hll⟩ : v = v2 ∧ n = n2 ∧ l.length = l2.length := jo
 refine jQ (jN (jv2 2 3 ?_))
 refine jS (jS (jR (jz 0 (jO (jN (jB ?_))))))
 refine VC.loop (σ := Nat) (fun s => [(2, .pointer (some ⟨g2, 0, none⟩)), (3, .pointer (some ⟨g3, 0, none⟩)), (5, .int .i64 ((s : Nat) : Int))]) (fun s wr => s ≤ l.length ∧ Frm [] w wr ∧ Blk wr g2 43 #[.int .i64 v, .int .i64 n, .slice A l.length c] ∧ Blk wr g3 43 #[.int .i64 v2, .int .i64 n2, .slice B l2.length d] ∧ Ms (l.take s) = Ms (l2.take s)) (fun s => l.length - s) 0 (js3 rfl rfl rfl) ⟨jo, hf3, hb2, hb3, jp⟩ ?_
 rintro i wr ⟨hi, hfr, hb2, hb3, hsm⟩
 refine jS (jS (jR (jm rfl (jf rfl zw rfl zap (jl rfl zbd (hb2.cell 2) (je (Run.lenS rfl zaf) (jb rfl rfl (Bin.lssN _ _) (jO (jN (jv4 2 3 5 33 ?_))))))))))
 refine jD rfl (fun hc2 => ?_) fun hc2 => ?_
 ·
  obtain ⟨ad, hAe, hcell⟩ : ∃ ad, A = some ad ∧ ∀ W, Frm [] w W → ∀ j v, (l[i]).cells[j]? = some v → W.cell? ((ad.add (i * 6)).add j) = some v := by
   obtain ⟨ad, hA, _⟩ := hl.elem hc2
   refine ⟨ad, hA, fun W hW => ?_⟩
   obtain ⟨ad', hA', h⟩ := (hl.frm hW).elem hc2
   rw [hA] at hA'
   injection hA' with hA'
   subst hA'
   exact h
  have hc2' : i < l2.length := jo
  obtain ⟨ad2, hBe, hcell2⟩ : ∃ ad, B = some ad ∧ ∀ W, Frm [] w W → ∀ j v, (l2[i]).cells[j]? = some v → W.cell? ((ad.add (i * 6)).add j) = some v := by
   obtain ⟨ad, hA, _⟩ := hl2.elem hc2'
   refine ⟨ad, hA, fun W hW => ?_⟩
   obtain ⟨ad', hA', h⟩ := (hl2.frm hW).elem hc2'
   rw [hA] at hA'
   injection hA' with hA'
   subst hA'
   exact h
  subst hAe hBe
  have hxa := (hl.frm hfr).fl (l[i]) (zm hc2)
  have hya := (hl2.frm hfr).fl (l2[i]) (zm hc2')
  have hms := oP hc2
  have hms2 := oP hc2'
  generalize hx : l[i] = x at *
  generalize hy : l2[i] = y at *
  have hme := qZm x.m y.m
  refine jQ (jN (jv3 2 3 5 ?_))
  refine jS (jB (jS ?_))
  refine VC.meet (σ := Nat × Nat) (fun s => [(2, .pointer (some ⟨g2, 0, none⟩)), (3, .pointer (some ⟨g3, 0, none⟩)), (5, .int .i64 ((i : Nat) : Int)), (6, .pointer (some ⟨s.1, 0, none⟩)), (7, .pointer (some ⟨s.2, 0, none⟩))]) (fun s wm => Blk wm s.1 60 x.cells.toArray ∧ Blk wm s.2 60 y.cells.toArray ∧ Frm [] wr wm) ?_ ?_
  ·
   refine VC.held (fun W => Frm [] wr W) jK ?_
   have hS : Frm [] wr wr.drew := (Frm.refl _ _).drew
   refine jH 0 rfl hS (fun w0 hw0 => Run.fieldAddr rfl zw rfl zap jd) ?_
   refine jH 1 rfl hS (fun w0 hw0 => Run.load rfl zbd ((hb2.frm hw0 jp).cell 2)) ?_
   refine jH 2 rfl hS (fun w0 hw0 => Run.mv rfl) ?_
   refine jH 3 rfl hS (fun w0 hw0 => Run.indexS i rfl rfl zaf zar hc2) ?_
   refine jH 4 rfl hS (fun w0 hw0 => Run.loadA rfl zdx zar (hcell _ (hfr.trans hw0 jp)) (by first | rfl | (simp; done))) ?_
   refine jH 5 rfl hS (fun w0 hw0 => Run.fieldAddr rfl zw rfl zap jd) ?_
   refine jH 6 rfl hS (fun w0 hw0 => Run.load rfl zbd ((hb3.frm hw0 jp).cell 2)) ?_
   refine jH 7 rfl hS (fun w0 hw0 => Run.mv rfl) ?_
   refine jH 8 rfl hS (fun w0 hw0 => Run.indexS i rfl rfl zaf zar hc2') ?_
   refine jH 9 rfl hS (fun w0 hw0 => Run.loadA rfl zdx zar (hcell2 _ (hfr.trans hw0 jp)) (by first | rfl | (simp; done))) ?_
   refine qQ.or2 10 11 jK ?_ ?_
   ·
    refine dN.m rfl (qH.alloc fP) trivial rfl rfl ?_
    rintro _ w6 ⟨rfl, hF6⟩
    have hge6 := hS.size
    try have hne := hb7.lt
    try have hb7 := hb7.frm hF6.frm jp
    have hS6 : Frm [] wr w6 := hS.trans hF6.frm jp
    refine ⟨hS6, ?_⟩
    have hS := hS6
    have hb6 := hF6.blk
    refine qQ.m 11 rfl jK (qH.alloc fP) trivial rfl rfl ?_
    rintro _ w7 ⟨rfl, hF7⟩
    have hge7 := hS.size
    try have hne := hb6.lt
    try have hb6 := hb6.frm hF7.frm jp
    have hS7 : Frm [] wr w7 := hS.trans hF7.frm jp
    refine ⟨hS7, ?_⟩
    have hS := hS7
    have hb7 := hF7.blk
    refine qQ.st 12 rfl jK (qW.storeA rfl rfl zar hb6 rfl x.cells_one) trivial rfl ?_
    rintro w8 ⟨hb68, hf8, hs8⟩
    have hS8 : Frm [] wr w8 := hS.own hf8 (fun y hy => by simp only [za] at hy; subst hy; exact hge6)
    refine ⟨hS8, ?_⟩
    have hS := hS8
    have hb78 := hb7.frm hf8 (by simp only [za]; omega)
    refine qQ.st 13 rfl jK (qW.storeA rfl rfl zar hb78 rfl y.cells_one) trivial rfl ?_
    rintro w9 ⟨hb79, hf9, hs9⟩
    have hS9 : Frm [] wr w9 := hS.own hf9 (fun y hy => by simp only [za] at hy; subst hy; exact hge7)
    refine ⟨hS9, ?_⟩
    have hS := hS9
    have hb69 := hb68.frm hf9 (by simp only [za]; omega)
    refine qQ.done jK ?_
    refine jN ⟨(_, _), (js5 rfl rfl rfl rfl rfl), ?_⟩
    exact ⟨hb69, hb79, hS⟩
   refine dN.m rfl (qH.alloc fP) trivial rfl rfl ?_
   rintro _ w7 ⟨rfl, hF7⟩
   have hge7 := hS.size
   try have hne := hb6.lt
   try have hb6 := hb6.frm hF7.frm jp
   have hS7 : Frm [] wr w7 := hS.trans hF7.frm jp
   refine ⟨hS7, ?_⟩
   have hS := hS7
   have hb7 := hF7.blk
   refine qQ.m 10 rfl jK (qH.alloc fP) trivial rfl rfl ?_
   rintro _ w6 ⟨rfl, hF6⟩
   have hge6 := hS.size
   try have hne := hb7.lt
   try have hb7 := hb7.frm hF6.frm jp
   have hS6 : Frm [] wr w6 := hS.trans hF6.frm jp
   refine ⟨hS6, ?_⟩
   have hS := hS6
   have hb6 := hF6.blk
   refine qQ.st 12 rfl jK (qW.storeA rfl rfl zar hb6 rfl x.cells_one) trivial rfl ?_
   rintro w8 ⟨hb68, hf8, hs8⟩
   have hS8 : Frm [] wr w8 := hS.own hf8 (fun y hy => by simp only [za] at hy; subst hy; exact hge6)
   refine ⟨hS8, ?_⟩
   have hS := hS8
   have hb78 := hb7.frm hf8 (by simp only [za]; omega)
   refine qQ.st 13 rfl jK (qW.storeA rfl rfl zar hb78 rfl y.cells_one) trivial rfl ?_
   rintro w9 ⟨hb79, hf9, hs9⟩
   have hS9 : Frm [] wr w9 := hS.own hf9 (fun y hy => by simp only [za] at hy; subst hy; exact hge7)
   refine ⟨hS9, ?_⟩
   have hS := hS9
   have hb69 := hb68.frm hf9 (by simp only [za]; omega)
   refine qQ.done jK ?_
   refine jN ⟨(_, _), (js5 rfl rfl rfl rfl rfl), ?_⟩
   exact ⟨hb69, hb79, hS⟩
  rintro ⟨g6, g7⟩ w5 ⟨hb6, hb7, hf5⟩ Γ hΓ
  dsimp only at hb6 hb7
  refine jN (VC.sub _ hΓ (jS ?_))
  refine VC.splitR [(2, .pointer (some ⟨g2, 0, none⟩)), (3, .pointer (some ⟨g3, 0, none⟩)), (5, .int .i64 ((i : Nat) : Int))] (Frm [] w5) 79 (.bool (decide (¬ x.m = y.m))) ?_ ?_
  ·
   refine jR (jf rfl zak rfl zq (jl rfl zy (hb6.cell 0) (jf rfl zak rfl zq (jl rfl zy (hb7.cell 0) (jb rfl rfl (Bin.neq _ _) ?_)))))
   by_cases hs50 : x.m.uid ≠ y.m.uid
   ·
    refine jM ?_
    refine jU ?_
    refine jU ?_
    refine jU ?_
    refine jU ?_
    refine jU ?_
    refine je (Run.pickT rfl rfl au) (jM ?_)
    refine jU ?_
    refine jU ?_
    refine jU ?_
    refine jU ?_
    refine jU ?_
    refine je (Run.pickT rfl rfl au) (jM ?_)
    refine jU ?_
    refine jU ?_
    refine jU ?_
    refine jU ?_
    refine jU ?_
    refine je (Run.pickT rfl rfl au) (jM ?_)
    refine jU ?_
    refine jU ?_
    refine jU ?_
    refine jU ?_
    refine jU ?_
    refine jU ?_
    refine je (Run.pickT rfl rfl au) (jO ?_)
    refine jN ⟨(js4 (jC (Eq.symm (by simp_all))) rfl rfl rfl), (by first | exact hd6.frm | exact Frm.refl _ _)⟩
   refine jM ?_
   refine jk (Run.fieldAddr rfl zak rfl zeb jd) ?_
   refine jk (Run.loadA rfl Tryz.isAgg58 zeb (hb6.sub 1 [.int .i64 x.m.sec, .int .i64 x.m.zone] rfl) (by first | rfl | (simp; done))) ?_
   refine jk (Run.fieldAddr rfl zak rfl zeb jd) ?_
   refine jk (Run.loadA rfl Tryz.isAgg58 zeb (hb7.sub 1 [.int .i64 y.m.sec, .int .i64 y.m.zone] rfl) (by first | rfl | (simp; done))) ?_
   refine jk (Run.neqAgg rfl rfl jK jK jK (qXz _ _ _ _ _)) ?_
   by_cases hs56 : ¬ (x.m.sec = y.m.sec ∧ x.m.zone = y.m.zone)
   ·
    refine je (Run.pickF rfl rfl au) (jM ?_)
    refine jU ?_
    refine jU ?_
    refine jU ?_
    refine jU ?_
    refine jU ?_
    refine je (Run.pickT rfl rfl au) (jM ?_)
    refine jU ?_
    refine jU ?_
    refine jU ?_
    refine jU ?_
    refine jU ?_
    refine je (Run.pickT rfl rfl au) (jM ?_)
    refine jU ?_
    refine jU ?_
    refine jU ?_
    refine jU ?_
    refine jU ?_
    refine jU ?_
    refine je (Run.pickT rfl rfl au) (jO ?_)
    refine jN ⟨(js4 (jC (Eq.symm (by simp_all))) rfl rfl rfl), (by first | exact hd6.frm | exact Frm.refl _ _)⟩
   refine je (Run.pickF rfl rfl au) (jM ?_)
   refine jk (Run.fieldAddr rfl zak rfl zq jd) ?_
   refine jk (Run.load rfl zy (hb6.cell 3)) ?_
   refine jk (Run.fieldAddr rfl zak rfl zq jd) ?_
   refine jk (Run.load rfl zy (hb7.cell 3)) ?_
   refine jk (Run.bin rfl rfl (Bin.neq _ _)) ?_
   by_cases hs63 : x.m.size ≠ y.m.size
   ·
    refine je (Run.pickF rfl rfl au) (jM ?_)
    refine jU ?_
    refine jU ?_
    refine jU ?_
    refine jU ?_
    refine jU ?_
    refine je (Run.pickT rfl rfl au) (jM ?_)
    refine jU ?_
    refine jU ?_
    refine jU ?_
    refine jU ?_
    refine jU ?_
    refine jU ?_
    refine je (Run.pickT rfl rfl au) (jO ?_)
    refine jN ⟨(js4 (jC (Eq.symm (by simp_all))) rfl rfl rfl), (by first | exact hd6.frm | exact Frm.refl _ _)⟩
   refine je (Run.pickF rfl rfl au) (jM ?_)
   refine jk (Run.fieldAddr rfl zak rfl zc jd) ?_
   refine jk (Run.load rfl zh (hb6.cell 4)) ?_
   refine jk (Run.fieldAddr rfl zak rfl zc jd) ?_
   refine jk (Run.load rfl zh (hb7.cell 4)) ?_
   refine jk (Run.bin rfl rfl (Bin.neqN _ _)) ?_
   by_cases hs70 : x.m.blob ≠ y.m.blob
   ·
    refine je (Run.pickF rfl rfl au) (jM ?_)
    refine jU ?_
    refine jU ?_
    refine jU ?_
    refine jU ?_
    refine jU ?_
    refine jU ?_
    refine je (Run.pickT rfl rfl au) (jO ?_)
    refine jN ⟨(js4 (jC (Eq.symm (by simp_all))) rfl rfl rfl), (by first | exact hd6.frm | exact Frm.refl _ _)⟩
   refine je (Run.pickF rfl rfl au) (jM ?_)
   refine jk (Run.fieldAddr rfl zak rfl zam jd) ?_
   refine jk (Run.load rfl zbb (hb6.cell 5)) ?_
   refine jk (Run.fieldAddr rfl zak rfl zam jd) ?_
   refine jk (Run.load rfl zbb (hb7.cell 5)) ?_
   refine Ops.clg rfl au (jE2 Tryz.call71) (uL x.A y.A x.c y.c x.m.flags y.m.flags _ (by have := hxa.n; omega) (by have := hya.n; omega) (hxa.frm hf5 jp).rd (hya.frm hf5 jp).rd) rfl ?_
   rintro e w6 ⟨rfl, hd6⟩
   refine ⟨_, rfl, ?_⟩
   by_cases hs77 : x.m.flags = y.m.flags
   ·
    refine jk (Run.not rfl) ?_
    refine je (Run.pickF rfl rfl au) (jO ?_)
    refine jN ⟨(js4 (jC (Eq.symm (by simp_all))) rfl rfl rfl), (by first | exact hd6.frm | exact Frm.refl _ _)⟩
   refine jk (Run.not rfl) ?_
   refine je (Run.pickF rfl rfl au) (jO ?_)
   refine jN ⟨(js4 (jC (Eq.symm (by simp_all))) rfl rfl rfl), (by first | exact hd6.frm | exact Frm.refl _ _)⟩
  intro Γ w6 hΓ hf6
  refine jN (VC.sub _ hΓ ?_)
  refine jD rfl (fun hc3 => ?_) fun hc3 => ?_
  ·
   refine jS (jR (ja rfl (jO (jN (jv1 4 ?_)))))
   refine jT ?_
   refine qP (qZ (qZ (qP (qZ (qF rfl ?_)))))
   refine ⟨?_, (hfr.trans hf5 jp).trans hf6 jp⟩
   rw [decide_eq_false]
   rintro ⟨_, _, h⟩
   have h1 := congrArg (fun z => z[i]?) h
   simp only [Ms, zca, ze hc2, ze hc2', zcx, Option.some.injEq] at h1
   rw [hx, hy] at h1
   exact hc3 h1
  refine jQ ?_
  refine qN (jN ?_)
  refine jv3 2 3 5 ?_
  refine jR (jm rfl (jb rfl rfl (Bin.add_i64 _ 1 jo) (ja rfl (jO ?_))))
  refine jN ⟨(i + 1), (js3 rfl rfl rfl), ?_, ?_⟩
  ·
   have hxy : x.m = y.m := Classical.not_not.1 hc3
   have hf56 := hf5.trans hf6 jp
   exact ⟨hc2, hfr.trans hf56 jp, hb2.frm hf56 jp, hb3.frm hf56 jp, by rw [hms, hms2, hsm, hxy]⟩
  first | omega | (dsimp only; omega)
 refine jX ?_
 refine qK (qK (qS ?_))
 refine jN ?_
 refine VC.sub [] .nil ?_
 refine jS (jR (ja rfl (jO (jN (jT ?_)))))
 refine qF rfl ?_
 refine ⟨?_, hfr⟩
 have hil : i = l.length := jo
 subst hil
 rw [zaw, hll, zaw] at hsm
 rw [decide_eq_true ⟨hvv, hnn, hsm⟩]
end
section
open Go.RowKit Go.Sort
theorem fN (q : Tx) (w : World) : Calls Tryz.prog 12 #[encStr q] w fun e w' => e = .returned (encStr (q.take 70)) ∧ w = w' := by
 refine VC.calls (nt := 9) (res := #[.tmp 2]) Tryz.func12 rfl Tryz.ntmps12 Tryz.results12 rfl ?_
 refine jS (jR (ja rfl (jO (jN (jv1 0 ?_)))))
 refine jS (jS (jR (jm rfl (je (Run.lenT rfl zo) (jb rfl rfl (Bin.gtrN _ 70) (jO (jN (jv2 0 5 ?_))))))))
 refine jD rfl (fun hc1 => ?_) fun hc1 => ?_
 ·
  refine jS (jR (jm rfl (je (Run.sliceT 0 70 rfl zo evB.none_ (evB.some_ rfl) jo jo) ?_)))
  rw [zch, zbr]
  refine ja rfl (jO (jN (jv1 2 ?_)))
  refine jT ?_
  refine qZ (qF rfl ?_)
  exact ⟨rfl, rfl⟩
 refine jQ (jN (jv1 0 ?_))
 refine jS (jR (jm rfl (ja rfl (jO (jN (jv1 2 ?_))))))
 refine jT ?_
 refine qF rfl ?_
 exact ⟨by rw [zt jo], rfl⟩
set_option maxHeartbeats 1000000 in
theorem sF (m1 m2 : MlC) (w : World) (hm1 : RdL w m1) (hm2 : RdL w m2) : Calls Tryz.prog 15 #[m1.val, m2.val] w fun e w' => e = .returned (.bool (decide (m1.p = m2.p))) ∧ Frm [] w w' := by
 have hn1 := hm1.ln
 have hn2 := hm2.ln
 have hs1 := hm1.sn
 have hs2 := hm2.sn
 have hext : m1.p = m2.p ↔ m1.v = m2.v ∧ m1.b = m2.b ∧ Ns m1.l = Ns m2.l ∧ m1.ss = m2.ss := by
  constructor
  ·
   intro h
   injection h with h1 h2 h3 h4
   exact ⟨h3, h4, h1, h2⟩
  rintro ⟨h1, h2, h3, h4⟩
  show MailP.mk _ _ _ _ = MailP.mk _ _ _ _
  rw [h1, h2, h3, h4]
 refine VC.calls (nt := 91) (res := #[.tmp 4]) Tryz.func15 rfl Tryz.ntmps15 Tryz.results15 rfl ?_
 refine jS (jR ?_)
 refine Ops.m (qH.box rfl) rfl ?_
 rintro _ w1 ⟨rfl, hF_w1⟩
 have hb1 : Blk w1 w.heap.size 25 m1.cells.toArray := hF_w1.blk
 have K := hF_w1.frm
 generalize w.heap.size = g1 at hb1 ⊢
 refine Ops.m (qH.box rfl) rfl ?_
 rintro _ w2 ⟨rfl, hF_w2⟩
 have hb2 : Blk w2 w1.heap.size 25 m2.cells.toArray := hF_w2.blk
 have hb1 := hb1.frm hF_w2.frm jp
 have K := K.trans hF_w2.frm jp
 generalize w1.heap.size = g2 at hb2 ⊢
 refine ja rfl (jO (jN (jv2 2 3 ?_)))
 refine jS (jS ?_)
 refine VC.split1 [(2, _), (3, _)] (js2 rfl rfl) 36 (.bool (decide (m1.v ≠ m2.v ∨ m1.b ≠ m2.b ∨ m1.l.length ≠ m2.l.length ∨ m1.ss.length ≠ m2.ss.length))) ?_ ?_
 ·
  refine jR (jf rfl zg rfl zq (jl rfl zy (hb1.cell 2) (jf rfl zg rfl zq (jl rfl zy (hb2.cell 2) (jb rfl rfl (Bin.neq _ _) ?_)))))
  by_cases hs11 : m1.v ≠ m2.v
  ·
   refine jM ?_
   refine jU ?_
   refine jU ?_
   refine jU ?_
   refine jU ?_
   refine jU ?_
   refine je (Run.pickT rfl rfl au) (jM ?_)
   refine jU ?_
   refine jU ?_
   refine jU ?_
   refine jU ?_
   refine jU ?_
   refine jU ?_
   refine jU ?_
   refine je (Run.pickT rfl rfl au) (jM ?_)
   refine jU ?_
   refine jU ?_
   refine jU ?_
   refine jU ?_
   refine jU ?_
   refine jU ?_
   refine jU ?_
   refine je (Run.pickT rfl rfl au) (jO ?_)
   refine jN ⟨(js3 (jC (by clear hext; simp [*])) rfl rfl), rfl⟩
  refine jM ?_
  refine jk (Run.fieldAddr rfl zg rfl zq jd) ?_
  refine jk (Run.load rfl zy (hb1.cell 3)) ?_
  refine jk (Run.fieldAddr rfl zg rfl zq jd) ?_
  refine jk (Run.load rfl zy (hb2.cell 3)) ?_
  refine jk (Run.bin rfl rfl (Bin.neq _ _)) ?_
  by_cases hs17 : m1.b ≠ m2.b
  ·
   refine je (Run.pickF rfl rfl au) (jM ?_)
   refine jU ?_
   refine jU ?_
   refine jU ?_
   refine jU ?_
   refine jU ?_
   refine jU ?_
   refine jU ?_
   refine je (Run.pickT rfl rfl au) (jM ?_)
   refine jU ?_
   refine jU ?_
   refine jU ?_
   refine jU ?_
   refine jU ?_
   refine jU ?_
   refine jU ?_
   refine je (Run.pickT rfl rfl au) (jO ?_)
   refine jN ⟨(js3 (jC (by clear hext; simp [*])) rfl rfl), rfl⟩
  refine je (Run.pickF rfl rfl au) (jM ?_)
  refine jk (Run.fieldAddr rfl zg rfl zab jd) ?_
  refine jk (Run.load rfl zan (hb1.cell 0)) ?_
  refine jk (Run.lenS rfl zf) ?_
  refine jk (Run.fieldAddr rfl zg rfl zab jd) ?_
  refine jk (Run.load rfl zan (hb2.cell 0)) ?_
  refine jk (Run.lenS rfl zf) ?_
  refine jk (Run.bin rfl rfl (Bin.neqN _ _)) ?_
  by_cases hs26 : m1.l.length ≠ m2.l.length
  ·
   refine je (Run.pickF rfl rfl au) (jM ?_)
   refine jU ?_
   refine jU ?_
   refine jU ?_
   refine jU ?_
   refine jU ?_
   refine jU ?_
   refine jU ?_
   refine je (Run.pickT rfl rfl au) (jO ?_)
   refine jN ⟨(js3 (jC (by clear hext; simp [*])) rfl rfl), rfl⟩
  refine je (Run.pickF rfl rfl au) (jM ?_)
  refine jk (Run.fieldAddr rfl zg rfl zam jd) ?_
  refine jk (Run.load rfl zbb (hb1.cell 1)) ?_
  refine jk (Run.lenS rfl zj) ?_
  refine jk (Run.fieldAddr rfl zg rfl zam jd) ?_
  refine jk (Run.load rfl zbb (hb2.cell 1)) ?_
  refine jk (Run.lenS rfl zj) ?_
  refine jk (Run.bin rfl rfl (Bin.neqN _ _)) ?_
  refine je (Run.pickF rfl rfl au) (jO ?_)
  refine jN ⟨(js3 (jC (by clear hext; simp [*])) rfl rfl), rfl⟩
 intro Γ hΓ
 refine jN (VC.sub _ hΓ ?_)
 refine jD rfl (fun hc1 => ?_) fun hc1 => ?_
 ·
  have hbad : ¬ m1.p = m2.p := fun h => by
   obtain ⟨h1, h2, h3, h4⟩ := hext.1 h
   have h5 := congrArg List.length h3
   rw [bD, bD] at h5
   rw [h4] at hc1
   omega
  refine jS (jR (ja rfl (jO (jN (jv1 4 ?_)))))
  refine jT ?_
  refine qZ (qF rfl ?_)
  exact ⟨by rw [decide_eq_false hbad], K⟩
 obtain ⟨hvv, hbb, hll, hss⟩ : m1.v = m2.v ∧ m1.b = m2.b ∧ m1.l.length = m2.l.length ∧ m1.ss.length = m2.ss.length := by omega
 refine jQ (jN (jv2 2 3 ?_))
 refine jS (jS (jR (jz 0 (jO (jN (jB ?_))))))
 refine VC.loop (σ := Nat) (fun s => [(2, .pointer (some ⟨g1, 0, none⟩)), (3, .pointer (some ⟨g2, 0, none⟩)), (5, .int .i64 ((s : Nat) : Int))]) (fun s wr => s ≤ m1.l.length ∧ (∀ j (h1 : j < m1.l.length) (h2 : j < m2.l.length), j < s → (m1.l[j]).p = (m2.l[j]).p) ∧ Blk wr g1 25 m1.cells.toArray ∧ Blk wr g2 25 m2.cells.toArray ∧ Frm [] w wr) (fun s => m1.l.length - s) 0 (js3 rfl rfl rfl) ⟨zah _, fun _ _ _ h => jo, hb1, hb2, K⟩ ?_
 rintro i wr ⟨hi, hd, hb1, hb2, K⟩
 refine jS (jS (jR (jm rfl (jf rfl zg rfl zab (jl rfl zan (hb1.cell 0) (je (Run.lenS rfl zf) (jb rfl rfl (Bin.lssN _ _) (jO (jN (jv4 2 3 5 41 ?_))))))))))
 refine jD rfl (fun hc2 => ?_) fun hc2 => ?_
 ·
  obtain ⟨ad1, had1, helad1⟩ : ∃ ad, m1.A = some ad ∧ ∀ W, Frm [] wr W → ∀ j v, (m1.l[i]).cells[j]? = some v → W.cell? ((ad.add (i * 4)).add j) = some v := by
   have hi' : i < m1.l.length := by omega
   obtain ⟨ad, hA, _⟩ := (hm1.frm K).l.elem hi'
   refine ⟨ad, hA, fun W hW => ?_⟩
   obtain ⟨ad', hA', h⟩ := (hm1.frm (K.trans hW jp)).l.elem hi'
   rw [hA] at hA'
   cases hA'
   exact h
  obtain ⟨ad2, had2, helad2⟩ : ∃ ad, m2.A = some ad ∧ ∀ W, Frm [] wr W → ∀ j v, (m2.l[i]).cells[j]? = some v → W.cell? ((ad.add (i * 4)).add j) = some v := by
   have hi' : i < m2.l.length := by omega
   obtain ⟨ad, hA, _⟩ := (hm2.frm K).l.elem hi'
   refine ⟨ad, hA, fun W hW => ?_⟩
   obtain ⟨ad', hA', h⟩ := (hm2.frm (K.trans hW jp)).l.elem hi'
   rw [hA] at hA'
   cases hA'
   exact h
  have hxa := (hm1.frm K).l.el _ (zm hc2)
  have hya := (hm2.frm K).l.el _ (zm (jo : i < m2.l.length))
  generalize hx : m1.l[i] = x at *
  generalize hy : m2.l[i] = y at *
  have hpe : x.p = y.p ↔ x.nm = y.nm ∧ x.v = y.v ∧ x.n = y.n ∧ Ms x.l = Ms y.l := by
   unfold Nc.p
   constructor
   ·
    intro h
    injection h with h1 h2
    injection h2 with h2 h3 h4
    exact ⟨h1, h2, h3, h4⟩
   rintro ⟨h1, h2, h3, h4⟩
   rw [h1, h2, h3, h4]
  refine jQ (jN (jv3 2 3 5 ?_))
  refine jS (jB (jS ?_))
  refine VC.meet (σ := Unit) (fun s => [(2, .pointer (some ⟨g1, 0, none⟩)), (3, .pointer (some ⟨g2, 0, none⟩)), (5, .int .i64 ((i : Nat) : Int)), (72, .bool (decide (x.p ≠ y.p)))]) (fun s wz => Frm [] wr wz) ?_ ?_
  ·
   refine VC.held (fun W => Frm [] wr W) jK ?_
   have hS : Frm [] wr wr.drew := (Frm.refl _ _).drew
   refine jH 0 rfl hS (fun w0 hw0 => Run.fieldAddr rfl zg rfl zab jd) ?_
   refine jH 1 rfl hS (fun w0 hw0 => Run.load rfl zan ((hb1.frm hw0 jp).cell 0)) ?_
   refine jH 2 rfl hS (fun w0 hw0 => Run.mv rfl) ?_
   refine jH 3 rfl hS (fun w0 hw0 => Run.indexS i (show _ = some (Value.slice (some ad1) m1.l.length m1.c) by rw [← had1]; rfl) rfl zf zn jo) ?_
   refine jH 4 rfl hS (fun w0 hw0 => Run.fieldAddr rfl zae rfl zx jd) ?_
   refine jH 5 rfl hS (fun w0 hw0 => Run.load rfl zac (helad1 _ hw0 0 (encStr x.nm) rfl)) ?_
   refine jH 6 rfl hS (fun w0 hw0 => Run.fieldAddr rfl zg rfl zab jd) ?_
   refine jH 7 rfl hS (fun w0 hw0 => Run.load rfl zan ((hb2.frm hw0 jp).cell 0)) ?_
   refine jH 8 rfl hS (fun w0 hw0 => Run.mv rfl) ?_
   refine jH 9 rfl hS (fun w0 hw0 => Run.indexS i (show _ = some (Value.slice (some ad2) m2.l.length m2.c) by rw [← had2]; rfl) rfl zf zn jo) ?_
   refine jH 10 rfl hS (fun w0 hw0 => Run.fieldAddr rfl zae rfl zx jd) ?_
   refine jH 11 rfl hS (fun w0 hw0 => Run.load rfl zac (helad2 _ hw0 0 (encStr y.nm) rfl)) ?_
   refine jH 12 rfl hS (fun w0 hw0 => Run.neqT rfl rfl) ?_
   refine jH 13 rfl hS (fun w0 hw0 => Run.mv rfl) ?_
   by_cases hs57 : x.nm ≠ y.nm
   ·
    refine qQ.skip 14 rfl jK jK jK hS rfl rfl (decide_eq_true hs57) rfl rfl ?_
    refine qQ.skip 15 rfl jK jK jK hS rfl rfl (decide_eq_true hs57) rfl rfl ?_
    refine qQ.skip 16 rfl jK jK jK hS rfl rfl (decide_eq_true hs57) rfl rfl ?_
    refine qQ.skip 17 rfl jK jK jK hS rfl rfl (decide_eq_true hs57) rfl rfl ?_
    refine qQ.skip 18 rfl jK jK jK hS rfl rfl (decide_eq_true hs57) rfl rfl ?_
    refine qQ.skip 19 rfl jK jK jK hS rfl rfl (decide_eq_true hs57) rfl rfl ?_
    refine qQ.skip 20 rfl jK jK jK hS rfl rfl (decide_eq_true hs57) rfl rfl ?_
    refine qQ.skip 21 rfl jK jK jK hS rfl rfl (decide_eq_true hs57) rfl rfl ?_
    refine qQ.skip 22 rfl jK jK jK hS rfl rfl (decide_eq_true hs57) rfl rfl ?_
    refine qQ.skip 23 rfl jK jK jK hS rfl rfl (decide_eq_true hs57) rfl rfl ?_
    refine qQ.skip 24 rfl jK jK jK hS rfl rfl (decide_eq_true hs57) rfl rfl ?_
    refine qQ.skip 25 rfl jK jK jK hS rfl rfl (decide_eq_true hs57) rfl rfl ?_
    refine qQ.skip 26 rfl jK jK jK hS rfl rfl (decide_eq_true hs57) rfl rfl ?_
    refine qQ.skip 27 rfl jK jK jK hS rfl rfl (decide_eq_true hs57) rfl rfl ?_
    refine jH 28 rfl hS (fun w0 hw0 => Run.pickT rfl rfl (decide_eq_true hs57)) ?_
    refine qQ.done jK ?_
    refine jN ⟨(), (js4 rfl rfl rfl (by rw [show decide (x.p ≠ y.p) = true from decide_eq_true (fun h => hs57 (hpe.1 h).1)]; rfl)), ?_⟩
    exact hS
   refine qQ.take 14 rfl jK jK jK hS (fun w0 hw0 => Run.fieldAddr rfl zg rfl zab jd) (Up.g rfl ((decide_eq_false hs57))) rfl rfl ?_
   refine qQ.take 15 rfl jK jK jK hS (fun w0 hw0 => Run.load rfl zan ((hb1.frm hw0 jp).cell 0)) (Up.g rfl ((decide_eq_false hs57))) rfl rfl ?_
   refine qQ.take 16 rfl jK jK jK hS (fun w0 hw0 => Run.mv rfl) (Up.g rfl ((decide_eq_false hs57))) rfl rfl ?_
   refine qQ.take 17 rfl jK jK jK hS (fun w0 hw0 => Run.indexS i (show _ = some (Value.slice (some ad1) m1.l.length m1.c) by rw [← had1]; rfl) rfl zf zn jo) (Up.g rfl ((decide_eq_false hs57))) rfl rfl ?_
   refine qQ.take 18 rfl jK jK jK hS (fun w0 hw0 => Run.fieldAddr rfl zae rfl zp jd) (Up.g rfl ((decide_eq_false hs57))) rfl rfl ?_
   refine qQ.take 19 rfl jK jK jK hS (fun w0 hw0 => Run.loadA rfl zat zp (cs := BVc x.v x.n x.A x.l.length x.c) (fun j v hj => by rw [Go.Proofs.YtgmbmfpfhcekiaaGreat.add_add]; exact helad1 _ hw0 (1 + j) v (by rw [zdj]; exact hj)) (by first | rfl | (simp; done))) (Up.g rfl ((decide_eq_false hs57))) rfl rfl ?_
   refine qQ.take 20 rfl jK jK jK hS (fun w0 hw0 => Run.fieldAddr rfl zg rfl zab jd) (Up.g rfl ((decide_eq_false hs57))) rfl rfl ?_
   refine qQ.take 21 rfl jK jK jK hS (fun w0 hw0 => Run.load rfl zan ((hb2.frm hw0 jp).cell 0)) (Up.g rfl ((decide_eq_false hs57))) rfl rfl ?_
   refine qQ.take 22 rfl jK jK jK hS (fun w0 hw0 => Run.mv rfl) (Up.g rfl ((decide_eq_false hs57))) rfl rfl ?_
   refine qQ.take 23 rfl jK jK jK hS (fun w0 hw0 => Run.indexS i (show _ = some (Value.slice (some ad2) m2.l.length m2.c) by rw [← had2]; rfl) rfl zf zn jo) (Up.g rfl ((decide_eq_false hs57))) rfl rfl ?_
   refine qQ.take 24 rfl jK jK jK hS (fun w0 hw0 => Run.fieldAddr rfl zae rfl zp jd) (Up.g rfl ((decide_eq_false hs57))) rfl rfl ?_
   refine qQ.take 25 rfl jK jK jK hS (fun w0 hw0 => Run.loadA rfl zat zp (cs := BVc y.v y.n y.A y.l.length y.c) (fun j v hj => by rw [Go.Proofs.YtgmbmfpfhcekiaaGreat.add_add]; exact helad2 _ hw0 (1 + j) v (by rw [zdj]; exact hj)) (by first | rfl | (simp; done))) (Up.g rfl ((decide_eq_false hs57))) rfl rfl ?_
   refine qQ.cl 26 rfl jK (jE2 Tryz.call22) (mC x.v x.n y.v y.n x.A y.A x.c y.c x.l y.l _ (hxa.rd.frm hS) (hya.rd.frm hS) (by have := hxa.n; omega) (by have := hya.n; omega)) (Up.g rfl ((decide_eq_false hs57))) rfl rfl ?_
   rintro e wA ⟨rfl, hfA⟩
   have hSA := hS.trans hfA jp
   refine ⟨_, rfl, hSA, ?_⟩
   have hS := hSA
   refine qQ.take 27 rfl jK jK jK hS (fun w0 hw0 => Run.not rfl) (Up.g rfl ((decide_eq_false hs57))) rfl rfl ?_
   refine jH 28 rfl hS (fun w0 hw0 => Run.pickF rfl rfl (decide_eq_false hs57)) ?_
   refine qQ.done jK ?_
   refine jN ⟨(), (js4 rfl rfl rfl (by rw [show decide (x.p ≠ y.p) = !decide (x.v = y.v ∧ x.n = y.n ∧ Ms x.l = Ms y.l) from by rw [← decide_not, decide_eq_decide]; exact not_congr (hpe.trans ⟨fun h => h.2, fun h => ⟨Classical.not_not.1 hs57, h⟩⟩)]; rfl)), ?_⟩
   exact hS
  rintro _ wz hfz Γ hΓ
  have hb1 := hb1.frm hfz jp
  have hb2 := hb2.frm hfz jp
  have K := K.trans hfz jp
  refine jN (VC.sub _ hΓ ?_)
  refine VC.condB rfl (fun hc3 => ?_) (fun hc3 => ?_)
  ·
   have hbad : ¬ m1.p = m2.p := fun h => by
    have h3 := (hext.1 h).2.2.1
    have h4 := congrArg (fun l => l[i]?) h3
    simp only [Ns, zca, ze hc2, ze (jo : i < m2.l.length), hx, hy, zcx, Option.some.injEq] at h4
    exact (of_decide_eq_true hc3) h4
   refine jS (jR (ja rfl (jO (jN (jv1 4 ?_)))))
   refine jT ?_
   refine qP (qZ (qZ (qP (qZ (qF rfl ?_)))))
   exact ⟨by rw [decide_eq_false hbad], K⟩
  have hc3 : x.p = y.p := Classical.not_not.1 (of_decide_eq_false hc3)
  refine jQ ?_
  refine qN (jN ?_)
  refine jv3 2 3 5 ?_
  refine jR (jm rfl (jb rfl rfl (Bin.add_i64 _ 1 jo) (ja rfl (jO ?_))))
  refine jN ⟨(i + 1), (js3 rfl rfl rfl), ?_, ?_⟩
  ·
   refine ⟨hc2, fun j h1 h2 hj => ?_, hb1, hb2, K⟩
   by_cases e : j = i
   ·
    subst e
    rw [hx, hy]
    exact hc3
   exact hd j h1 h2 jo
  first | omega | (dsimp only; omega)
 obtain rfl : i = m1.l.length := by omega
 have hNs : Ns m1.l = Ns m2.l := List.ext_getElem (by rw [bD, bD]; exact hll) (fun j h1 h2 => by
  rw [bD] at h1 h2
  rw [show (Ns m1.l)[j] = (m1.l[j]).p from zbo _, show (Ns m2.l)[j] = (m2.l[j]).p from zbo _]
  exact hd j h1 h2 h1)
 refine jX ?_
 refine qK (qK (qS ?_))
 refine jN (jv2 2 3 ?_)
 refine jS (jS (jR (jz 0 (jO (jN (jB ?_))))))
 refine VC.loop (σ := Nat) (fun s => [(2, .pointer (some ⟨g1, 0, none⟩)), (3, .pointer (some ⟨g2, 0, none⟩)), (6, .int .i64 ((s : Nat) : Int))]) (fun s wr => s ≤ m1.ss.length ∧ (∀ j, j < s → m1.ss[j]? = m2.ss[j]?) ∧ Blk wr g1 25 m1.cells.toArray ∧ Blk wr g2 25 m2.cells.toArray ∧ Frm [] w wr) (fun s => m1.ss.length - s) 0 (js3 rfl rfl rfl) ⟨zah _, fun _ h => jo, hb1, hb2, K⟩ ?_
 rintro k wr ⟨hk, hd2, hb1, hb2, K⟩
 refine jS (jS (jR (jm rfl (jf rfl zg rfl zam (jl rfl zbb (hb1.cell 1) (je (Run.lenS rfl zj) (jb rfl rfl (Bin.lssN _ _) (jO (jN (jv4 2 3 6 77 ?_))))))))))
 refine jD rfl (fun hc4 => ?_) fun hc4 => ?_
 ·
  have hdw := qV.drew wr
  have hb1 := hb1.drawn hdw
  have hb2 := hb2.drawn hdw
  have K := K.drawn hdw
  have hk2 : k < m2.ss.length := by omega
  obtain ⟨ad1, had1, hel1⟩ := (hm1.s.frm K jp).elem hc4
  obtain ⟨ad2, had2, hel2⟩ := (hm2.s.frm K jp).elem hk2
  have hg1 : m1.ss[k]? = some m1.ss[k] := ze hc4
  have hg2 : m2.ss[k]? = some m2.ss[k] := ze hk2
  refine jQ (jN (jv3 2 3 6 ?_))
  refine jS (jB (jS ?_))
  refine VC.still jK jK ?_
  refine qE (Run.fieldAddr rfl zg rfl zam jd) ?_
  refine qE (Run.load rfl zbb (hb1.cell 1)) ?_
  refine qM ?_
  refine qE (Run.indexS k (show _ = some (Value.slice (some ad1) m1.ss.length m1.d) by rw [← had1]; rfl) rfl zj zx hc4) ?_
  refine qE (Run.load rfl zac (hel1 0 (encStr m1.ss[k]) (by simp [SB, hc4]))) ?_
  refine qE (Run.fieldAddr rfl zg rfl zam jd) ?_
  refine qE (Run.load rfl zbb (hb2.cell 1)) ?_
  refine qM ?_
  refine qE (Run.indexS k (show _ = some (Value.slice (some ad2) m2.ss.length m2.d) by rw [← had2]; rfl) rfl zj zx hk2) ?_
  refine qE (Run.load rfl zac (hel2 0 (encStr m2.ss[k]) (by simp [SB, hk2]))) ?_
  refine qE (Run.neqT rfl rfl) ?_
  refine bJ.nil ?_
  refine jN (jv4 2 3 6 90 ?_)
  refine jD rfl (fun hc5 => ?_) fun hc5 => ?_
  ·
   have hbad : ¬ m1.p = m2.p := fun h => by
    have h3 := congrArg (fun l => l[k]?) (hext.1 h).2.2.2
    simp only [hg1, hg2, Option.some.injEq] at h3
    exact hc5 h3
   refine jS (jR (ja rfl (jO (jN (jv1 4 ?_)))))
   refine jT ?_
   refine qP (qZ (qZ (qP (qZ (qF rfl ?_)))))
   exact ⟨by rw [decide_eq_false hbad], K⟩
  have hc5 : m1.ss[k] = m2.ss[k] := Classical.not_not.1 hc5
  refine jQ ?_
  refine qN (jN ?_)
  refine jv3 2 3 6 ?_
  refine jR (jm rfl (jb rfl rfl (Bin.add_i64 _ 1 jo) (ja rfl (jO ?_))))
  refine jN ⟨(k + 1), (js3 rfl rfl rfl), ?_, ?_⟩
  ·
   refine ⟨hc4, fun j hj => ?_, hb1, hb2, K⟩
   by_cases e : j = k
   ·
    subst e
    rw [hg1, hg2, hc5]
   exact hd2 j jo
  first | omega | (dsimp only; omega)
 refine jX ?_
 refine qK (qK (qS ?_))
 refine jN ?_
 refine VC.sub [] .nil ?_
 refine jS (jR (ja rfl (jO (jN (jT ?_)))))
 refine qF rfl ?_
 obtain rfl : k = m1.ss.length := by omega
 have hse : m1.ss = m2.ss := zbz (fun j => by
  rcases zbs j m1.ss.length with h | h
  · exact hd2 j h
  rw [zbe h, zbe jo])
 exact ⟨by rw [decide_eq_true (hext.2 ⟨hvv, hbb, hNs, hse⟩)], K⟩
end
section
open Go.RowKit Go.Sort
def NmC (m : MlC) (i : Nat) (x : Nc) : Prop := bY (qD m.p) i x.nm ∧ bE x.p.2 ∧ x.v ≤ m.v
instance (m : MlC) (i : Nat) (x : Nc) : Decidable (NmC m i x) := by unfold NmC; infer_instance
end
section
open Go.RowKit Go.Sort
theorem qZn {H : Type} {enc : TypeId × Value → H} {P : Program} {w : World} {base : Nat} {spare : Nat → Bool} {held : Bool} {t e : TypeId} {fuel len cap : Nat} {a : Option Addr} {x : DataW H × List MemPlace} (ht : P.underlying t = some (.slice e)) (he : P.underlying e = some .string) (hc : P.cellsOf e = 1)
  (h : DataW.trod enc P w base spare held fuel t [.slice a len cap] = some x) : ∃ l : List Tx, l.length = len ∧ len ≤ cap ∧ cap ≤ 9223372036854775807 ∧ Rd w 1 a len (SB l) := by
 obtain ⟨ls, h1, h2, h3, h4, _⟩ := tH ht he hc h
 refine ⟨ls.map (·.data.toList), by simpa using h1, h2, h3, ?_⟩
 have : SB (ls.map (·.data.toList)) = ls.map Value.string := by simp only [SB, zdk]; rfl
 rw [this]
 exact h4
theorem qZo {w : World} {A : Option Addr} {c : Nat} {l : List Tx} (m : Nat) (h : Rd w 1 A l.length (SB l)) (hc : l.length ≤ c) (hm : m ≤ l.length) : Rd w 1 (dK A c 0 1) (l.take m).length (SB (l.take m)) := by
 have e := h.cut (l := 0) (r := m) (cap := c) jo jo hc
 have e1 : (l.take m).length = m := by simp; omega
 have e2 : SB (l.take m) = ((SB l).drop (0 * 1)).take ((m - 0) * 1) := by simp [SB, zdo]
 rw [e1, e2]
 exact e
def eW (l : List Tx) : List Tx := (l.take 24).map fun x => x.take 30
theorem vT (l : List Tx) : (eW l).length ≤ 24 ∧ ∀ q ∈ eW l, q.length ≤ 30 := by
 unfold eW
 refine ⟨by simp; omega, fun q hq => ?_⟩
 obtain ⟨x, _, rfl⟩ := List.mem_map.1 hq
 simp
 omega
theorem vU (A : Option Addr) (c0 : Nat) (l : List Tx) (w : World) (hc : l.length ≤ c0) (hr : Rd w 1 A l.length (SB l)) :
  Calls Tryz.prog 34 #[.slice A l.length c0] w fun e w' => Frm [] w w' ∧ ∃ B d, e = .returned (.slice B (eW l).length d) ∧ Own w' 9 1 B (eW l).length d (SB (eW l)) ∧ (∀ x ∈ ob B, w.heap.size ≤ x) := by
 refine VC.calls (nt := 31) (res := #[.tmp 2]) Tryz.func34 rfl Tryz.ntmps34 Tryz.results34 rfl ?_
 refine jS (jR (ja rfl (jO (jN (jv1 0 ?_)))))
 refine jS (jS (jR (jm rfl (je (Run.lenS rfl zj) (jb rfl rfl (Bin.gtrN _ 24) (jO (jN (jv2 0 8 ?_))))))))
 refine VC.meet (σ := Option Addr × Nat) (fun s => [(0, .slice s.1 (l.take 24).length s.2)]) (fun s wm => w = wm ∧ Rd w 1 s.1 (l.take 24).length (SB (l.take 24))) ?_ ?_
 ·
  refine jD rfl (fun hc1 => ?_) fun hc1 => ?_
  ·
   refine jR (jm rfl (je (Run.sliceS 0 24 rfl zj zx evB.none_ (evB.some_ rfl) jo jo) (ja rfl (jO ?_))))
   refine jN ⟨(dK A c0 0 1, c0 - 0), (js1 (by rw [show (l.take 24).length = 24 - 0 by simp; omega]; rfl)), ?_⟩
   exact ⟨rfl, qZo 24 hr hc jo⟩
  refine jQ ?_
  refine jN ⟨(A, c0), (js1 (by rw [zt jo]; rfl)), ?_⟩
  rw [zt jo]
  exact ⟨rfl, hr⟩
 rintro ⟨A2, c2⟩ _ ⟨rfl, hr2⟩ Γ hΓ
 have hl24 : (l.take 24).length ≤ 24 := by simp; omega
 generalize hm : l.take 24 = m at *
 refine jN (VC.sub _ hΓ (jS (jR (ja rfl (jO (jN (jS (jS (jR (jz 0 (jO (jN (jB ?_)))))))))))))
 refine VC.loop (σ := Nat × Option Addr × Nat) (fun s => [(0, .slice A2 m.length c2), (3, .slice s.2.1 ((m.take s.1).map fun x => x.take 30).length s.2.2), (4, .int .i64 ((s.1 : Nat) : Int))]) (fun s wr => s.1 ≤ m.length ∧ Own wr 9 1 s.2.1 ((m.take s.1).map fun x => x.take 30).length s.2.2 (SB ((m.take s.1).map fun x => x.take 30)) ∧ (∀ x ∈ ob s.2.1, w.heap.size ≤ x) ∧ Frm [] w wr) (fun s => m.length - s.1) (0, none, 0) (js3 rfl rfl rfl) ⟨jo, Own.nil _ _ _, by simp [ob], Frm.refl _ _⟩ ?_
 rintro ⟨i, B, d⟩ wr ⟨hi, hown, hge, hfr⟩
 dsimp only at hi hown hge ⊢
 have hil : ((m.take i).map fun x : Tx => x.take 30).length = i := by simp; omega
 refine jS (jS (jR (jm rfl (jm rfl (je (Run.lenS rfl zj) (jb rfl rfl (Bin.lssN _ _) (jO (jN (jv4 0 3 4 14 ?_)))))))))
 refine jD rfl (fun hc2 => ?_) fun hc2 => ?_
 ·
  obtain ⟨ad, rfl, hcell⟩ := mQ (hr2.frm hfr jp) hc2
  have hts : ((m.take (i + 1)).map fun x : Tx => x.take 30) = ((m.take i).map fun x : Tx => x.take 30) ++ [m[i].take 30] := by rw [gH hc2]; simp only [zbm, zcq, zeh]
  generalize m[i] = x at *
  refine jQ (jN (jv3 0 3 4 ?_))
  refine jS (jB (jS (jR (jm rfl (jm rfl (je (Run.index1 i rfl rfl zj zx hc2) (jl rfl zac hcell (ja rfl (jO (jN (jv4 0 3 4 5 ?_)))))))))))
  refine jS (jS (jR (jm rfl (je (Run.lenT rfl zo) (jb rfl rfl (Bin.gtrN _ 30) (jO (jN (jv5 0 3 4 5 23 ?_))))))))
  refine VC.meet (σ := Unit) (fun s => [(0, .slice (some ad) m.length c2), (3, .slice B ((m.take i).map fun x => x.take 30).length d), (4, .int .i64 ((i : Nat) : Int)), (5, encStr (x.take 30))]) (fun s wm => wr = wm) ?_ ?_
  ·
   refine jD rfl (fun hc3 => ?_) fun hc3 => ?_
   ·
    refine jR (jm rfl (je (Run.sliceT 0 30 rfl zo evB.none_ (evB.some_ rfl) jo jo) (ja rfl (jO ?_))))
    refine jN ⟨(), (js4 rfl rfl rfl rfl), ?_⟩
    rfl
   refine jQ ?_
   refine jN ⟨(), (js4 rfl rfl rfl (by rw [zt (l := x) (i := 30) jo]; rfl)), ?_⟩
   rfl
  rintro _ _ rfl Γ hΓ
  refine jN (VC.sub _ hΓ (jR (jm rfl (jM ?_))))
  refine Ops.m (qH.buildS1 rfl zj zx mX jd jd rfl rfl) rfl ?_
  rintro _ w4 ⟨rfl, hF4⟩
  have hfr4 := hfr.trans hF4.frm jp
  refine Ops.m (qH.app rfl rfl zj (nU) rfl jd (hown.frm hF4.frm jp) (hrd1 hF4) (hZ _) jo jo) rfl ?_
  rintro _ w5 ⟨A5, c5, rfl, hown5, hfr5, hob5⟩
  rw [← eT] at hown5
  have hge5 := pC hge hob5 hfr4.size
  have hfr5' := hfr4.own hfr5 hge
  refine ja rfl (jO ?_)
  refine qN (jN ?_)
  refine jv3 0 3 4 ?_
  refine jR (jm rfl (jb rfl rfl (Bin.add_i64 _ 1 jo) (ja rfl (jO ?_))))
  refine jN ⟨(i + 1, A5, c5), (js3 rfl (by rw [hts, zl]; rfl) rfl), ?_, ?_⟩
  ·
   rw [hts]
   exact ⟨hc2, by rw [zl]; exact hown5, hge5, hfr5'⟩
  first | omega | (dsimp only; omega)
 refine jX ?_
 refine qK (qK (qS ?_))
 refine jN (jv1 3 ?_)
 refine jS (jR (jm rfl (ja rfl (jO (jN (jv1 2 ?_))))))
 refine jT ?_
 refine qF rfl ?_
 have him : i = m.length := jo
 subst him
 rw [zaw] at hown ⊢
 have e : (m.map fun x : Tx => x.take 30) = eW l := by rw [← hm]; rfl
 rw [e] at hown ⊢
 exact ⟨hfr, B, d, rfl, hown, hge⟩
theorem IsN.ok {w0 w' : World} {e : Ending} {F : Except Nat (List Tx)} {B : Option Addr} {d : Nat} {r x : List Tx} {k : Nat} (h : IsN w0 w' e F B d r k) (hF : F = .ok x) : k = 0 ∧ r = x := by
 rcases h.2.2.2 with ⟨h1, h2⟩ | ⟨_, _, h2⟩
 · rw [hF] at h2; injection h2 with h2; exact ⟨h1, h2.symm⟩
 rw [hF] at h2; cases h2
end
section
open Go.RowKit Go.Sort
structure RawM (w : World) (A : Option Addr) (l : List Mc) : Prop where
 rd : Rd w 6 A l.length (MC l)
 fl : ∀ x ∈ l, Rd w 1 x.A x.m.flags.length (SB x.m.flags) ∧ x.m.flags.length ≤ x.c
theorem RawM.frm {w w' : World} {A : Option Addr} {l : List Mc} (h : RawM w A l) (k : Frm [] w w') : RawM w' A l :=
 ⟨h.rd.frm k jp, fun x hx => ⟨(h.fl x hx).1.frm k jp, (h.fl x hx).2⟩⟩
theorem qX0 (l : List Mc) (m : Nat) (hm : m ≤ l.length) : (MC l).take (m * 6) = MC (l.take m) := by
 have e1 : MC l = MC (l.take m) ++ MC (l.drop m) := by rw [← oA, zbf]
 have e2 : (MC (l.take m)).length = m * 6 := by rw [nI, zk]; congr 1; omega
 rw [e1, zax jo, zt jo]
theorem RawM.take {w : World} {A : Option Addr} {l : List Mc} (h : RawM w A l) (m : Nat) : RawM w A (l.take m) := by
 refine ⟨?_, fun x hx => h.fl x (zdr hx)⟩
 rcases Nat.le_total m l.length with hm | hm
 ·
  have h1 := h.rd.cut (cap := l.length) (zah m) hm (zv _)
  rw [eL, zbr, Nat.zero_mul, zch, qX0 l m hm] at h1
  rw [zk, zal hm]
  exact h1
 rw [zt hm]
 exact h.rd
theorem RawM.elem {w : World} {A : Option Addr} {l : List Mc} {k : Nat} (h : RawM w A l) (hk : k < l.length) : ∃ ad, A = some ad ∧ ∀ j v, (l[k]).cells[j]? = some v → w.cell? ((ad.add (k * 6)).add j) = some v := by
 obtain ⟨ad, rfl, hc⟩ := h.rd.elem hk
 refine ⟨ad, rfl, fun j v hj => hc j v ?_⟩
 rw [fJ Mc.cells 6 Mc.cells_len l k hk]
 exact hj
def qQl (l : List MsgP) : List MsgP := (l.take 129).map fun m => { m with flags := eW m.flags }
theorem yJ {l : List Mc} {i : Nat} (h : i < (l.take 129).length) : (Ms ((l.take 129).take (i + 1))).map (fun m => { m with flags := eW m.flags }) = (Ms ((l.take 129).take i)).map (fun m => { m with flags := eW m.flags }) ++ [{ ((l.take 129)[i]).m with flags := eW ((l.take 129)[i]).m.flags }] := by
 rw [oP h, zbm]
 rfl
theorem vB (v n : Int) (A : Option Addr) (c : Nat) (l : List Mc) (w : World) (hl : RawM w A l) (hc : l.length ≤ c) : Calls Tryz.prog 44 #[.agg #[.int .i64 v, .int .i64 n, .slice A l.length c]] w fun e w' => Frm [] w w' ∧ ∃ B d l', e = .returned (.agg #[.int .i64 v, .int .i64 n, .slice B l'.length d]) ∧ OwM w' B d l' ∧ Ms l' = qQl (Ms l) ∧ l'.length ≤ 129 ∧ ∀ b ∈ ob B, w.heap.size ≤ b := by
 refine VC.calls (nt := 37) (res := #[.cell 2 43]) Tryz.func44 rfl Tryz.ntmps44 Tryz.results44 rfl ?_
 refine jS (jR ?_)
 refine Ops.m (qH.box rfl) rfl ?_
 rintro _ w1 ⟨rfl, hF1⟩
 have hb1 := hF1.blk
 have hf1 := hF1.frm
 have hs1 : w.heap.size ≤ w.heap.size := zv _
 generalize hg1 : w.heap.size = g1 at hb1 ⊢
 refine Ops.m (qH.alloc cP) rfl ?_
 rintro _ w2 ⟨rfl, hF2⟩
 have hb2 := hF2.blk
 have hb1 := hb1.frm hF2.frm jp
 have hf2 := hf1.trans hF2.frm jp
 have hs2 : w.heap.size ≤ w1.heap.size := hf1.size
 generalize hg2 : w1.heap.size = g2 at hb2 hs2 ⊢
 have hn12 : g1 < g2 := by rw [← hg2, ← hg1]; have := hF1.size; omega
 refine jO (jN (jv2 1 2 ?_))
 refine jS (jS (jR (jf rfl zw rfl zap (jl rfl zbd (hb1.cell 2) (je (Run.lenS rfl zaf) (jb rfl rfl (Bin.gtrN _ 129) (jO (jN (jv3 1 2 9 ?_)))))))))
 refine VC.meet (σ := Unit) (fun s => [(1, .pointer (some ⟨g1, 0, none⟩)), (2, .pointer (some ⟨g2, 0, none⟩))]) (fun s wm => Blk wm g1 43 (BVc v n A (l.take 129).length c).toArray ∧ Blk wm g2 43 (BVc 0 0 none 0 0).toArray ∧ Frm [] w wm) ?_ ?_
 ·
  refine jD rfl (fun hc1 => ?_) fun hc1 => ?_
  ·
   refine jR (jf rfl zw rfl zap (jl rfl zbd (hb1.cell 2) (je (Run.sliceS 0 129 rfl zaf zar evB.none_ (evB.some_ rfl) jo jo) (jf rfl zw rfl zap ?_))))
   refine Ops.st (qW.store rfl rfl zap hb1 rfl rfl) ?_
   rintro w3 ⟨hb13, hf3, hs3⟩
   have hlt : (l.take 129).length = 129 := by rw [zk]; omega
   have hb13 : Blk w3 g1 43 (BVc v n (dK A c 0 6) (129 - 0) (c - 0)).toArray := hb13
   rw [eL, zbr, zbr] at hb13
   have hb23 := hb2.frm hf3 (by simp; omega)
   have hfr3 := hf2.own hf3 (fun y hy => by simp at hy; omega)
   refine jO ?_
   refine jN ⟨(), (js2 rfl rfl), ?_⟩
   exact ⟨by rw [hlt]; exact hb13, hb23, hfr3⟩
  refine jQ ?_
  refine jN ⟨(), (js2 rfl rfl), ?_⟩
  have hlt : (l.take 129).length = l.length := by rw [zk]; omega
  exact ⟨by rw [hlt]; exact hb1, hb2, hf2⟩
 rintro _ w3 ⟨hb1, hb2, hf3⟩ Γ hΓ
 have hlt := hl.take 129
 have hlt129 : (l.take 129).length ≤ 129 := by rw [zk]; omega
 refine jN (VC.sub _ hΓ (jS (jR (ja rfl (jO (jN (jS (jS (jR (jz 0 (jO (jN (jB ?_)))))))))))))
 refine VC.loop (σ := Nat × Option Addr × Nat × List Mc) (fun s => [(1, .pointer (some ⟨g1, 0, none⟩)), (2, .pointer (some ⟨g2, 0, none⟩)), (3, .slice s.2.1 s.2.2.2.length s.2.2.1), (4, .int .i64 ((s.1 : Nat) : Int))]) (fun s wr => s.1 ≤ (l.take 129).length ∧ OwM wr s.2.1 s.2.2.1 s.2.2.2 ∧ Ms s.2.2.2 = (Ms ((l.take 129).take s.1)).map (fun m => { m with flags := eW m.flags }) ∧ (∀ b ∈ ob s.2.1, w3.heap.size ≤ b) ∧ Frm [] w3 wr) (fun s => (l.take 129).length - s.1) (0, none, 0, []) (js4 rfl rfl rfl rfl) ⟨jo, OwM.nil _, rfl, by simp [ob], Frm.refl _ _⟩ ?_
 rintro ⟨i, B, d, l'⟩ wr ⟨hi, hown, hms, hge, hfr⟩
 dsimp only at hi hown hms hge ⊢
 have hll : l'.length = i := by
  have h := congrArg List.length hms
  simp only [Ms, zaj, zk (i := i)] at h
  omega
 have hb1r := hb1.frm hfr jp
 refine jS (jS (jR (jm rfl (jf rfl zw rfl zap (jl rfl zbd (hb1r.cell 2) (je (Run.lenS rfl zaf) (jb rfl rfl (Bin.lssN _ _) (jO (jN (jv5 1 2 3 4 18 ?_))))))))))
 refine jD rfl (fun hc2 => ?_) fun hc2 => ?_
 ·
  obtain ⟨ad, rfl, hcell⟩ := (hlt.frm (hf3.trans hfr jp)).elem hc2
  have hxa := (hlt.frm (hf3.trans hfr jp)).fl ((l.take 129)[i]) (zm hc2)
  have hmt := yJ hc2
  generalize hx : (l.take 129)[i] = x at *
  refine jQ (jN (jv4 1 2 3 4 ?_))
  refine jS (jB (jS (jR (jf rfl zw rfl zap (jl rfl zbd (hb1r.cell 2) (jm rfl (je (Run.indexS i rfl rfl zaf zar hc2) (je (Run.loadA rfl zdx zar hcell (by first | rfl | (simp; done))) ?_))))))))
  refine Ops.m (qH.alloc fP) rfl ?_
  rintro _ w4 ⟨rfl, hF4⟩
  have hb4 := hF4.blk
  have hf4 := hF4.frm
  have hsz4 : wr.heap.size ≤ wr.heap.size := zv _
  have hfs := hfr.size
  generalize hg4 : wr.heap.size = g4 at hb4 hsz4 hfs ⊢
  refine Ops.st (qW.storeA rfl rfl zar hb4 rfl x.cells_one) ?_
  rintro w5 ⟨hb5, hf5, hs5⟩
  have hfr5 : Frm [] wr w5 := hf4.own hf5 (fun y hy => by simp at hy; omega)
  refine jO (jN (jv5 1 2 3 4 5 ?_))
  refine jS (jR (jf rfl zak rfl zam (jl rfl zbb (hb5.cell 5) ?_)))
  refine Ops.cl (jE1 Tryz.call34) (vU x.A x.c x.m.flags _ hxa.2 (hxa.1.frm hfr5 jp)) rfl ?_
  rintro e w6 ⟨hf6, C, dC, rfl, hownC, hgeC⟩
  refine ⟨_, rfl, ?_⟩
  have hfr6 := hfr5.trans hf6 jp
  have hb56 := hb5.frm hf6 jp
  have hff := vT x.m.flags
  refine jf rfl zak rfl zam ?_
  refine Ops.st (qW.store rfl rfl zam hb56 rfl rfl) ?_
  rintro w7 ⟨hb7, hf7, hs7⟩
  have hb7 : Blk w7 g4 60 (⟨{ x.m with flags := eW x.m.flags }, C, dC⟩ : Mc).cells.toArray := hb7
  have hownC7 := hownC.frm hf7 (fun y hy => by have := hownC.ne_blk hb56 jd; simp; rintro rfl; exact this hy)
  have hfr7 : Frm [] wr w7 := hfr6.own hf7 (fun y hy => by simp at hy; omega)
  refine jO (jN (jv5 1 2 3 4 5 ?_))
  refine jR (jm rfl (je (Run.loadA rfl zdx zar (fun j v hj => hb7.cells j v hj) (by first | rfl | (simp; done))) ?_))
  refine Ops.m (qH.buildS1 rfl zaf zar fP jd jd rfl rfl) rfl ?_
  rintro _ w8 ⟨rfl, hF8⟩
  have hfr8 := hfr7.trans hF8.frm jp
  have hown8 := hown.frm hfr8
  have hownC8 := hownC7.frm hF8.frm jp
  refine Ops.m (qH.app rfl rfl zaf (wI) rfl jd hown8.own (hrdM (x := ⟨{ x.m with flags := eW x.m.flags }, C, dC⟩) hF8) (nZ Mc.cells Mc.cells_one _) jo jo) rfl ?_
  rintro _ w9 ⟨A9, c9, rfl, hown9, hf9, hob9⟩
  rw [← oA] at hown9
  have hge9 := pC hge hob9 (zay hfr.size hfr8.size)
  have hfr9 := (hfr.trans hfr8 jp).own hf9 hge
  have hM9 := hown8.put (x := ⟨{ x.m with flags := eW x.m.flags }, C, dC⟩) (by simpa using hown9) hf9 hownC8 ⟨by have := hff.1; dsimp only; omega, fun q hq => by have := hff.2 q hq; omega⟩
  refine ja rfl (jO ?_)
  refine qN (jN ?_)
  refine jv4 1 2 3 4 ?_
  refine jR (jm rfl (jb rfl rfl (Bin.add_i64 _ 1 jo) (ja rfl (jO ?_))))
  refine jN ⟨(i + 1, A9, c9, l' ++ [⟨{ x.m with flags := eW x.m.flags }, C, dC⟩]), (js4 rfl rfl (by rw [zl]; rfl) rfl), ?_, ?_⟩
  · exact ⟨hc2, hM9, by rw [hmt, ← hms]; simp [Ms], hge9, hfr9⟩
  first | omega | (dsimp only; omega)
 refine jX ?_
 refine qK (qK (qS ?_))
 refine jN (jv3 1 2 3 ?_)
 refine jS (jR (jm rfl (jf rfl zw rfl zap ?_)))
 refine Ops.st (qW.store rfl rfl zap hb1r rfl rfl) ?_
 rintro w10 ⟨hb110, hf10, hs10⟩
 have hb110 : Blk w10 g1 43 (BVc v n B l'.length d).toArray := hb110
 have hb210 := (hb2.frm hfr jp).frm hf10 (by simp; omega)
 have hM10 := hown.blk hf10 hb1r jd jd
 have hfr10 := (hf3.trans hfr jp).own hf10 (fun y hy => by simp at hy; omega)
 refine jO (jN (jv2 1 2 ?_))
 refine jS (jR (je (Run.loadA rfl zat zp (fun j v hj => hb110.cells j v hj) (by first | rfl | (simp; done))) ?_))
 refine Ops.st (qW.storeA rfl rfl zp hb210 rfl (cW _ _ _ _ _)) ?_
 rintro w11 ⟨hb211, hf11, hs11⟩
 have hM11 := hM10.blk hf11 hb210 jd jd
 have hfr11 := hfr10.own hf11 (fun y hy => by simp at hy; omega)
 refine jO (jN (jv1 2 ?_))
 refine jT ?_
 refine bM ?_
 refine qC rfl zat zp (fun j v hj => hb211.cells j v hj) (by first | rfl | (simp; done)) ?_
 refine qI ?_
 have hil : i = (l.take 129).length := jo
 rw [hil, zaw] at hms
 refine ⟨hfr11, B, d, l', rfl, hM11, ?_, jo, fun b hb => by have := hge b hb; have := hf3.size; omega⟩
 rw [hms]
 unfold qQl
 simp only [Ms, zdo]
end
section
open Go.RowKit
def m0 (b : Nat) : MsgP := ⟨0, 0, 0, 0, b, []⟩
def m1 (u : Int) (b : Nat) (f : List Tx) : MsgP := ⟨u, 0, 0, 0, b, f⟩
end
section
open Go.RowKit Go.ChangeShapes Go.WideShapes Go.Deep
section
variable {H : Type} {enc : TypeId × Value → H} {w : World} {base : Nat} {spare : Nat → Bool} {held : Bool}
theorem qQm {n : Nat} {cs : List Value} {x : DataW H × List MemPlace} (h : DataW.trod enc Tryz.prog w base spare held n 60 cs = some x) :
  ∃ y : Mc, cs = y.cells ∧ Rd w 1 y.A y.m.flags.length (SB y.m.flags) ∧ y.m.flags.length ≤ y.c := by
 obtain ⟨xs, n', _, _, hlen, hxl, hf⟩ := DataW.trod_struct zak h
 have hl : cs.length = 6 := hlen.trans jK
 obtain ⟨a0, a1, a2, a3, a4, a5, rfl⟩ : ∃ a0 a1 a2 a3 a4 a5, cs = [a0, a1, a2, a3, a4, a5] := by
  match cs, hl with
  | [a0, a1, a2, a3, a4, a5], _ => exact ⟨a0, a1, a2, a3, a4, a5, rfl⟩
 have hget : ∀ i, i < 5 → ∃ y, xs[i]? = some y := fun i hi => ⟨xs[i]'(by rw [hxl]; exact hi), ze _⟩
 have h0 := hf 0 _ rfl
 have h1 := hf 1 _ rfl
 have h2 := hf 2 _ rfl
 have h3 := hf 3 _ rfl
 have h4 := hf 4 _ rfl
 obtain ⟨y0, e0⟩ := hget 0 jd
 obtain ⟨y1, e1⟩ := hget 1 jd
 obtain ⟨y2, e2⟩ := hget 2 jd
 obtain ⟨y3, e3⟩ := hget 3 jd
 obtain ⟨y4, e4⟩ := hget 4 jd
 rw [e0] at h0
 rw [e1] at h1
 rw [e2] at h2
 rw [e3] at h3
 rw [e4] at h4
 have c1 : Tryz.prog.cellsOf 3 = 1 := by kernel_rfl
 have c2 : Tryz.prog.cellsOf 58 = 2 := by kernel_rfl
 have c3 : Tryz.prog.cellsOf 40 = 1 := by kernel_rfl
 have c4 : Tryz.prog.cellsOf 23 = 1 := by kernel_rfl
 have h0 : DataW.trod enc Tryz.prog w base spare held n' 3 ([a0, a1, a2, a3, a4, a5].take (Tryz.prog.cellsOf 3)) = some y0 := h0
 have h1 : DataW.trod enc Tryz.prog w base spare held n' 58 ([a1, a2, a3, a4, a5].take (Tryz.prog.cellsOf 58)) = some y1 := h1
 have h2 : DataW.trod enc Tryz.prog w base spare held n' 3 ([a3, a4, a5].take (Tryz.prog.cellsOf 3)) = some y2 := h2
 have h3 : DataW.trod enc Tryz.prog w base spare held n' 40 ([a4, a5].take (Tryz.prog.cellsOf 40)) = some y3 := h3
 have h4 : DataW.trod enc Tryz.prog w base spare held n' 23 ([a5].take (Tryz.prog.cellsOf 23)) = some y4 := h4
 rw [c1] at h0 h2
 rw [c2] at h1
 rw [c3] at h3
 rw [c4] at h4
 obtain ⟨z0, g0, _⟩ := DataW.trod_int zad h0
 obtain ⟨z2, g2, _⟩ := DataW.trod_int zad h2
 obtain ⟨z3, g3, _, w3⟩ := DataW.trod_int zfa h3
 obtain ⟨xd, nd, _, _, _, hxd, hfd⟩ := DataW.trod_struct zcu h1
 have d0 := hfd 0 _ rfl
 have d1 := hfd 1 _ rfl
 have hgd : ∀ i, i < 2 → ∃ y, xd[i]? = some y := fun i hi => ⟨xd[i]'(by rw [hxd]; exact hi), ze _⟩
 obtain ⟨u0, f0⟩ := hgd 0 jd
 obtain ⟨u1, f1⟩ := hgd 1 jd
 rw [f0] at d0
 rw [f1] at d1
 have c5 : Tryz.prog.cellsOf 2 = 1 := by kernel_rfl
 have d0 : DataW.trod enc Tryz.prog w base spare held nd 2 ([a1, a2].take (Tryz.prog.cellsOf 2)) = some u0 := d0
 have d1 : DataW.trod enc Tryz.prog w base spare held nd 3 ([a2].take (Tryz.prog.cellsOf 3)) = some u1 := d1
 rw [c5] at d0
 rw [c1] at d1
 obtain ⟨zs, gs, _⟩ := DataW.trod_int Tryz.underlying2 d0
 obtain ⟨zz, gz, _⟩ := DataW.trod_int zad d1
 simp only [zcy, zdw, List.cons.injEq, and_true] at g0 g2 g3 gs gz
 subst g0 g2 g3 gs gz
 have h4 : DataW.trod enc Tryz.prog w base spare held n' 23 [a5] = some y4 := h4
 have hv : ∃ A l c, a5 = .slice A l c := by
  rcases open_slice1 zj jK h4 with ⟨hcs, _⟩ | ⟨ad, l, c, _, _, _, _, _, hcs, _⟩
  · exact ⟨_, _, _, by simpa using hcs⟩
  exact ⟨_, _, _, by simpa using hcs⟩
 obtain ⟨A, len, c, rfl⟩ := hv
 obtain ⟨fl, rfl, hlc, _, hrd⟩ := qZn zj zo jK h4
 have hz3 := bounds_u64 w3
 refine ⟨⟨⟨z0, zs, zz, z2, z3.toNat, fl⟩, A, c⟩, ?_, hrd, hlc⟩
 simp only [Mc.cells]
 rw [Int.toNat_of_nonneg hz3.1]
theorem qX1 {fuel len cap : Nat} {a : Option Addr} {x : DataW H × List MemPlace} (h : DataW.trod enc Tryz.prog w base spare held fuel 41 [.slice a len cap] = some x) :
  ∃ l : List Mc, l.length = len ∧ len ≤ cap ∧ cap ≤ 9223372036854775807 ∧ RawM w a l := by
 have hC : Tryz.prog.cellsOf 60 = 6 := by kernel_rfl
 rcases open_slice zaf h with ⟨hcs, _⟩ | ⟨ad, l, c, m, n, D, Pl, hcs, _, hl, hm, hmm, _, hi⟩
 ·
  simp only [List.cons.injEq, Value.slice.injEq, and_true] at hcs
  obtain ⟨rfl, rfl, rfl⟩ := hcs
  exact ⟨[], rfl, zv _, jo, Rd.nil _ _ _, jp⟩
 simp only [List.cons.injEq, Value.slice.injEq, and_true] at hcs
 obtain ⟨rfl, rfl, rfl⟩ := hcs
 have hml : len ≤ m := by rw [hmm]; split <;> omega
 rw [hC] at hi
 have key : ∀ i, i < len → ∃ y : Mc, (∀ j, j < 6 → w.cell? ((ad.add (i * 6)).add j) = y.cells[j]?) ∧ Rd w 1 y.A y.m.flags.length (SB y.m.flags) ∧ y.m.flags.length ≤ y.c := by
  intro i hil
  obtain ⟨cs', hc, ht'⟩ := hi i jo
  obtain ⟨_, hcl, hat⟩ := World.cells?_some hc
  obtain ⟨y, rfl, h1, h2⟩ := qQm ht'
  exact ⟨y, fun j hj => hat j hj, h1, h2⟩
 obtain ⟨ls, hll, hq⟩ := fM len key
 have hcell : ∀ j u, (MC ls)[j]? = some u → w.cell? (ad.add j) = some u := by
  intro j u hu
  rw [show MC ls = ls.flatMap Mc.cells from rfl, fI Mc.cells 6 jo Mc.cells_len] at hu
  obtain ⟨y, hy, hu'⟩ := Option.bind_eq_some_iff.1 hu
  have := (hq _ y hy).1 (j % 6) (Nat.mod_lt _ jo)
  rw [Go.Proofs.YtgmbmfpfhcekiaaGreat.add_add, Nat.mul_comm, Nat.div_add_mod] at this
  rw [this, hu']
 refine ⟨ls, hll, hl, by simpa [maxLen] using hm, ⟨by rw [nI], fun hn => ⟨ad, rfl, ?_, hcell⟩⟩, fun y hy => ?_⟩
 ·
  have h0 : 0 < (MC ls).length := by rw [nI]; omega
  have := World.block_lt_of_cell? w _ (hcell 0 _ (ze h0))
  rwa [eS] at this
 obtain ⟨i, hi', hli⟩ := zu hy
 exact (hq i y (by rw [ze hi', hli])).2
end
end
section
open Go.RowKit Go.Sort
def fewB (l : List MsgP) : List MsgP := qQl (if 20 < l.length ∧ l.length ≤ 128 then l.take 20 else l)
def lS (x : NmP) : NmP := (x.1.take 70, ⟨x.2.valid, x.2.next, fewB x.2.l⟩)
def qQn (m : MailP) : MailP := ⟨(m.l.take 25).map lS, (m.subs.take 25).map (fun s => s.take 70), m.valid, m.blob⟩
structure RawL (w : World) (m : MlC) : Prop where
 l : Rd w 4 m.A m.l.length (NDC m.l)
 el : ∀ x ∈ m.l, RawM w x.A x.l ∧ x.l.length ≤ x.c
 s : Rd w 1 m.S m.ss.length (SB m.ss)
 lc : m.l.length ≤ m.c
 sc : m.ss.length ≤ m.d
theorem RawL.frm {w w' : World} {m : MlC} (h : RawL w m) (k : Frm [] w w') : RawL w' m := ⟨h.l.frm k jp, fun x hx => ⟨(h.el x hx).1.frm k, (h.el x hx).2⟩, h.s.frm k jp, h.lc, h.sc⟩
theorem RawL.takeL {w : World} {m : MlC} (h : RawL w m) (k : Nat) : Rd w 4 m.A (m.l.take k).length (NDC (m.l.take k)) := by
 rcases Nat.le_total k m.l.length with hm | hm
 ·
  have h1 := h.l.cut (cap := m.l.length) (zah k) hm (zv _)
  rw [eL, zbr, Nat.zero_mul, zch, gJ m.l k hm] at h1
  rw [zk, zal hm]
  exact h1
 rw [zt hm]
 exact h.l
theorem RawL.takeS {w : World} {m : MlC} (h : RawL w m) (k : Nat) : Rd w 1 m.S (m.ss.take k).length (SB (m.ss.take k)) := by
 rcases Nat.le_total k m.ss.length with hm | hm
 ·
  have h1 := h.s.cut (cap := m.ss.length) (zah k) hm (zv _)
  rw [eL, zbr, Nat.zero_mul, zch, zbj, show (SB m.ss).take k = SB (m.ss.take k) by simp [SB, zdo]] at h1
  rw [zk, zal hm]
  exact h1
 rw [zt hm]
 exact h.s
theorem qX2 {w : World} {A : Option Addr} {l : List Nc} {k : Nat} (h : Rd w 4 A l.length (NDC l)) (hk : k < l.length) : ∃ ad, A = some ad ∧ ∀ W, Frm [] w W → ∀ j v, (l[k]).cells[j]? = some v → W.cell? ((ad.add (k * 4)).add j) = some v := by
 obtain ⟨ad, rfl, hc⟩ := h.elem hk
 refine ⟨ad, rfl, fun W hW j v hj => ?_⟩
 obtain ⟨ad', e, hc'⟩ := (h.frm hW jp).elem hk
 cases e
 exact hc' j v (by rw [fJ Nc.cells 4 Nc.cells_len l k hk]; exact hj)
theorem OwM.offO {w w' : World} {A B : Option Addr} {d size n c : Nat} {l : List Mc} {e : TypeId} {xs : List Value} (h : OwM w A d l) (k : Frm (ob B) w w') (hB : Own w e size B n c xs) (h1 : 60 ≠ e) (h2 : 9 ≠ e) : OwM w' A d l :=
 ⟨h.own.frm k (fun y hy => h.own.ne_own hB h1 y hy), fun x hx => (h.fl x hx).frm k (fun y hy => (h.fl x hx).ne_own hB h2 y hy), h.fit⟩
theorem OwM.at27 {w : World} {x : Nc} (h : OwM w x.A x.c x.l) (h1 : x.l.length ≤ 129) (h2 : x.nm.length ≤ 70) : x.At w := ⟨h.rdm, jo, jo⟩
structure OwL (w : World) (m : MlC) : Prop where
 l : Own w 45 4 m.A m.l.length m.c (NDC m.l)
 el : ∀ x ∈ m.l, OwM w x.A x.c x.l ∧ x.l.length ≤ 129 ∧ x.nm.length ≤ 70
 s : Own w 9 1 m.S m.ss.length m.d (SB m.ss)
 ln : m.l.length ≤ 25
 sn : m.ss.length ≤ 25
 sq : ∀ q ∈ m.ss, q.length ≤ 70
theorem OwL.frm {w w' : World} {m : MlC} (h : OwL w m) (k : Frm [] w w') : OwL w' m := ⟨h.l.frm k jp, fun x hx => ⟨(h.el x hx).1.frm k, (h.el x hx).2⟩, h.s.frm k jp, h.ln, h.sn, h.sq⟩
theorem OwL.rdl {w : World} {m : MlC} (h : OwL w m) : RdL w m := ⟨⟨h.l.rd, fun x hx => (h.el x hx).1.at27 (h.el x hx).2.1 (h.el x hx).2.2⟩, h.s.rd, h.l.le, h.s.le, by have := h.ln; omega, by have := h.sn; omega, fun q hq => by have := h.sq q hq; omega⟩
theorem OwL.blk {w w' : World} {m : MlC} {g : Nat} {t : TypeId} {cs : Array Value} (h : OwL w m) (k : Frm [g] w w') (hb : Blk w g t cs) (h0 : 45 ≠ t) (h1 : 60 ≠ t) (h2 : 9 ≠ t) : OwL w' m :=
 ⟨h.l.frm k (fun y hy h' => by rw [za] at h'; subst h'; exact h.l.ne_blk hb h0 hy), fun x hx => ⟨(h.el x hx).1.blk k hb h1 h2, (h.el x hx).2⟩, h.s.frm k (fun y hy h' => by rw [za] at h'; subst h'; exact h.s.ne_blk hb h2 hy), h.ln, h.sn, h.sq⟩
theorem qZp {w : World} {A : Option Addr} {l : List Tx} {k : Nat} (h : Rd w 1 A l.length (SB l)) (hk : k < l.length) : ∃ ad, A = some ad ∧ w.cell? ((ad.add (k * 1)).add 0) = some (encStr l[k]) := by
 obtain ⟨ad, hA, hc⟩ := h.elem hk
 exact ⟨ad, hA, hc 0 _ (by simp [SB, ze hk])⟩
theorem kO {α β : Type} (f : α → β) {l : List α} {i : Nat} (h : i < l.length) : (l.take (i + 1)).map f = (l.take i).map f ++ [f l[i]] := by rw [zao, ze h, zbm]; rfl
set_option maxHeartbeats 1000000 in
theorem vC (m : MlC) (w : World) (hm : RawL w m) : Calls Tryz.prog 11 #[m.val] w fun e w' => ∃ m' : MlC, e = .returned m'.val ∧ m'.p = qQn m.p ∧ OwL w' m' ∧ m'.b = m.b ∧ (∀ x ∈ m'.l, ∀ b ∈ ob x.A, w.heap.size ≤ b) ∧ Frm [] w w' := by
 have hlc := hm.lc
 have hsc := hm.sc
 refine VC.calls (nt := 85) (res := #[.cell 2 25]) Tryz.func11 rfl Tryz.ntmps11 Tryz.results11 rfl ?_
 refine jS (jR ?_)
 refine Ops.m (qH.box rfl) rfl ?_
 rintro _ w1 ⟨rfl, hF_w1⟩
 have hb1 : Blk w1 w.heap.size 25 #[.slice m.A m.l.length m.c, .slice m.S m.ss.length m.d, .int .i64 m.v, .int .i64 m.b] := hF_w1.blk
 have K := hF_w1.frm
 generalize hg1 : w.heap.size = g1 at hb1 ⊢
 refine Ops.m (qH.alloc bQ) rfl ?_
 rintro _ w2 ⟨rfl, hF2⟩
 have hb4 := hF2.blk
 have hg4 : w.heap.size ≤ w1.heap.size := K.size
 have hb1 := hb1.frm hF2.frm jp
 have hl1 := hb1.lt
 have hl4 := hb4.lt
 have K := K.trans hF2.frm jp
 have hne14 : g1 ≠ w1.heap.size := by have := hF_w1.size; omega
 have hg1s : w.heap.size ≤ g1 := jo
 generalize hg4' : w1.heap.size = g4 at hb4 hg4 hne14 hl4 ⊢
 refine jO (jN (jv2 1 2 ?_))
 refine jS (jS (jR (jf rfl zg rfl zab (jl rfl zan (hb1.cell 0) (je (Run.lenS rfl zf) (jb rfl rfl (Bin.gtrN _ 25) (jO (jN (jv3 1 2 11 ?_)))))))))
 refine VC.meet (σ := Unit) (fun s => [(1, .pointer (some ⟨g1, 0, none⟩)), (2, .pointer (some ⟨g4, 0, none⟩))]) (fun s wm => Blk wm g1 25 #[.slice m.A (m.l.take 25).length m.c, .slice m.S m.ss.length m.d, .int .i64 m.v, .int .i64 m.b] ∧ Blk wm g4 25 qR.cells.toArray ∧ Frm [] w wm) ?_ ?_
 ·
  refine jD rfl (fun hc1 => ?_) fun hc1 => ?_
  ·
   refine jR (jf rfl zg rfl zab (jl rfl zan (hb1.cell 0) (je (Run.sliceS 0 25 rfl zf zn evB.none_ (evB.some_ rfl) jo jo) (jf rfl zg rfl zab ?_))))
   refine Ops.st (qW.store rfl rfl zab hb1 rfl rfl) ?_
   rintro w3 ⟨hbn, (hfw3 : Frm [g1] _ _), hsw3⟩
   have hlt : (m.l.take 25).length = 25 := by rw [zk]; omega
   have hbn : Blk w3 g1 25 #[.slice (dK m.A m.c 0 4) (25 - 0) (m.c - 0), .slice m.S m.ss.length m.d, .int .i64 m.v, .int .i64 m.b] := hbn
   rw [eL, zbr, zbr] at hbn
   have hb1 : Blk w3 g1 25 #[.slice m.A (m.l.take 25).length m.c, .slice m.S m.ss.length m.d, .int .i64 m.v, .int .i64 m.b] := by rw [hlt]; exact hbn
   have hb4 := hb4.frm hfw3 (by simp; omega)
   have K := K.own hfw3 (fun y hy => by rw [za] at hy; omega)
   refine jO ?_
   refine jN ⟨(), (js2 rfl rfl), ?_⟩
   exact ⟨hb1, hb4, K⟩
  refine jQ ?_
  refine jN ⟨(), (js2 rfl rfl), ?_⟩
  have hlt : (m.l.take 25).length = m.l.length := by rw [zk]; omega
  exact ⟨by rw [hlt]; exact hb1, hb4, K⟩
 rintro _ w3 ⟨hb1, hb4, K⟩ Γ hΓ
 refine jN (VC.sub _ hΓ (jS (jS (jR (jf rfl zg rfl zam (jl rfl zbb (hb1.cell 1) (je (Run.lenS rfl zj) (jb rfl rfl (Bin.gtrN _ 25) (jO (jN (jv3 1 2 19 ?_)))))))))))
 refine VC.meet (σ := Unit) (fun s => [(1, .pointer (some ⟨g1, 0, none⟩)), (2, .pointer (some ⟨g4, 0, none⟩))]) (fun s wm => Blk wm g1 25 #[.slice m.A (m.l.take 25).length m.c, .slice m.S (m.ss.take 25).length m.d, .int .i64 m.v, .int .i64 m.b] ∧ Blk wm g4 25 qR.cells.toArray ∧ Frm [] w wm) ?_ ?_
 ·
  refine jD rfl (fun hc2 => ?_) fun hc2 => ?_
  ·
   refine jR (jf rfl zg rfl zam (jl rfl zbb (hb1.cell 1) (je (Run.sliceS 0 25 rfl zj zx evB.none_ (evB.some_ rfl) jo jo) (jf rfl zg rfl zam ?_))))
   refine Ops.st (qW.store rfl rfl zam hb1 rfl rfl) ?_
   rintro w4 ⟨hbn, (hfw4 : Frm [g1] _ _), hsw4⟩
   have hst : (m.ss.take 25).length = 25 := by rw [zk]; omega
   have hbn : Blk w4 g1 25 #[.slice m.A (m.l.take 25).length m.c, .slice (dK m.S m.d 0 1) (25 - 0) (m.d - 0), .int .i64 m.v, .int .i64 m.b] := hbn
   rw [eL, zbr, zbr] at hbn
   have hb1 : Blk w4 g1 25 #[.slice m.A (m.l.take 25).length m.c, .slice m.S (m.ss.take 25).length m.d, .int .i64 m.v, .int .i64 m.b] := by rw [hst]; exact hbn
   have hb4 := hb4.frm hfw4 (by simp; omega)
   have K := K.own hfw4 (fun y hy => by rw [za] at hy; omega)
   refine jO ?_
   refine jN ⟨(), (js2 rfl rfl), ?_⟩
   exact ⟨hb1, hb4, K⟩
  refine jQ ?_
  refine jN ⟨(), (js2 rfl rfl), ?_⟩
  have hst : (m.ss.take 25).length = m.ss.length := by rw [zk]; omega
  exact ⟨by rw [hst]; exact hb1, hb4, K⟩
 rintro _ w4 ⟨hb1, hb4, K⟩ Γ hΓ
 have hRl := hm.takeL 25
 have hRs := hm.takeS 25
 have hRe : ∀ x ∈ m.l.take 25, RawM w x.A x.l ∧ x.l.length ≤ x.c := fun x hx => hm.el x (zdr hx)
 have hRn : (m.l.take 25).length ≤ 25 := zdh _ _
 have hRm : (m.ss.take 25).length ≤ 25 := zdh _ _
 obtain ⟨l, hl⟩ : ∃ l, l = m.l.take 25 := ⟨_, rfl⟩
 obtain ⟨ss, hss⟩ : ∃ ss, ss = m.ss.take 25 := ⟨_, rfl⟩
 rw [← hl] at hRl hRe hRn hb1
 rw [← hss] at hRs hRm hb1
 refine jN (VC.sub _ hΓ (jS (jR (ja rfl (jO (jN (jS (jS (jR (jz 0 (jO (jN (jB ?_)))))))))))))
 refine VC.loop (σ := Nat × Option Addr × Nat × List Nc) (fun s => [(1, .pointer (some ⟨g1, 0, none⟩)), (2, .pointer (some ⟨g4, 0, none⟩)), (3, .slice s.2.1 s.2.2.2.length s.2.2.1), (4, .int .i64 ((s.1 : Nat) : Int))]) (fun s wr => s.1 ≤ l.length ∧ Blk wr g1 25 #[.slice m.A l.length m.c, .slice m.S ss.length m.d, .int .i64 m.v, .int .i64 m.b] ∧ Blk wr g4 25 qR.cells.toArray ∧ Own wr 45 4 s.2.1 s.2.2.2.length s.2.2.1 (NDC s.2.2.2) ∧ (∀ x ∈ s.2.2.2, OwM wr x.A x.c x.l ∧ x.l.length ≤ 129 ∧ x.nm.length ≤ 70) ∧ Ns s.2.2.2 = ((l.take s.1).map Nc.p).map lS ∧ (∀ b ∈ ob s.2.1, w.heap.size ≤ b) ∧ (∀ x ∈ s.2.2.2, ∀ b ∈ ob x.A, w.heap.size ≤ b) ∧ Frm [] w wr) (fun s => l.length - s.1) (0, none, 0, []) (js4 rfl rfl rfl rfl) ⟨zah _, hb1, hb4, Own.nil _ _ _, jp, rfl, by simp [ob], jp, K⟩ ?_
 rintro ⟨i, B, d, l'⟩ wr ⟨hi, hb1, hb4, ho, hel', hns, hob, hfa, K⟩
 dsimp only at *
 have hll : l'.length = i := by
  have h := congrArg List.length hns
  rw [bD, zaj, zaj, zk] at h
  omega
 refine jS (jS (jR (jm rfl (jf rfl zg rfl zab (jl rfl zan (hb1.cell 0) (je (Run.lenS rfl zf) (jb rfl rfl (Bin.lssN _ _) (jO (jN (jv5 1 2 3 4 28 ?_))))))))))
 refine jD rfl (fun hc3 => ?_) fun hc3 => ?_
 ·
  obtain ⟨ad, had, hel⟩ := qX2 hRl hc3
  have hxr := hRe _ (zm hc3)
  have hts := kO (fun x : Nc => lS x.p) hc3
  generalize hx : l[i] = x at *
  refine jQ (jN (jv4 1 2 3 4 ?_))
  refine jS (jB (jS (jR (jf rfl zg rfl zab (jl rfl zan (hb1.cell 0) (jm rfl (je (Run.indexS i (show _ = some (Value.slice (some ad) l.length m.c) by rw [← had]; rfl) rfl zf zn hc3) (jf rfl zae rfl zp (je (Run.loadA rfl zat zp (cs := BVc x.v x.n x.A x.l.length x.c) (fun j v hj => by rw [Go.Proofs.YtgmbmfpfhcekiaaGreat.add_add]; exact hel _ K (1 + j) v (by rw [zdj]; exact hj)) (by first | rfl | (simp; done))) ?_)))))))))
  refine Ops.m (qH.alloc cP) rfl ?_
  rintro _ w5 ⟨rfl, hF5⟩
  have hb1 := hb1.frm hF5.frm jp
  have hb4 := hb4.frm hF5.frm jp
  have ho := ho.frm hF5.frm jp
  have hel' := fun x hx => show OwM w5 x.A x.c x.l ∧ x.l.length ≤ 129 ∧ x.nm.length ≤ 70 from ⟨(hel' x hx).1.frm hF5.frm, (hel' x hx).2⟩
  have hb5 := hF5.blk
  have hK5 := K.size
  have hl1 := hb1.lt
  have hl4 := hb4.lt
  have hne15 : g1 ≠ wr.heap.size := fun e => by have := hb1.ne hb5 jd; omega
  have hne45 : g4 ≠ wr.heap.size := fun e => by have := hb4.ne hb5 jd; omega
  have K := K.trans hF5.frm jp
  generalize hgg5 : wr.heap.size = g5 at hb5 hK5 hne15 hne45 ⊢
  have ho5 := ho.ne_blk hb5 jd
  have hb50 := hb5
  refine Ops.st (qW.storeA rfl rfl zp hb5 rfl (cW x.v x.n x.A x.l.length x.c)) ?_
  rintro w6 ⟨hb5, (hf6 : Frm [g5] _ _), hs6⟩
  have hb5 : Blk w6 g5 43 (BVc x.v x.n x.A x.l.length x.c).toArray := hb5
  have hb1 := hb1.frm hf6 (by simp; omega)
  have hb4 := hb4.frm hf6 (by simp; omega)
  have ho := ho.frm hf6 (fun y hy h => by rw [za] at h; subst h; exact ho5 hy)
  have hel' := fun x hx => show OwM w6 x.A x.c x.l ∧ x.l.length ≤ 129 ∧ x.nm.length ≤ 70 from ⟨(hel' x hx).1.blk hf6 hb50 jd jd, (hel' x hx).2⟩
  have K := K.own hf6 (fun y hy => by rw [za] at hy; omega)
  refine jO (jN (jv5 1 2 3 4 5 ?_))
  refine jS (jS ?_)
  refine VC.split1 [(1, _), (2, _), (3, _), (4, _), (5, _)] (js5 rfl rfl rfl rfl rfl) 46 (.bool (decide ((20 < x.l.length) ∧ (x.l.length ≤ 128)))) ?_ ?_
  ·
   by_cases hs0 : 20 < x.l.length
   ·
    refine jR (jf rfl zw rfl zap (jl rfl zbd (hb5.cell 2) (je (Run.lenS rfl zaf) (jb rfl rfl (Bin.gtrN _ 20) (jM ?_)))))
    refine jk (Run.fieldAddr rfl zw rfl zap jd) ?_
    refine jk (Run.load rfl zbd (hb5.cell 2)) ?_
    refine jk (Run.lenS rfl zaf) ?_
    refine jk (Run.bin rfl rfl (Bin.leqN _ 128)) ?_
    refine je (Run.pickT rfl rfl au) (jO ?_)
    refine jN ⟨(js6 (by rw [uX hs0]; rfl) rfl rfl rfl rfl rfl), rfl⟩
   refine jR (jf rfl zw rfl zap (jl rfl zbd (hb5.cell 2) (je (Run.lenS rfl zaf) (jb rfl rfl (Bin.gtrN _ 20) (jM ?_)))))
   refine jU ?_
   refine jU ?_
   refine jU ?_
   refine jU ?_
   refine je (Run.pickF rfl rfl au) (jO ?_)
   refine jN ⟨(js6 (by rw [uZ hs0]; rfl) rfl rfl rfl rfl rfl), rfl⟩
  intro Γ hΓ
  refine jN (VC.sub _ hΓ ?_)
  refine VC.meet (σ := List Mc) (fun s => [(1, .pointer (some ⟨g1, 0, none⟩)), (2, .pointer (some ⟨g4, 0, none⟩)), (3, .slice B l'.length d), (4, .int .i64 ((i : Nat) : Int)), (5, .pointer (some ⟨g5, 0, none⟩))]) (fun s wm => s = (if 20 < x.l.length ∧ x.l.length ≤ 128 then x.l.take 20 else x.l) ∧ s.length ≤ x.c ∧ Blk wm g5 43 (BVc x.v x.n x.A s.length x.c).toArray ∧ Blk wm g1 25 #[.slice m.A l.length m.c, .slice m.S ss.length m.d, .int .i64 m.v, .int .i64 m.b] ∧ Blk wm g4 25 qR.cells.toArray ∧ Own wm 45 4 B l'.length d (NDC l') ∧ (∀ x ∈ l', OwM wm x.A x.c x.l ∧ x.l.length ≤ 129 ∧ x.nm.length ≤ 70) ∧ Frm [] w wm) ?_ ?_
  ·
   refine jD rfl (fun hc4 => ?_) fun hc4 => ?_
   ·
    refine jR (jf rfl zw rfl zap (jl rfl zbd (hb5.cell 2) (je (Run.sliceS 0 20 rfl zaf zar evB.none_ (evB.some_ rfl) jo jo) (jf rfl zw rfl zap ?_))))
    have ho5 := ho.ne_blk hb5 jd
    have hb50 := hb5
    refine Ops.st (qW.store rfl rfl zap hb5 rfl rfl) ?_
    rintro w7 ⟨hbn, (hf7 : Frm [g5] _ _), hs7⟩
    have hlt : (x.l.take 20).length = 20 := by rw [zk]; omega
    have hbn : Blk w7 g5 43 (BVc x.v x.n (dK x.A x.c 0 6) (20 - 0) (x.c - 0)).toArray := hbn
    rw [eL, zbr, zbr] at hbn
    have hb5 : Blk w7 g5 43 (BVc x.v x.n x.A (x.l.take 20).length x.c).toArray := by rw [hlt]; exact hbn
    have hb1 := hb1.frm hf7 (by simp; omega)
    have hb4 := hb4.frm hf7 (by simp; omega)
    have ho := ho.frm hf7 (fun y hy h => by rw [za] at h; subst h; exact ho5 hy)
    have hel' := fun x hx => show OwM w7 x.A x.c x.l ∧ x.l.length ≤ 129 ∧ x.nm.length ≤ 70 from ⟨(hel' x hx).1.blk hf7 hb50 jd jd, (hel' x hx).2⟩
    have K7 := K.own hf7 (fun y hy => by rw [za] at hy; omega)
    refine jO ?_
    refine jN ⟨(x.l.take 20), (js5 rfl rfl rfl rfl rfl), ?_⟩
    exact ⟨by rw [if_pos (by first | exact hc4 | exact of_decide_eq_true hc4)], by rw [zk]; omega, hb5, hb1, hb4, ho, hel', K7⟩
   refine jQ ?_
   refine jN ⟨x.l, (js5 rfl rfl rfl rfl rfl), ?_⟩
   exact ⟨by rw [if_neg (by first | exact hc4 | exact of_decide_eq_false hc4)], hxr.2, hb5, hb1, hb4, ho, hel', K⟩
  rintro lx w8 ⟨hlx, hlc, hb5, hb1, hb4, ho, hel', K⟩ Γ hΓ
  have hxl : RawM w8.drew x.A lx := by
   have h := (hRe x (by rw [← hx]; exact zm hc3)).1.frm K.drew
   rw [hlx]
   split
   · exact h.take 20
   exact h
  have hnB1 := ho.ne_blk hb1 jd
  have hnB4 := ho.ne_blk hb4 jd
  have hnB5 := ho.ne_blk hb5 jd
  refine jN (VC.sub _ hΓ ?_)
  refine VC.held (fun W => Frm (ob B) w8 W) jK ?_
  have hS : Frm (ob B) w8 w8.drew := (Frm.refl _ _).drew
  have hS0 : Frm [] w8 w8.drew := (Frm.refl _ _).drew
  refine jH 0 rfl hS (fun w0 hw0 => Run.mv rfl) ?_
  refine jH 1 rfl hS (fun w0 hw0 => Run.fieldAddr rfl zg rfl zab jd) ?_
  refine jH 2 rfl hS (fun w0 hw0 => Run.load rfl zan ((hb1.frm hw0 hnB1).cell 0)) ?_
  refine jH 3 rfl hS (fun w0 hw0 => Run.mv rfl) ?_
  refine jH 4 rfl hS (fun w0 hw0 => Run.indexS i (show _ = some (Value.slice (some ad) l.length m.c) by rw [← had]; rfl) rfl zf zn hc3) ?_
  refine jH 5 rfl hS (fun w0 hw0 => Run.fieldAddr rfl zae rfl zx jd) ?_
  refine jH 6 rfl hS (fun w0 hw0 => Run.load rfl zac (hel _ (K.own hw0 hob) 0 (encStr x.nm) rfl)) ?_
  refine jH 8 rfl hS (fun w0 hw0 => Run.loadA rfl zat zp (fun j v hj => (hb5.frm hw0 hnB5).cells j v hj) (by first | rfl | (simp; done))) ?_
  refine qQ.cl 7 rfl jK (jE1 Tryz.call12) (fN x.nm _) trivial rfl rfl ?_
  rintro e _ ⟨rfl, rfl⟩
  refine ⟨_, rfl, hS, ?_⟩
  refine qQ.cl 9 rfl jK (jE1 Tryz.call44) (vB x.v x.n x.A x.c lx _ hxl hlc) trivial rfl rfl ?_
  rintro e w9 ⟨hf9, C, dC, lC, rfl, hoC, hMC, hCl, hCb⟩
  have hS0s := hS0.size
  have hS9 := hS.trans hf9 jp
  have hS09 := hS0.trans hf9 jp
  refine ⟨_, rfl, hS9, ?_⟩
  have hS := hS9
  have ho9 := ho.frm hS09 jp
  have hel9 := fun x hx => show OwM w9 x.A x.c x.l ∧ x.l.length ≤ 129 ∧ x.nm.length ≤ 70 from ⟨(hel' x hx).1.frm hS09, (hel' x hx).2⟩
  refine jH 10 rfl hS (fun w0 hw0 => Run.build (evs.cons rfl (evs.cons rfl evs.nil)) cE (fK).choose_spec.1 (fK).choose_spec.2 rfl) ?_
  refine qQ.m 11 rfl jK (qH.buildS1 rfl zf zn cE jd jd rfl rfl) trivial rfl rfl ?_
  rintro _ w10 ⟨rfl, hF10⟩
  have hr10 : Rd w10 4 (some ⟨w9.heap.size, 0, none⟩) 1 (NDC [⟨x.nm.take 70, x.v, x.n, C, dC, lC⟩]) := vQ (x := ⟨x.nm.take 70, x.v, x.n, C, dC, lC⟩) hF10
  have hS010 := hS09.trans hF10.frm jp
  have hS10 := hS.trans hF10.frm jp
  refine ⟨hS10, ?_⟩
  have hS := hS10
  have ho10 := ho9.frm hF10.frm jp
  have hel10 := fun x hx => show OwM w10 x.A x.c x.l ∧ x.l.length ≤ 129 ∧ x.nm.length ≤ 70 from ⟨(hel9 x hx).1.frm hF10.frm, (hel9 x hx).2⟩
  have hoC10 := hoC.frm hF10.frm
  have K10 := K.trans hS010 jp
  have hK10 := K10.size
  have hS90 := hS09.size
  have hK8 := K.size
  refine qQ.m 12 rfl jK (qH.app rfl rfl zf (hY) rfl jd ho10 hr10 (fY _) jo jo) trivial rfl rfl ?_
  rintro _ w11 ⟨B6, c6, rfl, ho6, hf6, hob6⟩
  rw [← cM] at ho6
  have hS11 := hS10.trans hf6 (fun y hy => .inl hy)
  refine ⟨hS11, ?_⟩
  have hS := hS11
  have hel11 : ∀ y ∈ l' ++ [⟨x.nm.take 70, x.v, x.n, C, dC, lC⟩], OwM w11 y.A y.c y.l ∧ y.l.length ≤ 129 ∧ y.nm.length ≤ 70 := fun y hy => by
   rcases List.mem_append.1 hy with h | h
   · exact ⟨(hel10 y h).1.offO hf6 ho10 jd jd, (hel10 y h).2⟩
   rw [za] at h
   subst h
   exact ⟨hoC10.offO hf6 ho10 jd jd, hCl, zdh _ _⟩
  have hob6 : ∀ b ∈ ob B6, w.heap.size ≤ b := fun b hb => by
   rcases hob6 with h | h
   · rw [h] at hb; exact hob b hb
   rw [h, za] at hb; omega
  have K11 := K10.own hf6 hob
  have hb1 := hb1.frm hS11 hnB1
  have hb4 := hb4.frm hS11 hnB4
  refine jH 13 rfl hS (fun w0 hw0 => Run.asg rfl) ?_
  refine qQ.done jK ?_
  refine qN (jN ?_)
  refine jv4 1 2 3 4 ?_
  refine jR (jm rfl (jb rfl rfl (Bin.add_i64 _ 1 jo) (ja rfl (jO ?_))))
  refine jN ⟨(i + 1, B6, c6, l' ++ [⟨x.nm.take 70, x.v, x.n, C, dC, lC⟩]), (js4 rfl rfl (by rw [zl]; rfl) rfl), ?_, ?_⟩
  ·
   refine ⟨hc3, hb1, hb4, by rw [zl]; exact ho6, hel11, ?_, hob6, fun y hy => ?_, K11⟩
   rotate_left
   ·
    rcases List.mem_append.1 hy with h | h
    · exact hfa y h
    rw [za] at h
    subst h
    exact fun b hb => by have := hCb b hb; have := hS90; have := hK8; omega
   rw [zdk] at hns
   rw [zdk]
   show Ns (l' ++ _) = List.map (fun x => lS (Nc.p x)) (l.take (i + 1))
   rw [hts]
   show (l' ++ _).map Nc.p = _
   rw [zbm]
   have hns' : l'.map Nc.p = List.map (fun x => lS (Nc.p x)) (l.take i) := hns
   rw [hns']
   congr 1
   show [Nc.p _] = [lS x.p]
   unfold Nc.p lS fewB
   dsimp only
   rw [hMC, hlx]
   congr 4
   have hml : (Ms x.l).length = x.l.length := by simp [Ms]
   rw [hml]
   split <;> simp [Ms]
  first | omega | (dsimp only; omega)
 obtain rfl : i = l.length := jo
 rw [zaw] at hns
 refine jX ?_
 refine qK (qK (qS ?_))
 refine jN (jv3 1 2 3 ?_)
 refine jS (jR (jm rfl (jf rfl zg rfl zab ?_)))
 have ho1 := ho.ne_blk hb1 jd
 have hb10 := hb1
 refine Ops.st (qW.store rfl rfl zab hb1 rfl rfl) ?_
 rintro w13 ⟨hb1, (hf13 : Frm [g1] _ _), hs13⟩
 have hb1 : Blk w13 g1 25 #[.slice B l'.length d, .slice m.S ss.length m.d, .int .i64 m.v, .int .i64 m.b] := hb1
 have hb4 := hb4.frm hf13 (by simp; omega)
 have ho := ho.frm hf13 (fun y hy h => by rw [za] at h; subst h; exact ho1 hy)
 have hel' := fun x hx => show OwM w13 x.A x.c x.l ∧ x.l.length ≤ 129 ∧ x.nm.length ≤ 70 from ⟨(hel' x hx).1.blk hf13 hb10 jd jd, (hel' x hx).2⟩
 have K := K.own hf13 (fun y hy => by rw [za] at hy; omega)
 refine jO (jN (jv2 1 2 ?_))
 refine jS (jR (ja rfl (jO (jN (jS (jS (jR (jz 0 (jO (jN (jB ?_)))))))))))
 refine VC.loop (σ := Nat × Option Addr × Nat × List Tx) (fun s => [(1, .pointer (some ⟨g1, 0, none⟩)), (2, .pointer (some ⟨g4, 0, none⟩)), (6, .slice s.2.1 s.2.2.2.length s.2.2.1), (7, .int .i64 ((s.1 : Nat) : Int))]) (fun s wr => s.1 ≤ ss.length ∧ Own wr 9 1 s.2.1 s.2.2.2.length s.2.2.1 (SB s.2.2.2) ∧ s.2.2.2 = (ss.take s.1).map (fun s => s.take 70) ∧ (∀ b ∈ ob s.2.1, w13.heap.size ≤ b) ∧ Frm [] w13 wr) (fun s => ss.length - s.1) (0, none, 0, []) (js4 rfl rfl rfl rfl) ⟨zah _, Own.nil _ _ _, rfl, by simp [ob], Frm.refl _ _⟩ ?_
 rintro ⟨k, C, e, s'⟩ wr ⟨hk, hos, hse, hoc, F⟩
 dsimp only at *
 have hsl : s'.length = k := by rw [hse, zaj, zk]; omega
 have hb1r := hb1.frm F jp
 have Kr := K.trans F jp
 refine jS (jS (jR (jm rfl (jf rfl zg rfl zam (jl rfl zbb (hb1r.cell 1) (je (Run.lenS rfl zj) (jb rfl rfl (Bin.lssN _ _) (jO (jN (jv5 1 2 6 7 70 ?_))))))))))
 refine jD rfl (fun hc5 => ?_) fun hc5 => ?_
 ·
  obtain ⟨ad2, had2, hcs⟩ := qZp (hRs.frm Kr jp) hc5
  have hts2 := kO (fun s : Tx => s.take 70) hc5
  generalize hq : ss[k] = q at *
  refine jQ (jN (jv4 1 2 6 7 ?_))
  refine jS (jB (jR (jm rfl (jf rfl zg rfl zam (jl rfl zbb (hb1r.cell 1) (jm rfl (je (Run.indexS k (show _ = some (Value.slice (some ad2) ss.length m.d) by rw [← had2]; rfl) rfl zj zx hc5) (jl rfl zac hcs ?_))))))))
  refine Ops.cl (jE1 Tryz.call12) (fN q _) rfl ?_
  rintro e _ ⟨rfl, rfl⟩
  refine ⟨_, rfl, ?_⟩
  refine Ops.m (qH.buildS1 rfl zj zx mX jd jd rfl rfl) rfl ?_
  rintro _ w14 ⟨rfl, hF14⟩
  have hr14 : Rd w14 1 (some ⟨wr.heap.size, 0, none⟩) 1 (SB [q.take 70]) := Rd.of_blk (n := 1) (size := 1) hF14.blk rfl
  have ho14 := hos.frm hF14.frm jp
  have F14 := F.trans hF14.frm jp
  have hFs := F14.size
  refine Ops.m (qH.app rfl rfl zj (nU) rfl jd ho14 hr14 (hZ _) jo jo) rfl ?_
  rintro _ w15 ⟨C6, e6, rfl, ho6, hf6, hob6⟩
  rw [← eT] at ho6
  have hob6 : ∀ b ∈ ob C6, w13.heap.size ≤ b := fun b hb => by
   rcases hob6 with h | h
   · rw [h] at hb; exact hoc b hb
   rw [h, za] at hb; omega
  have F15 := F14.own hf6 hoc
  refine ja rfl (jO ?_)
  refine qN (jN ?_)
  refine jv4 1 2 6 7 ?_
  refine jR (jm rfl (jb rfl rfl (Bin.add_i64 _ 1 jo) (ja rfl (jO ?_))))
  refine jN ⟨(k + 1, C6, e6, s' ++ [q.take 70]), (js4 rfl rfl (by rw [zl]; rfl) rfl), ?_, ?_⟩
  · exact ⟨hc5, by rw [zl]; exact ho6, by rw [hts2, hse], hob6, F15⟩
  first | omega | (dsimp only; omega)
 obtain rfl : k = ss.length := jo
 rw [zaw] at hse
 refine jX ?_
 refine qK (qK (qS ?_))
 refine jN (jv3 1 2 6 ?_)
 refine jS (jR (jm rfl (jf rfl zg rfl zam ?_)))
 have ho := ho.frm F jp
 have hb4 := hb4.frm F jp
 have hel' := fun x hx => show OwM wr x.A x.c x.l ∧ x.l.length ≤ 129 ∧ x.nm.length ≤ 70 from ⟨(hel' x hx).1.frm F, (hel' x hx).2⟩
 have ho1 := ho.ne_blk hb1r jd
 have hs1 := hos.ne_blk hb1r jd
 refine Ops.st (qW.store rfl rfl zam hb1r rfl rfl) ?_
 rintro w16 ⟨hb1, (hf16 : Frm [g1] _ _), hs16⟩
 have hb1 : Blk w16 g1 25 (⟨B, d, l', C, e, s', m.v, m.b⟩ : MlC).cells.toArray := hb1
 have hb4 := hb4.frm hf16 (by simp; omega)
 have ho := ho.frm hf16 (fun y hy h => by rw [za] at h; subst h; exact ho1 hy)
 have hos := hos.frm hf16 (fun y hy h => by rw [za] at h; subst h; exact hs1 hy)
 have hel' := fun x hx => show OwM w16 x.A x.c x.l ∧ x.l.length ≤ 129 ∧ x.nm.length ≤ 70 from ⟨(hel' x hx).1.blk hf16 hb1r jd jd, (hel' x hx).2⟩
 have K := Kr.own hf16 (fun y hy => by rw [za] at hy; omega)
 refine jO (jN (jv2 1 2 ?_))
 refine jS (jR (je (Run.loadA rfl zi zb (hb1.cells) (by first | rfl | (simp; done))) ?_))
 have ho4 := ho.ne_blk hb4 jd
 have hs4 := hos.ne_blk hb4 jd
 have hb40 := hb4
 refine Ops.st (qW.storeA rfl rfl zb hb4 rfl (MlC.cells_one _)) ?_
 rintro w17 ⟨hb17, (hf17 : Frm [g4] _ _), hs17⟩
 have ho := ho.frm hf17 (fun y hy h => by rw [za] at h; subst h; exact ho4 hy)
 have hos := hos.frm hf17 (fun y hy h => by rw [za] at h; subst h; exact hs4 hy)
 have hel' := fun x hx => show OwM w17 x.A x.c x.l ∧ x.l.length ≤ 129 ∧ x.nm.length ≤ 70 from ⟨(hel' x hx).1.blk hf17 hb40 jd jd, (hel' x hx).2⟩
 have K := K.own hf17 (fun y hy => by rw [za] at hy; omega)
 refine jO (jN (jv1 2 ?_))
 refine jT ?_
 refine bM ?_
 refine qC rfl zi zb (fun j v hj => hb17.cells j v hj) (by first | rfl | (simp; done)) ?_
 refine qI ?_
 refine ⟨⟨B, d, l', C, e, s', m.v, m.b⟩, rfl, ?_, ⟨ho, hel', hos, by dsimp only; omega, by dsimp only; omega, fun q hq => ?_⟩, rfl, fun x hx b hb => hg1 ▸ hfa x hx b hb, K⟩
 ·
  show MailP.mk (Ns l') s' m.v m.b = qQn m.p
  unfold qQn
  congr 1
  ·
   rw [hns, hl]
   show _ = ((m.l.map Nc.p).take 25).map lS
   rw [zdo]
  rw [hse, hss]
  rfl
 dsimp only at hq
 rw [hse] at hq
 obtain ⟨y, hy, rfl⟩ := List.mem_map.1 hq
 rw [zk]
 omega
end
section
open Go.RowKit Go.Sort
section
variable {H : Type} {enc : TypeId × Value → H} {w : World} {base : Nat} {spare : Nat → Bool} {held : Bool} {n : Nat} {cs : List Value} {x : DataW H × List MemPlace}
theorem yK (h : DataW.trod enc Tryz.prog w base spare held n 41 cs = some x) : ∃ (A : Option Addr) (c : Nat) (l : List Mc), cs = [.slice A l.length c] ∧ l.length ≤ c ∧ RawM w A l := by
 obtain ⟨A, len, c, rfl⟩ := kJ zaf h
 obtain ⟨l, rfl, h1, _, h3⟩ := qX1 h
 exact ⟨A, c, l, rfl, h1, h3⟩
end
theorem qQo {H : Type} {enc : TypeId × Value → H} {w : World} {base : Nat} {spare : Nat → Bool} {held : Bool} {n : Nat} {cs : List Value} {x : DataW H × List MemPlace} (h : DataW.trod enc Tryz.prog w base spare held n 43 cs = some x) :
  ∃ (va : Int) (na : Int) (A : Option Addr) (c : Nat) (l : List Mc), cs = ([.int .i64 va] ++ ([.int .i64 na] ++ ([.slice A l.length c] ++ [] : List Value) : List Value) : List Value) ∧ ((Lit.int .i64 va).wf = true) ∧ ((Lit.int .i64 na).wf = true) ∧ (l.length ≤ c ∧ RawM w A l) := by
 obtain ⟨hlen, n', hf⟩ := kX zw h
 have hl : cs.length = 3 := hlen.trans jK
 obtain ⟨a0, a1, a2, rfl⟩ : ∃ a0 a1 a2, cs = [a0, a1, a2] := by
  match cs, hl with
  | [a0, a1, a2], _ => exact ⟨a0, a1, a2, rfl⟩
 clear h hlen hl
 obtain ⟨y0, h0⟩ := hf 0 _ rfl
 have h0 : DataW.trod enc Tryz.prog w base spare held n' 3 ([a0, a1, a2].take (Tryz.prog.cellsOf 3)) = some y0 := h0
 rw [show Tryz.prog.cellsOf 3 = 1 by kernel_rfl] at h0
 have h0 : DataW.trod enc Tryz.prog w base spare held n' 3 [a0] = some y0 := h0
 obtain ⟨va, e0, q0⟩ := kZ zad h0
 obtain ⟨y1, h1⟩ := hf 1 _ rfl
 have h1 : DataW.trod enc Tryz.prog w base spare held n' 3 ([a1, a2].take (Tryz.prog.cellsOf 3)) = some y1 := h1
 rw [show Tryz.prog.cellsOf 3 = 1 by kernel_rfl] at h1
 have h1 : DataW.trod enc Tryz.prog w base spare held n' 3 [a1] = some y1 := h1
 obtain ⟨na, e1, q1⟩ := kZ zad h1
 obtain ⟨y2, h2⟩ := hf 2 _ rfl
 have h2 : DataW.trod enc Tryz.prog w base spare held n' 41 ([a2].take (Tryz.prog.cellsOf 41)) = some y2 := h2
 rw [show Tryz.prog.cellsOf 41 = 1 by kernel_rfl] at h2
 have h2 : DataW.trod enc Tryz.prog w base spare held n' 41 [a2] = some y2 := h2
 obtain ⟨A, c, l, e2, q2⟩ := yK h2
 refine ⟨va, na, A, c, l, ?_, q0, q1, q2⟩
 show ([a0] ++ ([a1] ++ ([a2] ++ [] : List Value) : List Value) : List Value) = _
 rw [e0, e1, e2]
 try rfl
end
section
open Go.RowKit Go.ChangeShapes Go.WideShapes Go.Deep
theorem vD {H : Type} {enc : TypeId × Value → H} {w : World} {base : Nat} {spare : Nat → Bool} {held : Bool} {n : Nat} {cs : List Value} {x : DataW H × List MemPlace} (h : DataW.trod enc Tryz.prog w base spare held n 45 cs = some x) :
  ∃ (q : Tx) (va na : Int) (A : Option Addr) (c : Nat) (l : List Mc), cs = ([encStr q] ++ (BVc va na A l.length c ++ [] : List Value) : List Value) ∧ (q.length ≤ 9223372036854775807) ∧ ((Lit.int .i64 va).wf = true ∧ (Lit.int .i64 na).wf = true ∧ l.length ≤ c ∧ RawM w A l) := by
 obtain ⟨hlen, n', hf⟩ := kX zae h
 have hl : cs.length = 4 := hlen.trans jK
 obtain ⟨a0, a1, a2, a3, rfl⟩ : ∃ a0 a1 a2 a3, cs = [a0, a1, a2, a3] := by
  match cs, hl with
  | [a0, a1, a2, a3], _ => exact ⟨a0, a1, a2, a3, rfl⟩
 clear h hlen hl
 obtain ⟨y0, h0⟩ := hf 0 _ rfl
 have h0 : DataW.trod enc Tryz.prog w base spare held n' 9 ([a0, a1, a2, a3].take (Tryz.prog.cellsOf 9)) = some y0 := h0
 rw [show Tryz.prog.cellsOf 9 = 1 by kernel_rfl] at h0
 have h0 : DataW.trod enc Tryz.prog w base spare held n' 9 [a0] = some y0 := h0
 obtain ⟨q, e0, q0⟩ := zG zo h0
 obtain ⟨y1, h1⟩ := hf 1 _ rfl
 have h1 : DataW.trod enc Tryz.prog w base spare held n' 43 ([a1, a2, a3].take (Tryz.prog.cellsOf 43)) = some y1 := h1
 rw [show Tryz.prog.cellsOf 43 = 3 by kernel_rfl] at h1
 have h1 : DataW.trod enc Tryz.prog w base spare held n' 43 [a1, a2, a3] = some y1 := h1
 obtain ⟨va, na, A, c, l, e1, q1⟩ := qQo h1
 refine ⟨q, va, na, A, c, l, ?_, q0, q1⟩
 show ([a0] ++ ([a1, a2, a3] ++ [] : List Value) : List Value) = _
 rw [e0, e1]
 try rfl
section
variable {H : Type} {enc : TypeId × Value → H} {w : World} {base : Nat} {spare : Nat → Bool} {held : Bool}
theorem vE {n : Nat} {cs : List Value} {x : DataW H × List MemPlace} (h : DataW.trod enc Tryz.prog w base spare held n 45 cs = some x) : ∃ y : Nc, cs = y.cells ∧ RawM w y.A y.l ∧ y.l.length ≤ y.c := by
 obtain ⟨q, va, na, A, c, l, e, _, ⟨_, _, h1, h2⟩⟩ := vD h
 exact ⟨⟨q, va, na, A, c, l⟩, e, h2, h1⟩
theorem qQp {fuel len cap : Nat} {a : Option Addr} {x : DataW H × List MemPlace} (h : DataW.trod enc Tryz.prog w base spare held fuel 22 [.slice a len cap] = some x) :
  ∃ l : List Nc, l.length = len ∧ len ≤ cap ∧ Rd w 4 a l.length (NDC l) ∧ ∀ y ∈ l, RawM w y.A y.l ∧ y.l.length ≤ y.c := by
 have hC : Tryz.prog.cellsOf 45 = 4 := by kernel_rfl
 rcases open_slice zf h with ⟨hcs, _⟩ | ⟨ad, l, c, m, n, D, Pl, hcs, _, hl, hm, hmm, _, hi⟩
 ·
  simp only [List.cons.injEq, Value.slice.injEq, and_true] at hcs
  obtain ⟨rfl, rfl, rfl⟩ := hcs
  exact ⟨[], rfl, zv _, Rd.nil _ _ _, jp⟩
 simp only [List.cons.injEq, Value.slice.injEq, and_true] at hcs
 obtain ⟨rfl, rfl, rfl⟩ := hcs
 have hml : len ≤ m := by rw [hmm]; split <;> omega
 rw [hC] at hi
 have key : ∀ i, i < len → ∃ y : Nc, (∀ j, j < 4 → w.cell? ((ad.add (i * 4)).add j) = y.cells[j]?) ∧ RawM w y.A y.l ∧ y.l.length ≤ y.c := by
  intro i hil
  obtain ⟨cs', hc, ht'⟩ := hi i jo
  obtain ⟨_, hcl, hat⟩ := World.cells?_some hc
  obtain ⟨y, rfl, h1, h2⟩ := vE ht'
  exact ⟨y, fun j hj => hat j hj, h1, h2⟩
 obtain ⟨ls, hll, hq⟩ := fM len key
 have hcell : ∀ j u, (NDC ls)[j]? = some u → w.cell? (ad.add j) = some u := by
  intro j u hu
  rw [show NDC ls = ls.flatMap Nc.cells from rfl, fI Nc.cells 4 jo Nc.cells_len] at hu
  obtain ⟨y, hy, hu'⟩ := Option.bind_eq_some_iff.1 hu
  have := (hq _ y hy).1 (j % 4) (Nat.mod_lt _ jo)
  rw [Go.Proofs.YtgmbmfpfhcekiaaGreat.add_add, Nat.mul_comm, Nat.div_add_mod] at this
  rw [this, hu']
 refine ⟨ls, hll, hl, ⟨by rw [dZ], fun hn => ⟨ad, rfl, ?_, hcell⟩⟩, fun y hy => ?_⟩
 ·
  have h0 : 0 < (NDC ls).length := by rw [dZ]; omega
  have := World.block_lt_of_cell? w _ (hcell 0 _ (ze h0))
  rwa [eS] at this
 obtain ⟨i, hi', hli⟩ := zu hy
 exact (hq i y (by rw [ze hi', hli])).2
theorem sA {n : Nat} {cs : List Value} {x : DataW H × List MemPlace} (h : DataW.trod enc Tryz.prog w base spare held n 22 cs = some x) : ∃ (A : Option Addr) (c : Nat) (l : List Nc), cs = [.slice A l.length c] ∧ l.length ≤ c ∧ Rd w 4 A l.length (NDC l) ∧ ∀ y ∈ l, RawM w y.A y.l ∧ y.l.length ≤ y.c := by
 obtain ⟨A, len, c, rfl⟩ := kJ zf h
 obtain ⟨l, rfl, h1, h2, h3⟩ := qQp h
 exact ⟨A, c, l, rfl, h1, h2, h3⟩
theorem vF {n : Nat} {cs : List Value} {x : DataW H × List MemPlace} (h : DataW.trod enc Tryz.prog w base spare held n 23 cs = some x) : ∃ (A : Option Addr) (c : Nat) (l : List Tx), cs = [.slice A l.length c] ∧ l.length ≤ c ∧ c ≤ 9223372036854775807 ∧ Rd w 1 A l.length (SB l) := zH zj zo jK h
end
theorem yV {H : Type} {enc : TypeId × Value → H} {w : World} {base : Nat} {spare : Nat → Bool} {held : Bool} {n : Nat} {cs : List Value} {x : DataW H × List MemPlace} (h : DataW.trod enc Tryz.prog w base spare held n 25 cs = some x) :
  ∃ (A : Option Addr) (c : Nat) (l : List Nc) (S : Option Addr) (d : Nat) (ss : List Tx) (va : Int) (bl : Int), cs = ([.slice A l.length c] ++ ([.slice S ss.length d] ++ ([.int .i64 va] ++ ([.int .i64 bl] ++ [] : List Value) : List Value) : List Value) : List Value) ∧ (l.length ≤ c ∧ Rd w 4 A l.length (NDC l) ∧ ∀ y ∈ l, RawM w y.A y.l ∧ y.l.length ≤ y.c) ∧ (ss.length ≤ d ∧ d ≤ 9223372036854775807 ∧ Rd w 1 S ss.length (SB ss)) ∧ ((Lit.int .i64 va).wf = true) ∧ ((Lit.int .i64 bl).wf = true) := by
 obtain ⟨hlen, n', hf⟩ := kX zg h
 have hl : cs.length = 4 := hlen.trans jK
 obtain ⟨a0, a1, a2, a3, rfl⟩ : ∃ a0 a1 a2 a3, cs = [a0, a1, a2, a3] := by
  match cs, hl with
  | [a0, a1, a2, a3], _ => exact ⟨a0, a1, a2, a3, rfl⟩
 clear h hlen hl
 obtain ⟨y0, h0⟩ := hf 0 _ rfl
 have h0 : DataW.trod enc Tryz.prog w base spare held n' 22 ([a0, a1, a2, a3].take (Tryz.prog.cellsOf 22)) = some y0 := h0
 rw [show Tryz.prog.cellsOf 22 = 1 by kernel_rfl] at h0
 have h0 : DataW.trod enc Tryz.prog w base spare held n' 22 [a0] = some y0 := h0
 obtain ⟨A, c, l, e0, q0⟩ := sA h0
 obtain ⟨y1, h1⟩ := hf 1 _ rfl
 have h1 : DataW.trod enc Tryz.prog w base spare held n' 23 ([a1, a2, a3].take (Tryz.prog.cellsOf 23)) = some y1 := h1
 rw [show Tryz.prog.cellsOf 23 = 1 by kernel_rfl] at h1
 have h1 : DataW.trod enc Tryz.prog w base spare held n' 23 [a1] = some y1 := h1
 obtain ⟨S, d, ss, e1, q1⟩ := vF h1
 obtain ⟨y2, h2⟩ := hf 2 _ rfl
 have h2 : DataW.trod enc Tryz.prog w base spare held n' 3 ([a2, a3].take (Tryz.prog.cellsOf 3)) = some y2 := h2
 rw [show Tryz.prog.cellsOf 3 = 1 by kernel_rfl] at h2
 have h2 : DataW.trod enc Tryz.prog w base spare held n' 3 [a2] = some y2 := h2
 obtain ⟨va, e2, q2⟩ := kZ zad h2
 obtain ⟨y3, h3⟩ := hf 3 _ rfl
 have h3 : DataW.trod enc Tryz.prog w base spare held n' 3 ([a3].take (Tryz.prog.cellsOf 3)) = some y3 := h3
 rw [show Tryz.prog.cellsOf 3 = 1 by kernel_rfl] at h3
 have h3 : DataW.trod enc Tryz.prog w base spare held n' 3 [a3] = some y3 := h3
 obtain ⟨bl, e3, q3⟩ := kZ zad h3
 refine ⟨A, c, l, S, d, ss, va, bl, ?_, q0, q1, q2, q3⟩
 show ([a0] ++ ([a1] ++ ([a2] ++ ([a3] ++ [] : List Value) : List Value) : List Value) : List Value) = _
 rw [e0, e1, e2, e3]
 try rfl
theorem yW {H : Type} {enc : TypeId × Value → H} {w : World} {base : Nat} {spare : Nat → Bool} {held : Bool} {n : Nat} {cs : List Value} {x : DataW H × List MemPlace} (h : DataW.trod enc Tryz.prog w base spare held n 25 cs = some x) :
  ∃ m : MlC, cs = m.cells ∧ RawL w m ∧ m.b ≤ 9223372036854775807 := by
 obtain ⟨A, c, l, S, d, ss, va, bl, e, ⟨h1, h2, h3⟩, ⟨h4, _, h6⟩, _, hb⟩ := yV h
 exact ⟨⟨A, c, l, S, d, ss, va, bl⟩, e, ⟨h2, h3, h6, h1, h4⟩, by simp [Lit.wf, IntKind.min, IntKind.max, IntKind.signed, IntKind.bits] at hb; dsimp only; omega⟩
theorem bI.rdl {w w' w2 : World} {m a : MlC} {F : Except Nat MailP} {k : Nat} (h : bI w w' m F a k) (f : Frm [] w' w2) (hm : RdL w' m) : RdL w2 a := by
 obtain ⟨⟨S, hS⟩, _⟩ := h
 exact (hS.now hm).frm f
end
section
open Go.RowKit Go.Sort
def IsMU (w' : World) (F : Except Nat (MailP × Int)) (m : MlC) (u : Int) (k : Nat) : Prop := RdL w' m ∧ ((k = 0 ∧ F = .ok (m.p, u)) ∨ (k ≠ 0 ∧ F = .error k ∧ m = qR ∧ u = 0))
theorem IsMU.err {w' : World} {F : Except Nat (MailP × Int)} {k : Nat} (hk : k ≠ 0) (h : F = .error k) : IsMU w' F qR 0 k := ⟨RdL.zero _, .inr ⟨hk, h, rfl, rfl⟩⟩
def vA (w : World) (y : Nat) : Prop := (∀ cs, ¬ Blk w y 60 cs) ∧ ∀ cs, ¬ Blk w y 9 cs
theorem vA.of_blk {w : World} {y : Nat} {t : TypeId} {cs : Array Value} (h : Blk w y t cs) (h1 : 60 ≠ t) (h2 : 9 ≠ t) : vA w y := ⟨fun _ hb => hb.ne h h1 rfl, fun _ hb => hb.ne h h2 rfl⟩
def Kt (w w' : World) (m m' : MlC) : Prop := ∀ w'' T, Frm T w' w'' → (∀ y ∈ T, y < w.heap.size ∧ vA w' y) → RdL w'' m → RdL w'' m'
theorem bA.kt {w w' : World} {S : List Nat} {m m' : MlC} (h : bA w w' S m m') : Kt w w' m m' := fun w'' T k hT hm => h.2 w'' T k (fun y hy hS => by have := (hT y hy).1; have := h.1 y hS; omega) hm
theorem Kt.zero (w w' : World) (m : MlC) : Kt w w' m qR := fun _ _ _ _ _ => RdL.zero _
theorem rU {m : MlC} {t : Tx} {i : Nat} (hr : bK m.p.l) (h : eX m.p.l t i) (ht : t ∈ qD m.p) : ∃ hi : i < m.l.length, (m.l[i]).nm = t := by
 obtain ⟨hi, he⟩ := (gM hr h).2 ht
 have hi' : i < m.l.length := by have := cA m; omega
 refine ⟨hi', ?_⟩
 rw [cS m hi' hi] at he
 exact he
theorem yY {m : MlC} {t : Tx} {i : Nat} (hr : bK m.p.l) (hi : i < m.l.length) (he : (m.l[i]).nm = t) : fC m.p.l t = some (m.l[i]).p.2 := by
 have hi2 : i < m.p.l.length := by rw [cA]; exact hi
 have := fV (t := t) hr hi2 (by rw [cS m hi hi2]; exact he)
 rw [this, cS m hi hi2]
theorem rB {m : MlC} {t : Tx} {i : Nat} {v n : Int} {B : Option Addr} {d : Nat} {lm : List Mc} (hr : bK m.p.l) (h : eX m.p.l t i) (hi : i < m.l.length) (he : (m.l[i]).nm = t) : Ns (m.l.set i ⟨(m.l[i]).nm, v, n, B, d, lm⟩) = bV m.p.l t ⟨v, n, Ms lm⟩ := by
 have hi2 : i < m.p.l.length := by rw [cA]; exact hi
 rw [zC hr h hi2 (by rw [cS m hi hi2]; exact he)]
 show List.map Nc.p (m.l.set i _) = (List.map Nc.p m.l).set i _
 rw [zet, he]
 rfl
end
section
open Go.RowKit Go.Sort
def eK (w : World) (m : MlC) (B : Option Addr) (d : Nat) (lm : List Mc) : Prop := OwM w B d lm ∨ ∃ x ∈ m.l, x.A = B ∧ x.l = lm
theorem eK.frm {w w' : World} {m : MlC} {B : Option Addr} {d : Nat} {lm : List Mc} (h : eK w m B d lm) (k : Frm [] w w') : eK w' m B d lm := by
 rcases h with h | h
 · exact .inl (h.frm k)
 exact .inr h
theorem eK.blk {w w' : World} {m : MlC} {B : Option Addr} {d g : Nat} {lm : List Mc} {t : TypeId} {cs : Array Value} (h : eK w m B d lm) (k : Frm [g] w w') (hb : Blk w g t cs) (h1 : 60 ≠ t) (h2 : 9 ≠ t) : eK w' m B d lm := by
 rcases h with h | h
 · exact .inl (h.blk k hb h1 h2)
 exact .inr h
theorem eK.own {w w' : World} {m : MlC} {B C : Option Addr} {d size n c : Nat} {lm : List Mc} {e : TypeId} {xs : List Value} (h : eK w m B d lm) (k : Frm (ob C) w w') (hC : Own w e size C n c xs) (h1 : 60 ≠ e) (h2 : 9 ≠ e) : eK w' m B d lm := by
 rcases h with h | h
 · exact .inl (h.offO k hC h1 h2)
 exact .inr h
def IsMC (w' : World) (F : Except Nat (MailP × List Int)) (m : MlC) (U : Option Addr) (us : List Int) (k : Nat) : Prop := RdL w' m ∧ Rd w' 1 U us.length (IB us) ∧ us.length ≤ 1000000 ∧ ((k = 0 ∧ F = .ok (m.p, us)) ∨ (k ≠ 0 ∧ F = .error k ∧ m = qR ∧ us = []))
theorem IsMC.err {w' : World} {F : Except Nat (MailP × List Int)} {k : Nat} (hk : k ≠ 0) (h : F = .error k) : IsMC w' F qR none [] k := ⟨RdL.zero _, Rd.nil _ _ _, jd, .inr ⟨hk, h, rfl, rfl⟩⟩
end
section
open Go.RowKit Go.Sort
def fS (w0 w : World) (m : MlC) (B : Option Addr) (d : Nat) (lm : List Mc) : Prop := (Own w 60 6 B lm.length d (MC lm) ∨ ∃ x ∈ m.l, x.A = B ∧ x.l = lm) ∧ ∀ y ∈ lm, y.At w0
theorem fS.frm {w0 w w' : World} {S : List Nat} {m : MlC} {B : Option Addr} {d : Nat} {lm : List Mc} (h : fS w0 w m B d lm) (k : Frm S w w') (hS : ∀ e, 60 = e → ∀ y ∈ S, ∀ cs, ¬ Blk w y e cs) : fS w0 w' m B d lm := by
 refine ⟨?_, h.2⟩
 rcases h.1 with h | h
 ·
  refine .inl (h.frm k (fun y hy hyS => ?_))
  rcases h.cases with ⟨h0, _⟩ | ⟨g, cur, h0, hbb, _⟩
  · rw [h0] at hy; simp [ob] at hy
  rw [h0] at hy
  simp only [ob, za] at hy
  subst hy
  exact hS _ rfl _ hyS _ hbb
 exact .inr h
theorem fS.nil {w0 w w' : World} {m : MlC} {B : Option Addr} {d : Nat} {lm : List Mc} (h : fS w0 w m B d lm) (k : Frm [] w w') : fS w0 w' m B d lm := h.frm k (fun _ _ _ hy => by cases hy)
theorem fS.blk {w0 w w' : World} {m : MlC} {B : Option Addr} {d g : Nat} {lm : List Mc} {t : TypeId} {cs : Array Value} (h : fS w0 w m B d lm) (k : Frm [g] w w') (hb : Blk w g t cs) (h1 : 60 ≠ t) : fS w0 w' m B d lm :=
 h.frm k (fun e he y hy cs2 hb2 => by rw [za] at hy; subst hy; exact hb.ne hb2 (fun h => h1 (he.trans h.symm)) rfl)
theorem fS.own {w0 w w' : World} {m : MlC} {B C : Option Addr} {d size n c : Nat} {lm : List Mc} {e : TypeId} {xs : List Value} (h : fS w0 w m B d lm) (k : Frm (ob C) w w') (hC : Own w e size C n c xs) (h1 : e ≠ 60) : fS w0 w' m B d lm :=
 h.frm k (fun e2 he y hy cs2 hb2 => hC.ne_blk hb2 (fun h => h1 (h.trans he.symm)) hy)
end
section
open Go.RowKit
def yG (v b : Int) (x : NmP) : Prop := bE x.2 ∧ x.2.valid ≤ v ∧ ∀ y ∈ x.2.l, (y.blob : Int) ≤ b
theorem yH {l : List Tx} (h : l.Pairwise (· < ·)) : ∀ i (hi : i < l.length), 0 < i → (l[i - 1]?).getD [] < l[i] := by
 intro i hi h0
 rw [ze jo]
 exact zcm.1 h (i - 1) i jo hi jo
theorem vI (l : List Tx) : cD l ↔ l.length ≤ 24 ∧ l.Pairwise (· < ·) ∧ ∀ s ∈ l, dG s := by
 constructor
 ·
  rintro ⟨h1, h2⟩
  refine ⟨h1, oQ fun i hi h0 => (h2 i hi).2 h0, fun s hs => ?_⟩
  obtain ⟨i, hi, rfl⟩ := zu hs
  exact (h2 i hi).1
 rintro ⟨h1, h2, h3⟩
 exact ⟨h1, fun i hi => ⟨h3 _ (zm hi), yH h2 i hi⟩⟩
theorem cJ (m : MailP) : bZ m ↔ (m.l.length ≤ 24 ∧ bK m.l ∧ (∀ x ∈ m.l, dG x.1) ∧ ∃ x ∈ m.l, x.1 = qT) ∧ (∀ x ∈ m.l, yG m.valid m.blob x) ∧ (m.l.map fun x => x.2.valid).Pairwise (· ≠ ·) ∧ cD m.subs ∧ 1 ≤ m.valid ∧ m.valid ≤ 2147483647 ∧ 0 ≤ m.blob ∧ m.blob ≤ 2147483647 := by
 unfold bZ cX
 rw [vI (qD m)]
 constructor
 ·
  rintro ⟨⟨⟨h1, h2, h3⟩, h4, h5, h6, h7, h8, h9⟩, hb⟩
  refine ⟨⟨by simpa [qD] using h1, h2, fun x hx => h3 _ (zaq hx), ?_⟩, fun x hx => ?_, ?_, h4, h5, h6, h7, h8⟩
  ·
   obtain ⟨x, hx, e⟩ := List.mem_map.1 h9
   exact ⟨x, hx, e⟩
  ·
   obtain ⟨i, hi, rfl⟩ := zu hx
   obtain ⟨k1, k2, _, k4⟩ := hb i hi
   exact ⟨k1, k2, k4⟩
  rw [zef, zcm]
  intro i j hi hj hij
  have := (hb j hj).2.2.1 m.l[i] (List.mem_iff_getElem.2 ⟨i, by rw [zk]; omega, zcw⟩)
  exact this
 rintro ⟨⟨h1, h2, h3, x, hx, hxe⟩, hb, hd, h4, h5, h6, h7, h8⟩
 refine ⟨⟨⟨by simpa [qD] using h1, h2, fun s hs => ?_⟩, h4, h5, h6, h7, h8, List.mem_map.2 ⟨x, hx, hxe⟩⟩, fun i hi => ?_⟩
 ·
  obtain ⟨y, hy, rfl⟩ := List.mem_map.1 hs
  exact h3 y hy
 obtain ⟨k1, k2, k4⟩ := hb _ (zm hi)
 refine ⟨k1, k2, fun y hy => ?_, k4⟩
 obtain ⟨j, hj, rfl⟩ := zu hy
 rw [zk] at hj
 rw [zcw]
 rw [zef, zcm] at hd
 exact hd j i jo hi jo
theorem dF {l : List NmP} {t : Tx} {b : BoxV} {x : NmP} (h : x ∈ bV l t b) : x = (t, b) ∨ (x ∈ l ∧ x.1 ≠ t) := by
 unfold bV at h
 rcases List.mem_append.1 h with h | h
 ·
  obtain ⟨h1, h2⟩ := List.mem_filter.1 h
  exact .inr ⟨h1, fun e => bN t (by rw [e] at h2; exact of_decide_eq_true h2)⟩
 rcases zbc.1 h with h | h
 · exact .inl h
 obtain ⟨h1, h2⟩ := List.mem_filter.1 h
 exact .inr ⟨h1, fun e => bN t (by rw [e] at h2; exact of_decide_eq_true h2)⟩
theorem fG {l : List NmP} {t : Tx} {b : BoxV} {x : NmP} (h : x ∈ l) (hn : x.1 ≠ t) : x ∈ bV l t b := by
 unfold bV
 by_cases h1 : x.1 < t
 · exact zdf _ (List.mem_filter.2 ⟨h, by simpa using h1⟩)
 refine zco _ (zcg _ (List.mem_filter.2 ⟨h, decide_eq_true ?_⟩))
 rcases Classical.em (t < x.1) with h2 | h2
 · exact h2
 exact absurd (lG h1 h2) hn
theorem lT {l : List NmP} {t : Tx} {b : BoxV} : (t, b) ∈ bV l t b := by
 unfold bV
 exact zco _ (zdm ..)
theorem rC (l : List NmP) (t : Tx) (b : BoxV) : (bV l t b).length + (l.filter (fun x => decide (x.1 = t))).length = l.length + 1 := by
 induction l with
 | nil => rfl
 | cons x r ih =>
  unfold bV at *
  rw [zl, zav] at *
  simp only [zdb]
  by_cases h1 : x.1 < t
  ·
   have h2 : ¬ t < x.1 := fun h => bN _ (dW h1 h)
   have h3 : ¬ x.1 = t := fun e => bN t (by rw [e] at h1; exact h1)
   simp only [h1, h2, h3, decide_true, decide_false, if_true, zba, if_false, zav]
   omega
  by_cases h2 : t < x.1
  ·
   have h3 : ¬ x.1 = t := fun e => bN t (by rw [e] at h2; exact h2)
   simp only [h1, h2, h3, decide_true, decide_false, if_true, zba, if_false, zav]
   omega
  have h3 : x.1 = t := lG h1 h2
  subst h3
  simp only [h1, decide_true, decide_false, if_true, zba, if_false, zav]
  omega
theorem eO (l : List NmP) (t : Tx) (b : BoxV) : (bV l t b).length ≤ l.length + 1 := by
 have := rC l t b
 omega
theorem lU {l : List NmP} {t : Tx} {b : BoxV} (h : t ∈ l.map Prod.fst) : (bV l t b).length ≤ l.length := by
 have := rC l t b
 obtain ⟨x, hx, e⟩ := List.mem_map.1 h
 have h1 : 0 < (l.filter (fun x => decide (x.1 = t))).length := List.length_pos_of_mem (List.mem_filter.2 ⟨hx, decide_eq_true e⟩)
 omega
theorem kE {m : MailP} (h : bZ m) {t : Tx} {b : BoxV} {v' bl' : Int} (ht : dG t) (hlen : (bV m.l t b).length ≤ 24) (hv : m.valid ≤ v') (hv2 : v' ≤ 2147483647) (hbl : m.blob ≤ bl') (hbl2 : bl' ≤ 2147483647) (hb : yG v' bl' (t, b)) (hf : ∀ x ∈ m.l, x.1 ≠ t → x.2.valid ≠ b.valid) : bZ { m with l := bV m.l t b, valid := v', blob := bl' } := by
 obtain ⟨⟨h1, h2, h3, x, hx, hxe⟩, hb0, hd, h4, h5, h6, h7, h8⟩ := (cJ m).1 h
 refine (cJ _).2 ⟨⟨hlen, kG h2, fun y hy => ?_, ?_⟩, fun y hy => ?_, ?_, h4, by dsimp only; omega, hv2, by dsimp only; omega, hbl2⟩
 ·
  rcases dF hy with rfl | ⟨h, _⟩
  · exact ht
  exact h3 y h
 ·
  by_cases e : x.1 = t
  · exact ⟨_, lT, by rw [← e]; exact hxe⟩
  exact ⟨x, fG hx e, hxe⟩
 ·
  rcases dF hy with rfl | ⟨h, _⟩
  · exact hb
  obtain ⟨k1, k2, k3⟩ := hb0 y h
  exact ⟨k1, by dsimp only; omega, fun z hz => by have := k3 z hz; dsimp only; omega⟩
 dsimp only
 rw [zef]
 unfold bV
 rw [zef] at hd
 have hlo : ∀ y ∈ m.l.filter (fun x => decide (x.1 < t)), y ∈ m.l ∧ y.1 ≠ t := fun y hy => by
  obtain ⟨q1, q2⟩ := List.mem_filter.1 hy
  exact ⟨q1, fun e => bN t (by rw [e] at q2; exact of_decide_eq_true q2)⟩
 have hhi : ∀ y ∈ m.l.filter (fun x => decide (t < x.1)), y ∈ m.l ∧ y.1 ≠ t := fun y hy => by
  obtain ⟨q1, q2⟩ := List.mem_filter.1 hy
  exact ⟨q1, fun e => bN t (by rw [e] at q2; exact of_decide_eq_true q2)⟩
 refine List.pairwise_append.2 ⟨hd.sublist zcj, List.pairwise_cons.2 ⟨fun y hy e => hf y (hhi y hy).1 (hhi y hy).2 e.symm, hd.sublist zcj⟩, fun a ha c hc => ?_⟩
 rcases zbc.1 hc with rfl | hc
 · exact hf a (hlo a ha).1 (hlo a ha).2
 intro e
 have hac : a = c := by
  obtain ⟨i, hi, rfl⟩ := zu (hlo a ha).1
  obtain ⟨j, hj, rfl⟩ := zu (hhi c hc).1
  rw [zcm] at hd
  rcases zez i j with h | h | h
  · exact absurd e (hd i j hi hj h)
  · subst h; rfl
  exact absurd e.symm (hd j i hj hi h)
 have l1 : a.1 < t := of_decide_eq_true (List.mem_filter.1 ha).2
 have l2 : t < c.1 := of_decide_eq_true (List.mem_filter.1 hc).2
 rw [hac] at l1
 exact bN _ (dW l1 l2)
theorem qX3 {m : MailP} (h : bZ m) {l : List NmP} (hs : l.Sublist m.l) (hi : ∃ x ∈ l, x.1 = qT) : bZ { m with l := l } := by
 obtain ⟨⟨h1, h2, h3, _⟩, hb0, hd, h4, h5, h6, h7, h8⟩ := (cJ m).1 h
 exact (cJ _).2 ⟨⟨zay hs.length_le h1, h2.sublist (hs.map _), fun y hy => h3 y (hs.subset hy), hi⟩, fun y hy => hb0 y (hs.subset hy), hd.sublist (hs.map _), h4, h5, h6, h7, h8⟩
theorem mD {m : MailP} (h : bZ m) : ∀ x ∈ m.l, x.2.valid ≠ m.valid + 1 := fun x hx => by
 have := ((cJ m).1 h).2.1 x hx
 have := this.2.1
 omega
theorem qQq {v : Int} (h1 : 1 ≤ v) (h2 : v ≤ 2147483647) : bE ⟨v, 1, []⟩ := ⟨⟨h1, h2, zdu 1, by show (1 : Int) ≤ 2147483648; decide, zah _⟩, fun j h => absurd h (Nat.not_lt_zero _)⟩
theorem yM {m : MailP} (h : bZ m) {x : Tx} (hx : isN x) (h24 : m.l.length + 1 ≤ 24) (hv : m.valid + 1 ≤ 2147483647) : bZ (bU m x) := by
 have hr := ((cJ m).1 h).2.2.2.2
 refine kE h (v' := m.valid + 1) (bl' := m.blob) ⟨(kV x).2 hx, lW x⟩ (zay (eO _ _ _) h24) jo hv (zdu _) hr.2.2.2 ⟨qQq jo hv, zdu _, fun y hy => by cases hy⟩ (fun y hy _ => mD h y hy)
theorem yN (m : MailP) (x : Tx) : (bU m x).l.length ≤ m.l.length + 1 := eO _ _ _
theorem gE (m : MailP) (x : Tx) : (bU m x).valid = m.valid + 1 := rfl
theorem pZ : ∀ (ns : List Tx) (m : MailP), bZ m → (∀ x ∈ ns, isN x) → m.l.length + ns.length ≤ 24 → m.valid + (ns.length : Int) ≤ 2147483647 →
  bZ (ns.foldl bU m) ∧ (ns.foldl bU m).valid = m.valid + (ns.length : Int) ∧ (ns.foldl bU m).blob = m.blob ∧ (ns.foldl bU m).l.length ≤ m.l.length + ns.length
 | [], m, h, _, _, _ => ⟨h, jp, rfl, jp⟩
 | x :: ns, m, h, hn, h1, h2 => by
  simp only [zav] at h1 h2 ⊢
  have hf := yN m x
  obtain ⟨k1, k2, k3, k4⟩ := pZ ns (bU m x) (yM h (hn x (zdm ..)) jo jo) (fun y hy => hn y (zcg _ hy)) jo (by rw [gE]; omega)
  rw [gE] at k2
  refine ⟨k1, by rw [zer, k2]; omega, k3, by rw [zer]; omega⟩
theorem yP {s : Tx} (h : isN s) (h0 : upN s ≠ []) : isN (upN s) := by
 have hu : upN s = (eE (qJ s)).getD [] := by unfold upN; rw [if_pos h]
 obtain ⟨h1, h2, h3, h4, h5, h6⟩ := (kV s).2 h
 rcases Classical.em (∃ i : Nat, (qJ s)[i]? = some 47) with he | he
 ·
  obtain ⟨i, hi, hl⟩ : ∃ i : Nat, (qJ s)[i]? = some 47 ∧ ∀ j : Nat, i < j → (qJ s)[j]? ≠ some 47 := by
   obtain ⟨i, hi⟩ := he
   have hlt := (List.getElem?_eq_some_iff.1 hi).1
   have key : ∀ k i : Nat, (qJ s).length - i ≤ k → (qJ s)[i]? = some 47 → ∃ i : Nat, (qJ s)[i]? = some 47 ∧ ∀ j : Nat, i < j → (qJ s)[j]? ≠ some 47 := by
    intro k
    induction k with
    | zero => intro i hk hi; have := (List.getElem?_eq_some_iff.1 hi).1; omega
    | succ k ih =>
     intro i hk hi
     rcases Classical.em (∃ j : Nat, i < j ∧ (qJ s)[j]? = some 47) with ⟨j, hj, hs⟩ | hno
     ·
      have := (List.getElem?_eq_some_iff.1 hs).1
      exact ih j jo hs
     exact ⟨i, hi, fun j hj hs => hno ⟨j, hj, hs⟩⟩
   exact key _ i (zv _) hi
  have e : upN s = (qJ s).take i := by rw [hu, oN hi hl]; rfl
  have hil := (List.getElem?_eq_some_iff.1 hi).1
  have hp : 0 < i := by
   rcases zbu i with h | h
   · rw [e, h] at h0; exact absurd rfl h0
   exact h
  rw [e]
  have hlen : ((qJ s).take i).length = i := by rw [zk]; omega
  refine ⟨fun hx => by rw [hx] at hlen; simp at hlen; omega, jo, ?_, ?_, ?_, fun c hc => h6 c (zdr hc)⟩
  · rw [zev, if_pos hp]; exact h3
  ·
   rw [hlen, zev, if_pos jo]
   intro h47
   have : gX (qJ s) = true := (hU _).2 ⟨i - 1, h47, by rw [show i - 1 + 1 = i by omega]; exact hi⟩
   rw [h5] at this
   cases this
  rw [← Bool.not_eq_true]
  intro hd
  obtain ⟨j, j1, j2⟩ := (hU _).1 hd
  have jl := (List.getElem?_eq_some_iff.1 j2).1
  rw [hlen] at jl
  rw [zev, if_pos jo] at j1 j2
  have : gX (qJ s) = true := (hU _).2 ⟨j, j1, j2⟩
  rw [h5] at this
  cases this
 have e : eE (qJ s) = none := gG (fun i hi => he ⟨i, hi⟩)
 rw [hu, e] at h0
 exact absurd rfl h0
theorem qX4 {s : Tx} (h : isN s ∨ s = []) : ∀ x ∈ anc s, isN x := by
 have key : ∀ (n : Nat) (s : Tx), s.length ≤ n → (isN s ∨ s = []) → ∀ x ∈ anc s, isN x := by
  intro n
  induction n with
  | zero =>
   intro s hs h x hx
   obtain rfl : s = [] := zaa jo
   rw [anc_nil] at hx
   cases hx
  | succ n ih =>
   intro s hs h x hx
   rcases h with h | h
   ·
    have h0 : s ≠ [] := h.1
    rw [eM h0] at hx
    rcases zbc.1 hx with rfl | hx
    · exact h
    have := eQ h0
    refine ih (upN s) jo ?_ x hx
    rcases Classical.em (upN s = []) with e | e
    · exact .inr e
    exact .inl (yP h e)
   subst h
   rw [anc_nil] at hx
   cases hx
 exact key _ s (zv _) h
theorem qQr {l : List NmP} {s : Tx} (h : isN s ∨ s = []) : ∀ x ∈ qO l s, isN x := fun x hx => by
 unfold qO at hx
 rw [List.mem_reverse] at hx
 exact qX4 h x (List.mem_filter.1 hx).1
theorem lB {m : MailP} (h : bZ m) {s : Tx} (hs : isN s ∨ s = []) (h24 : m.l.length + (qO m.l s).length ≤ 24) (hv : m.valid + ((qO m.l s).length : Int) ≤ 2147483647) :
  bZ (bX m s) ∧ (bX m s).valid = m.valid + ((qO m.l s).length : Int) ∧ (bX m s).blob = m.blob ∧ (bX m s).l.length ≤ m.l.length + (qO m.l s).length :=
 pZ _ m h (qQr hs) h24 hv
end
section
open Go.RowKit
theorem lD {m : MailP} (h : bZ m) {t : Tx} {b : BoxV} (hb : (t, b) ∈ m.l) : ∀ x ∈ m.l, x.1 ≠ t → x.2.valid ≠ b.valid := by
 intro x hx hn e
 have hd := ((cJ m).1 h).2.2.1
 obtain ⟨i, hi, rfl⟩ := zu hx
 obtain ⟨j, hj, hje⟩ := zu hb
 rw [zef, zcm] at hd
 have hb2 : (m.l[j]).2.valid = b.valid := by rw [hje]
 have hb1 : (m.l[j]).1 = t := by rw [hje]
 rcases zez i j with k | k | k
 · exact hd i j hi hj k (e.trans hb2.symm)
 · subst k; exact hn hb1
 exact hd j i hj hi k (hb2.trans e.symm)
end
section
open Go.RowKit
theorem tD {u r : Tx} (hr : r = [] ∨ r.head? = some 47) : bB 47 (u ++ r) = bB 47 u := by
 induction u with
 | nil =>
  rcases hr with rfl | hr
  · rfl
  cases r with
  | nil => rfl
  | cons x r =>
   simp only [List.head?_cons, Option.some.injEq] at hr
   subst hr
   show bB 47 (47 :: r) = bB 47 []
   unfold bB
   simp
 | cons x u ih =>
  rw [List.cons_append, bB, bB]
  split
  · rfl
  rw [ih]
theorem qX5 {u r : Tx} (hu : cF u = u) (hr : r = [] ∨ r.head? = some 47) : cF (u ++ r) = u ++ r := by
 rcases eU u with ⟨_, h⟩ | ⟨h1, h2, _, h5⟩
 ·
  unfold cF
  rw [tD hr, if_neg h]
 unfold cF
 rw [tD hr, if_pos h2]
 rw [hu] at h1
 have e : (u ++ r).drop 5 = u.drop 5 ++ r := List.drop_append_of_le_length jo
 rw [e, ← zci, ← h1]
theorem qQs {t r : Tx} (ht : isN t) (hr : r = [] ∨ r.head? = some 47) : qJ (qJ t ++ r) = qJ t ++ r := by
 have h1 : cF (qJ t) = qJ t := by
  have := lW t
  unfold qJ at this
  rw [if_pos ht] at this
  rw [if_pos (tS ht)] at this
  unfold qJ
  rw [if_pos ht]
  exact this
 have h2 := qX5 h1 hr
 generalize qJ t ++ r = z at *
 unfold qJ
 split
 · exact h2
 rfl
theorem jP {f x : Tx} (hx : dG x) (h : goP f x) : x = qJ f ++ x.drop f.length ∧ (x.drop f.length = [] ∨ (x.drop f.length).head? = some 47) := by
 rcases h with h | ⟨_, _, h⟩
 ·
  have hl : x.length = f.length := by rw [← h, bT]
  rw [zas jo, zbq]
  exact ⟨h.symm, .inl rfl⟩
 rw [hx.2] at h
 obtain ⟨r, hr⟩ := h
 have hd : x.drop f.length = 47 :: r := by
  rw [← hr, zci, zdz, bT, zdd, zas (by rw [bT]; exact zv _)]
  rfl
 rw [hd]
 refine ⟨?_, .inr rfl⟩
 rw [← hr, zci]
 rfl
theorem nR {f t : Tx} {x : NmP} {st : List NmP} (hx : dG x.1) (hg : goP f x.1) (hf : isN f) (ht : isN t) (h : eH st f t x) : (bC f t x).1 = qJ t ++ x.1.drop f.length ∧ dG (bC f t x).1 ∧ (bC f t x).1 ∉ st.map Prod.fst := by
 obtain ⟨e1, e2⟩ := jP hx hg
 obtain ⟨s, hs, hn⟩ := h
 have hs0 := hs
 unfold cH at hs
 rw [if_neg (by rintro (q | q | q); exact q hx.1; exact q hf; exact q ht), hx.2] at hs
 have key : ∀ z : Tx, kK z = .ok s → z = s ∧ isN s := by
  intro z hz
  unfold kK at hz
  split at hz
  ·
   rename_i q
   injection hz with hz
   subst hz
   exact ⟨rfl, q⟩
  cases hz
 have hre : (bC f t x).1 = s := by unfold bC; rw [hs0]; rfl
 have hfin : s = qJ t ++ x.1.drop f.length ∧ isN s := by
  split at hs
  ·
   rename_i q
   obtain ⟨k1, k2⟩ := key _ hs
   have hl : x.1.length = f.length := by rw [q, bT]
   rw [zas jo, zbq]
   exact ⟨k1.symm, k2⟩
  split at hs
  ·
   obtain ⟨k1, k2⟩ := key _ hs
   exact ⟨k1.symm, k2⟩
  cases hs
 have htold : qJ s = s := by rw [hfin.1]; exact qQs ht e2
 rw [hre]
 exact ⟨hfin.1, ⟨hfin.2, htold⟩, by rw [htold] at hn; exact hn⟩
theorem pJ : ∀ (ns : List Tx) (m : MailP) (z : NmP), z ∈ (ns.foldl bU m).l → z ∈ m.l ∨ (m.valid < z.2.valid ∧ ∃ y ∈ ns, z.1 = qJ y)
 | [], m, z, h => .inl h
 | x :: ns, m, z, h => by
  rcases pJ ns (bU m x) z h with h | ⟨h1, y, hy, h2⟩
  ·
   rcases dF h with rfl | ⟨h, _⟩
   · exact .inr ⟨by dsimp only; omega, x, zdm .., rfl⟩
   exact .inl h
  rw [gE] at h1
  exact .inr ⟨jo, y, zcg _ hy, h2⟩
theorem qZq {s : Tx} : ∀ x ∈ anc s, x.length ≤ s.length := by
 have key : ∀ (n : Nat) (s : Tx), s.length ≤ n → ∀ x ∈ anc s, x.length ≤ s.length := by
  intro n
  induction n with
  | zero =>
   intro s hs x hx
   obtain rfl : s = [] := zaa jo
   rw [anc_nil] at hx
   cases hx
  | succ n ih =>
   intro s hs x hx
   rcases Classical.em (s = []) with h | h0
   ·
    subst h
    rw [anc_nil] at hx
    cases hx
   rw [eM h0] at hx
   rcases zbc.1 hx with rfl | hx
   · exact zv _
   have := eQ h0
   have := ih (upN s) jo x hx
   omega
 exact key _ s (zv _)
theorem qX6 {l : List NmP} {s : Tx} : ∀ x ∈ qO l s, x.length ≤ s.length := fun x hx => by
 unfold qO at hx
 rw [List.mem_reverse] at hx
 exact qZq x (List.mem_filter.1 hx).1
theorem rD {m : MailP} {x : NmP} (hx : qJ x.1 = x.1) (hn : x.1 ∉ m.l.map Prod.fst) : fR m x = { m with l := bV m.l x.1 x.2 } := by
 unfold fR vR bV
 dsimp only
 rw [hx]
 congr 3
 refine List.filter_congr fun y hy => ?_
 rw [decide_eq_decide]
 constructor
 ·
  intro h
  rcases Classical.em (x.1 < y.1) with h2 | h2
  · exact h2
  exact absurd (by rw [← lG h h2]; exact zaq hy) hn
 intro h h2
 exact bN _ (dW h h2)
theorem yR (f : Tx) (l : List NmP) : (goF f l).length + (stF f l).length = l.length := by
 induction l with
 | nil => rfl
 | cons x r ih =>
  unfold goF stF at *
  simp only [zdb]
  by_cases h : goP f x.1
  ·
   simp only [h, decide_true, if_true, Bool.not_true, zba, if_false, zav]
   omega
  simp only [h, decide_false, Bool.not_false, if_true, zba, if_false, zav]
  omega
theorem sI {f : Tx} (hf : qJ f ≠ qT) : ¬ goP f qT := by
 rintro (h | ⟨_, _, h⟩)
 · exact hf h
 have h47 : (47 : UInt8) ∈ qJ qT := by
  obtain ⟨r, hr⟩ := h
  rw [← hr]
  simp
 exact absurd h47 jd
theorem lE {m : MailP} {f t : Tx} (h : bZ m) (hf : isN f) (ht : isN t) (hfi : qJ f ≠ qT) (hall : ∀ j (hj : j < (goF f m.l).length), eH (stF f m.l) f t (goF f m.l)[j]) (hroom : cV m (qO (stF f m.l) (upN t)).length (qO (stF f m.l) (upN t)).length = 0) :
  ∀ j, j ≤ (goF f m.l).length → ∃ o : MailP, (((goF f m.l).map (bC f t)).take j).foldl fR (bX { m with l := stF f m.l } (upN t)) = o ∧ bZ o ∧ m.valid ≤ o.valid ∧ o.blob = m.blob ∧ o.l.length ≤ (stF f m.l).length + (qO (stF f m.l) (upN t)).length + j ∧
   ∀ z ∈ o.l, z ∈ stF f m.l ∨ (m.valid < z.2.valid ∧ z.1.length < t.length) ∨ ∃ i, ∃ hi : i < (goF f m.l).length, i < j ∧ z = bC f t (goF f m.l)[i] := by
 have hfl := (cJ m).1 h
 obtain ⟨r1, r2⟩ := jW hroom
 have hlen := yR f m.l
 have hst : (stF f m.l).Sublist m.l := zcj
 have hgo : (goF f m.l).Sublist m.l := zcj
 have hup : isN (upN t) ∨ upN t = [] := by
  rcases Classical.em (upN t = []) with q | q
  · exact .inr q
  exact .inl (yP ht q)
 have hm1 : bZ { m with l := stF f m.l } := by
  obtain ⟨⟨_, _, _, y, hy, hye⟩, _⟩ := hfl
  refine qX3 h hst ⟨y, List.mem_filter.2 ⟨hy, ?_⟩, hye⟩
  rw [hye, decide_eq_false (sI hfi)]
  rfl
 obtain ⟨k1, k2, k3, k4⟩ := lB hm1 hup (by dsimp only; omega) (by dsimp only; omega)
 have hut : (upN t).length < t.length := eQ ht.1
 have hgt : ∀ x ∈ goF f m.l, dG x.1 ∧ goP f x.1 := fun x hx => ⟨hfl.1.2.2.1 x (hgo.subset hx), of_decide_eq_true (List.mem_filter.1 hx).2⟩
 have hgr : bK (goF f m.l) := hfl.1.2.1.sublist (hgo.map _)
 have hname := fun j (hj : j < (goF f m.l).length) => nR (hgt _ (zm hj)).1 (hgt _ (zm hj)).2 hf ht (hall j hj)
 intro j
 induction j with
 | zero =>
  intro _
  refine ⟨_, rfl, k1, ?_, k3, by rw [Nat.add_zero]; exact k4, fun z hz => ?_⟩
  ·
   have k2 : (bX { m with l := stF f m.l } (upN t)).valid = m.valid + ((qO (stF f m.l) (upN t)).length : Int) := k2
   show m.valid ≤ (bX { m with l := stF f m.l } (upN t)).valid
   omega
  rcases pJ _ _ _ hz with q | ⟨q1, y, hy, q2⟩
  · exact .inl q
  refine .inr (.inl ⟨q1, ?_⟩)
  rw [q2, bT]
  exact Nat.lt_of_le_of_lt (qX6 y hy) hut
 | succ j ih =>
  intro hj
  obtain ⟨o, ho, om, ov, ob, ol, oz⟩ := ih jo
  have hj' : j < (goF f m.l).length := by omega
  obtain ⟨n1, n2, n3⟩ := hname j hj'
  have hxm := hgo.subset (zm hj')
  have hxg := hgt _ (zm hj')
  have hxr := jP hxg.1 hxg.2
  have hxo := lD (t := ((goF f m.l)[j]).1) (b := ((goF f m.l)[j]).2) h (by exact hxm)
  have hxb := hfl.2.1 _ hxm
  have hne : ∀ i (hi : i < (goF f m.l).length), i < j → ((goF f m.l)[i]).1 ≠ ((goF f m.l)[j]).1 := fun i hi hij e => by
   have := dE hgr hi hj' hij
   rw [e] at this
   exact bN _ this
  generalize hxe : (goF f m.l)[j] = x at *
  have hnew : (bC f t x).1 ∉ o.l.map Prod.fst := by
   intro hin
   obtain ⟨z, hz, hze⟩ := List.mem_map.1 hin
   rcases oz z hz with q | ⟨_, q⟩ | ⟨i, hi, hij, rfl⟩
   · exact n3 (by rw [← hze]; exact zaq q)
   ·
    rw [hze, n1, zl, bT] at q
    omega
   obtain ⟨p1, _, _⟩ := hname i hi
   rw [p1, n1] at hze
   have hze := List.append_cancel_left hze
   have hig := hgt _ (zm hi)
   have := (jP hig.1 hig.2).1
   exact hne i hi hij (by rw [this, hze, ← hxr.1])
  have hstep : (((goF f m.l).map (bC f t)).take (j + 1)).foldl fR (bX { m with l := stF f m.l } (upN t)) = { o with l := bV o.l (bC f t x).1 (bC f t x).2 } := by
   rw [zao, zdg, ho, zca, ze hj', hxe]
   exact rD n2.2 hnew
  have hvd : ∀ z ∈ o.l, z.1 ≠ (bC f t x).1 → z.2.valid ≠ (bC f t x).2.valid := by
   intro z hz _
   rcases oz z hz with q | ⟨q, _⟩ | ⟨i, hi, hij, rfl⟩
   ·
    refine hxo z (hst.subset q) (fun e => ?_)
    have := (List.mem_filter.1 q).2
    rw [e, decide_eq_true hxg.2] at this
    cases this
   ·
    have := hxb.2.1
    show z.2.valid ≠ x.2.valid
    omega
   show ((goF f m.l)[i]).2.valid ≠ x.2.valid
   exact hxo _ (hgo.subset (zm hi)) (hne i hi hij)
  refine ⟨_, hstep, ?_, ov, ob, ?_, fun z hz => ?_⟩
  ·
   have hof := (cJ o).1 om
   refine kE om (v' := o.valid) (bl' := o.blob) n2 ?_ (zdu _) hof.2.2.2.2.2.1 (zdu _) hof.2.2.2.2.2.2.2 ⟨hxb.1, Int.le_trans hxb.2.1 ov, fun y hy => by rw [ob]; exact hxb.2.2 y hy⟩ hvd
   have := eO o.l (bC f t x).1 (bC f t x).2
   omega
  ·
   have := eO o.l (bC f t x).1 (bC f t x).2
   dsimp only
   omega
  rcases dF hz with rfl | ⟨q, _⟩
  · exact .inr (.inr ⟨j, hj', jo, by rw [hxe]⟩)
  rcases oz z q with q | q | ⟨i, hi, hij, q⟩
  · exact .inl q
  · exact .inr (.inl q)
  exact .inr (.inr ⟨i, hi, jo, q⟩)
theorem qZr {m : MailP} {f t : Tx} (h : bZ m) (hf : isN f) (ht : isN t) (hfi : qJ f ≠ qT) (hall : ∀ j (hj : j < (goF f m.l).length), eH (stF f m.l) f t (goF f m.l)[j]) (hroom : cV m (qO (stF f m.l) (upN t)).length (qO (stF f m.l) (upN t)).length = 0) : oZ m f t := by
 intro j hj
 rw [zaj] at hj
 obtain ⟨o, ho, om, _⟩ := lE h hf ht hfi hall hroom j hj
 rw [ho]
 exact dD om
theorem oU {st : List NmP} {f t : Tx} : ∀ {l g : List NmP}, dY st f t l = .ok g → ∀ j (h : j < l.length), eH st f t l[j]
 | [], _, _, j, h => by simp at h
 | x :: r, g, hg, j, h => by
  rw [dY] at hg
  cases hm : cH x.1 f t with
  | error e => rw [hm] at hg; cases hg
  | ok s =>
   rw [hm] at hg
   dsimp only at hg
   split at hg
   · cases hg
   rename_i hn
   cases hr : dY st f t r with
   | error e => rw [hr] at hg; cases hg
   | ok r' =>
    cases j with
    | zero => exact ⟨s, hm, hn⟩
    | succ j => exact oU hr j (by simpa using h)
theorem yS {m y : MailP} {f t : Tx} (h : bZ m) (hf : isN f) (ht : isN t) (hfi : qJ f ≠ qT) (hy : dM m f t = .ok y) : bZ y ∧ m.valid ≤ y.valid ∧ m.blob = y.blob := by
 unfold dM at hy
 cases hg : dY (stF f m.l) f t (goF f m.l) with
 | error e => rw [hg] at hy; cases hy
 | ok g =>
  rw [hg] at hy
  dsimp only at hy
  split at hy
  · cases hy
  rename_i hr
  have hr := Classical.not_not.1 hr
  injection hy with hy
  have hall := oU hg
  rw [kD hall] at hg
  injection hg with hg
  obtain ⟨o, ho, om, ov, ob, _⟩ := lE h hf ht hfi hall hr _ (zv _)
  rw [zt (by rw [zaj]; exact zv _), hg, hy] at ho
  subst ho
  exact ⟨om, ov, ob.symm⟩
end
section
open Go.RowKit
def qZ8 : BoxV := ⟨0, 0, []⟩
def eP (l : List NmP) (t : Tx) : BoxV := (fC l t).getD qZ8
def dA (m : MailP) (t : Tx) : MailP :=
 { bX m t with valid := (bX m t).valid + 1, l := bV (bV (bX m t).l (qJ t) ⟨(eP (bX m t).l (qJ t)).valid, (eP m.l qT).next, (eP m.l qT).l⟩) qT ⟨(bX m t).valid + 1, 1, []⟩ }
def cL (m : MailP) (t : Tx) : Except Nat MailP :=
 if cV m (qO m.l t).length ((qO m.l t).length + 1) ≠ 0 then .error (cV m (qO m.l t).length ((qO m.l t).length + 1)) else .ok (dA m t)
theorem mE {m : MailP} {t : Tx} (hr : bK m.l) (ht : t ≠ []) : qJ t ∈ (bX m t).l.map Prod.fst := by
 rcases Classical.em (qJ t ∈ m.l.map Prod.fst) with h | h
 ·
  have key : ∀ (ns : List Tx) (m : MailP), qJ t ∈ m.l.map Prod.fst → qJ t ∈ (ns.foldl bU m).l.map Prod.fst := by
   intro ns
   induction ns with
   | nil => exact fun m h => h
   | cons x ns ih => exact fun m h => ih _ ((fB _).2 (.inr h))
  exact key _ m h
 have e : qO m.l t = qO m.l (upN t) ++ [t] := by
  unfold qO
  rw [eM ht, zdb, if_pos (by simpa using h), List.reverse_cons]
 unfold bX
 rw [e, zdg]
 exact (fB _).2 (.inl rfl)
theorem yU {m : MailP} {t : Tx} (h : bZ m) (ht : isN t) (htn : qJ t ∉ qD m) (hr : cV m (qO m.l t).length ((qO m.l t).length + 1) = 0) : bZ (dA m t) ∧ m.valid ≤ (dA m t).valid ∧ (dA m t).blob = m.blob := by
 obtain ⟨r1, r2⟩ := jW hr
 obtain ⟨k1, k2, k3, k4⟩ := lB h (.inl ht) r1 jo
 have hmr := dD k1
 have hf := (cJ m).1 h
 have hq := (cJ _).1 k1
 have hth := mE (dD h) ht.1
 obtain ⟨xn, hxn, hxe⟩ := List.mem_map.1 hth
 obtain ⟨i, hi, hie⟩ := zu hxn
 have hb1 : fC (bX m t).l (qJ t) = some xn.2 := by
  have := fV (t := qJ t) hmr hi (by rw [hie]; exact hxe)
  rw [this, hie]
 obtain ⟨⟨_, _, _, y, hy, hye⟩, _⟩ := id hf
 obtain ⟨j, hj, hje⟩ := zu hy
 have hb2 : fC m.l qT = some y.2 := by
  have := fV (t := qT) (dD h) hj (by rw [hje]; exact hye)
  rw [this, hje]
 have hyb := hf.2.1 y hy
 have hxb := hq.2.1 xn hxn
 have e1 : eP (bX m t).l (qJ t) = xn.2 := by unfold eP; rw [hb1]; rfl
 have e2 : eP m.l qT = y.2 := by unfold eP; rw [hb2]; rfl
 have hxm : (qJ t, xn.2) ∈ (bX m t).l := by rw [← hxe]; exact hxn
 have hmb : bE ⟨xn.2.valid, y.2.next, y.2.l⟩ := by
  obtain ⟨a, b⟩ := hyb.1
  obtain ⟨⟨c1, c2, _⟩, _⟩ := hxb.1
  exact ⟨⟨c1, c2, a.2.2⟩, b⟩
 have h2 : bZ { bX m t with l := bV (bX m t).l (qJ t) ⟨xn.2.valid, y.2.next, y.2.l⟩ } :=
  kE k1 (v' := (bX m t).valid) (bl' := (bX m t).blob) ⟨(kV t).2 ht, lW t⟩ (zay (lU hth) hq.1.1) (zdu _) hq.2.2.2.2.2.1 (zdu _) hq.2.2.2.2.2.2.2 ⟨hmb, hxb.2.1, fun z hz => by rw [k3]; exact hyb.2.2 z hz⟩ (fun z hz hn => lD (b := xn.2) k1 hxm z hz hn)
 have h2f := (cJ _).1 h2
 have hin : qT ∈ (bV (bX m t).l (qJ t) ⟨xn.2.valid, y.2.next, y.2.l⟩).map Prod.fst := by
  obtain ⟨z, hz, hze⟩ := h2f.1.2.2.2
  exact List.mem_map.2 ⟨z, hz, hze⟩
 have h3 := kE h2 (t := qT) (b := ⟨(bX m t).valid + 1, 1, []⟩) (v' := (bX m t).valid + 1) (bl' := (bX m t).blob) (by unfold dG; decide) (zay (lU hin) h2f.1.1) (by dsimp only; omega) jo (zdu _) hq.2.2.2.2.2.2.2 ⟨qQq jo jo, zdu _, fun z hz => by cases hz⟩ (fun z hz _ => mD h2 z hz)
 have e3 : dA m t = { bX m t with valid := (bX m t).valid + 1, l := bV (bV (bX m t).l (qJ t) ⟨xn.2.valid, y.2.next, y.2.l⟩) qT ⟨(bX m t).valid + 1, 1, []⟩ } := by
  unfold dA
  rw [e1, e2]
 rw [e3]
 exact ⟨h3, by dsimp only; omega, k3⟩
theorem vL {m y : MailP} {f t : Tx} (h : bP m f t (cL m t) = .ok y) : bZ m ∧ bZ y ∧ m.valid ≤ y.valid ∧ m.blob = y.blob := by
 unfold bP at h
 split at h
 · cases h
 rename_i h1
 have h1 := Classical.not_not.1 h1
 split at h
 · cases h
 rename_i h2
 obtain ⟨h2a, h2b⟩ : isN f ∧ isN t := ⟨Classical.not_not.1 (fun q => h2 (.inl q)), Classical.not_not.1 (fun q => h2 (.inr q))⟩
 split at h
 · cases h
 split at h
 · cases h
 rename_i h4
 split at h
 ·
  unfold cL at h
  split at h
  · cases h
  rename_i h6
  injection h with h
  subst h
  obtain ⟨k1, k2, k3⟩ := yU h1 h2b h4 (Classical.not_not.1 h6)
  exact ⟨h1, k1, k2, k3.symm⟩
 rename_i h5
 split at h
 · cases h
 obtain ⟨k1, k2, k3⟩ := yS h1 h2a h2b h5 h
 exact ⟨h1, k1, k2, k3⟩
end
section
open Go.RowKit Go.Sort
theorem rE {m : MlC} {t : Tx} {i : Nat} (hr : bK m.p.l) (hi : i < m.l.length) (he : (m.l[i]).nm = t) : eP m.p.l t = (m.l[i]).p.2 := by
 unfold eP
 rw [yY hr hi he]
 rfl
set_option maxHeartbeats 2000000 in
theorem sL (m : MlC) (i : Nat) (t : Tx) (w : World) (hm : RdL w m) (ht : t.length ≤ 400000) (hmay : bZ m.p) (hti : isN t) (hi : i < m.l.length) (hie : (m.l[i]).nm = qT) (htn : qJ t ∉ qD m.p) (hv : cZ w) :
  Calls Tryz.prog 62 #[m.val, .int .i64 ((i : Nat) : Int), encStr t] w fun e w' => ∃ (m' : MlC) (k : Nat), e = .returned (.tuple #[m'.val, .int .i64 ((k : Nat) : Int)]) ∧ bI w w' m (cL m.p t) m' k ∧ Frm [] w w' := by
 have hln := hm.ln
 have hpl := cA m
 have hml := nM m.p.l t
 obtain ⟨hm24, hv1, hv2, hb0, hb2, hr, hin⟩ := cB hmay
 have hyl := (hm.l.el _ (zm hi)).n
 have hbd := rE hr hi hie
 refine VC.calls (nt := 74) (res := #[.cell 6 25, .tmp 7]) Tryz.func62 rfl Tryz.ntmps62 Tryz.results62 rfl ?_
 refine jS (jR ?_)
 refine Ops.m (qH.box rfl) rfl ?_
 rintro _ w1 ⟨rfl, hF_w1⟩
 have hb1 : Blk w1 w.heap.size 25 #[.slice m.A m.l.length m.c, .slice m.S m.ss.length m.d, .int .i64 m.v, .int .i64 m.b] := hF_w1.blk
 have K := hF_w1.frm
 generalize hg1 : w.heap.size = g1 at hb1 ⊢
 refine Ops.m (qH.alloc bQ) rfl ?_
 rintro _ w2 ⟨rfl, hF2⟩
 have hb4 := hF2.blk
 have hg4 : w.heap.size ≤ w1.heap.size := K.size
 have hb1 := hb1.frm hF2.frm jp
 have hl1 := hb1.lt
 have hl4 := hb4.lt
 have K := K.trans hF2.frm jp
 have hne14 : g1 ≠ w1.heap.size := by have := hF_w1.size; omega
 have hg1s : w.heap.size ≤ g1 := jo
 generalize hg4' : w1.heap.size = g4 at hb4 hg4 hne14 hl4 ⊢
 refine jz 0 (jO (jN (jv4 1 2 3 6 ?_)))
 refine jS (jR (je (Run.loadA rfl zi zb hb1.cells (by first | rfl | (simp; done))) (jM ?_)))
 refine Ops.cl (jE2 Tryz.call47) (eG m t _ (hm.frm K) jo hr (hv.frm K)) rfl ?_
 rintro e w3 ⟨B3, d3, rfl, _, _, hf3⟩
 refine ⟨_, rfl, ?_⟩
 have hb1 := hb1.frm hf3 jp
 have hb4 := hb4.frm hf3 jp
 have hKs_hf3 := K.size
 have K := K.trans hf3 jp
 generalize hms : qO m.p.l t = ms at *
 refine je (Run.lenS rfl zj) (ja rfl (jO (jN (jv5 1 2 3 6 8 ?_))))
 refine jS (jS (jR (je (Run.loadA rfl zi zb hb1.cells (by first | rfl | (simp; done))) (jm rfl (jm rfl (jb rfl rfl (Bin.add_i64 _ 1 jo) ?_))))))
 refine Ops.cl (jE3 Tryz.call48) (kR m ms.length (ms.length + 1) _ hln jo jo jo jo) rfl ?_
 rintro e w4 ⟨rfl, hf4⟩
 refine ⟨_, rfl, ?_⟩
 have hb1 := hb1.frm hf4 jp
 have hb4 := hb4.frm hf4 jp
 have hKs_hf4 := K.size
 have K := K.trans hf4 jp
 refine ja rfl (jO (jN (jv5 1 2 3 6 9 ?_)))
 refine jS (jR (jm rfl (jb rfl rfl (Bin.neqN _ 0) (jO (jN (jv6 1 2 3 6 9 25 ?_))))))
 refine jD rfl (fun hc1 => ?_) fun hc1 => ?_
 ·
  have hFe : cL m.p t = .error (cV m.p ms.length (ms.length + 1)) := by unfold cL; rw [hms, if_pos jo]
  refine jS (jR (je (Run.build evs.nil bQ (qB).choose_spec.1 (qB).choose_spec.2 rfl) (jM ?_)))
  refine Ops.st (qW.storeA rfl rfl zb hb4 rfl (MlC.cells_one qR)) ?_
  rintro wz ⟨hb4, (hfwz : Frm [g4] _ _), hswz⟩
  have hb4 : Blk wz g4 25 qR.cells.toArray := hb4
  have K := K.own hfwz (fun y hy => by rw [za] at hy; omega)
  refine ja rfl (jO (jN (jv2 6 7 ?_)))
  refine jT ?_
  refine qZ (bM ?_)
  refine qC rfl zi zb (fun j v hj => hb4.cells j v hj) (by first | rfl | (simp; done)) ?_
  refine qL rfl ?_
  refine qI ?_
  exact ⟨qR, _, rfl, bI.err jo hFe, K⟩
 have hc1 : cV m.p ms.length (ms.length + 1) = 0 := jo
 have hFo : cL m.p t = .ok (dA m.p t) := by unfold cL; rw [hms, if_neg jo]
 obtain ⟨hro1, hro2⟩ := jW hc1
 have hro3 : m.p.valid + (ms.length : Int) ≤ 2147483647 := jo
 have hro4 : m.v + (ms.length : Int) ≤ 2147483647 := hro3
 have hro5 : m.v + (ms.length : Int) + 1 ≤ 2147483647 := by have : m.p.valid = m.v := rfl; omega
 obtain ⟨ad, had, hel⟩ := (hm.frm K).l.elem hi
 generalize hy : m.l[i] = y at *
 refine jQ (jN (jv4 1 2 3 6 ?_))
 refine jS (jR (jf rfl zg rfl zab (jl rfl zan (hb1.cell 0) (jm rfl (je (Run.indexS i (show _ = some (Value.slice (some ad) m.l.length m.c) by rw [← had]; rfl) rfl zf zn hi) (jf rfl zae rfl zp (je (Run.loadA rfl zat zp (cs := BVc y.v y.n y.A y.l.length y.c) (fun j v hj => by rw [Go.Proofs.YtgmbmfpfhcekiaaGreat.add_add]; exact hel (1 + j) v (by rw [zdj]; exact hj)) (by first | rfl | (simp; done))) ?_)))))))
 refine Ops.m (qH.alloc cP) rfl ?_
 rintro _ w5 ⟨rfl, hF5⟩
 have hb10o := hF5.blk
 have hlt1 := hb1.lt
 have hlt4 := hb4.lt
 have hK5 := K.size
 have hb1 := hb1.frm hF5.frm jp
 have hb4 := hb4.frm hF5.frm jp
 have K := K.trans hF5.frm jp
 have hn110 : g1 ≠ w4.heap.size := jo
 have hn410 : g4 ≠ w4.heap.size := jo
 generalize hg10 : w4.heap.size = g10 at hb10o hK5 hn110 hn410 ⊢
 refine Ops.st (qW.storeA rfl rfl zp hb10o rfl (cW y.v y.n y.A y.l.length y.c)) ?_
 rintro w6 ⟨hb10, (hf6 : Frm [g10] _ _), hs6⟩
 have hb10 : Blk w6 g10 43 (BVc y.v y.n y.A y.l.length y.c).toArray := hb10
 have hb1 := hb1.frm hf6 (by simp; omega)
 have hb4 := hb4.frm hf6 (by simp; omega)
 have K := K.own hf6 (fun y hy => by rw [za] at hy; omega)
 have hl16 := hb1.lt
 have hl46 := hb4.lt
 have hl106 := hb10.lt
 refine jO (jN (jv4 2 3 6 10 ?_))
 refine jS (jR (je (Run.loadA rfl zi zb hb1.cells (by first | rfl | (simp; done))) (jM ?_)))
 refine Ops.cl (jE2 Tryz.call49) (gD m t _ (hm.frm K) jo hr (by rw [hms]; omega) jo (by rw [hms]; exact hro4) (hv.frm K)) rfl ?_
 rintro e w7 ⟨mq, rfl, hmqp, ⟨S2, hk2⟩, hf7⟩
 refine ⟨_, rfl, ?_⟩
 have hK6 := K.size
 have hb1 := hb1.frm hf7 jp
 have hb4 := hb4.frm hf7 jp
 have hb10 := hb10.frm hf7 jp
 have K := K.trans hf7 jp
 have hS2 : g1 ∉ S2 ∧ g4 ∉ S2 ∧ g10 ∉ S2 := ⟨fun h => by have := hk2.1 _ h; omega, fun h => by have := hk2.1 _ h; omega, fun h => by have := hk2.1 _ h; omega⟩
 have hRq : ∀ W, Frm [g1, g4, g10] w7 W → RdL W m → RdL W mq := fun W hW hmW => hk2.2 W _ hW (fun y hy => by simp only [zbc, zbt, or_false] at hy; rcases hy with rfl | rfl | rfl; exact hS2.1; exact hS2.2.1; exact hS2.2.2) hmW
 have F : Frm [g1, g4, g10] w7 w7 := Frm.refl _ _
 obtain ⟨km1, km2, km3, km4⟩ := lB hmay (.inl hti) (by rw [hms]; exact hro1) (by rw [hms]; exact hro3)
 rw [hms, hpl] at km4
 rw [← hmqp] at km1 km2 km3 km4
 have hqr := dD km1
 have hqf0 := cB km1
 have hqv : mq.v = m.v + (ms.length : Int) := by rw [hms] at km2; exact km2
 have hqlen : mq.l.length ≤ 24 := hqf0.1
 have hqf := cB km1
 have hqth : qJ t ∈ qD mq.p := by rw [hmqp]; exact mE hr hti.1
 refine Ops.st (qW.storeA rfl rfl zb hb1 rfl (MlC.cells_one mq)) ?_
 rintro w8 ⟨hb1, (hfw8 : Frm [g1] _ _), hsw8⟩
 have hb1 : Blk w8 g1 25 mq.cells.toArray := hb1
 have hb4 := hb4.frm hfw8 (by simp; omega)
 have hb10 := hb10.frm hfw8 (by simp; omega)
 have K := K.own hfw8 (fun y hy => by rw [za] at hy; omega)
 have F := F.trans hfw8 (fun y hy => .inl (by rw [za] at hy; subst hy; simp))
 refine jO (jN (jv4 2 3 6 10 ?_))
 refine jS (jR (je (Run.loadA rfl zi zb hb1.cells (by first | rfl | (simp; done))) (jM ?_)))
 refine Ops.cl (jE2 zcz) (cQ mq t _ (hRq _ F (hm.frm K)).l jo jo hqr (hv.frm K)) rfl ?_
 rintro e w9 ⟨k2, rfl, hpos2, hf9⟩
 refine ⟨_, rfl, ?_⟩
 have hb1 := hb1.frm hf9 jp
 have hb4 := hb4.frm hf9 jp
 have hb10 := hb10.frm hf9 jp
 have K := K.trans hf9 jp
 have F := F.trans hf9 jp
 obtain ⟨hk2i, hk2e⟩ := rU hqr hpos2 hqth
 obtain ⟨ad2, had2, hel2⟩ := (hRq _ F (hm.frm K)).l.elem hk2i
 have hbd2 := rE hqr hk2i hk2e
 have hqln := (hRq _ F (hm.frm K)).ln
 refine jm rfl (je (Run.extract rfl rfl) (je (Run.extract rfl rfl) (ja rfl (ja rfl (jO (jN (jv4 3 6 10 11 ?_)))))))
 refine jS (jR (jf rfl zg rfl zab (jl rfl zan (hb1.cell 0) (jm rfl (je (Run.indexS k2 (show _ = some (Value.slice (some ad2) mq.l.length mq.c) by rw [← had2]; rfl) rfl zf zn hk2i) (jf rfl zae rfl zp (jf rfl zw rfl zq (jl rfl zy (show _ = some (Value.int .i64 (mq.l[k2]).v) from by rw [Go.Proofs.YtgmbmfpfhcekiaaGreat.add_add]; exact hel2 1 _ rfl) (jf rfl zw rfl zq ?_)))))))))
 refine Ops.st (qW.store rfl rfl zq hb10 rfl rfl) ?_
 rintro w10 ⟨hb10, (hf10 : Frm [g10] _ _), hs10⟩
 have hb10 : Blk w10 g10 43 (BVc (mq.l[k2]).v y.n y.A y.l.length y.c).toArray := hb10
 have hb1 := hb1.frm hf10 (by simp; omega)
 have hb4 := hb4.frm hf10 (by simp; omega)
 have K := K.own hf10 (fun y hy => by rw [za] at hy; omega)
 have F := F.trans hf10 (fun y hy => .inl (by rw [za] at hy; subst hy; simp))
 have hym : ∀ W, Frm [] w W → RdM W y.A y.l := fun W hW => by have := (hm.frm hW).l.el _ (zm hi); rw [hy] at this; exact this.rd
 refine jO (jN (jv4 3 6 10 11 ?_))
 refine jS (jR (je (Run.loadA rfl zi zb hb1.cells (by first | rfl | (simp; done))) (jm rfl (je (Run.loadA rfl zat zp (fun j v hj => hb10.cells j v hj) (by first | rfl | (simp; done))) ?_))))
 refine Ops.cl (jE3 Tryz.call86) (oO mq k2 (mq.l[k2]).v y.n y.A y.c y.l _ (hRq _ F (hm.frm K)) hk2i (hym _ K) hyl) rfl ?_
 rintro e w11 ⟨A1, c1, rfl, hoA, hobA, hf11⟩
 refine ⟨_, rfl, ?_⟩
 have hKs := K.size
 have hobA : ∀ b ∈ ob A1, w.heap.size ≤ b := fun b hb => zay hKs (hobA b hb)
 have hb1 := hb1.frm hf11 jp
 have hb4 := hb4.frm hf11 jp
 have hb10 := hb10.frm hf11 jp
 have K := K.trans hf11 jp
 have F := F.trans hf11 jp
 have hlen1 : (mq.l.set k2 ⟨(mq.l[k2]).nm, (mq.l[k2]).v, y.n, y.A, y.c, y.l⟩ : List Nc).length = mq.l.length := zcl ..
 have hx1 := hoA.ne_blk hb1 jd
 obtain ⟨m1, hm1⟩ : ∃ m1 : MlC, m1 = (mq.wl A1 c1 (mq.l.set k2 ⟨(mq.l[k2]).nm, (mq.l[k2]).v, y.n, y.A, y.c, y.l⟩)) := ⟨_, rfl⟩
 have hm1p : m1.p = { mq.p with l := bV mq.p.l (qJ t) ⟨(mq.l[k2]).v, y.n, Ms y.l⟩ } := by rw [hm1, MlC.wl_p, rB hqr hpos2 hk2i hk2e]
 rw [← hm1]
 have hm1A : m1.A = A1 ∧ m1.l.length = mq.l.length ∧ m1.S = mq.S ∧ m1.ss = mq.ss ∧ m1.d = mq.d ∧ m1.b = mq.b ∧ m1.v = mq.v := by rw [hm1]; exact ⟨rfl, hlen1, rfl, rfl, rfl, rfl, rfl⟩
 have hR1 : ∀ W, RdL W mq → RdM W y.A y.l → Own W 45 4 A1 mq.l.length c1 (NDC (mq.l.set k2 ⟨(mq.l[k2]).nm, (mq.l[k2]).v, y.n, y.A, y.c, y.l⟩)) → RdL W m1 := fun W h hyW ho => by
  rw [hm1]
  exact ⟨⟨by dsimp only; rw [hlen1]; exact ho.rd, rN h.l.el ⟨hyW, hyl, (h.l.el _ (zm hk2i)).q⟩⟩, h.s, by dsimp only; rw [hlen1]; exact ho.le, h.sc, by dsimp only; rw [hlen1]; exact h.ln, h.sn, h.sq⟩
 refine Ops.st (qW.storeA rfl rfl zb hb1 rfl (MlC.cells_one m1)) ?_
 rintro w12 ⟨hb1, (hfw12 : Frm [g1] _ _), hsw12⟩
 have hb1 : Blk w12 g1 25 m1.cells.toArray := hb1
 have hb4 := hb4.frm hfw12 (by simp; omega)
 have hb10 := hb10.frm hfw12 (by simp; omega)
 have K := K.own hfw12 (fun y hy => by rw [za] at hy; omega)
 have F := F.trans hfw12 (fun y hy => .inl (by rw [za] at hy; subst hy; simp))
 have hoA := hoA.frm hfw12 (fun y hy h => by rw [za] at h; subst h; exact hx1 hy)
 refine jO (jN (jv2 3 6 ?_))
 refine jS (jR (jf rfl zg rfl zq (jl rfl zy (hb1.cell 2) (jb rfl rfl (Bin.addZ _ 1 jo jo) (jf rfl zg rfl zq ?_)))))
 refine Ops.st (qW.store rfl rfl zq hb1 rfl rfl) ?_
 rintro w13 ⟨hb1, (hfw13 : Frm [g1] _ _), hsw13⟩
 have hb1 : Blk w13 g1 25 ({ m1 with v := m1.v + 1 } : MlC).cells.toArray := hb1
 have hb4 := hb4.frm hfw13 (by simp; omega)
 have hb10 := hb10.frm hfw13 (by simp; omega)
 have K := K.own hfw13 (fun y hy => by rw [za] at hy; omega)
 have F := F.trans hfw13 (fun y hy => .inl (by rw [za] at hy; subst hy; simp))
 have hoA := hoA.frm hfw13 (fun y hy h => by rw [za] at h; subst h; exact hx1 hy)
 obtain ⟨m2, hm2⟩ : ∃ m2 : MlC, m2 = { m1 with v := m1.v + 1 } := ⟨_, rfl⟩
 rw [← hm2] at hb1
 have hR2 : RdL w13 m2 := by
  have h := hR1 _ (hRq _ F (hm.frm K)) (hym _ K) hoA
  rw [hm2]
  exact ⟨h.l, h.s, h.lc, h.sc, h.ln, h.sn, h.sq⟩
 have hm2p : m2.p.l = bV mq.p.l (qJ t) ⟨(mq.l[k2]).v, y.n, Ms y.l⟩ := by
  rw [hm2]
  show m1.p.l = _
  rw [hm1p]
 have hm2r : bK m2.p.l := by rw [hm2p]; exact kG hqr
 have hm2i : qJ qT ∈ qD m2.p := by
  show qJ qT ∈ m2.p.l.map Prod.fst
  rw [hm2p, fB, show qJ qT = qT by decide]
  exact .inr hqf.2.2.2.2.2.2
 have hm2v : m2.v = mq.v + 1 := by rw [hm2]; show m1.v + 1 = _; rw [hm1A.2.2.2.2.2.2]
 have hnew : bE ⟨m2.v, 1, []⟩ := qQq jo jo
 refine jO (jN (jv2 3 6 ?_))
 refine jS (jR (je (Run.loadA rfl zi zb hb1.cells (by first | rfl | (simp; done))) ?_))
 refine Ops.cl (jE2 zcz) (cQ m2 qT _ hR2.l hR2.ln jd hm2r (hv.frm K)) rfl ?_
 rintro e w14 ⟨k3, rfl, hpos3, hf14⟩
 refine ⟨_, rfl, ?_⟩
 have hb1 := hb1.frm hf14 jp
 have hb4 := hb4.frm hf14 jp
 have hb10 := hb10.frm hf14 jp
 have hoA := hoA.frm hf14 jp
 have K := K.trans hf14 jp
 have F := F.trans hf14 jp
 have hR2 := hR2.frm hf14
 obtain ⟨hk3i, hk3e⟩ := rU hm2r hpos3 hm2i
 refine jm rfl (je (Run.extract rfl rfl) (je (Run.extract rfl rfl) (ja rfl (jO (jN (jv3 1 3 6 ?_))))))
 refine jS (jR (jf rfl zg rfl zq (jl rfl zy (hb1.cell 2) ?_)))
 refine Ops.cl (jE1 Tryz.call82) (nG m2.v _) rfl ?_
 rintro e w15 ⟨hf15, hc15⟩
 obtain rfl : e = .returned (.tuple #[.agg #[.int .i64 m2.v, .int .i64 1, .slice none 0 0], .int .i64 0]) := by
  rcases hc15 with ⟨_, h⟩ | ⟨h, _⟩
  · exact h
  exact absurd hnew h
 refine ⟨_, rfl, ?_⟩
 have hb1 := hb1.frm hf15 jp
 have hb4 := hb4.frm hf15 jp
 have hb10 := hb10.frm hf15 jp
 have hoA := hoA.frm hf15 jp
 have K := K.trans hf15 jp
 have F := F.trans hf15 jp
 have hR2 := hR2.frm hf15
 refine jm rfl (je (Run.extract rfl rfl) (je (Run.extract rfl rfl) ?_))
 refine Ops.m (qH.alloc cP) rfl ?_
 rintro _ w16 ⟨rfl, hF16⟩
 have hb13 := hF16.blk
 have hl1g := hb1.lt
 have hl4g := hb4.lt
 have hl10g := hb10.lt
 have hK16 := K.size
 have hF7s := F.size
 have hb1 := hb1.frm hF16.frm jp
 have hb4 := hb4.frm hF16.frm jp
 have hb10 := hb10.frm hF16.frm jp
 have hoA := hoA.frm hF16.frm jp
 have K := K.trans hF16.frm jp
 have F := F.trans hF16.frm jp
 have hR2 := hR2.frm hF16.frm
 have hn113 : g1 ≠ w15.heap.size := by omega
 have hn413 : g4 ≠ w15.heap.size := by omega
 generalize hg13 : w15.heap.size = g13 at hb13 hK16 hn113 hn413 hF7s ⊢
 have hx13 := hoA.ne_blk hb13 jd
 refine Ops.st (qW.storeA rfl rfl zp hb13 rfl (cW m2.v 1 none 0 0)) ?_
 rintro w17 ⟨hb13, (hf17 : Frm [g13] _ _), hs17⟩
 have hb13 : Blk w17 g13 43 (BVc m2.v 1 none 0 0).toArray := hb13
 have hb1 := hb1.frm hf17 (by simp; omega)
 have hb4 := hb4.frm hf17 (by simp; omega)
 have K := K.own hf17 (fun y hy => by rw [za] at hy; omega)
 have F := F.trans hf17 (fun y hy => .inr (by rw [za] at hy; have := hF7s; omega))
 have hoA := hoA.frm hf17 (fun y hy h => by rw [za] at h; subst h; exact hx13 hy)
 have hR2' : RdL w17 m2 := by
  have h := hR1 _ (hRq _ F (hm.frm K)) (hym _ K) hoA
  rw [hm2]
  exact ⟨h.l, h.s, h.lc, h.sc, h.ln, h.sn, h.sq⟩
 refine ja rfl (jO (jN (jv4 1 3 6 13 ?_)))
 refine jS (jR (je (Run.loadA rfl zi zb hb1.cells (by first | rfl | (simp; done))) (jm rfl (je (Run.loadA rfl zat zp (fun j v hj => hb13.cells j v hj) (by first | rfl | (simp; done))) ?_))))
 refine Ops.cl (jE3 Tryz.call86) (oO m2 k3 m2.v 1 none 0 [] _ hR2' hk3i (RdM.nil _ _) (zah _)) rfl ?_
 rintro e w18 ⟨A2, c2, rfl, hoA2, hobA2, hf18⟩
 refine ⟨_, rfl, ?_⟩
 have hKs2 := K.size
 have hobA2 : ∀ b ∈ ob A2, w.heap.size ≤ b := fun b hb => zay hKs2 (hobA2 b hb)
 have hb4 := hb4.frm hf18 jp
 have K := K.trans hf18 jp
 have F := F.trans hf18 jp
 have hlen2 : (m2.l.set k3 ⟨(m2.l[k3]).nm, m2.v, 1, none, 0, []⟩ : List Nc).length = m2.l.length := zcl ..
 have hx4 := hoA2.ne_blk hb4 jd
 refine Ops.st (qW.storeA rfl rfl zb hb4 rfl (MlC.cells_one _)) ?_
 rintro w19 ⟨hb4, (hf19 : Frm [g4] _ _), hs19⟩
 have hoA2 := hoA2.frm hf19 (fun y hy h => by rw [za] at h; subst h; exact hx4 hy)
 have K := K.own hf19 (fun y hy => by rw [za] at hy; omega)
 have F := F.trans hf19 (fun y hy => .inl (by rw [za] at hy; subst hy; simp))
 obtain ⟨m3, hm3⟩ : ∃ m3 : MlC, m3 = m2.wl A2 c2 (m2.l.set k3 ⟨(m2.l[k3]).nm, m2.v, 1, none, 0, []⟩) := ⟨_, rfl⟩
 have hm3p : m3.p = { m2.p with l := bV m2.p.l qT ⟨m2.v, 1, []⟩ } := by
  have e := rB (v := m2.v) (n := 1) (B := none) (d := 0) (lm := []) hm2r hpos3 hk3i hk3e
  rw [hm3, MlC.wl_p, e]
  rfl
 have hkt : bA w w19 (S2 ++ ob A2) m m3 := by
  refine ⟨fun b hb => ?_, fun w'' T kT hT hmw => ?_⟩
  ·
   rcases List.mem_append.1 hb with h | h
   · have := hk2.1 b h; omega
   exact hobA2 b h
  have F2 : Frm ([g1, g4, g10] ++ T) w7 w'' := (F.mono (fun y hy => .inl (zdf _ hy))).trans kT (fun y hy => .inl (zco _ hy))
  have hq' : RdL w'' mq := hk2.2 w'' _ F2 (fun y hy hS => by
   rcases List.mem_append.1 hy with h | h
   ·
    simp only [zbc, zbt, or_false] at h
    rcases h with rfl | rfl | rfl
    · exact hS2.1 hS
    · exact hS2.2.1 hS
    exact hS2.2.2 hS
   exact hT y h (zdf _ hS)) hmw
  have ho2 := hoA2.frm kT (fun y hy h => hT y h (zco _ hy))
  have hyw : RdM w'' y.A y.l := by have := hmw.l.el _ (zm hi); rw [hy] at this; exact this.rd
  have el1 : ∀ z ∈ m1.l, z.At w'' := by
   rw [hm1]
   exact rN hq'.l.el ⟨hyw, hyl, (hq'.l.el _ (zm hk2i)).q⟩
  have hm2l : m2.l = m1.l := by rw [hm2]
  have el2 : ∀ z ∈ m2.l, z.At w'' := by rw [hm2l]; exact el1
  have hS : m2.S = mq.S ∧ m2.ss = mq.ss ∧ m2.d = mq.d := by rw [hm2]; exact ⟨hm1A.2.2.1, hm1A.2.2.2.1, hm1A.2.2.2.2.1⟩
  have hll : m2.l.length = mq.l.length := by rw [hm2l]; exact hm1A.2.1
  rw [hm3]
  refine ⟨⟨by dsimp only; rw [hlen2]; exact ho2.rd, rN el2 ⟨RdM.nil _ _, zah _, (el2 _ (zm hk3i)).q⟩⟩, by dsimp only; rw [hS.1, hS.2.1]; exact hq'.s, by dsimp only; rw [hlen2]; exact ho2.le, by dsimp only; rw [hS.2.1, hS.2.2]; exact hq'.sc, by dsimp only; rw [hlen2, hll]; exact hq'.ln, by dsimp only; rw [hS.2.1]; exact hq'.sn, by dsimp only; rw [hS.2.1]; exact hq'.sq⟩
 rw [← hm3] at hb4
 refine jz 0 (jO (jN (jv2 6 7 ?_)))
 refine jT ?_
 refine bM ?_
 refine qC rfl zi zb (fun j v hj => hb4.cells j v hj) (by first | rfl | (simp; done)) ?_
 refine qL rfl ?_
 refine qI ?_
 refine ⟨m3, 0, rfl, ⟨⟨_, hkt⟩, .inl ⟨rfl, ?_⟩⟩, K⟩
 rw [hFo, hm3p]
 unfold dA
 rw [← hmqp, hbd2, hbd]
 congr 1
 show MailP.mk _ _ _ _ = MailP.mk _ _ _ _
 have e1 : m2.p.subs = mq.p.subs := by rw [hm2]; exact hm1A.2.2.2.1
 have e2 : m2.p.valid = mq.p.valid + 1 := hm2v
 have e3 : m2.p.blob = mq.p.blob := by rw [hm2]; exact hm1A.2.2.2.2.2.1
 rw [e1, e2, e3, hm2p, hm2v]
 rfl
end
section
open Go.RowKit Go.Sort
set_option maxHeartbeats 1000000 in
theorem vO (m : MlC) (q t : Tx) (w : World) (hm : RdL w m) (hq : q.length ≤ 400000) (ht : t.length ≤ 400000) (hv : cZ w) :
  Calls Tryz.prog 19 #[m.val, encStr q, encStr t] w fun e w' => ∃ (m' : MlC) (k : Nat), e = .returned (.tuple #[m'.val, .int .i64 ((k : Nat) : Int)]) ∧ bI w w' m (bP m.p q t (cL m.p t)) m' k ∧ Frm [] w w' := by
 have hln := hm.ln
 have hpl := cA m
 refine VC.calls (nt := 65) (res := #[.cell 6 25, .tmp 7]) Tryz.func19 rfl Tryz.ntmps19 Tryz.results19 rfl ?_
 refine jS (jR ?_)
 refine Ops.m (qH.box rfl) rfl ?_
 rintro _ w1 ⟨rfl, hF_w1⟩
 have hb1 : Blk w1 w.heap.size 25 #[.slice m.A m.l.length m.c, .slice m.S m.ss.length m.d, .int .i64 m.v, .int .i64 m.b] := hF_w1.blk
 have K := hF_w1.frm
 generalize hg1 : w.heap.size = g1 at hb1 ⊢
 refine Ops.m (qH.alloc bQ) rfl ?_
 rintro _ w2 ⟨rfl, hF2⟩
 have hb4 := hF2.blk
 have hg4 : w.heap.size ≤ w1.heap.size := K.size
 have hb1 := hb1.frm hF2.frm jp
 have hl1 := hb1.lt
 have hl4 := hb4.lt
 have K := K.trans hF2.frm jp
 have hne14 : g1 ≠ w1.heap.size := by have := hF_w1.size; omega
 have hg1s : w.heap.size ≤ g1 := jo
 generalize hg4' : w1.heap.size = g4 at hb4 hg4 hne14 hl4 ⊢
 refine jz 0 (jO (jN (jv4 1 2 3 6 ?_)))
 refine jS (jS (jR (je (Run.loadA rfl zi zb hb1.cells (by first | rfl | (simp; done))) ?_)))
 refine Ops.cl (jE1 zed) (dJ m _ (hm.frm K) (hv.frm K)) rfl ?_
 rintro e w3 ⟨rfl, hf3⟩
 refine ⟨_, rfl, ?_⟩
 have hb1 := hb1.frm hf3 jp
 have hb4 := hb4.frm hf3 jp
 have hKs_hf3 := K.size
 have K := K.trans hf3 jp
 refine je (Run.not rfl) (jO (jN (jv5 1 2 3 6 14 ?_)))
 refine VC.condB rfl (fun hc1 => ?_) (fun hc1 => ?_)
 ·
  have hc1 : ¬ bZ m.p := by simpa using hc1
  refine jS (jR (je (Run.build evs.nil bQ (qB).choose_spec.1 (qB).choose_spec.2 rfl) ?_))
  refine Ops.st (qW.storeA rfl rfl zb hb4 rfl (MlC.cells_one qR)) ?_
  rintro w4 ⟨hb4, (hfw4 : Frm [g4] _ _), hsw4⟩
  have hb4 : Blk w4 g4 25 qR.cells.toArray := hb4
  have K := K.own hfw4 (fun y hy => by rw [za] at hy; omega)
  refine jz 1 (jO (jN (jv2 6 7 ?_)))
  refine jT ?_
  refine qZ (bM ?_)
  refine qC rfl zi zb (hb4.cells) (by first | rfl | (simp; done)) ?_
  refine qL rfl ?_
  refine qI ?_
  exact ⟨qR, 1, rfl, bI.err jd (by unfold bP; rw [if_pos hc1]), K⟩
 have hc1 : bZ m.p := by simpa using hc1
 obtain ⟨hm24, hv1, hv2, hb0, hb2, hr, hinb⟩ := cB hc1
 refine jQ (jN (jv4 1 2 3 6 ?_))
 refine jS (jS ?_)
 refine VC.split1 [(1, _), (2, _), (3, _), (6, _)] (js4 rfl rfl rfl rfl) 23 (.bool (decide (¬ isN q ∨ ¬ isN t))) ?_ ?_
 ·
  refine jR (jM ?_)
  refine Ops.cl (jE1 zbw) (bF q _ jo (hv.frm K)) rfl ?_
  rintro e _ ⟨rfl, rfl⟩
  refine ⟨_, rfl, ?_⟩
  by_cases hs17 : isN q
  ·
   refine je (Run.not rfl) (jM ?_)
   refine jG ?_
   refine Ops.clg rfl au (jE1 zbw) (bF t _ jo (hv.frm K)) rfl ?_
   rintro e _ ⟨rfl, rfl⟩
   refine ⟨_, rfl, ?_⟩
   refine jk (Run.not rfl) ?_
   refine je (Run.pickF rfl rfl au) (jO ?_)
   refine jN ⟨(js5 (jC (by simp [*])) rfl rfl rfl rfl), rfl⟩
  refine je (Run.not rfl) (jM ?_)
  refine jU ?_
  refine jU ?_
  refine jU ?_
  refine je (Run.pickT rfl rfl au) (jO ?_)
  refine jN ⟨(js5 (jC (by simp [*])) rfl rfl rfl rfl), rfl⟩
 intro Γ hΓ
 refine jN (VC.sub _ hΓ ?_)
 refine jD rfl (fun hc2 => ?_) fun hc2 => ?_
 ·
  refine jS (jR (je (Run.build evs.nil bQ (qB).choose_spec.1 (qB).choose_spec.2 rfl) ?_))
  refine Ops.st (qW.storeA rfl rfl zb hb4 rfl (MlC.cells_one qR)) ?_
  rintro w4 ⟨hb4, (hfw4 : Frm [g4] _ _), hsw4⟩
  have hb4 : Blk w4 g4 25 qR.cells.toArray := hb4
  have K := K.own hfw4 (fun y hy => by rw [za] at hy; omega)
  refine jz 18 (jO (jN (jv2 6 7 ?_)))
  refine jT ?_
  refine qZ (bM ?_)
  refine qC rfl zi zb (hb4.cells) (by first | rfl | (simp; done)) ?_
  refine qL rfl ?_
  refine qI ?_
  exact ⟨qR, 18, rfl, bI.err jd (by unfold bP; rw [if_neg (not_not_intro hc1), if_pos hc2]), K⟩
 obtain ⟨hc2a, hc2b⟩ : isN q ∧ isN t := ⟨Classical.not_not.1 (fun h => hc2 (.inl h)), Classical.not_not.1 (fun h => hc2 (.inr h))⟩
 refine jQ (jN (jv4 1 2 3 6 ?_))
 refine jS (jR (je (Run.loadA rfl zi zb hb1.cells (by first | rfl | (simp; done))) (jM ?_)))
 refine Ops.cl (jE2 zcz) (cQ m q _ (hm.frm K).l hln jo hr (hv.frm K)) rfl ?_
 rintro e w4 ⟨kf, rfl, hpos, hf4⟩
 refine ⟨_, rfl, ?_⟩
 have hb1 := hb1.frm hf4 jp
 have hb4 := hb4.frm hf4 jp
 have hKs_hf4 := K.size
 have K := K.trans hf4 jp
 refine jm rfl (je (Run.extract rfl rfl) (je (Run.extract rfl rfl) (ja rfl (ja rfl (jO (jN (jv6 1 2 3 6 8 9 ?_)))))))
 refine jS (jR (je (Run.loadA rfl zi zb hb1.cells (by first | rfl | (simp; done))) (jM ?_)))
 refine Ops.cl (jE2 zcz) (cQ m t _ (hm.frm K).l hln jo hr (hv.frm K)) rfl ?_
 rintro e w5 ⟨kt, rfl, hpos2, hf5⟩
 refine ⟨_, rfl, ?_⟩
 have hb1 := hb1.frm hf5 jp
 have hb4 := hb4.frm hf5 jp
 have hKs_hf5 := K.size
 have K := K.trans hf5 jp
 refine jm rfl (je (Run.extract rfl rfl) (je (Run.extract rfl rfl) (ja rfl (ja rfl (jO (jN (jv7 1 2 3 6 8 9 11 ?_)))))))
 refine jS (jB (jS (jR (jm rfl (je (Run.not rfl) (ja rfl (jO (jN (jv7 1 2 3 6 8 11 37 ?_)))))))))
 refine VC.condB rfl (fun hc3 => ?_) (fun hc3 => ?_)
 ·
  have hc3 : qJ q ∉ qD m.p := by simpa using hc3
  refine jS (jR (je (Run.build evs.nil bQ (qB).choose_spec.1 (qB).choose_spec.2 rfl) ?_))
  refine Ops.st (qW.storeA rfl rfl zb hb4 rfl (MlC.cells_one qR)) ?_
  rintro w6 ⟨hb4, (hfw6 : Frm [g4] _ _), hsw6⟩
  have hb4 : Blk w6 g4 25 qR.cells.toArray := hb4
  have K := K.own hfw6 (fun y hy => by rw [za] at hy; omega)
  refine jz 6 (jO (jN (jv2 6 7 ?_)))
  refine jT ?_
  refine qP (qZ (bM ?_))
  refine qC rfl zi zb (hb4.cells) (by first | rfl | (simp; done)) ?_
  refine qL rfl ?_
  refine qI ?_
  exact ⟨qR, 6, rfl, bI.err jd (by unfold bP; rw [if_neg (not_not_intro hc1), if_neg hc2, if_pos hc3]), K⟩
 have hc3 : qJ q ∈ qD m.p := by simpa using hc3
 refine jS (jR (jm rfl (ja rfl (jO (jN (jv6 1 2 3 6 8 41 ?_))))))
 refine VC.condB rfl (fun hc4 => ?_) (fun hc4 => ?_)
 ·
  have hc4 : qJ t ∈ qD m.p := by simpa using hc4
  refine jS (jR (je (Run.build evs.nil bQ (qB).choose_spec.1 (qB).choose_spec.2 rfl) ?_))
  refine Ops.st (qW.storeA rfl rfl zb hb4 rfl (MlC.cells_one qR)) ?_
  rintro w6 ⟨hb4, (hfw6 : Frm [g4] _ _), hsw6⟩
  have hb4 : Blk w6 g4 25 qR.cells.toArray := hb4
  have K := K.own hfw6 (fun y hy => by rw [za] at hy; omega)
  refine jz 15 (jO (jN (jv2 6 7 ?_)))
  refine jT ?_
  refine qP (qZ (bM ?_))
  refine qC rfl zi zb (hb4.cells) (by first | rfl | (simp; done)) ?_
  refine qL rfl ?_
  refine qI ?_
  exact ⟨qR, 15, rfl, bI.err jd (by unfold bP; rw [if_neg (not_not_intro hc1), if_neg hc2, if_neg (not_not_intro hc3), if_pos hc4]), K⟩
 have hc4 : qJ t ∉ qD m.p := by simpa using hc4
 refine jS (jR (jM ?_))
 refine Ops.cl (jE1 zbx) (bS q _ jo (hv.frm K)) rfl ?_
 rintro e w6 ⟨rfl, hf6⟩
 refine ⟨_, rfl, ?_⟩
 have hb1 := hb1.frm hf6 jp
 have hb4 := hb4.frm hf6 jp
 have hKs_hf6 := K.size
 have K := K.trans hf6 jp
 refine je (Run.eqlT rfl rfl) (ja rfl (jO (jN (jv6 1 2 3 6 8 44 ?_))))
 refine jD rfl (fun hc5 => ?_) fun hc5 => ?_
 ·
  have hc5 : qJ q = qT := hc5
  obtain ⟨hki, hkie⟩ := rU hr hpos hc3
  rw [hc5] at hkie
  refine jS (jR (je (Run.loadA rfl zi zb hb1.cells (by first | rfl | (simp; done))) (jm rfl (jM ?_))))
  refine Ops.cl (jE3 Tryz.call62) (sL m kf t _ (hm.frm K) ht hc1 hc2b hki hkie hc4 (hv.frm K)) rfl ?_
  rintro e w8 ⟨m', k, rfl, ⟨⟨S, hkS⟩, hres⟩, hf8⟩
  have hl47 := hb4.lt
  refine ⟨_, rfl, ?_⟩
  have hb1 := hb1.frm hf8 jp
  have hb4 := hb4.frm hf8 jp
  have hKs_hf8 := K.size
  have K := K.trans hf8 jp
  refine je (Run.extract rfl rfl) (je (Run.extract rfl rfl) ?_)
  refine Ops.st (qW.storeA rfl rfl zb hb4 rfl (MlC.cells_one m')) ?_
  rintro w9 ⟨hb4, (hf9 : Frm [g4] _ _), hs9⟩
  have hb4 : Blk w9 g4 25 m'.cells.toArray := hb4
  have hkS9 := (hkS.old hKs_hf8).frm hf9 (fun y hy h => by rw [za] at hy; rw [hy] at h; have := hkS.1 _ h; omega)
  have K := K.own hf9 (fun y hy => by rw [za] at hy; omega)
  refine ja rfl (jO (jN (jv2 6 7 ?_)))
  refine jT ?_
  refine qP (qZ (bM ?_))
  refine qC rfl zi zb (hb4.cells) (by first | rfl | (simp; done)) ?_
  refine qL rfl ?_
  refine qI ?_
  refine ⟨m', k, rfl, ⟨⟨S, hkS9⟩, ?_⟩, K⟩
  have e : bP m.p q t (cL m.p t) = cL m.p t := by
   unfold bP
   rw [if_neg (not_not_intro hc1), if_neg hc2, if_neg (not_not_intro hc3), if_neg hc4, if_pos hc5]
  rw [e]
  exact hres
 have hin : qJ q ≠ qT := hc5
 refine jS (jR (jm rfl (jM ?_)))
 refine Ops.cl (jE2 Tryz.call57) (eY t q _ jo jo (hv.frm K)) rfl ?_
 rintro e w7 ⟨rfl, hf7⟩
 refine ⟨_, rfl, ?_⟩
 have hb1 := hb1.frm hf7 jp
 have hb4 := hb4.frm hf7 jp
 have hKs_hf7 := K.size
 have K := K.trans hf7 jp
 refine ja rfl (jO (jN (jv5 1 2 3 6 54 ?_)))
 refine VC.condB rfl (fun hc6 => ?_) (fun hc6 => ?_)
 ·
  have hc6 : bO t q := by simpa using hc6
  refine jS (jR (je (Run.build evs.nil bQ (qB).choose_spec.1 (qB).choose_spec.2 rfl) ?_))
  refine Ops.st (qW.storeA rfl rfl zb hb4 rfl (MlC.cells_one qR)) ?_
  rintro w8 ⟨hb4, (hfw8 : Frm [g4] _ _), hsw8⟩
  have hb4 : Blk w8 g4 25 qR.cells.toArray := hb4
  have K := K.own hfw8 (fun y hy => by rw [za] at hy; omega)
  refine jz 16 (jO (jN (jv2 6 7 ?_)))
  refine jT ?_
  refine qP (qZ (bM ?_))
  refine qC rfl zi zb (hb4.cells) (by first | rfl | (simp; done)) ?_
  refine qL rfl ?_
  refine qI ?_
  exact ⟨qR, 16, rfl, bI.err jd (by unfold bP; rw [if_neg (not_not_intro hc1), if_neg hc2, if_neg (not_not_intro hc3), if_neg hc4, if_neg hin, if_pos hc6]), K⟩
 have hc6 : ¬ bO t q := by simpa using hc6
 refine jQ ?_
 refine qN (jN ?_)
 refine jv4 1 2 3 6 ?_
 refine jS (jR (je (Run.loadA rfl zi zb hb1.cells (by first | rfl | (simp; done))) (jm rfl (jM ?_))))
 refine Ops.cl (jE3 Tryz.call63) (mU m q t _ (hm.frm K) hq ht hr hm24 hv1 hv2 (fun h1 h2 => qZr hc1 hc2a hc2b hin (fun j hj => h1 _ (zm hj)) h2) (hv.frm K)) rfl ?_
 rintro e w8 ⟨m', k, rfl, ⟨⟨S, hkS⟩, hres⟩, hf8⟩
 have hl47 := hb4.lt
 refine ⟨_, rfl, ?_⟩
 have hb1 := hb1.frm hf8 jp
 have hb4 := hb4.frm hf8 jp
 have hKs_hf8 := K.size
 have K := K.trans hf8 jp
 refine je (Run.extract rfl rfl) (je (Run.extract rfl rfl) ?_)
 refine Ops.st (qW.storeA rfl rfl zb hb4 rfl (MlC.cells_one m')) ?_
 rintro w9 ⟨hb4, (hf9 : Frm [g4] _ _), hs9⟩
 have hb4 : Blk w9 g4 25 m'.cells.toArray := hb4
 have hkS9 := (hkS.old hKs_hf8).frm hf9 (fun y hy h => by rw [za] at hy; rw [hy] at h; have := hkS.1 _ h; omega)
 have K := K.own hf9 (fun y hy => by rw [za] at hy; omega)
 refine ja rfl (jO (jN (jv2 6 7 ?_)))
 refine jT ?_
 refine bM ?_
 refine qC rfl zi zb (hb4.cells) (by first | rfl | (simp; done)) ?_
 refine qL rfl ?_
 refine qI ?_
 refine ⟨m', k, rfl, ⟨⟨S, hkS9⟩, ?_⟩, K⟩
 have e : bP m.p q t (cL m.p t) = dM m.p q t := by
  unfold bP
  rw [if_neg (not_not_intro hc1), if_neg hc2, if_neg (not_not_intro hc3), if_neg hc4, if_neg hin, if_neg hc6]
 rw [e]
 exact hres
end
section
open Go.RowKit
def UB (l : List Nat) : List Value := l.map fun x : Nat => Value.int .u64 ((x : Nat) : Int)
theorem qZs (l : List Nat) : ∀ u ∈ UB l, u.oneCell' = true := by
 intro u hu
 obtain ⟨x, _, rfl⟩ := List.mem_map.1 hu
 rfl
theorem pK (a b : List Nat) : UB (a ++ b) = UB a ++ UB b := zbm
theorem yB (l : List Nat) (k x : Nat) : (UB l).set k (.int .u64 ((x : Nat) : Int)) = UB (l.set k x) := by simp [UB, zet]
def ltN (a b : Nat) : Bool := decide (a < b)
theorem jE : Go.Sort.SWO ltN := ⟨fun x => by simp [ltN], fun x y z h1 h2 => by simp [ltN] at *; omega, fun x y z h1 h2 => by simp [ltN] at *; omega⟩
def AO (w : World) (B : Option Addr) (c N : Nat) (d : Array Nat) : Prop := d.size = N ∧ Own w 40 1 B N c (UB d.toList)
theorem AO.frm {w w' : World} {B : Option Addr} {c N : Nat} {d : Array Nat} {S : List Nat} (h : AO w B c N d) (k : Frm S w w') (hS : ∀ x ∈ ob B, x ∉ S) : AO w' B c N d := ⟨h.1, h.2.frm k hS⟩
theorem AO.nil {w w' : World} {B : Option Addr} {c N : Nat} {d : Array Nat} (h : AO w B c N d) (k : Frm [] w w') : AO w' B c N d := h.frm k jp
theorem AO.adr {w : World} {B : Option Addr} {c N : Nat} {d : Array Nat} (h : AO w B c N d) (hN : 0 < N) : ∃ ad, B = some ad := by
 have hr : Rd w 1 B N (UB d.toList) := h.2.rd
 obtain ⟨ad, h1, _⟩ := hr.2 hN
 exact ⟨ad, h1⟩
theorem AO.at {w : World} {ad : Addr} {c N i : Nat} {d : Array Nat} (h : AO w (some ad) c N d) (hi : i < N) : w.cell? (ad.add i) = some (.int .u64 ((d[i]! : Nat) : Int)) := by
 have hr : Rd w 1 (some ad) N (UB d.toList) := h.2.rd
 obtain ⟨ad2, h1, _, hc⟩ := hr.2 jo
 cases h1
 have hs := h.1
 refine hc i _ ?_
 have h2 : i < d.size := jo
 simp [UB, h2]
theorem AO.swp {w : World} {B : Option Addr} {c N i j : Nat} {d : Array Nat} (hs : d.size = N) (h : Own w 40 1 B N c (((UB d.toList).set i (.int .u64 ((d[j]! : Nat) : Int))).set j (.int .u64 ((d[i]! : Nat) : Int)))) : AO w B c N (Go.Sort.swp d i j) := by
 refine ⟨by simp [Go.Sort.swp, hs], ?_⟩
 rw [yB, yB] at h
 simpa [Go.Sort.swp] using h
end
section
open Go.RowKit Go.Sort Go.Sort
theorem qQt (x : Nat) (w : World) : Calls Tryz.prog 172 #[.int .u64 ((x : Nat) : Int)] w fun e w' => e = .returned (.bool false) ∧ w = w' := by
 refine VC.calls (nt := 6) (res := #[.tmp 2]) Tryz.func172 rfl Tryz.ntmps172 Tryz.results172 rfl ?_
 refine jS (jR (ja rfl (jO (jN (jv1 0 ?_)))))
 refine jS (jR (jm rfl (jm rfl (jb rfl rfl (Bin.neqN _ _) (ja rfl (jO (jN (jv1 2 ?_))))))))
 refine jT ?_
 refine qF rfl ?_
 exact ⟨jp, rfl⟩
theorem bL (x y : Nat) (w : World) : Calls Tryz.prog 147 #[.int .u64 ((x : Nat) : Int), .int .u64 ((y : Nat) : Int)] w fun e w' => e = .returned (.bool (decide (x < y))) ∧ w = w' := by
 refine VC.calls (nt := 17) (res := #[.tmp 4]) Tryz.func147 rfl Tryz.ntmps147 Tryz.results147 rfl ?_
 refine jS (jR (ja rfl (jO (jN (jv2 0 1 ?_)))))
 refine jS (jR (jM ?_))
 refine Ops.cl (jE1 Tryz.call172) (qQt x _) rfl ?_
 rintro e _ ⟨rfl, rfl⟩
 refine ⟨_, rfl, ?_⟩
 refine jM ?_
 refine Ops.sk rfl (rfl) rfl ?_
 refine Ops.sk rfl (rfl) rfl ?_
 refine Ops.sk rfl (rfl) rfl ?_
 refine je (Run.pickF rfl rfl au) (jM ?_)
 refine jG ?_
 refine jG ?_
 refine jk (Run.bin rfl rfl (Bin.lssN _ _)) ?_
 refine je (Run.pickF rfl rfl au) (ja rfl (jO (jN (jv1 4 ?_))))
 refine jT ?_
 refine qF rfl ?_
 exact ⟨rfl, rfl⟩
theorem sO {a j : Nat} {d : Array Nat} (h1 : a < j) (h2 : d[j]! < d[j - 1]!) : insInner ltN a j d = insInner ltN a (j - 1) (swp d j (j - 1)) := by
 obtain ⟨k, rfl⟩ : ∃ k, j = k + 1 := ⟨j - 1, jo⟩
 rw [insInner, if_pos (by simp [ltN] at *; omega)]
 rfl
theorem pM {a j : Nat} {d : Array Nat} (h : ¬ (a < j ∧ d[j]! < d[j - 1]!)) : insInner ltN a j d = d := by
 cases j with
 | zero => rfl
 | succ k => rw [insInner, if_neg (by simp [ltN] at *; omega)]
theorem tQ {a b i : Nat} {d : Array Nat} (h : i < b) : insOuter ltN a b i d = insOuter ltN a b (i + 1) (insInner ltN a i d) := by
 conv => lhs; unfold insOuter
 rw [if_pos h]
theorem pN {a b i : Nat} {d : Array Nat} (h : ¬ i < b) : insOuter ltN a b i d = d := by
 unfold insOuter
 rw [if_neg h]
theorem yC (B : Option Addr) (c N : Nat) (d : Array Nat) (w : World) (h : AO w B c N d) (hN : N ≤ 1000000) (a b : Nat) (ha : a ≤ N) (hb : b ≤ N) :
  Calls Tryz.prog 141 #[.slice B N c, .int .i64 ((a : Nat) : Int), .int .i64 ((b : Nat) : Int)] w fun e w' => e = .returned (.tuple #[]) ∧ AO w' B c N (insertionSort ltN d a b) ∧ Frm (ob B) w w' := by
 have hA := h
 refine VC.calls (nt := 49) (res := #[]) Tryz.func141 rfl Tryz.ntmps141 Tryz.results141 rfl ?_
 refine jS (jR (jm rfl (jb rfl rfl (Bin.add_i64 _ 1 jo) (ja rfl (jO (jN (jv4 0 1 2 6 ?_)))))))
 refine jB ?_
 refine VC.loop (σ := Nat × Array Nat) (fun s => [(0, .slice B N c), (1, .int .i64 ((a : Nat) : Int)), (2, .int .i64 ((b : Nat) : Int)), (6, .int .i64 ((s.1 : Nat) : Int))]) (fun s wr => a + 1 ≤ s.1 ∧ s.1 ≤ 1000002 ∧ AO wr B c N s.2 ∧ insOuter ltN a b s.1 s.2 = insertionSort ltN d a b ∧ Frm (ob B) w wr) (fun s => b - s.1) (a + 1, d) (js4 rfl rfl rfl rfl) ⟨zv _, jo, hA, rfl, Frm.refl _ _⟩ ?_
 rintro ⟨i, di⟩ wr ⟨hi, hi2, hA, he, K⟩
 dsimp only at *
 refine jS (jS (jR (jm rfl (jm rfl (jb rfl rfl (Bin.lssN _ _) (jO (jN (jv5 0 1 2 6 12 ?_))))))))
 refine jD rfl (fun hc1 => ?_) fun hc1 => ?_
 ·
  obtain ⟨ad, rfl⟩ := hA.adr jo
  refine jQ (jN (jv4 0 1 2 6 ?_))
  refine jS (jB (jS (jR (jm rfl (ja rfl (jO (jN (jv5 0 1 2 6 7 ?_))))))))
  refine jB ?_
  refine VC.loop (σ := Nat × Array Nat) (fun s => [(0, .slice (some ad) N c), (1, .int .i64 ((a : Nat) : Int)), (2, .int .i64 ((b : Nat) : Int)), (6, .int .i64 ((i : Nat) : Int)), (7, .int .i64 ((s.1 : Nat) : Int))]) (fun s wr => s.1 ≤ i ∧ AO wr (some ad) c N s.2 ∧ insInner ltN a s.1 s.2 = insInner ltN a i di ∧ Frm (ob (some ad)) w wr) (fun s => s.1) (i, di) (js5 rfl rfl rfl rfl rfl) ⟨zv _, hA, rfl, K⟩ ?_
  rintro ⟨j, dj⟩ wr ⟨hj, hA, he2, K⟩
  dsimp only at *
  refine jS (jS ?_)
  refine VC.meet (σ := Unit) (fun s => [(0, .slice (some ad) N c), (1, .int .i64 ((a : Nat) : Int)), (2, .int .i64 ((b : Nat) : Int)), (6, .int .i64 ((i : Nat) : Int)), (7, .int .i64 ((j : Nat) : Int)), (30, .bool (decide (a < j ∧ dj[j]! < dj[j - 1]!)))]) (fun s wz => Frm [] wr wz) ?_ ?_
  ·
   refine VC.held (fun W => Frm [] wr W) jK ?_
   have hS : Frm [] wr wr.drew := (Frm.refl _ _).drew
   refine jH 0 rfl hS (fun w0 hw0 => Run.mv rfl) ?_
   refine jH 1 rfl hS (fun w0 hw0 => Run.mv rfl) ?_
   refine jH 2 rfl hS (fun w0 hw0 => Run.bin rfl rfl (Bin.gtrN _ _)) ?_
   by_cases hs18 : a < j
   ·
    refine jH 3 rfl hS (fun w0 hw0 => Run.mv rfl) ?_
    refine qQ.take 4 rfl jK jK jK hS (fun w0 hw0 => Run.mv rfl) (Up.g rfl (by first | rfl | exact decide_eq_true hs18 | (simp [hs18]; done))) rfl rfl ?_
    refine qQ.take 5 rfl jK jK jK hS (fun w0 hw0 => Run.mv rfl) (Up.g rfl (by first | rfl | exact decide_eq_true hs18 | (simp [hs18]; done))) rfl rfl ?_
    refine qQ.take 6 rfl jK jK jK hS (fun w0 hw0 => Run.index1 _ rfl rfl zd zc jo) (Up.g rfl (by first | rfl | exact decide_eq_true hs18 | (simp [hs18]; done))) rfl rfl ?_
    refine qQ.take 7 rfl jK jK jK hS (fun w0 hw0 => Run.load rfl zh ((hA.nil hw0).at (i := j) jo)) (Up.g rfl (by first | rfl | exact decide_eq_true hs18 | (simp [hs18]; done))) rfl rfl ?_
    refine qQ.take 8 rfl jK jK jK hS (fun w0 hw0 => Run.mv rfl) (Up.g rfl (by first | rfl | exact decide_eq_true hs18 | (simp [hs18]; done))) rfl rfl ?_
    refine qQ.take 9 rfl jK jK jK hS (fun w0 hw0 => Run.mv rfl) (Up.g rfl (by first | rfl | exact decide_eq_true hs18 | (simp [hs18]; done))) rfl rfl ?_
    refine qQ.take 10 rfl jK jK jK hS (fun w0 hw0 => Run.bin rfl rfl (Bin.sub_i64 _ 1 jo jo)) (Up.g rfl (by first | rfl | exact decide_eq_true hs18 | (simp [hs18]; done))) rfl rfl ?_
    refine qQ.take 11 rfl jK jK jK hS (fun w0 hw0 => Run.index1 _ rfl rfl zd zc jo) (Up.g rfl (by first | rfl | exact decide_eq_true hs18 | (simp [hs18]; done))) rfl rfl ?_
    refine qQ.take 12 rfl jK jK jK hS (fun w0 hw0 => Run.load rfl zh ((hA.nil hw0).at (i := j - 1) jo)) (Up.g rfl (by first | rfl | exact decide_eq_true hs18 | (simp [hs18]; done))) rfl rfl ?_
    refine qQ.cl 13 rfl jK (jE2 zcc) (bL _ _ _) (Up.g rfl (by first | rfl | exact decide_eq_true hs18 | (simp [hs18]; done))) rfl rfl ?_
    rintro e _ ⟨rfl, rfl⟩
    refine ⟨_, rfl, hS, ?_⟩
    by_cases hs29 : dj[j]! < dj[j - 1]!
    ·
     refine jH 14 rfl hS (fun w0 hw0 => Run.pickT rfl rfl (by first | rfl | exact decide_eq_true hs18 | exact decide_eq_true hs29 | (simp [hs18]; done) | (simp [hs29]; done))) ?_
     refine qQ.done jK ?_
     refine jN ⟨(), (js6 rfl rfl rfl rfl rfl (jC (by grind))), ?_⟩
     exact hS
    refine jH 14 rfl hS (fun w0 hw0 => Run.pickT rfl rfl (by first | rfl | exact decide_eq_true hs18 | exact decide_eq_false hs29 | (simp [hs18]; done) | (simp [hs29]; done))) ?_
    refine qQ.done jK ?_
    refine jN ⟨(), (js6 rfl rfl rfl rfl rfl (jC (by grind))), ?_⟩
    exact hS
   refine jH 3 rfl hS (fun w0 hw0 => Run.mv rfl) ?_
   refine qQ.skip 4 rfl jK jK jK hS rfl rfl (by first | rfl | exact decide_eq_false hs18 | (simp [hs18]; done)) rfl rfl ?_
   refine qQ.skip 5 rfl jK jK jK hS rfl rfl (by first | rfl | exact decide_eq_false hs18 | (simp [hs18]; done)) rfl rfl ?_
   refine qQ.skip 6 rfl jK jK jK hS rfl rfl (by first | rfl | exact decide_eq_false hs18 | (simp [hs18]; done)) rfl rfl ?_
   refine qQ.skip 7 rfl jK jK jK hS rfl rfl (by first | rfl | exact decide_eq_false hs18 | (simp [hs18]; done)) rfl rfl ?_
   refine qQ.skip 8 rfl jK jK jK hS rfl rfl (by first | rfl | exact decide_eq_false hs18 | (simp [hs18]; done)) rfl rfl ?_
   refine qQ.skip 9 rfl jK jK jK hS rfl rfl (by first | rfl | exact decide_eq_false hs18 | (simp [hs18]; done)) rfl rfl ?_
   refine qQ.skip 10 rfl jK jK jK hS rfl rfl (by first | rfl | exact decide_eq_false hs18 | (simp [hs18]; done)) rfl rfl ?_
   refine qQ.skip 11 rfl jK jK jK hS rfl rfl (by first | rfl | exact decide_eq_false hs18 | (simp [hs18]; done)) rfl rfl ?_
   refine qQ.skip 12 rfl jK jK jK hS rfl rfl (by first | rfl | exact decide_eq_false hs18 | (simp [hs18]; done)) rfl rfl ?_
   refine qQ.skip 13 rfl jK jK jK hS rfl rfl (by first | rfl | exact decide_eq_false hs18 | (simp [hs18]; done)) rfl rfl ?_
   refine jH 14 rfl hS (fun w0 hw0 => Run.pickF rfl rfl (by first | rfl | exact decide_eq_false hs18 | (simp [hs18]; done))) ?_
   refine qQ.done jK ?_
   refine jN ⟨(), (js6 rfl rfl rfl rfl rfl (jC (by grind))), ?_⟩
   exact hS
  rintro _ wz hfz Γ hΓ
  have hA := hA.nil hfz
  have K := K.trans hfz jp
  refine jN (VC.sub _ hΓ ?_)
  refine jD rfl (fun hc2 => ?_) fun hc2 => ?_
  ·
   obtain ⟨hq1, hq2⟩ := hc2
   have hgo := sO hq1 hq2
   refine jQ (jN (jv5 0 1 2 6 7 ?_))
   refine jS (jB ?_)
   refine VC.held (fun _ => True) jK ?_
   refine jH 0 rfl trivial (fun w0 hw0 => Run.mv rfl) ?_
   refine jH 1 rfl trivial (fun w0 hw0 => Run.mv rfl) ?_
   refine jH 2 rfl trivial (fun w0 hw0 => Run.mv rfl) ?_
   refine jH 3 rfl trivial (fun w0 hw0 => Run.mv rfl) ?_
   refine jH 4 rfl trivial (fun w0 hw0 => Run.bin rfl rfl (Bin.sub_i64 _ 1 jo jo)) ?_
   refine jH 5 rfl trivial (fun w0 hw0 => Run.mv rfl) ?_
   refine jH 6 rfl trivial (fun w0 hw0 => Run.mv rfl) ?_
   refine jH 7 rfl trivial (fun w0 hw0 => Run.bin rfl rfl (Bin.sub_i64 _ 1 jo jo)) ?_
   refine jH 8 rfl trivial (fun w0 hw0 => Run.index1 _ rfl rfl zd zc jo) ?_
   refine jH 10 rfl trivial (fun w0 hw0 => Run.mv rfl) ?_
   refine jH 11 rfl trivial (fun w0 hw0 => Run.mv rfl) ?_
   refine jH 12 rfl trivial (fun w0 hw0 => Run.index1 _ rfl rfl zd zc jo) ?_
   refine qQ.r2 9 13 rfl rfl jK jK jK jK trivial rfl rfl (Run.load rfl zh ((hA.nil (qV.drew _).frm).at (i := j - 1) jo)) (Run.load rfl zh ((hA.nil (qV.drew _).frm).at (i := j) jo)) (Run.load rfl zh ((hA.nil (qV.drew _).frm).at (i := j) jo)) (Run.load rfl zh ((hA.nil (qV.drew _).frm).at (i := j - 1) jo)) rfl rfl rfl rfl rfl ?_
   refine jH 14 rfl trivial (fun w0 hw0 => Run.index1 _ rfl rfl zd zc jo) ?_
   refine qQ.st 15 rfl jK (qW.storeOwn (j) rfl rfl zc (hA.nil (qV.drew _).frm).2 rfl jo rfl) trivial rfl ?_
   rintro w2a ⟨ho_a, hf_a, hs_a⟩
   refine ⟨trivial, ?_⟩
   refine jH 16 rfl trivial (fun w0 hw0 => Run.index1 _ rfl rfl zd zc jo) ?_
   refine qQ.st 17 rfl jK (qW.storeOwn (j - 1) rfl rfl zc ho_a rfl jo rfl) trivial rfl ?_
   rintro w2 ⟨ho_b, hf_b, hs_b⟩
   have hAs := AO.swp hA.1 ho_b
   have hKs := ((qV.drew _).frm.mono (T := ob (some ad)) jp).trans (hf_a.trans hf_b (fun x hx => .inl hx)) (fun x hx => .inl hx)
   refine ⟨trivial, ?_⟩
   refine qQ.done jK ?_
   refine qN (jN ?_)
   refine jv5 0 1 2 6 7 ?_
   refine jR (jm rfl (jb rfl rfl (Bin.sub_i64 _ 1 jo jo) (ja rfl (jO ?_))))
   refine jN ⟨(j - 1, swp dj j (j - 1)), (js5 rfl rfl rfl rfl rfl), ?_, ?_⟩
   · exact ⟨jo, hAs, by rw [← hgo, he2], K.trans hKs (fun x hx => .inl hx)⟩
   first | omega | (dsimp only; omega)
  refine jX ?_
  refine qK (qK (qS ?_))
  refine qN (jN ?_)
  refine jv4 0 1 2 6 ?_
  refine jR (jm rfl (jb rfl rfl (Bin.add_i64 _ 1 jo) (ja rfl (jO ?_))))
  refine jN ⟨(i + 1, dj), (js4 rfl rfl rfl rfl), ?_, ?_⟩
  · exact ⟨jo, jo, hA, by rw [← he, tQ hc1, ← he2, pM hc2], K⟩
  first | omega | (dsimp only; omega)
 refine jX ?_
 refine qK (qK (qS ?_))
 refine jL ?_
 exact ⟨rfl, by rw [← he, pN hc1]; exact hA, K⟩
end
section
open Go.RowKit Go.Sort
def dI (hi first root : Nat) (d : Array Nat) : Nat := if 2 * root + 2 < hi ∧ d[first + (2 * root + 1)]! < d[first + (2 * root + 2)]! then 2 * root + 2 else 2 * root + 1
theorem yD {hi first root : Nat} {d : Array Nat} (h : 2 * root + 1 < hi) : dI hi first root d < hi ∧ root < dI hi first root d := by
 unfold dI
 split
 · rename_i h2; omega
 omega
theorem yE {hi first root : Nat} {d : Array Nat} (h : hi ≤ 2 * root + 1) : siftDown ltN hi first root d = d := by
 unfold siftDown
 rw [dif_pos h]
theorem yF {hi first root : Nat} {d : Array Nat} (h : ¬ hi ≤ 2 * root + 1) : siftDown ltN hi first root d = if d[first + root]! < d[first + dI hi first root d]! then siftDown ltN hi first (dI hi first root d) (swp d (first + root) (first + dI hi first root d)) else d := by
 conv => lhs; unfold siftDown
 rw [dif_neg h]
 unfold dI
 simp only [ltN, zda, decide_eq_true_eq, zcv, decide_eq_false_iff_not, show 2 * root + 1 + 1 = 2 * root + 2 from rfl, show first + (2 * root + 1) + 1 = first + (2 * root + 2) from rfl]
 by_cases h2 : 2 * root + 2 < hi ∧ d[first + (2 * root + 1)]! < d[first + (2 * root + 2)]!
 ·
  simp only [if_pos h2]
  by_cases h4 : d[first + root]! < d[first + (2 * root + 2)]!
  · simp only [h4, not_true_eq_false, if_false, if_true, dif_pos h2.1]
  simp only [h4, not_false_eq_true, if_false, if_true]
 simp only [if_neg h2]
 by_cases h4 : d[first + root]! < d[first + (2 * root + 1)]!
 · simp only [h4, not_true_eq_false, if_false, if_true]
 simp only [h4, not_false_eq_true, if_false, if_true]
theorem oJ (B : Option Addr) (c N : Nat) (d : Array Nat) (w : World) (h : AO w B c N d) (hN : N ≤ 1000000) (lo hi first : Nat) (hf : first + hi ≤ N) (hlo : lo ≤ 1000000) (hN0 : 0 < N) :
  Calls Tryz.prog 167 #[.slice B N c, .int .i64 ((lo : Nat) : Int), .int .i64 ((hi : Nat) : Int), .int .i64 ((first : Nat) : Int)] w fun e w' => e = .returned (.tuple #[]) ∧ AO w' B c N (siftDown ltN hi first lo d) ∧ Frm (ob B) w w' := by
 obtain ⟨ad, rfl⟩ := h.adr hN0
 have hA := h
 refine VC.calls (nt := 76) (res := #[]) Tryz.func167 rfl Tryz.ntmps167 Tryz.results167 rfl ?_
 refine jS (jR (jm rfl (ja rfl (jO (jN (jv4 0 2 3 8 ?_))))))
 refine jB ?_
 refine VC.loop (σ := Nat × Array Nat) (fun s => [(0, .slice (some ad) N c), (2, .int .i64 ((hi : Nat) : Int)), (3, .int .i64 ((first : Nat) : Int)), (8, .int .i64 ((s.1 : Nat) : Int))]) (fun s wr => s.1 ≤ 1000000 ∧ AO wr (some ad) c N s.2 ∧ siftDown ltN hi first s.1 s.2 = siftDown ltN hi first lo d ∧ Frm (ob (some ad)) w wr) (fun s => hi - s.1) (lo, d) (js4 rfl rfl rfl rfl) ⟨hlo, hA, rfl, Frm.refl _ _⟩ ?_
 rintro ⟨r, dr⟩ wr ⟨hr, hA, he, K⟩
 dsimp only at *
 refine jB (jS (jR (jm rfl (jb rfl rfl (Bin.mul_i64 2 _ jo) (jb rfl rfl (Bin.add_i64 _ 1 jo) (ja rfl (jO (jN (jv5 0 2 3 8 9 ?_)))))))))
 refine jS (jS (jR (jm rfl (jm rfl (jb rfl rfl (Bin.geqN _ _) (jO (jN (jv6 0 2 3 8 9 16 ?_))))))))
 refine jD rfl (fun hc1 => ?_) fun hc1 => ?_
 ·
  have hst := yE (first := first) (d := dr) hc1
  rw [hst] at he
  refine jX ?_
  refine qK (fF rfl (qK (qS ?_)))
  refine jL ?_
  exact ⟨rfl, by rw [← he]; exact hA, K⟩
 have hst := yF (first := first) (d := dr) hc1
 have hch := yD (first := first) (d := dr) (Nat.lt_of_not_le hc1)
 refine jQ (jN (jv5 0 2 3 8 9 ?_))
 refine jS (jS ?_)
 refine VC.meet (σ := Unit) (fun s => [(0, .slice (some ad) N c), (2, .int .i64 ((hi : Nat) : Int)), (3, .int .i64 ((first : Nat) : Int)), (8, .int .i64 ((r : Nat) : Int)), (9, .int .i64 (((2 * r + 1) : Nat) : Int)), (36, .bool (decide (2 * r + 2 < hi ∧ dr[first + (2 * r + 1)]! < dr[first + (2 * r + 2)]!)))]) (fun s wz => Frm [] wr wz) ?_ ?_
 ·
  refine VC.held (fun W => Frm [] wr W) jK ?_
  have hS : Frm [] wr wr.drew := (Frm.refl _ _).drew
  refine jH 0 rfl hS (fun w0 hw0 => Run.mv rfl) ?_
  refine jH 1 rfl hS (fun w0 hw0 => Run.bin rfl rfl (Bin.add_i64 _ 1 jo)) ?_
  refine jH 2 rfl hS (fun w0 hw0 => Run.mv rfl) ?_
  refine jH 3 rfl hS (fun w0 hw0 => Run.bin rfl rfl (Bin.lssN _ _)) ?_
  by_cases hs20 : 2 * r + 1 + 1 < hi
  ·
   refine jH 4 rfl hS (fun w0 hw0 => Run.mv rfl) ?_
   refine qQ.take 5 rfl jK jK jK hS (fun w0 hw0 => Run.mv rfl) (Up.g rfl (by first | rfl | exact decide_eq_true hs20 | (simp [hs20]; done))) rfl rfl ?_
   refine qQ.take 6 rfl jK jK jK hS (fun w0 hw0 => Run.mv rfl) (Up.g rfl (by first | rfl | exact decide_eq_true hs20 | (simp [hs20]; done))) rfl rfl ?_
   refine qQ.take 7 rfl jK jK jK hS (fun w0 hw0 => Run.mv rfl) (Up.g rfl (by first | rfl | exact decide_eq_true hs20 | (simp [hs20]; done))) rfl rfl ?_
   refine qQ.take 8 rfl jK jK jK hS (fun w0 hw0 => Run.bin rfl rfl (Bin.add_i64 _ _ jo)) (Up.g rfl (by first | rfl | exact decide_eq_true hs20 | (simp [hs20]; done))) rfl rfl ?_
   refine qQ.take 9 rfl jK jK jK hS (fun w0 hw0 => Run.index1 _ rfl rfl zd zc jo) (Up.g rfl (by first | rfl | exact decide_eq_true hs20 | (simp [hs20]; done))) rfl rfl ?_
   refine qQ.take 10 rfl jK jK jK hS (fun w0 hw0 => Run.load rfl zh ((hA.nil hw0).at (i := first + (2 * r + 1)) jo)) (Up.g rfl (by first | rfl | exact decide_eq_true hs20 | (simp [hs20]; done))) rfl rfl ?_
   refine qQ.take 11 rfl jK jK jK hS (fun w0 hw0 => Run.mv rfl) (Up.g rfl (by first | rfl | exact decide_eq_true hs20 | (simp [hs20]; done))) rfl rfl ?_
   refine qQ.take 12 rfl jK jK jK hS (fun w0 hw0 => Run.mv rfl) (Up.g rfl (by first | rfl | exact decide_eq_true hs20 | (simp [hs20]; done))) rfl rfl ?_
   refine qQ.take 13 rfl jK jK jK hS (fun w0 hw0 => Run.mv rfl) (Up.g rfl (by first | rfl | exact decide_eq_true hs20 | (simp [hs20]; done))) rfl rfl ?_
   refine qQ.take 14 rfl jK jK jK hS (fun w0 hw0 => Run.bin rfl rfl (Bin.add_i64 _ _ jo)) (Up.g rfl (by first | rfl | exact decide_eq_true hs20 | (simp [hs20]; done))) rfl rfl ?_
   refine qQ.take 15 rfl jK jK jK hS (fun w0 hw0 => Run.bin rfl rfl (Bin.add_i64 _ 1 jo)) (Up.g rfl (by first | rfl | exact decide_eq_true hs20 | (simp [hs20]; done))) rfl rfl ?_
   refine qQ.take 16 rfl jK jK jK hS (fun w0 hw0 => Run.index1 _ rfl rfl zd zc jo) (Up.g rfl (by first | rfl | exact decide_eq_true hs20 | (simp [hs20]; done))) rfl rfl ?_
   refine qQ.take 17 rfl jK jK jK hS (fun w0 hw0 => Run.load rfl zh ((hA.nil hw0).at (i := first + (2 * r + 1) + 1) jo)) (Up.g rfl (by first | rfl | exact decide_eq_true hs20 | (simp [hs20]; done))) rfl rfl ?_
   refine qQ.cl 18 rfl jK (jE2 zcc) (bL _ _ _) (Up.g rfl (by first | rfl | exact decide_eq_true hs20 | (simp [hs20]; done))) rfl rfl ?_
   rintro e _ ⟨rfl, rfl⟩
   refine ⟨_, rfl, hS, ?_⟩
   by_cases hs35 : dr[first + (2 * r + 1)]! < dr[first + (2 * r + 1) + 1]!
   ·
    refine jH 19 rfl hS (fun w0 hw0 => Run.pickT rfl rfl (by first | rfl | exact decide_eq_true hs20 | exact decide_eq_true hs35 | (simp [hs20]; done) | (simp [hs35]; done))) ?_
    refine qQ.done jK ?_
    refine jN ⟨(), (js6 rfl rfl rfl rfl rfl (jC (by rw [show first + (2 * r + 2) = first + (2 * r + 1) + 1 by omega]; grind))), ?_⟩
    exact hS
   refine jH 19 rfl hS (fun w0 hw0 => Run.pickT rfl rfl (by first | rfl | exact decide_eq_true hs20 | exact decide_eq_false hs35 | (simp [hs20]; done) | (simp [hs35]; done))) ?_
   refine qQ.done jK ?_
   refine jN ⟨(), (js6 rfl rfl rfl rfl rfl (jC (by rw [show first + (2 * r + 2) = first + (2 * r + 1) + 1 by omega]; grind))), ?_⟩
   exact hS
  refine jH 4 rfl hS (fun w0 hw0 => Run.mv rfl) ?_
  refine qQ.skip 5 rfl jK jK jK hS rfl rfl (by first | rfl | exact decide_eq_false hs20 | (simp [hs20]; done)) rfl rfl ?_
  refine qQ.skip 6 rfl jK jK jK hS rfl rfl (by first | rfl | exact decide_eq_false hs20 | (simp [hs20]; done)) rfl rfl ?_
  refine qQ.skip 7 rfl jK jK jK hS rfl rfl (by first | rfl | exact decide_eq_false hs20 | (simp [hs20]; done)) rfl rfl ?_
  refine qQ.skip 8 rfl jK jK jK hS rfl rfl (by first | rfl | exact decide_eq_false hs20 | (simp [hs20]; done)) rfl rfl ?_
  refine qQ.skip 9 rfl jK jK jK hS rfl rfl (by first | rfl | exact decide_eq_false hs20 | (simp [hs20]; done)) rfl rfl ?_
  refine qQ.skip 10 rfl jK jK jK hS rfl rfl (by first | rfl | exact decide_eq_false hs20 | (simp [hs20]; done)) rfl rfl ?_
  refine qQ.skip 11 rfl jK jK jK hS rfl rfl (by first | rfl | exact decide_eq_false hs20 | (simp [hs20]; done)) rfl rfl ?_
  refine qQ.skip 12 rfl jK jK jK hS rfl rfl (by first | rfl | exact decide_eq_false hs20 | (simp [hs20]; done)) rfl rfl ?_
  refine qQ.skip 13 rfl jK jK jK hS rfl rfl (by first | rfl | exact decide_eq_false hs20 | (simp [hs20]; done)) rfl rfl ?_
  refine qQ.skip 14 rfl jK jK jK hS rfl rfl (by first | rfl | exact decide_eq_false hs20 | (simp [hs20]; done)) rfl rfl ?_
  refine qQ.skip 15 rfl jK jK jK hS rfl rfl (by first | rfl | exact decide_eq_false hs20 | (simp [hs20]; done)) rfl rfl ?_
  refine qQ.skip 16 rfl jK jK jK hS rfl rfl (by first | rfl | exact decide_eq_false hs20 | (simp [hs20]; done)) rfl rfl ?_
  refine qQ.skip 17 rfl jK jK jK hS rfl rfl (by first | rfl | exact decide_eq_false hs20 | (simp [hs20]; done)) rfl rfl ?_
  refine qQ.skip 18 rfl jK jK jK hS rfl rfl (by first | rfl | exact decide_eq_false hs20 | (simp [hs20]; done)) rfl rfl ?_
  refine jH 19 rfl hS (fun w0 hw0 => Run.pickF rfl rfl (by first | rfl | exact decide_eq_false hs20 | (simp [hs20]; done))) ?_
  refine qQ.done jK ?_
  refine jN ⟨(), (js6 rfl rfl rfl rfl rfl (jC (by rw [show first + (2 * r + 2) = first + (2 * r + 1) + 1 by omega]; grind))), ?_⟩
  exact hS
 rintro _ wz hfz Γ hΓ
 have hA := hA.nil hfz
 have K := K.trans hfz jp
 refine jN (VC.sub _ hΓ ?_)
 refine VC.meet (σ := Unit) (fun s => [(0, .slice (some ad) N c), (2, .int .i64 ((hi : Nat) : Int)), (3, .int .i64 ((first : Nat) : Int)), (8, .int .i64 ((r : Nat) : Int)), (9, .int .i64 (((dI hi first r dr) : Nat) : Int))]) (fun s wm => AO wm (some ad) c N dr ∧ Frm (ob (some ad)) w wm) ?_ ?_
 ·
  refine jD rfl (fun hc2 => ?_) fun hc2 => ?_
  ·
   refine jR (jm rfl (jb rfl rfl (Bin.add_i64 _ 1 jo) (ja rfl (jO ?_))))
   refine jN ⟨(), (js5 rfl rfl rfl rfl (by unfold dI; rw [if_pos hc2]; rfl)), ?_⟩
   exact ⟨hA, K⟩
  refine jQ ?_
  refine jN ⟨(), (js5 rfl rfl rfl rfl (by unfold dI; rw [if_neg hc2]; rfl)), ?_⟩
  exact ⟨hA, K⟩
 rintro _ wm ⟨hA, K⟩ Γ hΓ
 obtain ⟨ch, hche⟩ : ∃ ch, ch = dI hi first r dr := ⟨_, rfl⟩
 rw [← hche] at hst hch hΓ
 refine jN (VC.sub _ hΓ (jS (jS ?_)))
 refine VC.held (fun W => Frm [] wm W) jK ?_
 have hS : Frm [] wm wm.drew := (Frm.refl _ _).drew
 refine jH 0 rfl hS (fun w0 hw0 => Run.mv rfl) ?_
 refine jH 1 rfl hS (fun w0 hw0 => Run.mv rfl) ?_
 refine jH 2 rfl hS (fun w0 hw0 => Run.mv rfl) ?_
 refine jH 3 rfl hS (fun w0 hw0 => Run.bin rfl rfl (Bin.add_i64 _ _ jo)) ?_
 refine jH 4 rfl hS (fun w0 hw0 => Run.index1 _ rfl rfl zd zc jo) ?_
 refine jH 5 rfl hS (fun w0 hw0 => Run.load rfl zh ((hA.nil hw0).at (i := first + r) jo)) ?_
 refine jH 6 rfl hS (fun w0 hw0 => Run.mv rfl) ?_
 refine jH 7 rfl hS (fun w0 hw0 => Run.mv rfl) ?_
 refine jH 8 rfl hS (fun w0 hw0 => Run.mv rfl) ?_
 refine jH 9 rfl hS (fun w0 hw0 => Run.bin rfl rfl (Bin.add_i64 _ _ jo)) ?_
 refine jH 10 rfl hS (fun w0 hw0 => Run.index1 _ rfl rfl zd zc jo) ?_
 refine jH 11 rfl hS (fun w0 hw0 => Run.load rfl zh ((hA.nil hw0).at (i := first + ch) jo)) ?_
 refine qQ.cl 12 rfl jK (jE2 zcc) (bL _ _ _) trivial rfl rfl ?_
 rintro e _ ⟨rfl, rfl⟩
 refine ⟨_, rfl, hS, ?_⟩
 refine jH 13 rfl hS (fun w0 hw0 => Run.not rfl) ?_
 refine qQ.done jK ?_
 refine jN (jv6 0 2 3 8 9 52 ?_)
 refine VC.condB rfl (fun hc3 => ?_) (fun hc3 => ?_)
 ·
  have hc3 : ¬ dr[first + r]! < dr[first + ch]! := by simpa using hc3
  rw [if_neg hc3] at hst
  have hA := hA.nil hS
  have K := K.trans hS jp
  refine jT ?_
  refine qZ (qP (qZ (qP (uQ ?_))))
  exact ⟨rfl, by rw [← he, hst]; exact hA, K⟩
 have hc3 : dr[first + r]! < dr[first + ch]! := by simpa using hc3
 rw [if_pos hc3] at hst
 have hA := hA.nil hS
 have K := K.trans hS jp
 refine jQ (jN (jv5 0 2 3 8 9 ?_))
 refine jS ?_
 refine VC.held (fun _ => True) jK ?_
 refine jH 0 rfl trivial (fun w0 hw0 => Run.mv rfl) ?_
 refine jH 1 rfl trivial (fun w0 hw0 => Run.mv rfl) ?_
 refine jH 2 rfl trivial (fun w0 hw0 => Run.mv rfl) ?_
 refine jH 3 rfl trivial (fun w0 hw0 => Run.bin rfl rfl (Bin.add_i64 _ _ jo)) ?_
 refine jH 4 rfl trivial (fun w0 hw0 => Run.mv rfl) ?_
 refine jH 5 rfl trivial (fun w0 hw0 => Run.mv rfl) ?_
 refine jH 6 rfl trivial (fun w0 hw0 => Run.mv rfl) ?_
 refine jH 7 rfl trivial (fun w0 hw0 => Run.bin rfl rfl (Bin.add_i64 _ _ jo)) ?_
 refine jH 8 rfl trivial (fun w0 hw0 => Run.mv rfl) ?_
 refine jH 9 rfl trivial (fun w0 hw0 => Run.mv rfl) ?_
 refine jH 10 rfl trivial (fun w0 hw0 => Run.mv rfl) ?_
 refine jH 11 rfl trivial (fun w0 hw0 => Run.bin rfl rfl (Bin.add_i64 _ _ jo)) ?_
 refine jH 12 rfl trivial (fun w0 hw0 => Run.index1 _ rfl rfl zd zc jo) ?_
 refine jH 14 rfl trivial (fun w0 hw0 => Run.mv rfl) ?_
 refine jH 15 rfl trivial (fun w0 hw0 => Run.mv rfl) ?_
 refine jH 16 rfl trivial (fun w0 hw0 => Run.mv rfl) ?_
 refine jH 17 rfl trivial (fun w0 hw0 => Run.bin rfl rfl (Bin.add_i64 _ _ jo)) ?_
 refine jH 18 rfl trivial (fun w0 hw0 => Run.index1 _ rfl rfl zd zc jo) ?_
 refine qQ.r2 13 19 rfl rfl jK jK jK jK trivial rfl rfl (Run.load rfl zh ((hA.nil (qV.drew _).frm).at (i := first + ch) jo)) (Run.load rfl zh ((hA.nil (qV.drew _).frm).at (i := first + r) jo)) (Run.load rfl zh ((hA.nil (qV.drew _).frm).at (i := first + r) jo)) (Run.load rfl zh ((hA.nil (qV.drew _).frm).at (i := first + ch) jo)) rfl rfl rfl rfl rfl ?_
 refine jH 20 rfl trivial (fun w0 hw0 => Run.index1 _ rfl rfl zd zc jo) ?_
 refine qQ.st 21 rfl jK (qW.storeOwn (first + r) rfl rfl zc (hA.nil (qV.drew _).frm).2 rfl jo rfl) trivial rfl ?_
 rintro w2a ⟨ho_a, hf_a, hs_a⟩
 refine ⟨trivial, ?_⟩
 refine jH 22 rfl trivial (fun w0 hw0 => Run.index1 _ rfl rfl zd zc jo) ?_
 refine qQ.st 23 rfl jK (qW.storeOwn (first + ch) rfl rfl zc ho_a rfl jo rfl) trivial rfl ?_
 rintro w2 ⟨ho_b, hf_b, hs_b⟩
 have hAs := AO.swp hA.1 ho_b
 have hKs := ((qV.drew _).frm.mono (T := ob (some ad)) jp).trans (hf_a.trans hf_b (fun x hx => .inl hx)) (fun x hx => .inl hx)
 refine ⟨trivial, ?_⟩
 refine qQ.done jK ?_
 refine jN (jv4 0 2 3 9 ?_)
 refine jR (jm rfl (ja rfl (jO ?_)))
 refine qN (jN ⟨(ch, swp dr (first + r) (first + ch)), (js4 rfl rfl rfl rfl), ?_, ?_⟩)
 · exact ⟨jo, hAs, by rw [← he, hst], K.trans hKs (fun x hx => .inl hx)⟩
 first | omega | (dsimp only; omega)
theorem rF {hi first k : Nat} {d : Array Nat} (h : 0 < k) : heapBuild ltN hi first k d = heapBuild ltN hi first (k - 1) (siftDown ltN hi first (k - 1) d) := by
 obtain ⟨j, rfl⟩ : ∃ j, k = j + 1 := ⟨k - 1, jo⟩
 rfl
theorem wQ {first k : Nat} {d : Array Nat} (h : 0 < k) : heapPop ltN first k d = heapPop ltN first (k - 1) (siftDown ltN (k - 1) first 0 (swp d first (first + (k - 1)))) := by
 obtain ⟨j, rfl⟩ : ∃ j, k = j + 1 := ⟨k - 1, jo⟩
 rfl
theorem wX {i j : Nat} {d : Array Nat} (h : i < j) : reverseLoop i j d = reverseLoop (i + 1) (j - 1) (swp d i j) := by
 conv => lhs; unfold reverseLoop
 rw [if_pos h]
theorem rA {i j : Nat} {d : Array Nat} (h : ¬ i < j) : reverseLoop i j d = d := by
 unfold reverseLoop
 rw [if_neg h]
theorem wZ (B : Option Addr) (c N : Nat) (d : Array Nat) (w : World) (h : AO w B c N d) (hN : N ≤ 1000000) (a b : Nat) (ha : a < b) (hb : b ≤ N) :
  Calls Tryz.prog 142 #[.slice B N c, .int .i64 ((a : Nat) : Int), .int .i64 ((b : Nat) : Int)] w fun e w' => e = .returned (.tuple #[]) ∧ AO w' B c N (heapSort ltN d a b) ∧ Frm (ob B) w w' := by
 obtain ⟨ad, rfl⟩ := h.adr jo
 have hA := h
 refine VC.calls (nt := 56) (res := #[]) Tryz.func142 rfl Tryz.ntmps142 Tryz.results142 rfl ?_
 refine jS (jR (jm rfl (ja rfl (jO (jN (jv4 0 1 2 6 ?_))))))
 refine jS (jR (jz 0 (jO (jN (jS (jR (jm rfl (jm rfl (jb rfl rfl (Bin.sub_i64 _ _ jo jo) (ja rfl (jO (jN (jv4 0 6 7 8 ?_)))))))))))))
 refine jS (jS (jR (jm rfl (jb rfl rfl (Bin.sub_i64 _ 1 jo jo) (jb rfl rfl (Bin.quo_i64 _ 2 jo jo) (ja rfl (jO (jN (jv5 0 6 7 8 9 ?_)))))))))
 refine jB ?_
 refine VC.loop (σ := Nat × Array Nat) (fun s => [(0, .slice (some ad) N c), (6, .int .i64 ((a : Nat) : Int)), (7, .int .i64 ((0 : Nat) : Int)), (8, .int .i64 (((b - a) : Nat) : Int)), (9, .int .i64 (((s.1 : Nat) : Int) - 1))]) (fun s wr => s.1 ≤ (b - a - 1) / 2 + 1 ∧ AO wr (some ad) c N s.2 ∧ heapBuild ltN (b - a) a s.1 s.2 = heapBuild ltN (b - a) a ((b - a - 1) / 2 + 1) d ∧ Frm (ob (some ad)) w wr) (fun s => s.1) ((b - a - 1) / 2 + 1, d) (js5 rfl rfl rfl rfl (by show some (Value.int .i64 (((b - a - 1) / 2 : Nat) : Int)) = some (Value.int .i64 ((((b - a - 1) / 2 + 1 : Nat) : Int) - 1)); rw [show (((b - a - 1) / 2 : Nat) : Int) = (((b - a - 1) / 2 + 1 : Nat) : Int) - 1 by omega])) ⟨zv _, hA, rfl, Frm.refl _ _⟩ ?_
 rintro ⟨k, dk⟩ wr ⟨hk, hA, he, K⟩
 dsimp only at *
 refine jS (jS (jR (jm rfl (jb rfl rfl (Bin.geq _ 0) (jO (jN (jv6 0 6 7 8 9 19 ?_)))))))
 refine jD rfl (fun hc1 => ?_) fun hc1 => ?_
 ·
  have hk0 : 0 < k := by simp at hc1; omega
  have hgo := rF (hi := b - a) (first := a) (d := dk) hk0
  have hkz : ((k : Nat) : Int) - 1 = ((k - 1 : Nat) : Int) := jo
  rw [hkz]
  refine jQ (jN (jv5 0 6 7 8 9 ?_))
  refine jS (jB (jR (jm rfl (jm rfl (jm rfl (jM ?_))))))
  refine Ops.cl (jE4 Tryz.call167) (oJ (some ad) c N dk _ hA hN (k - 1) (b - a) a jo jo jo) rfl ?_
  rintro e w2 ⟨rfl, hA2, hf2⟩
  have K2 := K.trans hf2 (fun x hx => .inl hx)
  refine ⟨_, rfl, ?_⟩
  refine jO ?_
  refine qN (jN ?_)
  refine jv5 0 6 7 8 9 ?_
  refine jR (jm rfl (jb rfl rfl (Bin.subZ _ 1 jo jo) (ja rfl (jO ?_))))
  refine jN ⟨(k - 1, siftDown ltN (b - a) a (k - 1) dk), (js5 rfl rfl rfl rfl rfl), ?_, ?_⟩
  · exact ⟨by dsimp only; omega, hA2, by rw [← he, hgo], K2⟩
  first | omega | (dsimp only; omega)
 refine jX ?_
 refine qK (qK (qS ?_))
 refine jN (jv4 0 6 7 8 ?_)
 refine jS (jR (jm rfl (jb rfl rfl (Bin.sub_i64 _ 1 jo jo) (ja rfl (jO (jN (jv4 0 6 7 10 ?_)))))))
 refine jB ?_
 obtain rfl : k = 0 := by simp at hc1; omega
 refine VC.loop (σ := Nat × Array Nat) (fun s => [(0, .slice (some ad) N c), (6, .int .i64 ((a : Nat) : Int)), (7, .int .i64 ((0 : Nat) : Int)), (10, .int .i64 (((s.1 : Nat) : Int) - 1))]) (fun s wr => s.1 ≤ b - a ∧ AO wr (some ad) c N s.2 ∧ heapPop ltN a s.1 s.2 = heapSort ltN d a b ∧ Frm (ob (some ad)) w wr) (fun s => s.1) (b - a, dk) (js4 rfl rfl rfl (by show some (Value.int .i64 ((b - a - 1 : Nat) : Int)) = some (Value.int .i64 (((b - a : Nat) : Int) - 1)); rw [show ((b - a - 1 : Nat) : Int) = ((b - a : Nat) : Int) - 1 by omega])) ⟨zv _, hA, by unfold heapSort; rw [← he]; rfl, K⟩ ?_
 rintro ⟨k, dk⟩ wr ⟨hk, hA, he, K⟩
 dsimp only at *
 refine jS (jS (jR (jm rfl (jb rfl rfl (Bin.geq _ 0) (jO (jN (jv5 0 6 7 10 30 ?_)))))))
 refine jD rfl (fun hc2 => ?_) fun hc2 => ?_
 ·
  have hk0 : 0 < k := by simp at hc2; omega
  have hgo := wQ (first := a) (d := dk) hk0
  have hkz : ((k : Nat) : Int) - 1 = ((k - 1 : Nat) : Int) := jo
  rw [hkz]
  refine jQ (jN (jv4 0 6 7 10 ?_))
  refine jS (jB (jS ?_))
  refine VC.held (fun _ => True) jK ?_
  refine jH 0 rfl trivial (fun w0 hw0 => Run.mv rfl) ?_
  refine jH 1 rfl trivial (fun w0 hw0 => Run.mv rfl) ?_
  refine jH 2 rfl trivial (fun w0 hw0 => Run.mv rfl) ?_
  refine jH 3 rfl trivial (fun w0 hw0 => Run.mv rfl) ?_
  refine jH 4 rfl trivial (fun w0 hw0 => Run.mv rfl) ?_
  refine jH 5 rfl trivial (fun w0 hw0 => Run.bin rfl rfl (Bin.addZ _ _ jo jo)) ?_
  refine jH 6 rfl trivial (fun w0 hw0 => Run.mv rfl) ?_
  refine jH 7 rfl trivial (fun w0 hw0 => Run.mv rfl) ?_
  refine jH 8 rfl trivial (fun w0 hw0 => Run.mv rfl) ?_
  refine jH 9 rfl trivial (fun w0 hw0 => Run.bin rfl rfl (Bin.addZ _ _ jo jo)) ?_
  refine jH 10 rfl trivial (fun w0 hw0 => Run.index1 _ rfl rfl zd zc jo) ?_
  refine jH 12 rfl trivial (fun w0 hw0 => Run.mv rfl) ?_
  refine jH 13 rfl trivial (fun w0 hw0 => Run.mv rfl) ?_
  refine jH 14 rfl trivial (fun w0 hw0 => Run.index1 _ rfl rfl zd zc jo) ?_
  refine qQ.r2 11 15 rfl rfl jK jK jK jK trivial rfl rfl (Run.load rfl zh ((hA.nil (qV.drew _).frm).at (i := a + (k - 1)) jo)) (Run.load rfl zh ((hA.nil (qV.drew _).frm).at (i := a) jo)) (Run.load rfl zh ((hA.nil (qV.drew _).frm).at (i := a) jo)) (Run.load rfl zh ((hA.nil (qV.drew _).frm).at (i := a + (k - 1)) jo)) rfl rfl rfl rfl rfl ?_
  refine jH 16 rfl trivial (fun w0 hw0 => Run.index1 _ rfl rfl zd zc jo) ?_
  refine qQ.st 17 rfl jK (qW.storeOwn (a) rfl rfl zc (hA.nil (qV.drew _).frm).2 rfl jo rfl) trivial rfl ?_
  rintro w3a ⟨ho_a, hf_a, hs_a⟩
  refine ⟨trivial, ?_⟩
  refine jH 18 rfl trivial (fun w0 hw0 => Run.index1 _ rfl rfl zd zc jo) ?_
  refine qQ.st 19 rfl jK (qW.storeOwn (a + (k - 1)) rfl rfl zc ho_a rfl jo rfl) trivial rfl ?_
  rintro w3 ⟨ho_b, hf_b, hs_b⟩
  have hAs := AO.swp hA.1 ho_b
  have hKs := ((qV.drew _).frm.mono (T := ob (some ad)) jp).trans (hf_a.trans hf_b (fun x hx => .inl hx)) (fun x hx => .inl hx)
  refine ⟨trivial, ?_⟩
  refine qQ.done jK ?_
  refine jN (jv4 0 6 7 10 ?_)
  refine jR (jm rfl (jm rfl (jm rfl (jM ?_))))
  refine Ops.cl (jE4 Tryz.call167) (oJ (some ad) c N (swp dk a (a + (k - 1))) _ hAs hN 0 (k - 1) a jo jo jo) rfl ?_
  rintro e w4 ⟨rfl, hA4, hf4⟩
  have K4 := (K.trans hKs (fun x hx => .inl hx)).trans hf4 (fun x hx => .inl hx)
  refine ⟨_, rfl, ?_⟩
  refine jO ?_
  refine qN (jN ?_)
  refine jv4 0 6 7 10 ?_
  refine jR (jm rfl (jb rfl rfl (Bin.subZ _ 1 jo jo) (ja rfl (jO ?_))))
  refine jN ⟨(k - 1, siftDown ltN (k - 1) a 0 (swp dk a (a + (k - 1)))), (js4 rfl rfl rfl rfl), ?_, ?_⟩
  · exact ⟨by dsimp only; omega, hA4, by rw [← he, hgo], K4⟩
  first | omega | (dsimp only; omega)
 refine jX ?_
 refine qK (qK (qS ?_))
 refine jL ?_
 obtain rfl : k = 0 := by simp at hc2; omega
 exact ⟨rfl, by rw [← he]; exact hA, K⟩
theorem yA (B : Option Addr) (c N : Nat) (d : Array Nat) (w : World) (h : AO w B c N d) (hN : N ≤ 1000000) (a b : Nat) (ha : a < b) (hb : b ≤ N) :
  Calls Tryz.prog 145 #[.slice B N c, .int .i64 ((a : Nat) : Int), .int .i64 ((b : Nat) : Int)] w fun e w' => e = .returned (.tuple #[]) ∧ AO w' B c N (reverseRange d a b) ∧ Frm (ob B) w w' := by
 obtain ⟨ad, rfl⟩ := h.adr jo
 have hA := h
 refine VC.calls (nt := 32) (res := #[]) Tryz.func145 rfl Tryz.ntmps145 Tryz.results145 rfl ?_
 refine jS (jR (jm rfl (ja rfl (jO (jN (jv3 0 2 6 ?_))))))
 refine jS (jR (jm rfl (jb rfl rfl (Bin.sub_i64 _ 1 jo jo) (ja rfl (jO (jN (jv3 0 6 7 ?_)))))))
 refine jB ?_
 refine VC.loop (σ := Nat × Nat × Array Nat) (fun s => [(0, .slice (some ad) N c), (6, .int .i64 ((s.1 : Nat) : Int)), (7, .int .i64 ((s.2.1 : Nat) : Int))]) (fun s wr => s.1 ≤ N ∧ s.2.1 < N ∧ AO wr (some ad) c N s.2.2 ∧ reverseLoop s.1 s.2.1 s.2.2 = reverseRange d a b ∧ Frm (ob (some ad)) w wr) (fun s => s.2.1 + 1 - s.1) (a, b - 1, d) (js3 rfl rfl rfl) ⟨by dsimp only; omega, by dsimp only; omega, hA, rfl, Frm.refl _ _⟩ ?_
 rintro ⟨i, j, dj⟩ wr ⟨hi, hj, hA, he, K⟩
 dsimp only at *
 refine jS (jS (jR (jm rfl (jm rfl (jb rfl rfl (Bin.lssN _ _) (jO (jN (jv4 0 6 7 13 ?_))))))))
 refine jD rfl (fun hc1 => ?_) fun hc1 => ?_
 ·
  refine jQ (jN (jv3 0 6 7 ?_))
  refine jB (jS ?_)
  refine VC.held (fun _ => True) jK ?_
  refine jH 0 rfl trivial (fun w0 hw0 => Run.mv rfl) ?_
  refine jH 1 rfl trivial (fun w0 hw0 => Run.mv rfl) ?_
  refine jH 2 rfl trivial (fun w0 hw0 => Run.mv rfl) ?_
  refine jH 3 rfl trivial (fun w0 hw0 => Run.mv rfl) ?_
  refine jH 4 rfl trivial (fun w0 hw0 => Run.mv rfl) ?_
  refine jH 5 rfl trivial (fun w0 hw0 => Run.mv rfl) ?_
  refine jH 6 rfl trivial (fun w0 hw0 => Run.index1 _ rfl rfl zd zc jo) ?_
  refine jH 8 rfl trivial (fun w0 hw0 => Run.mv rfl) ?_
  refine jH 9 rfl trivial (fun w0 hw0 => Run.mv rfl) ?_
  refine jH 10 rfl trivial (fun w0 hw0 => Run.index1 _ rfl rfl zd zc jo) ?_
  refine qQ.r2 7 11 rfl rfl jK jK jK jK trivial rfl rfl (Run.load rfl zh ((hA.nil (qV.drew _).frm).at (i := j) jo)) (Run.load rfl zh ((hA.nil (qV.drew _).frm).at (i := i) jo)) (Run.load rfl zh ((hA.nil (qV.drew _).frm).at (i := i) jo)) (Run.load rfl zh ((hA.nil (qV.drew _).frm).at (i := j) jo)) rfl rfl rfl rfl rfl ?_
  refine jH 12 rfl trivial (fun w0 hw0 => Run.index1 _ rfl rfl zd zc jo) ?_
  refine qQ.st 13 rfl jK (qW.storeOwn (i) rfl rfl zc (hA.nil (qV.drew _).frm).2 rfl jo rfl) trivial rfl ?_
  rintro w2a ⟨ho_a, hf_a, hs_a⟩
  refine ⟨trivial, ?_⟩
  refine jH 14 rfl trivial (fun w0 hw0 => Run.index1 _ rfl rfl zd zc jo) ?_
  refine qQ.st 15 rfl jK (qW.storeOwn (j) rfl rfl zc ho_a rfl jo rfl) trivial rfl ?_
  rintro w2 ⟨ho_b, hf_b, hs_b⟩
  have hAs := AO.swp hA.1 ho_b
  have hKs := ((qV.drew _).frm.mono (T := ob (some ad)) jp).trans (hf_a.trans hf_b (fun x hx => .inl hx)) (fun x hx => .inl hx)
  refine ⟨trivial, ?_⟩
  refine qQ.done jK ?_
  refine jN (jv3 0 6 7 ?_)
  refine jS (jR (jm rfl (jb rfl rfl (Bin.add_i64 _ 1 jo) (ja rfl (jO (jN (jv3 0 6 7 ?_)))))))
  refine jR (jm rfl (jb rfl rfl (Bin.sub_i64 _ 1 jo jo) (ja rfl (jO ?_))))
  refine qN (jN ⟨(i + 1, j - 1, swp dj i j), (js3 rfl rfl rfl), ?_, ?_⟩)
  · exact ⟨by dsimp only; omega, by dsimp only; omega, hAs, by rw [← he, wX hc1], K.trans hKs (fun x hx => .inl hx)⟩
  first | omega | (dsimp only; omega)
 refine jX ?_
 refine qK (qK (qS ?_))
 refine jL ?_
 exact ⟨rfl, by rw [← he, rA hc1]; exact hA, K⟩
end
end Go.Proofs.YtgmbmfpfhcekiaaGreat
