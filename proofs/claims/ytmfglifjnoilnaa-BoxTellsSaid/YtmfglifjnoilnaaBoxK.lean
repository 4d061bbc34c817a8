/-
  The walk of the document's box: are two boxes the same?
-/
import Derived.Test.YtmfglifjnoilnaaBoxN
namespace Go.Proofs.Ytmfglifjnoilnaa
open Go.RowKit Go.Sort

set_option maxRecDepth 100000 in
theorem rsameB_spec (v n v2 n2 : Int) (A B : Option Addr) (c d : Nat) (l l2 : List Mc) (w : World) (hl : RdM w A l) (hl2 : RdM w B l2) (hn : l.length ≤ 1000000) (hn2 : l2.length ≤ 1000000) :
    Calls Try.prog 15 #[.agg #[.int .i64 v, .int .i64 n, .slice A l.length c], .agg #[.int .i64 v2, .int .i64 n2, .slice B l2.length d]] w fun e w' => e = .returned (.bool (decide (v = v2 ∧ n = n2 ∧ Ms l = Ms l2))) ∧ Frm [] w w' := by
  refine VC.calls (nt := 80) (res := #[.tmp 4]) Try.func15 rfl Try.ntmps15 Try.results15 rfl ?_
  refine VC.seq ?_
  refine VC.region ?_
  refine Ops.m (Does.box rfl) rfl ?_
  rintro _ w1 ⟨rfl, hF2⟩
  have hb2 := hF2.blk
  have hf2 := hF2.frm
  have hs2 : w.heap.size ≤ w.heap.size := Nat.le_refl _
  generalize hg2 : w.heap.size = g2 at hb2 ⊢
  refine Ops.m (Does.box rfl) rfl ?_
  rintro _ w2 ⟨rfl, hF3⟩
  have hb3 := hF3.blk
  have hb2 := hb2.frm hF3.frm (by simp)
  have hf3 := hf2.trans hF3.frm (by simp)
  have hs3 : w.heap.size ≤ w1.heap.size := hf2.size
  generalize hg3 : w1.heap.size = g3 at hb3 hs3 ⊢
  refine Ops.r (Run.asg rfl) rfl ?_
  refine Ops.nil ?_
  refine thenQ_n ?_
  refine VC.sub [(2, _), (3, _)] (.cons rfl (.cons rfl .nil)) ?_
  refine VC.seq ?_
  refine VC.seq ?_
  refine VC.split1 [(2, _), (3, _)] (.cons rfl (.cons rfl .nil)) 28 (.bool (decide (v ≠ v2 ∨ n ≠ n2 ∨ l.length ≠ l2.length))) ?_ ?_
  · refine VC.region ?_
    refine Ops.r (Run.fieldAddr rfl Try.underlying24 rfl Try.sizeOf3 (by decide)) rfl ?_
    refine Ops.r (Run.load rfl Try.isAgg3 (hb2.cell 0)) rfl ?_
    refine Ops.r (Run.fieldAddr rfl Try.underlying24 rfl Try.sizeOf3 (by decide)) rfl ?_
    refine Ops.r (Run.load rfl Try.isAgg3 (hb3.cell 0)) rfl ?_
    refine Ops.r (Run.bin rfl rfl (Bin.neq _ _)) rfl ?_
    by_cases hs12 : v ≠ v2
    · skip
      refine Ops.r (Run.mv rfl) rfl ?_
      refine Ops.sk rfl (by first | rfl | assumption | exact decide_eq_true (by assumption) | exact decide_eq_false (by assumption) | decide | (simp; done) | (simp; omega) | (simp [*]; done)) rfl ?_
      refine Ops.sk rfl (by first | rfl | assumption | exact decide_eq_true (by assumption) | exact decide_eq_false (by assumption) | decide | (simp; done) | (simp; omega) | (simp [*]; done)) rfl ?_
      refine Ops.sk rfl (by first | rfl | assumption | exact decide_eq_true (by assumption) | exact decide_eq_false (by assumption) | decide | (simp; done) | (simp; omega) | (simp [*]; done)) rfl ?_
      refine Ops.sk rfl (by first | rfl | assumption | exact decide_eq_true (by assumption) | exact decide_eq_false (by assumption) | decide | (simp; done) | (simp; omega) | (simp [*]; done)) rfl ?_
      refine Ops.sk rfl (by first | rfl | assumption | exact decide_eq_true (by assumption) | exact decide_eq_false (by assumption) | decide | (simp; done) | (simp; omega) | (simp [*]; done)) rfl ?_
      refine Ops.r (Run.pickT rfl rfl (by first | rfl | assumption | exact decide_eq_true (by assumption) | exact decide_eq_false (by assumption) | decide | (simp; done) | (simp; omega) | (simp [*]; done))) rfl ?_
      refine Ops.r (Run.mv rfl) rfl ?_
      refine Ops.sk rfl (by first | rfl | assumption | exact decide_eq_true (by assumption) | exact decide_eq_false (by assumption) | decide | (simp; done) | (simp; omega) | (simp [*]; done)) rfl ?_
      refine Ops.sk rfl (by first | rfl | assumption | exact decide_eq_true (by assumption) | exact decide_eq_false (by assumption) | decide | (simp; done) | (simp; omega) | (simp [*]; done)) rfl ?_
      refine Ops.sk rfl (by first | rfl | assumption | exact decide_eq_true (by assumption) | exact decide_eq_false (by assumption) | decide | (simp; done) | (simp; omega) | (simp [*]; done)) rfl ?_
      refine Ops.sk rfl (by first | rfl | assumption | exact decide_eq_true (by assumption) | exact decide_eq_false (by assumption) | decide | (simp; done) | (simp; omega) | (simp [*]; done)) rfl ?_
      refine Ops.sk rfl (by first | rfl | assumption | exact decide_eq_true (by assumption) | exact decide_eq_false (by assumption) | decide | (simp; done) | (simp; omega) | (simp [*]; done)) rfl ?_
      refine Ops.sk rfl (by first | rfl | assumption | exact decide_eq_true (by assumption) | exact decide_eq_false (by assumption) | decide | (simp; done) | (simp; omega) | (simp [*]; done)) rfl ?_
      refine Ops.sk rfl (by first | rfl | assumption | exact decide_eq_true (by assumption) | exact decide_eq_false (by assumption) | decide | (simp; done) | (simp; omega) | (simp [*]; done)) rfl ?_
      refine Ops.r (Run.pickT rfl rfl (by first | rfl | assumption | exact decide_eq_true (by assumption) | exact decide_eq_false (by assumption) | decide | (simp; done) | (simp; omega) | (simp [*]; done))) rfl ?_
      refine Ops.nil ?_
      refine thenQ_n ⟨(.cons (congrArg (fun b => some (Value.bool b)) (Eq.symm (by simp [*]))) (.cons rfl (.cons rfl .nil))), rfl⟩
    · skip
      refine Ops.r (Run.mv rfl) rfl ?_
      refine Ops.rg rfl (by first | rfl | assumption | exact decide_eq_true (by assumption) | exact decide_eq_false (by assumption) | decide | (simp; done) | (simp; omega) | (simp [*]; done)) (Run.fieldAddr rfl Try.underlying24 rfl Try.sizeOf3 (by decide)) rfl ?_
      refine Ops.rg rfl (by first | rfl | assumption | exact decide_eq_true (by assumption) | exact decide_eq_false (by assumption) | decide | (simp; done) | (simp; omega) | (simp [*]; done)) (Run.load rfl Try.isAgg3 (hb2.cell 1)) rfl ?_
      refine Ops.rg rfl (by first | rfl | assumption | exact decide_eq_true (by assumption) | exact decide_eq_false (by assumption) | decide | (simp; done) | (simp; omega) | (simp [*]; done)) (Run.fieldAddr rfl Try.underlying24 rfl Try.sizeOf3 (by decide)) rfl ?_
      refine Ops.rg rfl (by first | rfl | assumption | exact decide_eq_true (by assumption) | exact decide_eq_false (by assumption) | decide | (simp; done) | (simp; omega) | (simp [*]; done)) (Run.load rfl Try.isAgg3 (hb3.cell 1)) rfl ?_
      refine Ops.rg rfl (by first | rfl | assumption | exact decide_eq_true (by assumption) | exact decide_eq_false (by assumption) | decide | (simp; done) | (simp; omega) | (simp [*]; done)) (Run.bin rfl rfl (Bin.neq _ _)) rfl ?_
      by_cases hs18 : n ≠ n2
      · skip
        refine Ops.r (Run.pickF rfl rfl (by first | rfl | assumption | exact decide_eq_true (by assumption) | exact decide_eq_false (by assumption) | decide | (simp; done) | (simp; omega) | (simp [*]; done))) rfl ?_
        refine Ops.r (Run.mv rfl) rfl ?_
        refine Ops.sk rfl (by first | rfl | assumption | exact decide_eq_true (by assumption) | exact decide_eq_false (by assumption) | decide | (simp; done) | (simp; omega) | (simp [*]; done)) rfl ?_
        refine Ops.sk rfl (by first | rfl | assumption | exact decide_eq_true (by assumption) | exact decide_eq_false (by assumption) | decide | (simp; done) | (simp; omega) | (simp [*]; done)) rfl ?_
        refine Ops.sk rfl (by first | rfl | assumption | exact decide_eq_true (by assumption) | exact decide_eq_false (by assumption) | decide | (simp; done) | (simp; omega) | (simp [*]; done)) rfl ?_
        refine Ops.sk rfl (by first | rfl | assumption | exact decide_eq_true (by assumption) | exact decide_eq_false (by assumption) | decide | (simp; done) | (simp; omega) | (simp [*]; done)) rfl ?_
        refine Ops.sk rfl (by first | rfl | assumption | exact decide_eq_true (by assumption) | exact decide_eq_false (by assumption) | decide | (simp; done) | (simp; omega) | (simp [*]; done)) rfl ?_
        refine Ops.sk rfl (by first | rfl | assumption | exact decide_eq_true (by assumption) | exact decide_eq_false (by assumption) | decide | (simp; done) | (simp; omega) | (simp [*]; done)) rfl ?_
        refine Ops.sk rfl (by first | rfl | assumption | exact decide_eq_true (by assumption) | exact decide_eq_false (by assumption) | decide | (simp; done) | (simp; omega) | (simp [*]; done)) rfl ?_
        refine Ops.r (Run.pickT rfl rfl (by first | rfl | assumption | exact decide_eq_true (by assumption) | exact decide_eq_false (by assumption) | decide | (simp; done) | (simp; omega) | (simp [*]; done))) rfl ?_
        refine Ops.nil ?_
        refine thenQ_n ⟨(.cons (congrArg (fun b => some (Value.bool b)) (Eq.symm (by simp [*]))) (.cons rfl (.cons rfl .nil))), rfl⟩
      · skip
        refine Ops.r (Run.pickF rfl rfl (by first | rfl | assumption | exact decide_eq_true (by assumption) | exact decide_eq_false (by assumption) | decide | (simp; done) | (simp; omega) | (simp [*]; done))) rfl ?_
        refine Ops.r (Run.mv rfl) rfl ?_
        refine Ops.rg rfl (by first | rfl | assumption | exact decide_eq_true (by assumption) | exact decide_eq_false (by assumption) | decide | (simp; done) | (simp; omega) | (simp [*]; done)) (Run.fieldAddr rfl Try.underlying24 rfl Try.sizeOf22 (by decide)) rfl ?_
        refine Ops.rg rfl (by first | rfl | assumption | exact decide_eq_true (by assumption) | exact decide_eq_false (by assumption) | decide | (simp; done) | (simp; omega) | (simp [*]; done)) (Run.load rfl Try.isAgg22 (hb2.cell 2)) rfl ?_
        refine Ops.rg rfl (by first | rfl | assumption | exact decide_eq_true (by assumption) | exact decide_eq_false (by assumption) | decide | (simp; done) | (simp; omega) | (simp [*]; done)) (Run.lenS rfl Try.underlying22) rfl ?_
        refine Ops.rg rfl (by first | rfl | assumption | exact decide_eq_true (by assumption) | exact decide_eq_false (by assumption) | decide | (simp; done) | (simp; omega) | (simp [*]; done)) (Run.fieldAddr rfl Try.underlying24 rfl Try.sizeOf22 (by decide)) rfl ?_
        refine Ops.rg rfl (by first | rfl | assumption | exact decide_eq_true (by assumption) | exact decide_eq_false (by assumption) | decide | (simp; done) | (simp; omega) | (simp [*]; done)) (Run.load rfl Try.isAgg22 (hb3.cell 2)) rfl ?_
        refine Ops.rg rfl (by first | rfl | assumption | exact decide_eq_true (by assumption) | exact decide_eq_false (by assumption) | decide | (simp; done) | (simp; omega) | (simp [*]; done)) (Run.lenS rfl Try.underlying22) rfl ?_
        refine Ops.rg rfl (by first | rfl | assumption | exact decide_eq_true (by assumption) | exact decide_eq_false (by assumption) | decide | (simp; done) | (simp; omega) | (simp [*]; done)) (Run.bin rfl rfl (Bin.neqN _ _)) rfl ?_
        by_cases hs27 : l.length ≠ l2.length
        · skip
          refine Ops.r (Run.pickF rfl rfl (by first | rfl | assumption | exact decide_eq_true (by assumption) | exact decide_eq_false (by assumption) | decide | (simp; done) | (simp; omega) | (simp [*]; done))) rfl ?_
          refine Ops.nil ?_
          refine thenQ_n ⟨(.cons (congrArg (fun b => some (Value.bool b)) (Eq.symm (by simp [*]))) (.cons rfl (.cons rfl .nil))), rfl⟩
        · skip
          refine Ops.r (Run.pickF rfl rfl (by first | rfl | assumption | exact decide_eq_true (by assumption) | exact decide_eq_false (by assumption) | decide | (simp; done) | (simp; omega) | (simp [*]; done))) rfl ?_
          refine Ops.nil ?_
          refine thenQ_n ⟨(.cons (congrArg (fun b => some (Value.bool b)) (Eq.symm (by simp [*]))) (.cons rfl (.cons rfl .nil))), rfl⟩
  · intro Γ hΓ
    refine thenQ_n (VC.sub _ hΓ ?_)
    refine VC.condD rfl (fun hc1 => ?_) (fun hc1 => ?_)
    · skip
      refine VC.seq ?_
      refine VC.region ?_
      refine Ops.r (Run.asg rfl) rfl ?_
      refine Ops.nil ?_
      refine thenQ_n ?_
      refine VC.sub [(4, _)] (.cons rfl .nil) ?_
      refine VC.ret ?_
      refine thenQ_r (end1 rfl ?_)
      refine ⟨?_, hf3⟩
      rw [decide_eq_false]
      rintro ⟨h1, h2, h3⟩
      have h4 := congrArg List.length h3
      simp only [Ms, List.length_map] at h4
      rcases hc1 with h | h | h
      · exact h h1
      · exact h h2
      · exact h h4
    · skip
      obtain ⟨hvv, hnn, hll⟩ : v = v2 ∧ n = n2 ∧ l.length = l2.length := by omega
      refine VC.skip ?_
      refine thenQ_n ?_
      refine VC.sub [(2, _), (3, _)] (.cons rfl (.cons rfl .nil)) ?_
      refine VC.seq ?_
      refine VC.seq ?_
      refine VC.region ?_
      refine Ops.r (v := .int .i64 ((0 : Nat) : Int)) (Run.asg rfl) rfl ?_
      refine Ops.nil ?_
      refine thenQ_n ?_
      refine VC.block ?_
      refine VC.loop (σ := Nat) (fun s => [(2, .pointer (some ⟨g2, 0, none⟩)), (3, .pointer (some ⟨g3, 0, none⟩)), (5, .int .i64 ((s : Nat) : Int))]) (fun s wr => s ≤ l.length ∧ Frm [] w wr ∧ Blk wr g2 24 #[.int .i64 v, .int .i64 n, .slice A l.length c] ∧ Blk wr g3 24 #[.int .i64 v2, .int .i64 n2, .slice B l2.length d] ∧ Ms (l.take s) = Ms (l2.take s)) (fun s => l.length - s) 0 (.cons rfl (.cons rfl (.cons rfl .nil))) ⟨by omega, hf3, hb2, hb3, by simp⟩ ?_
      rintro i wr ⟨hi, hfr, hb2, hb3, hsm⟩
      refine VC.seq ?_
      refine VC.seq ?_
      refine VC.region ?_
      refine Ops.r (Run.mv rfl) rfl ?_
      refine Ops.r (Run.fieldAddr rfl Try.underlying24 rfl Try.sizeOf22 (by decide)) rfl ?_
      refine Ops.r (Run.load rfl Try.isAgg22 (hb2.cell 2)) rfl ?_
      refine Ops.r (Run.lenS rfl Try.underlying22) rfl ?_
      refine Ops.r (Run.bin rfl rfl (Bin.lssN _ _)) rfl ?_
      refine Ops.nil ?_
      refine thenQ_n ?_
      refine VC.sub [(2, _), (3, _), (5, _), (33, _)] (.cons rfl (.cons rfl (.cons rfl (.cons rfl .nil)))) ?_
      refine VC.condD rfl (fun hc2 => ?_) (fun hc2 => ?_)
      · skip
        obtain ⟨ad, hAe, hcell⟩ : ∃ ad, A = some ad ∧ ∀ W, Frm [] w W → ∀ j v, (l[i]).cells[j]? = some v → W.cell? ((ad.add (i * 6)).add j) = some v := by
          obtain ⟨ad, hA, _⟩ := hl.elem hc2
          refine ⟨ad, hA, fun W hW => ?_⟩
          obtain ⟨ad', hA', h⟩ := (hl.frm hW).elem hc2
          rw [hA] at hA'
          injection hA' with hA'
          subst hA'
          exact h
        have hc2' : i < l2.length := by omega
        obtain ⟨ad2, hBe, hcell2⟩ : ∃ ad, B = some ad ∧ ∀ W, Frm [] w W → ∀ j v, (l2[i]).cells[j]? = some v → W.cell? ((ad.add (i * 6)).add j) = some v := by
          obtain ⟨ad, hA, _⟩ := hl2.elem hc2'
          refine ⟨ad, hA, fun W hW => ?_⟩
          obtain ⟨ad', hA', h⟩ := (hl2.frm hW).elem hc2'
          rw [hA] at hA'
          injection hA' with hA'
          subst hA'
          exact h
        subst hAe hBe
        have hxa := (hl.frm hfr).fl (l[i]) (List.getElem_mem hc2)
        have hya := (hl2.frm hfr).fl (l2[i]) (List.getElem_mem hc2')
        have hms := Ms_take hc2
        have hms2 := Ms_take hc2'
        generalize hx : l[i] = x at *
        generalize hy : l2[i] = y at *
        have hme := msg_eq x.m y.m
        refine VC.skip ?_
        refine thenQ_n ?_
        refine VC.sub [(2, _), (3, _), (5, _)] (.cons rfl (.cons rfl (.cons rfl .nil))) ?_
        refine VC.seq ?_
        refine VC.block ?_
        refine VC.seq ?_
        refine VC.meet (σ := Nat × Nat) (fun s => [(2, .pointer (some ⟨g2, 0, none⟩)), (3, .pointer (some ⟨g3, 0, none⟩)), (5, .int .i64 ((i : Nat) : Int)), (6, .pointer (some ⟨s.1, 0, none⟩)), (7, .pointer (some ⟨s.2, 0, none⟩))]) (fun s wm => Blk wm s.1 45 x.cells.toArray ∧ Blk wm s.2 45 y.cells.toArray ∧ Frm [] wr wm) ?_ ?_
        · skip
          refine VC.held (fun W => Frm [] wr W) (by kernel_rfl) ?_
          have hS : Frm [] wr wr.drew := (Frm.refl _ _).drew
          refine HOps.take 0 rfl (by kernel_rfl) (by kernel_rfl) (by kernel_rfl) hS (fun w0 hw0 => Run.fieldAddr rfl Try.underlying24 rfl Try.sizeOf22 (by decide)) trivial rfl rfl ?_
          refine HOps.take 1 rfl (by kernel_rfl) (by kernel_rfl) (by kernel_rfl) hS (fun w0 hw0 => Run.load rfl Try.isAgg22 ((hb2.frm hw0 (by simp)).cell 2)) trivial rfl rfl ?_
          refine HOps.take 2 rfl (by kernel_rfl) (by kernel_rfl) (by kernel_rfl) hS (fun w0 hw0 => Run.mv rfl) trivial rfl rfl ?_
          refine HOps.take 3 rfl (by kernel_rfl) (by kernel_rfl) (by kernel_rfl) hS (fun w0 hw0 => Run.indexS i rfl rfl Try.underlying22 Try.sizeOf45 hc2) trivial rfl rfl ?_
          refine HOps.take 4 rfl (by kernel_rfl) (by kernel_rfl) (by kernel_rfl) hS (fun w0 hw0 => Run.loadA rfl Try.isAgg45 Try.sizeOf45 (hcell _ (hfr.trans hw0 (by simp))) (by first | rfl | (simp; done))) trivial rfl rfl ?_
          refine HOps.take 5 rfl (by kernel_rfl) (by kernel_rfl) (by kernel_rfl) hS (fun w0 hw0 => Run.fieldAddr rfl Try.underlying24 rfl Try.sizeOf22 (by decide)) trivial rfl rfl ?_
          refine HOps.take 6 rfl (by kernel_rfl) (by kernel_rfl) (by kernel_rfl) hS (fun w0 hw0 => Run.load rfl Try.isAgg22 ((hb3.frm hw0 (by simp)).cell 2)) trivial rfl rfl ?_
          refine HOps.take 7 rfl (by kernel_rfl) (by kernel_rfl) (by kernel_rfl) hS (fun w0 hw0 => Run.mv rfl) trivial rfl rfl ?_
          refine HOps.take 8 rfl (by kernel_rfl) (by kernel_rfl) (by kernel_rfl) hS (fun w0 hw0 => Run.indexS i rfl rfl Try.underlying22 Try.sizeOf45 hc2') trivial rfl rfl ?_
          refine HOps.take 9 rfl (by kernel_rfl) (by kernel_rfl) (by kernel_rfl) hS (fun w0 hw0 => Run.loadA rfl Try.isAgg45 Try.sizeOf45 (hcell2 _ (hfr.trans hw0 (by simp))) (by first | rfl | (simp; done))) trivial rfl rfl ?_
          refine HOps.or2 10 11 (by kernel_rfl) ?_ ?_
          · skip
            refine HOne.m rfl (Does.alloc zero45) trivial rfl rfl ?_
            rintro _ w6 ⟨rfl, hF6⟩
            have hge6 := hS.size
            try have hne := hb7.lt
            try have hb7 := hb7.frm hF6.frm (by simp)
            have hS6 : Frm [] wr w6 := hS.trans hF6.frm (by simp)
            refine ⟨hS6, ?_⟩
            have hS := hS6
            have hb6 := hF6.blk
            refine HOps.m 11 rfl (by kernel_rfl) (Does.alloc zero45) trivial rfl rfl ?_
            rintro _ w7 ⟨rfl, hF7⟩
            have hge7 := hS.size
            try have hne := hb6.lt
            try have hb6 := hb6.frm hF7.frm (by simp)
            have hS7 : Frm [] wr w7 := hS.trans hF7.frm (by simp)
            refine ⟨hS7, ?_⟩
            have hS := hS7
            have hb7 := hF7.blk
            refine HOps.st 12 rfl (by kernel_rfl) (Acts.storeA rfl rfl Try.sizeOf45 hb6 rfl x.cells_one) trivial rfl ?_
            rintro w8 ⟨hb68, hf8, hs8⟩
            have hS8 : Frm [] wr w8 := hS.own hf8 (fun y hy => by simp only [List.mem_singleton] at hy; subst hy; exact hge6)
            refine ⟨hS8, ?_⟩
            have hS := hS8
            have hb78 := hb7.frm hf8 (by simp only [List.mem_singleton]; omega)
            refine HOps.st 13 rfl (by kernel_rfl) (Acts.storeA rfl rfl Try.sizeOf45 hb78 rfl y.cells_one) trivial rfl ?_
            rintro w9 ⟨hb79, hf9, hs9⟩
            have hS9 : Frm [] wr w9 := hS.own hf9 (fun y hy => by simp only [List.mem_singleton] at hy; subst hy; exact hge7)
            refine ⟨hS9, ?_⟩
            have hS := hS9
            have hb69 := hb68.frm hf9 (by simp only [List.mem_singleton]; omega)
            refine HOps.done (by kernel_rfl) ?_
            refine thenQ_n ⟨(_, _), (.cons rfl (.cons rfl (.cons rfl (.cons rfl (.cons rfl .nil))))), ?_⟩
            exact ⟨hb69, hb79, hS⟩
          · skip
            refine HOne.m rfl (Does.alloc zero45) trivial rfl rfl ?_
            rintro _ w7 ⟨rfl, hF7⟩
            have hge7 := hS.size
            try have hne := hb6.lt
            try have hb6 := hb6.frm hF7.frm (by simp)
            have hS7 : Frm [] wr w7 := hS.trans hF7.frm (by simp)
            refine ⟨hS7, ?_⟩
            have hS := hS7
            have hb7 := hF7.blk
            refine HOps.m 10 rfl (by kernel_rfl) (Does.alloc zero45) trivial rfl rfl ?_
            rintro _ w6 ⟨rfl, hF6⟩
            have hge6 := hS.size
            try have hne := hb7.lt
            try have hb7 := hb7.frm hF6.frm (by simp)
            have hS6 : Frm [] wr w6 := hS.trans hF6.frm (by simp)
            refine ⟨hS6, ?_⟩
            have hS := hS6
            have hb6 := hF6.blk
            refine HOps.st 12 rfl (by kernel_rfl) (Acts.storeA rfl rfl Try.sizeOf45 hb6 rfl x.cells_one) trivial rfl ?_
            rintro w8 ⟨hb68, hf8, hs8⟩
            have hS8 : Frm [] wr w8 := hS.own hf8 (fun y hy => by simp only [List.mem_singleton] at hy; subst hy; exact hge6)
            refine ⟨hS8, ?_⟩
            have hS := hS8
            have hb78 := hb7.frm hf8 (by simp only [List.mem_singleton]; omega)
            refine HOps.st 13 rfl (by kernel_rfl) (Acts.storeA rfl rfl Try.sizeOf45 hb78 rfl y.cells_one) trivial rfl ?_
            rintro w9 ⟨hb79, hf9, hs9⟩
            have hS9 : Frm [] wr w9 := hS.own hf9 (fun y hy => by simp only [List.mem_singleton] at hy; subst hy; exact hge7)
            refine ⟨hS9, ?_⟩
            have hS := hS9
            have hb69 := hb68.frm hf9 (by simp only [List.mem_singleton]; omega)
            refine HOps.done (by kernel_rfl) ?_
            refine thenQ_n ⟨(_, _), (.cons rfl (.cons rfl (.cons rfl (.cons rfl (.cons rfl .nil))))), ?_⟩
            exact ⟨hb69, hb79, hS⟩
        · skip
          rintro ⟨g6, g7⟩ w5 ⟨hb6, hb7, hf5⟩ Γ hΓ
          dsimp only at hb6 hb7
          refine thenQ_n (VC.sub _ hΓ ?_)
          refine VC.seq ?_
          refine VC.splitR [(2, .pointer (some ⟨g2, 0, none⟩)), (3, .pointer (some ⟨g3, 0, none⟩)), (5, .int .i64 ((i : Nat) : Int))] (Frm [] w5) 79 (.bool (decide (¬ x.m = y.m))) ?_ ?_
          · refine VC.region ?_
            refine Ops.r (Run.fieldAddr rfl Try.underlying45 rfl Try.sizeOf3 (by decide)) rfl ?_
            refine Ops.r (Run.load rfl Try.isAgg3 (hb6.cell 0)) rfl ?_
            refine Ops.r (Run.fieldAddr rfl Try.underlying45 rfl Try.sizeOf3 (by decide)) rfl ?_
            refine Ops.r (Run.load rfl Try.isAgg3 (hb7.cell 0)) rfl ?_
            refine Ops.r (Run.bin rfl rfl (Bin.neq _ _)) rfl ?_
            by_cases hs50 : x.m.uid ≠ y.m.uid
            · skip
              refine Ops.r (Run.mv rfl) rfl ?_
              refine Ops.sk rfl (by first | rfl | assumption | exact decide_eq_true (by assumption) | exact decide_eq_false (by assumption) | decide | (simp; done) | (simp; omega) | (simp [*]; done)) rfl ?_
              refine Ops.sk rfl (by first | rfl | assumption | exact decide_eq_true (by assumption) | exact decide_eq_false (by assumption) | decide | (simp; done) | (simp; omega) | (simp [*]; done)) rfl ?_
              refine Ops.sk rfl (by first | rfl | assumption | exact decide_eq_true (by assumption) | exact decide_eq_false (by assumption) | decide | (simp; done) | (simp; omega) | (simp [*]; done)) rfl ?_
              refine Ops.sk rfl (by first | rfl | assumption | exact decide_eq_true (by assumption) | exact decide_eq_false (by assumption) | decide | (simp; done) | (simp; omega) | (simp [*]; done)) rfl ?_
              refine Ops.sk rfl (by first | rfl | assumption | exact decide_eq_true (by assumption) | exact decide_eq_false (by assumption) | decide | (simp; done) | (simp; omega) | (simp [*]; done)) rfl ?_
              refine Ops.r (Run.pickT rfl rfl (by first | rfl | assumption | exact decide_eq_true (by assumption) | exact decide_eq_false (by assumption) | decide | (simp; done) | (simp; omega) | (simp [*]; done))) rfl ?_
              refine Ops.r (Run.mv rfl) rfl ?_
              refine Ops.sk rfl (by first | rfl | assumption | exact decide_eq_true (by assumption) | exact decide_eq_false (by assumption) | decide | (simp; done) | (simp; omega) | (simp [*]; done)) rfl ?_
              refine Ops.sk rfl (by first | rfl | assumption | exact decide_eq_true (by assumption) | exact decide_eq_false (by assumption) | decide | (simp; done) | (simp; omega) | (simp [*]; done)) rfl ?_
              refine Ops.sk rfl (by first | rfl | assumption | exact decide_eq_true (by assumption) | exact decide_eq_false (by assumption) | decide | (simp; done) | (simp; omega) | (simp [*]; done)) rfl ?_
              refine Ops.sk rfl (by first | rfl | assumption | exact decide_eq_true (by assumption) | exact decide_eq_false (by assumption) | decide | (simp; done) | (simp; omega) | (simp [*]; done)) rfl ?_
              refine Ops.sk rfl (by first | rfl | assumption | exact decide_eq_true (by assumption) | exact decide_eq_false (by assumption) | decide | (simp; done) | (simp; omega) | (simp [*]; done)) rfl ?_
              refine Ops.r (Run.pickT rfl rfl (by first | rfl | assumption | exact decide_eq_true (by assumption) | exact decide_eq_false (by assumption) | decide | (simp; done) | (simp; omega) | (simp [*]; done))) rfl ?_
              refine Ops.r (Run.mv rfl) rfl ?_
              refine Ops.sk rfl (by first | rfl | assumption | exact decide_eq_true (by assumption) | exact decide_eq_false (by assumption) | decide | (simp; done) | (simp; omega) | (simp [*]; done)) rfl ?_
              refine Ops.sk rfl (by first | rfl | assumption | exact decide_eq_true (by assumption) | exact decide_eq_false (by assumption) | decide | (simp; done) | (simp; omega) | (simp [*]; done)) rfl ?_
              refine Ops.sk rfl (by first | rfl | assumption | exact decide_eq_true (by assumption) | exact decide_eq_false (by assumption) | decide | (simp; done) | (simp; omega) | (simp [*]; done)) rfl ?_
              refine Ops.sk rfl (by first | rfl | assumption | exact decide_eq_true (by assumption) | exact decide_eq_false (by assumption) | decide | (simp; done) | (simp; omega) | (simp [*]; done)) rfl ?_
              refine Ops.sk rfl (by first | rfl | assumption | exact decide_eq_true (by assumption) | exact decide_eq_false (by assumption) | decide | (simp; done) | (simp; omega) | (simp [*]; done)) rfl ?_
              refine Ops.r (Run.pickT rfl rfl (by first | rfl | assumption | exact decide_eq_true (by assumption) | exact decide_eq_false (by assumption) | decide | (simp; done) | (simp; omega) | (simp [*]; done))) rfl ?_
              refine Ops.r (Run.mv rfl) rfl ?_
              refine Ops.sk rfl (by first | rfl | assumption | exact decide_eq_true (by assumption) | exact decide_eq_false (by assumption) | decide | (simp; done) | (simp; omega) | (simp [*]; done)) rfl ?_
              refine Ops.sk rfl (by first | rfl | assumption | exact decide_eq_true (by assumption) | exact decide_eq_false (by assumption) | decide | (simp; done) | (simp; omega) | (simp [*]; done)) rfl ?_
              refine Ops.sk rfl (by first | rfl | assumption | exact decide_eq_true (by assumption) | exact decide_eq_false (by assumption) | decide | (simp; done) | (simp; omega) | (simp [*]; done)) rfl ?_
              refine Ops.sk rfl (by first | rfl | assumption | exact decide_eq_true (by assumption) | exact decide_eq_false (by assumption) | decide | (simp; done) | (simp; omega) | (simp [*]; done)) rfl ?_
              refine Ops.sk rfl (by first | rfl | assumption | exact decide_eq_true (by assumption) | exact decide_eq_false (by assumption) | decide | (simp; done) | (simp; omega) | (simp [*]; done)) rfl ?_
              refine Ops.sk rfl (by first | rfl | assumption | exact decide_eq_true (by assumption) | exact decide_eq_false (by assumption) | decide | (simp; done) | (simp; omega) | (simp [*]; done)) rfl ?_
              refine Ops.r (Run.pickT rfl rfl (by first | rfl | assumption | exact decide_eq_true (by assumption) | exact decide_eq_false (by assumption) | decide | (simp; done) | (simp; omega) | (simp [*]; done))) rfl ?_
              refine Ops.nil ?_
              refine thenQ_n ⟨(.cons (congrArg (fun b => some (Value.bool b)) (Eq.symm (by simp_all))) (.cons rfl (.cons rfl (.cons rfl .nil)))), (by first | exact hd6.frm | exact Frm.refl _ _)⟩
            · skip
              refine Ops.r (Run.mv rfl) rfl ?_
              refine Ops.rg rfl (by first | rfl | assumption | exact decide_eq_true (by assumption) | exact decide_eq_false (by assumption) | decide | (simp; done) | (simp; omega) | (simp [*]; done)) (Run.fieldAddr rfl Try.underlying45 rfl Try.sizeOf42 (by decide)) rfl ?_
              refine Ops.rg rfl (by first | rfl | assumption | exact decide_eq_true (by assumption) | exact decide_eq_false (by assumption) | decide | (simp; done) | (simp; omega) | (simp [*]; done)) (Run.loadA rfl Try.isAgg42 Try.sizeOf42 (hb6.sub 1 [.int .i64 x.m.sec, .int .i64 x.m.zone] rfl) (by first | rfl | (simp; done))) rfl ?_
              refine Ops.rg rfl (by first | rfl | assumption | exact decide_eq_true (by assumption) | exact decide_eq_false (by assumption) | decide | (simp; done) | (simp; omega) | (simp [*]; done)) (Run.fieldAddr rfl Try.underlying45 rfl Try.sizeOf42 (by decide)) rfl ?_
              refine Ops.rg rfl (by first | rfl | assumption | exact decide_eq_true (by assumption) | exact decide_eq_false (by assumption) | decide | (simp; done) | (simp; omega) | (simp [*]; done)) (Run.loadA rfl Try.isAgg42 Try.sizeOf42 (hb7.sub 1 [.int .i64 y.m.sec, .int .i64 y.m.zone] rfl) (by first | rfl | (simp; done))) rfl ?_
              refine Ops.rg rfl (by first | rfl | assumption | exact decide_eq_true (by assumption) | exact decide_eq_false (by assumption) | decide | (simp; done) | (simp; omega) | (simp [*]; done)) (Run.neqAgg rfl rfl (by kernel_rfl) (by kernel_rfl) (by kernel_rfl) (date_eq _ _ _ _ _)) rfl ?_
              by_cases hs56 : ¬ (x.m.sec = y.m.sec ∧ x.m.zone = y.m.zone)
              · skip
                refine Ops.r (Run.pickF rfl rfl (by first | rfl | assumption | exact decide_eq_true (by assumption) | exact decide_eq_false (by assumption) | decide | (simp; done) | (simp; omega) | (simp [*]; done))) rfl ?_
                refine Ops.r (Run.mv rfl) rfl ?_
                refine Ops.sk rfl (by first | rfl | assumption | exact decide_eq_true (by assumption) | exact decide_eq_false (by assumption) | decide | (simp; done) | (simp; omega) | (simp [*]; done)) rfl ?_
                refine Ops.sk rfl (by first | rfl | assumption | exact decide_eq_true (by assumption) | exact decide_eq_false (by assumption) | decide | (simp; done) | (simp; omega) | (simp [*]; done)) rfl ?_
                refine Ops.sk rfl (by first | rfl | assumption | exact decide_eq_true (by assumption) | exact decide_eq_false (by assumption) | decide | (simp; done) | (simp; omega) | (simp [*]; done)) rfl ?_
                refine Ops.sk rfl (by first | rfl | assumption | exact decide_eq_true (by assumption) | exact decide_eq_false (by assumption) | decide | (simp; done) | (simp; omega) | (simp [*]; done)) rfl ?_
                refine Ops.sk rfl (by first | rfl | assumption | exact decide_eq_true (by assumption) | exact decide_eq_false (by assumption) | decide | (simp; done) | (simp; omega) | (simp [*]; done)) rfl ?_
                refine Ops.r (Run.pickT rfl rfl (by first | rfl | assumption | exact decide_eq_true (by assumption) | exact decide_eq_false (by assumption) | decide | (simp; done) | (simp; omega) | (simp [*]; done))) rfl ?_
                refine Ops.r (Run.mv rfl) rfl ?_
                refine Ops.sk rfl (by first | rfl | assumption | exact decide_eq_true (by assumption) | exact decide_eq_false (by assumption) | decide | (simp; done) | (simp; omega) | (simp [*]; done)) rfl ?_
                refine Ops.sk rfl (by first | rfl | assumption | exact decide_eq_true (by assumption) | exact decide_eq_false (by assumption) | decide | (simp; done) | (simp; omega) | (simp [*]; done)) rfl ?_
                refine Ops.sk rfl (by first | rfl | assumption | exact decide_eq_true (by assumption) | exact decide_eq_false (by assumption) | decide | (simp; done) | (simp; omega) | (simp [*]; done)) rfl ?_
                refine Ops.sk rfl (by first | rfl | assumption | exact decide_eq_true (by assumption) | exact decide_eq_false (by assumption) | decide | (simp; done) | (simp; omega) | (simp [*]; done)) rfl ?_
                refine Ops.sk rfl (by first | rfl | assumption | exact decide_eq_true (by assumption) | exact decide_eq_false (by assumption) | decide | (simp; done) | (simp; omega) | (simp [*]; done)) rfl ?_
                refine Ops.r (Run.pickT rfl rfl (by first | rfl | assumption | exact decide_eq_true (by assumption) | exact decide_eq_false (by assumption) | decide | (simp; done) | (simp; omega) | (simp [*]; done))) rfl ?_
                refine Ops.r (Run.mv rfl) rfl ?_
                refine Ops.sk rfl (by first | rfl | assumption | exact decide_eq_true (by assumption) | exact decide_eq_false (by assumption) | decide | (simp; done) | (simp; omega) | (simp [*]; done)) rfl ?_
                refine Ops.sk rfl (by first | rfl | assumption | exact decide_eq_true (by assumption) | exact decide_eq_false (by assumption) | decide | (simp; done) | (simp; omega) | (simp [*]; done)) rfl ?_
                refine Ops.sk rfl (by first | rfl | assumption | exact decide_eq_true (by assumption) | exact decide_eq_false (by assumption) | decide | (simp; done) | (simp; omega) | (simp [*]; done)) rfl ?_
                refine Ops.sk rfl (by first | rfl | assumption | exact decide_eq_true (by assumption) | exact decide_eq_false (by assumption) | decide | (simp; done) | (simp; omega) | (simp [*]; done)) rfl ?_
                refine Ops.sk rfl (by first | rfl | assumption | exact decide_eq_true (by assumption) | exact decide_eq_false (by assumption) | decide | (simp; done) | (simp; omega) | (simp [*]; done)) rfl ?_
                refine Ops.sk rfl (by first | rfl | assumption | exact decide_eq_true (by assumption) | exact decide_eq_false (by assumption) | decide | (simp; done) | (simp; omega) | (simp [*]; done)) rfl ?_
                refine Ops.r (Run.pickT rfl rfl (by first | rfl | assumption | exact decide_eq_true (by assumption) | exact decide_eq_false (by assumption) | decide | (simp; done) | (simp; omega) | (simp [*]; done))) rfl ?_
                refine Ops.nil ?_
                refine thenQ_n ⟨(.cons (congrArg (fun b => some (Value.bool b)) (Eq.symm (by simp_all))) (.cons rfl (.cons rfl (.cons rfl .nil)))), (by first | exact hd6.frm | exact Frm.refl _ _)⟩
              · skip
                refine Ops.r (Run.pickF rfl rfl (by first | rfl | assumption | exact decide_eq_true (by assumption) | exact decide_eq_false (by assumption) | decide | (simp; done) | (simp; omega) | (simp [*]; done))) rfl ?_
                refine Ops.r (Run.mv rfl) rfl ?_
                refine Ops.rg rfl (by first | rfl | assumption | exact decide_eq_true (by assumption) | exact decide_eq_false (by assumption) | decide | (simp; done) | (simp; omega) | (simp [*]; done)) (Run.fieldAddr rfl Try.underlying45 rfl Try.sizeOf3 (by decide)) rfl ?_
                refine Ops.rg rfl (by first | rfl | assumption | exact decide_eq_true (by assumption) | exact decide_eq_false (by assumption) | decide | (simp; done) | (simp; omega) | (simp [*]; done)) (Run.load rfl Try.isAgg3 (hb6.cell 3)) rfl ?_
                refine Ops.rg rfl (by first | rfl | assumption | exact decide_eq_true (by assumption) | exact decide_eq_false (by assumption) | decide | (simp; done) | (simp; omega) | (simp [*]; done)) (Run.fieldAddr rfl Try.underlying45 rfl Try.sizeOf3 (by decide)) rfl ?_
                refine Ops.rg rfl (by first | rfl | assumption | exact decide_eq_true (by assumption) | exact decide_eq_false (by assumption) | decide | (simp; done) | (simp; omega) | (simp [*]; done)) (Run.load rfl Try.isAgg3 (hb7.cell 3)) rfl ?_
                refine Ops.rg rfl (by first | rfl | assumption | exact decide_eq_true (by assumption) | exact decide_eq_false (by assumption) | decide | (simp; done) | (simp; omega) | (simp [*]; done)) (Run.bin rfl rfl (Bin.neq _ _)) rfl ?_
                by_cases hs63 : x.m.size ≠ y.m.size
                · skip
                  refine Ops.r (Run.pickF rfl rfl (by first | rfl | assumption | exact decide_eq_true (by assumption) | exact decide_eq_false (by assumption) | decide | (simp; done) | (simp; omega) | (simp [*]; done))) rfl ?_
                  refine Ops.r (Run.mv rfl) rfl ?_
                  refine Ops.sk rfl (by first | rfl | assumption | exact decide_eq_true (by assumption) | exact decide_eq_false (by assumption) | decide | (simp; done) | (simp; omega) | (simp [*]; done)) rfl ?_
                  refine Ops.sk rfl (by first | rfl | assumption | exact decide_eq_true (by assumption) | exact decide_eq_false (by assumption) | decide | (simp; done) | (simp; omega) | (simp [*]; done)) rfl ?_
                  refine Ops.sk rfl (by first | rfl | assumption | exact decide_eq_true (by assumption) | exact decide_eq_false (by assumption) | decide | (simp; done) | (simp; omega) | (simp [*]; done)) rfl ?_
                  refine Ops.sk rfl (by first | rfl | assumption | exact decide_eq_true (by assumption) | exact decide_eq_false (by assumption) | decide | (simp; done) | (simp; omega) | (simp [*]; done)) rfl ?_
                  refine Ops.sk rfl (by first | rfl | assumption | exact decide_eq_true (by assumption) | exact decide_eq_false (by assumption) | decide | (simp; done) | (simp; omega) | (simp [*]; done)) rfl ?_
                  refine Ops.r (Run.pickT rfl rfl (by first | rfl | assumption | exact decide_eq_true (by assumption) | exact decide_eq_false (by assumption) | decide | (simp; done) | (simp; omega) | (simp [*]; done))) rfl ?_
                  refine Ops.r (Run.mv rfl) rfl ?_
                  refine Ops.sk rfl (by first | rfl | assumption | exact decide_eq_true (by assumption) | exact decide_eq_false (by assumption) | decide | (simp; done) | (simp; omega) | (simp [*]; done)) rfl ?_
                  refine Ops.sk rfl (by first | rfl | assumption | exact decide_eq_true (by assumption) | exact decide_eq_false (by assumption) | decide | (simp; done) | (simp; omega) | (simp [*]; done)) rfl ?_
                  refine Ops.sk rfl (by first | rfl | assumption | exact decide_eq_true (by assumption) | exact decide_eq_false (by assumption) | decide | (simp; done) | (simp; omega) | (simp [*]; done)) rfl ?_
                  refine Ops.sk rfl (by first | rfl | assumption | exact decide_eq_true (by assumption) | exact decide_eq_false (by assumption) | decide | (simp; done) | (simp; omega) | (simp [*]; done)) rfl ?_
                  refine Ops.sk rfl (by first | rfl | assumption | exact decide_eq_true (by assumption) | exact decide_eq_false (by assumption) | decide | (simp; done) | (simp; omega) | (simp [*]; done)) rfl ?_
                  refine Ops.sk rfl (by first | rfl | assumption | exact decide_eq_true (by assumption) | exact decide_eq_false (by assumption) | decide | (simp; done) | (simp; omega) | (simp [*]; done)) rfl ?_
                  refine Ops.r (Run.pickT rfl rfl (by first | rfl | assumption | exact decide_eq_true (by assumption) | exact decide_eq_false (by assumption) | decide | (simp; done) | (simp; omega) | (simp [*]; done))) rfl ?_
                  refine Ops.nil ?_
                  refine thenQ_n ⟨(.cons (congrArg (fun b => some (Value.bool b)) (Eq.symm (by simp_all))) (.cons rfl (.cons rfl (.cons rfl .nil)))), (by first | exact hd6.frm | exact Frm.refl _ _)⟩
                · skip
                  refine Ops.r (Run.pickF rfl rfl (by first | rfl | assumption | exact decide_eq_true (by assumption) | exact decide_eq_false (by assumption) | decide | (simp; done) | (simp; omega) | (simp [*]; done))) rfl ?_
                  refine Ops.r (Run.mv rfl) rfl ?_
                  refine Ops.rg rfl (by first | rfl | assumption | exact decide_eq_true (by assumption) | exact decide_eq_false (by assumption) | decide | (simp; done) | (simp; omega) | (simp [*]; done)) (Run.fieldAddr rfl Try.underlying45 rfl Try.sizeOf38 (by decide)) rfl ?_
                  refine Ops.rg rfl (by first | rfl | assumption | exact decide_eq_true (by assumption) | exact decide_eq_false (by assumption) | decide | (simp; done) | (simp; omega) | (simp [*]; done)) (Run.load rfl Try.isAgg38 (hb6.cell 4)) rfl ?_
                  refine Ops.rg rfl (by first | rfl | assumption | exact decide_eq_true (by assumption) | exact decide_eq_false (by assumption) | decide | (simp; done) | (simp; omega) | (simp [*]; done)) (Run.fieldAddr rfl Try.underlying45 rfl Try.sizeOf38 (by decide)) rfl ?_
                  refine Ops.rg rfl (by first | rfl | assumption | exact decide_eq_true (by assumption) | exact decide_eq_false (by assumption) | decide | (simp; done) | (simp; omega) | (simp [*]; done)) (Run.load rfl Try.isAgg38 (hb7.cell 4)) rfl ?_
                  refine Ops.rg rfl (by first | rfl | assumption | exact decide_eq_true (by assumption) | exact decide_eq_false (by assumption) | decide | (simp; done) | (simp; omega) | (simp [*]; done)) (Run.bin rfl rfl (Bin.neqN _ _)) rfl ?_
                  by_cases hs70 : x.m.blob ≠ y.m.blob
                  · skip
                    refine Ops.r (Run.pickF rfl rfl (by first | rfl | assumption | exact decide_eq_true (by assumption) | exact decide_eq_false (by assumption) | decide | (simp; done) | (simp; omega) | (simp [*]; done))) rfl ?_
                    refine Ops.r (Run.mv rfl) rfl ?_
                    refine Ops.sk rfl (by first | rfl | assumption | exact decide_eq_true (by assumption) | exact decide_eq_false (by assumption) | decide | (simp; done) | (simp; omega) | (simp [*]; done)) rfl ?_
                    refine Ops.sk rfl (by first | rfl | assumption | exact decide_eq_true (by assumption) | exact decide_eq_false (by assumption) | decide | (simp; done) | (simp; omega) | (simp [*]; done)) rfl ?_
                    refine Ops.sk rfl (by first | rfl | assumption | exact decide_eq_true (by assumption) | exact decide_eq_false (by assumption) | decide | (simp; done) | (simp; omega) | (simp [*]; done)) rfl ?_
                    refine Ops.sk rfl (by first | rfl | assumption | exact decide_eq_true (by assumption) | exact decide_eq_false (by assumption) | decide | (simp; done) | (simp; omega) | (simp [*]; done)) rfl ?_
                    refine Ops.sk rfl (by first | rfl | assumption | exact decide_eq_true (by assumption) | exact decide_eq_false (by assumption) | decide | (simp; done) | (simp; omega) | (simp [*]; done)) rfl ?_
                    refine Ops.sk rfl (by first | rfl | assumption | exact decide_eq_true (by assumption) | exact decide_eq_false (by assumption) | decide | (simp; done) | (simp; omega) | (simp [*]; done)) rfl ?_
                    refine Ops.r (Run.pickT rfl rfl (by first | rfl | assumption | exact decide_eq_true (by assumption) | exact decide_eq_false (by assumption) | decide | (simp; done) | (simp; omega) | (simp [*]; done))) rfl ?_
                    refine Ops.nil ?_
                    refine thenQ_n ⟨(.cons (congrArg (fun b => some (Value.bool b)) (Eq.symm (by simp_all))) (.cons rfl (.cons rfl (.cons rfl .nil)))), (by first | exact hd6.frm | exact Frm.refl _ _)⟩
                  · skip
                    refine Ops.r (Run.pickF rfl rfl (by first | rfl | assumption | exact decide_eq_true (by assumption) | exact decide_eq_false (by assumption) | decide | (simp; done) | (simp; omega) | (simp [*]; done))) rfl ?_
                    refine Ops.r (Run.mv rfl) rfl ?_
                    refine Ops.rg rfl (by first | rfl | assumption | exact decide_eq_true (by assumption) | exact decide_eq_false (by assumption) | decide | (simp; done) | (simp; omega) | (simp [*]; done)) (Run.fieldAddr rfl Try.underlying45 rfl Try.sizeOf43 (by decide)) rfl ?_
                    refine Ops.rg rfl (by first | rfl | assumption | exact decide_eq_true (by assumption) | exact decide_eq_false (by assumption) | decide | (simp; done) | (simp; omega) | (simp [*]; done)) (Run.load rfl Try.isAgg43 (hb6.cell 5)) rfl ?_
                    refine Ops.rg rfl (by first | rfl | assumption | exact decide_eq_true (by assumption) | exact decide_eq_false (by assumption) | decide | (simp; done) | (simp; omega) | (simp [*]; done)) (Run.fieldAddr rfl Try.underlying45 rfl Try.sizeOf43 (by decide)) rfl ?_
                    refine Ops.rg rfl (by first | rfl | assumption | exact decide_eq_true (by assumption) | exact decide_eq_false (by assumption) | decide | (simp; done) | (simp; omega) | (simp [*]; done)) (Run.load rfl Try.isAgg43 (hb7.cell 5)) rfl ?_
                    refine Ops.clg rfl (by first | rfl | assumption | exact decide_eq_true (by assumption) | exact decide_eq_false (by assumption) | decide | (simp; done) | (simp; omega) | (simp [*]; done)) (Enters.fn (evs.cons rfl (evs.cons rfl evs.nil)) Try.call35) (rsame_spec x.A y.A x.c y.c x.m.flags y.m.flags _ (by have := hxa.n; omega) (by have := hya.n; omega) (hxa.frm hf5 (by simp)).rd (hya.frm hf5 (by simp)).rd) rfl ?_
                    rintro e w6 ⟨rfl, hd6⟩
                    refine ⟨_, rfl, ?_⟩
                    by_cases hs77 : x.m.flags = y.m.flags
                    · skip
                      refine Ops.rg rfl (by first | rfl | assumption | exact decide_eq_true (by assumption) | exact decide_eq_false (by assumption) | decide | (simp; done) | (simp; omega) | (simp [*]; done)) (Run.not rfl) rfl ?_
                      refine Ops.r (Run.pickF rfl rfl (by first | rfl | assumption | exact decide_eq_true (by assumption) | exact decide_eq_false (by assumption) | decide | (simp; done) | (simp; omega) | (simp [*]; done))) rfl ?_
                      refine Ops.nil ?_
                      refine thenQ_n ⟨(.cons (congrArg (fun b => some (Value.bool b)) (Eq.symm (by simp_all))) (.cons rfl (.cons rfl (.cons rfl .nil)))), (by first | exact hd6.frm | exact Frm.refl _ _)⟩
                    · skip
                      refine Ops.rg rfl (by first | rfl | assumption | exact decide_eq_true (by assumption) | exact decide_eq_false (by assumption) | decide | (simp; done) | (simp; omega) | (simp [*]; done)) (Run.not rfl) rfl ?_
                      refine Ops.r (Run.pickF rfl rfl (by first | rfl | assumption | exact decide_eq_true (by assumption) | exact decide_eq_false (by assumption) | decide | (simp; done) | (simp; omega) | (simp [*]; done))) rfl ?_
                      refine Ops.nil ?_
                      refine thenQ_n ⟨(.cons (congrArg (fun b => some (Value.bool b)) (Eq.symm (by simp_all))) (.cons rfl (.cons rfl (.cons rfl .nil)))), (by first | exact hd6.frm | exact Frm.refl _ _)⟩
          · intro Γ w6 hΓ hf6
            refine thenQ_n (VC.sub _ hΓ ?_)
            refine VC.condD rfl (fun hc3 => ?_) (fun hc3 => ?_)
            · skip
              refine VC.seq ?_
              refine VC.region ?_
              refine Ops.r (Run.asg rfl) rfl ?_
              refine Ops.nil ?_
              refine thenQ_n ?_
              refine VC.sub [(4, _)] (.cons rfl .nil) ?_
              refine VC.ret ?_
              refine blockQ_r (thenQ_r (thenQ_r (blockQ_r (thenQ_r (end1 rfl ?_)))))
              refine ⟨?_, (hfr.trans hf5 (by simp)).trans hf6 (by simp)⟩
              rw [decide_eq_false]
              rintro ⟨_, _, h⟩
              have h1 := congrArg (fun z => z[i]?) h
              simp only [Ms, List.getElem?_map, List.getElem?_eq_getElem hc2, List.getElem?_eq_getElem hc2', Option.map_some, Option.some.injEq] at h1
              rw [hx, hy] at h1
              exact hc3 h1
            · skip
              refine VC.skip ?_
              refine blockQ_n (thenQ_n ?_)
              refine VC.sub [(2, _), (3, _), (5, _)] (.cons rfl (.cons rfl (.cons rfl .nil))) ?_
              refine VC.region ?_
              refine Ops.r (Run.mv rfl) rfl ?_
              refine Ops.r (Run.bin rfl rfl (Bin.add_i64 _ 1 (by omega))) rfl ?_
              refine Ops.r (Run.asg rfl) rfl ?_
              refine Ops.nil ?_
              refine thenQ_n ⟨(i + 1), (.cons rfl (.cons rfl (.cons rfl .nil))), ?_, ?_⟩
              · skip
                have hxy : x.m = y.m := Classical.not_not.1 hc3
                have hf56 := hf5.trans hf6 (by simp)
                exact ⟨hc2, hfr.trans hf56 (by simp), hb2.frm hf56 (by simp), hb3.frm hf56 (by simp), by rw [hms, hms2, hsm, hxy]⟩
              · skip
                first | omega | (dsimp only; omega)
      · skip
        refine VC.exit ?_
        refine thenQ_x (thenQ_x (blockQ_x ?_))
        refine thenQ_n ?_
        refine VC.sub [] .nil ?_
        refine VC.seq ?_
        refine VC.region ?_
        refine Ops.r (Run.asg rfl) rfl ?_
        refine Ops.nil ?_
        refine thenQ_n ?_
        refine VC.ret ?_
        refine end1 rfl ?_
        refine ⟨?_, hfr⟩
        have hil : i = l.length := by omega
        subst hil
        rw [List.take_length, hll, List.take_length] at hsm
        rw [decide_eq_true ⟨hvv, hnn, hsm⟩]

end Go.Proofs.Ytmfglifjnoilnaa
