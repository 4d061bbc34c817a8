/-
  The walks of the answers of layer 25 (2), and of what the laws of layer 25 say it with.
-/
import Derived.Test.YtnllhddbgkeboaaDoorSeqL
namespace Go.Proofs.YtnllhddbgkeboaaDoor
open Go.RowKit Go.Sort

theorem IB_cell {w : World} {ad : Addr} {l : List Int} {k : Nat} (h : Rd w 1 (some ad) l.length (IB l)) (hk : k < l.length) : w.cell? (ad.add k) = some (.int .i64 l[k]) := by
  obtain ⟨ad', h1, h2⟩ := IB_at h hk
  cases h1
  exact h2
theorem SC_cell {w : World} {ad : Addr} {l : List Sp} {k : Nat} (h : Rd w 2 (some ad) l.length (SC l)) (hk : k < l.length) : ∀ j v, (SC1 l[k])[j]? = some v → w.cell? ((ad.add (k * 2)).add j) = some v := by
  obtain ⟨ad', h1, h2⟩ := SC_at h hk
  cases h1
  exact h2

set_option maxRecDepth 100000 in
theorem rof_spec (A B : Option Addr) (c d : Nat) (l : List Sp) (us : List Int) (w : World) (hl : Rd w 2 A l.length (SC l)) (hn : l.length ≤ 1000) (hu : Rd w 1 B us.length (IB us)) (hm : us.length ≤ 1000000) :
    Calls Tryd.prog 24 #[.slice A l.length c, .slice B us.length d] w fun e w' => Frm [] w w' ∧ ∃ C q, e = .returned (.slice C (ofQ l us).length q) ∧ Own w' 3 1 C (ofQ l us).length q (IB (ofQ l us)) ∧ (∀ x ∈ ob C, w.heap.size ≤ x) := by
  refine VC.calls (nt := 54) (res := #[.tmp 4]) Tryd.func24 rfl Tryd.ntmps24 Tryd.results24 rfl ?_
  refine VC.seq ?_
  refine VC.region ?_
  refine Ops.r (Run.asg rfl) rfl ?_
  refine Ops.nil ?_
  refine thenQ_n ?_
  refine VC.sub [(0, _), (1, _)] (.cons rfl (.cons rfl .nil)) ?_
  refine VC.seq ?_
  refine VC.region ?_
  refine Ops.r (Run.asg rfl) rfl ?_
  refine Ops.nil ?_
  refine thenQ_n ?_
  refine VC.seq ?_
  refine VC.seq ?_
  refine VC.region ?_
  refine Ops.r (v := .int .i64 ((0 : Nat) : Int)) (Run.asg rfl) rfl ?_
  refine Ops.nil ?_
  refine thenQ_n ?_
  refine VC.block ?_
  refine VC.loop (σ := Nat × Option Addr × Nat) (fun s => [(0, .slice A l.length c), (1, .slice B us.length d), (5, .slice s.2.1 ((us.take s.1).filter fun n => decide (hasQ l n (lastQ us))).length s.2.2), (6, .int .i64 ((s.1 : Nat) : Int))]) (fun s wr => s.1 ≤ us.length ∧ Own wr 3 1 s.2.1 ((us.take s.1).filter fun n => decide (hasQ l n (lastQ us))).length s.2.2 (IB ((us.take s.1).filter fun n => decide (hasQ l n (lastQ us)))) ∧ (∀ x ∈ ob s.2.1, w.heap.size ≤ x) ∧ Frm [] w wr ∧ (∀ j, j < s.1 → RiseAt us j)) (fun s => us.length - s.1) (0, none, 0) (.cons rfl (.cons rfl (.cons rfl (.cons rfl .nil)))) ⟨by omega, Own.nil _ _ _, by simp [ob], Frm.refl _ _, fun j hj => absurd hj (by omega)⟩ ?_
  rintro ⟨i, C, q⟩ wr ⟨hi, hown, hge, hfr, hng⟩
  dsimp only at hi hown hge hng ⊢
  refine VC.seq ?_
  refine VC.seq ?_
  refine VC.region ?_
  refine Ops.r (Run.mv rfl) rfl ?_
  refine Ops.r (Run.mv rfl) rfl ?_
  refine Ops.r (Run.lenS rfl Tryd.underlying38) rfl ?_
  refine Ops.r (Run.bin rfl rfl (Bin.lssN _ _)) rfl ?_
  refine Ops.nil ?_
  refine thenQ_n ?_
  refine VC.sub [(0, _), (1, _), (5, _), (6, _), (10, _)] (.cons rfl (.cons rfl (.cons rfl (.cons rfl (.cons rfl .nil))))) ?_
  refine VC.condD rfl (fun hc1 => ?_) (fun hc1 => ?_)
  · skip
    obtain ⟨ad, rfl, hcell⟩ := IB_at (hu.frm hfr (by simp)) hc1
    have hcell1 : ∀ W, Frm [] w W → W.cell? (ad.add i) = some (.int .i64 us[i]) := fun W hW => IB_cell (hu.frm hW (by simp)) hc1
    have hsn := filter_snoc (f := fun n => decide (hasQ l n (lastQ us))) hc1
    have hgi := getD_of hc1
    have hra : RiseAt us i ↔ (1 ≤ us[i] ∧ (0 < i → us.getD (i - 1) 0 < us[i])) := by unfold RiseAt; rw [hgi]
    have hbad := fun h => ofQ_bad (l := l) hc1 h
    have hll : us.length - 1 < us.length := by omega
    have hcell2 : ∀ W, Frm [] w W → W.cell? (ad.add (us.length - 1)) = some (.int .i64 us[us.length - 1]) := fun W hW => IB_cell (hu.frm hW (by simp)) hll
    have hlq : lastQ us = us[us.length - 1] := getD_of hll
    generalize hx : us[i] = n at *
    generalize hy : us[us.length - 1] = g at *
    refine VC.skip ?_
    refine thenQ_n ?_
    refine VC.sub [(0, _), (1, _), (5, _), (6, _)] (.cons rfl (.cons rfl (.cons rfl (.cons rfl .nil)))) ?_
    refine VC.seq ?_
    refine VC.block ?_
    refine VC.seq ?_
    refine VC.seq ?_
    refine VC.splitR [(0, .slice A l.length c), (1, .slice (some ad) us.length d), (5, .slice C ((us.take i).filter fun n => decide (hasQ l n (lastQ us))).length q), (6, .int .i64 ((i : Nat) : Int))] (Drawn wr) 33 (.bool (decide (¬ RiseAt us i))) ?_ ?_
    · refine VC.still (by kernel_rfl) (by kernel_rfl) ?_
      refine SOps.r (Run.mv rfl) rfl ?_
      refine SOps.r (Run.mv rfl) rfl ?_
      refine SOps.r (Run.index1 i rfl rfl Tryd.underlying38 Tryd.sizeOf3 hc1) rfl ?_
      refine SOps.r (Run.load rfl Tryd.isAgg3 hcell) rfl ?_
      refine SOps.r (Run.bin rfl rfl (Bin.lss _ 1)) rfl ?_
      by_cases hs17 : n < 1
      · skip
        refine SOps.r (Run.mv rfl) rfl ?_
        refine SOps.sk rfl (by first | rfl | assumption | exact decide_eq_true (by assumption) | exact decide_eq_false (by assumption) | decide | (simp; done) | (simp; omega) | (simp [*]; done)) rfl ?_
        refine SOps.sk rfl (by first | rfl | assumption | exact decide_eq_true (by assumption) | exact decide_eq_false (by assumption) | decide | (simp; done) | (simp; omega) | (simp [*]; done)) rfl ?_
        refine SOps.sk rfl (by first | rfl | assumption | exact decide_eq_true (by assumption) | exact decide_eq_false (by assumption) | decide | (simp; done) | (simp; omega) | (simp [*]; done)) rfl ?_
        refine SOps.skU rfl rfl ?_
        refine SOps.skU rfl rfl ?_
        refine SOps.skU rfl rfl ?_
        refine SOps.skU rfl rfl ?_
        refine SOps.skU rfl rfl ?_
        refine SOps.skU rfl rfl ?_
        refine SOps.skU rfl rfl ?_
        refine SOps.skU rfl rfl ?_
        refine SOps.skU rfl rfl ?_
        refine SOps.skU rfl rfl ?_
        refine SOps.sk rfl (by first | rfl | assumption | exact decide_eq_true (by assumption) | exact decide_eq_false (by assumption) | decide | (simp; done) | (simp; omega) | (simp [*]; done)) rfl ?_
        refine SOps.r (Run.pickT rfl rfl (by first | rfl | assumption | exact decide_eq_true (by assumption) | exact decide_eq_false (by assumption) | decide | (simp; done) | (simp; omega) | (simp [*]; done))) rfl ?_
        refine SOps.nil ?_
        refine thenQ_n ⟨(.cons (congrArg (fun b => some (Value.bool b)) (Eq.symm (by first | exact decide_eq_true (fun h => absurd (hra.1 h).1 (by omega)) | exact decide_eq_false (fun h => h (hra.2 ⟨by omega, fun h => absurd h ‹_›⟩)) | exact decide_eq_decide.2 ⟨fun h => Classical.byContradiction fun h2 => h (hra.2 ⟨by omega, fun _ => by rw [hgp]; omega⟩), fun h h2 => absurd ((hra.1 h2).2 ‹_›) (by rw [hgp]; omega)⟩))) (.cons rfl (.cons rfl (.cons rfl (.cons rfl .nil))))), (Drawn.drew wr)⟩
      · skip
        refine SOps.r (Run.mv rfl) rfl ?_
        refine SOps.rg rfl (by first | rfl | assumption | exact decide_eq_true (by assumption) | exact decide_eq_false (by assumption) | decide | (simp; done) | (simp; omega) | (simp [*]; done)) (Run.mv rfl) rfl ?_
        refine SOps.rg rfl (by first | rfl | assumption | exact decide_eq_true (by assumption) | exact decide_eq_false (by assumption) | decide | (simp; done) | (simp; omega) | (simp [*]; done)) (Run.bin rfl rfl (Bin.gtrN _ 0)) rfl ?_
        by_cases hs20 : 0 < i
        · skip
          have hi1 : i - 1 < us.length := by omega
          have hcell3 := IB_cell (hu.frm hfr (by simp)) hi1
          have hgp := getD_of hi1
          generalize hp : us[i - 1] = p at *
          refine SOps.rg rfl (by first | rfl | assumption | exact decide_eq_true (by assumption) | exact decide_eq_false (by assumption) | decide | (simp; done) | (simp; omega) | (simp [*]; done)) (Run.mv rfl) rfl ?_
          refine SOps.rg rfl (by first | rfl | assumption | exact decide_eq_true (by assumption) | exact decide_eq_false (by assumption) | decide | (simp; done) | (simp; omega) | (simp [*]; done)) (Run.mv rfl) rfl ?_
          refine SOps.rg rfl (by first | rfl | assumption | exact decide_eq_true (by assumption) | exact decide_eq_false (by assumption) | decide | (simp; done) | (simp; omega) | (simp [*]; done)) (Run.mv rfl) rfl ?_
          refine SOps.rg rfl (by first | rfl | assumption | exact decide_eq_true (by assumption) | exact decide_eq_false (by assumption) | decide | (simp; done) | (simp; omega) | (simp [*]; done)) (Run.bin rfl rfl (Bin.subN i 1 (by omega) (by simp [bmax]; omega))) rfl ?_
          refine SOps.rg rfl (by first | rfl | assumption | exact decide_eq_true (by assumption) | exact decide_eq_false (by assumption) | decide | (simp; done) | (simp; omega) | (simp [*]; done)) (Run.index1 (i - 1) rfl rfl Tryd.underlying38 Tryd.sizeOf3 hi1) rfl ?_
          refine SOps.rg rfl (by first | rfl | assumption | exact decide_eq_true (by assumption) | exact decide_eq_false (by assumption) | decide | (simp; done) | (simp; omega) | (simp [*]; done)) (Run.load rfl Tryd.isAgg3 hcell3) rfl ?_
          refine SOps.rg rfl (by first | rfl | assumption | exact decide_eq_true (by assumption) | exact decide_eq_false (by assumption) | decide | (simp; done) | (simp; omega) | (simp [*]; done)) (Run.mv rfl) rfl ?_
          refine SOps.rg rfl (by first | rfl | assumption | exact decide_eq_true (by assumption) | exact decide_eq_false (by assumption) | decide | (simp; done) | (simp; omega) | (simp [*]; done)) (Run.mv rfl) rfl ?_
          refine SOps.rg rfl (by first | rfl | assumption | exact decide_eq_true (by assumption) | exact decide_eq_false (by assumption) | decide | (simp; done) | (simp; omega) | (simp [*]; done)) (Run.index1 i rfl rfl Tryd.underlying38 Tryd.sizeOf3 hc1) rfl ?_
          refine SOps.rg rfl (by first | rfl | assumption | exact decide_eq_true (by assumption) | exact decide_eq_false (by assumption) | decide | (simp; done) | (simp; omega) | (simp [*]; done)) (Run.load rfl Tryd.isAgg3 hcell) rfl ?_
          refine SOps.rg rfl (by first | rfl | assumption | exact decide_eq_true (by assumption) | exact decide_eq_false (by assumption) | decide | (simp; done) | (simp; omega) | (simp [*]; done)) (Run.bin rfl rfl (Bin.geq _ _)) rfl ?_
          by_cases hs31 : p ≥ n
          · skip
            refine SOps.rg rfl (by first | rfl | assumption | exact decide_eq_true (by assumption) | exact decide_eq_false (by assumption) | decide | (simp; done) | (simp; omega) | (simp [*]; done)) (Run.pickT rfl rfl (by first | rfl | assumption | exact decide_eq_true (by assumption) | exact decide_eq_false (by assumption) | decide | (simp; done) | (simp; omega) | (simp [*]; done))) rfl ?_
            refine SOps.r (Run.pickF rfl rfl (by first | rfl | assumption | exact decide_eq_true (by assumption) | exact decide_eq_false (by assumption) | decide | (simp; done) | (simp; omega) | (simp [*]; done))) rfl ?_
            refine SOps.nil ?_
            refine thenQ_n ⟨(.cons (congrArg (fun b => some (Value.bool b)) (Eq.symm (by first | exact decide_eq_true (fun h => absurd (hra.1 h).1 (by omega)) | exact decide_eq_false (fun h => h (hra.2 ⟨by omega, fun h => absurd h ‹_›⟩)) | exact decide_eq_decide.2 ⟨fun h => Classical.byContradiction fun h2 => h (hra.2 ⟨by omega, fun _ => by rw [hgp]; omega⟩), fun h h2 => absurd ((hra.1 h2).2 ‹_›) (by rw [hgp]; omega)⟩))) (.cons rfl (.cons rfl (.cons rfl (.cons rfl .nil))))), (Drawn.drew wr)⟩
          · skip
            refine SOps.rg rfl (by first | rfl | assumption | exact decide_eq_true (by assumption) | exact decide_eq_false (by assumption) | decide | (simp; done) | (simp; omega) | (simp [*]; done)) (Run.pickT rfl rfl (by first | rfl | assumption | exact decide_eq_true (by assumption) | exact decide_eq_false (by assumption) | decide | (simp; done) | (simp; omega) | (simp [*]; done))) rfl ?_
            refine SOps.r (Run.pickF rfl rfl (by first | rfl | assumption | exact decide_eq_true (by assumption) | exact decide_eq_false (by assumption) | decide | (simp; done) | (simp; omega) | (simp [*]; done))) rfl ?_
            refine SOps.nil ?_
            refine thenQ_n ⟨(.cons (congrArg (fun b => some (Value.bool b)) (Eq.symm (by first | exact decide_eq_true (fun h => absurd (hra.1 h).1 (by omega)) | exact decide_eq_false (fun h => h (hra.2 ⟨by omega, fun h => absurd h ‹_›⟩)) | exact decide_eq_decide.2 ⟨fun h => Classical.byContradiction fun h2 => h (hra.2 ⟨by omega, fun _ => by rw [hgp]; omega⟩), fun h h2 => absurd ((hra.1 h2).2 ‹_›) (by rw [hgp]; omega)⟩))) (.cons rfl (.cons rfl (.cons rfl (.cons rfl .nil))))), (Drawn.drew wr)⟩
        · skip
          refine SOps.rg rfl (by first | rfl | assumption | exact decide_eq_true (by assumption) | exact decide_eq_false (by assumption) | decide | (simp; done) | (simp; omega) | (simp [*]; done)) (Run.mv rfl) rfl ?_
          refine SOps.sk rfl (by first | rfl | assumption | exact decide_eq_true (by assumption) | exact decide_eq_false (by assumption) | decide | (simp; done) | (simp; omega) | (simp [*]; done)) rfl ?_
          refine SOps.sk rfl (by first | rfl | assumption | exact decide_eq_true (by assumption) | exact decide_eq_false (by assumption) | decide | (simp; done) | (simp; omega) | (simp [*]; done)) rfl ?_
          refine SOps.sk rfl (by first | rfl | assumption | exact decide_eq_true (by assumption) | exact decide_eq_false (by assumption) | decide | (simp; done) | (simp; omega) | (simp [*]; done)) rfl ?_
          refine SOps.sk rfl (by first | rfl | assumption | exact decide_eq_true (by assumption) | exact decide_eq_false (by assumption) | decide | (simp; done) | (simp; omega) | (simp [*]; done)) rfl ?_
          refine SOps.sk rfl (by first | rfl | assumption | exact decide_eq_true (by assumption) | exact decide_eq_false (by assumption) | decide | (simp; done) | (simp; omega) | (simp [*]; done)) rfl ?_
          refine SOps.sk rfl (by first | rfl | assumption | exact decide_eq_true (by assumption) | exact decide_eq_false (by assumption) | decide | (simp; done) | (simp; omega) | (simp [*]; done)) rfl ?_
          refine SOps.sk rfl (by first | rfl | assumption | exact decide_eq_true (by assumption) | exact decide_eq_false (by assumption) | decide | (simp; done) | (simp; omega) | (simp [*]; done)) rfl ?_
          refine SOps.sk rfl (by first | rfl | assumption | exact decide_eq_true (by assumption) | exact decide_eq_false (by assumption) | decide | (simp; done) | (simp; omega) | (simp [*]; done)) rfl ?_
          refine SOps.sk rfl (by first | rfl | assumption | exact decide_eq_true (by assumption) | exact decide_eq_false (by assumption) | decide | (simp; done) | (simp; omega) | (simp [*]; done)) rfl ?_
          refine SOps.sk rfl (by first | rfl | assumption | exact decide_eq_true (by assumption) | exact decide_eq_false (by assumption) | decide | (simp; done) | (simp; omega) | (simp [*]; done)) rfl ?_
          refine SOps.rg rfl (by first | rfl | assumption | exact decide_eq_true (by assumption) | exact decide_eq_false (by assumption) | decide | (simp; done) | (simp; omega) | (simp [*]; done)) (Run.pickF rfl rfl (by first | rfl | assumption | exact decide_eq_true (by assumption) | exact decide_eq_false (by assumption) | decide | (simp; done) | (simp; omega) | (simp [*]; done))) rfl ?_
          refine SOps.r (Run.pickF rfl rfl (by first | rfl | assumption | exact decide_eq_true (by assumption) | exact decide_eq_false (by assumption) | decide | (simp; done) | (simp; omega) | (simp [*]; done))) rfl ?_
          refine SOps.nil ?_
          refine thenQ_n ⟨(.cons (congrArg (fun b => some (Value.bool b)) (Eq.symm (by first | exact decide_eq_true (fun h => absurd (hra.1 h).1 (by omega)) | exact decide_eq_false (fun h => h (hra.2 ⟨by omega, fun h => absurd h ‹_›⟩)) | exact decide_eq_decide.2 ⟨fun h => Classical.byContradiction fun h2 => h (hra.2 ⟨by omega, fun _ => by rw [hgp]; omega⟩), fun h h2 => absurd ((hra.1 h2).2 ‹_›) (by rw [hgp]; omega)⟩))) (.cons rfl (.cons rfl (.cons rfl (.cons rfl .nil))))), (Drawn.drew wr)⟩
    · intro Γ wR hΓ hR
      refine thenQ_n (VC.sub _ hΓ ?_)
      refine VC.condD rfl (fun hc2 => ?_) (fun hc2 => ?_)
      · skip
        refine VC.seq ?_
        refine VC.region ?_
        refine Ops.r (Run.asg rfl) rfl ?_
        refine Ops.nil ?_
        refine thenQ_n ?_
        refine VC.sub [(4, _)] (.cons rfl .nil) ?_
        refine VC.ret ?_
        refine thenQ_r (blockQ_r (thenQ_r (thenQ_r (blockQ_r (thenQ_r (end1 rfl ?_))))))
        rw [hbad hc2]
        exact ⟨hfr.drawn hR, none, 0, rfl, Own.nil _ _ _, by simp [ob]⟩
      · skip
        have hfr := hfr.drawn hR
        have hown := hown.frm hR.frm (by simp)
        have hrise := Classical.not_not.1 hc2
        have hng1 : ∀ j, j < i + 1 → RiseAt us j := fun j hj => by
          rcases Nat.lt_or_ge j i with h | h
          · exact hng j h
          · rw [show j = i by omega]; exact hrise
        refine VC.skip ?_
        refine thenQ_n ?_
        refine VC.sub [(0, _), (1, _), (5, _), (6, _)] (.cons rfl (.cons rfl (.cons rfl (.cons rfl .nil)))) ?_
        refine VC.seq ?_
        refine VC.held (fun W => Frm [] w W) (by kernel_rfl) ?_
        have hS : Frm [] w wR.drew := hfr.drew
        have hfr := hfr.drew
        have hown := hown.frm (Drawn.drew wR).frm (by simp)
        refine HOps.take 0 rfl (by kernel_rfl) (by kernel_rfl) (by kernel_rfl) hS (fun w0 hw0 => Run.mv rfl) trivial rfl rfl ?_
        refine HOps.take 1 rfl (by kernel_rfl) (by kernel_rfl) (by kernel_rfl) hS (fun w0 hw0 => Run.mv rfl) trivial rfl rfl ?_
        refine HOps.take 2 rfl (by kernel_rfl) (by kernel_rfl) (by kernel_rfl) hS (fun w0 hw0 => Run.mv rfl) trivial rfl rfl ?_
        refine HOps.take 3 rfl (by kernel_rfl) (by kernel_rfl) (by kernel_rfl) hS (fun w0 hw0 => Run.index1 i rfl rfl Tryd.underlying38 Tryd.sizeOf3 hc1) trivial rfl rfl ?_
        refine HOps.take 4 rfl (by kernel_rfl) (by kernel_rfl) (by kernel_rfl) hS (fun w0 hw0 => Run.load rfl Tryd.isAgg3 (hcell1 _ hw0)) trivial rfl rfl ?_
        refine HOps.take 5 rfl (by kernel_rfl) (by kernel_rfl) (by kernel_rfl) hS (fun w0 hw0 => Run.mv rfl) trivial rfl rfl ?_
        refine HOps.take 6 rfl (by kernel_rfl) (by kernel_rfl) (by kernel_rfl) hS (fun w0 hw0 => Run.mv rfl) trivial rfl rfl ?_
        refine HOps.take 7 rfl (by kernel_rfl) (by kernel_rfl) (by kernel_rfl) hS (fun w0 hw0 => Run.lenS rfl Tryd.underlying38) trivial rfl rfl ?_
        refine HOps.take 8 rfl (by kernel_rfl) (by kernel_rfl) (by kernel_rfl) hS (fun w0 hw0 => Run.bin rfl rfl (Bin.subN us.length 1 (by omega) (by simp [bmax]; omega))) trivial rfl rfl ?_
        refine HOps.take 9 rfl (by kernel_rfl) (by kernel_rfl) (by kernel_rfl) hS (fun w0 hw0 => Run.index1 (us.length - 1) rfl rfl Tryd.underlying38 Tryd.sizeOf3 hll) trivial rfl rfl ?_
        refine HOps.take 10 rfl (by kernel_rfl) (by kernel_rfl) (by kernel_rfl) hS (fun w0 hw0 => Run.load rfl Tryd.isAgg3 (hcell2 _ hw0)) trivial rfl rfl ?_
        refine HOps.cl 11 rfl (by kernel_rfl) (Enters.fn (evs.cons rfl (evs.cons rfl (evs.cons rfl evs.nil))) Tryd.call47) (rhas_spec A c l n g _ (hl.frm hfr (by simp)) (by omega)) trivial rfl rfl ?_
        rintro e w1 ⟨rfl, hf1⟩
        have hfr1 := hfr.trans hf1 (by simp)
        have hown1 := hown.frm hf1 (by simp)
        rw [← hlq]
        refine ⟨_, rfl, hfr1, ?_⟩
        refine HOps.done (by kernel_rfl) ?_
        refine thenQ_n ?_
        refine VC.sub [(0, _), (1, _), (5, _), (6, _), (45, _)] (.cons rfl (.cons rfl (.cons rfl (.cons rfl (.cons rfl .nil))))) ?_
        refine VC.meet (σ := Option Addr × Nat) (fun s => [(0, .slice A l.length c), (1, .slice (some ad) us.length d), (5, .slice s.1 ((us.take (i + 1)).filter fun n => decide (hasQ l n (lastQ us))).length s.2), (6, .int .i64 ((i : Nat) : Int))]) (fun s wr => Own wr 3 1 s.1 ((us.take (i + 1)).filter fun n => decide (hasQ l n (lastQ us))).length s.2 (IB ((us.take (i + 1)).filter fun n => decide (hasQ l n (lastQ us)))) ∧ (∀ x ∈ ob s.1, w.heap.size ≤ x) ∧ Frm [] w wr) ?_ ?_
        · skip
          refine VC.condB rfl (fun hc3 => ?_) (fun hc3 => ?_)
          · skip
            rw [if_pos hc3] at hsn
            have hsl : ((us.take (i + 1)).filter fun n => decide (hasQ l n (lastQ us))).length = ((us.take i).filter fun n => decide (hasQ l n (lastQ us))).length + 1 := by rw [hsn]; simp
            have hfl : ((us.take i).filter fun n => decide (hasQ l n (lastQ us))).length ≤ us.length := Nat.le_trans (List.length_filter_le _ _) (by simp; omega)
            refine VC.region ?_
            refine Ops.r (Run.mv rfl) rfl ?_
            refine Ops.r (Run.mv rfl) rfl ?_
            refine Ops.r (Run.mv rfl) rfl ?_
            refine Ops.r (Run.index1 i rfl rfl Tryd.underlying38 Tryd.sizeOf3 hc1) rfl ?_
            refine Ops.r (Run.load rfl Tryd.isAgg3 (hcell1 _ hfr1)) rfl ?_
            refine Ops.m (Does.buildS1 rfl Tryd.underlying38 Tryd.sizeOf3 zero3 (by decide) (by decide) rfl rfl) rfl ?_
            rintro _ w3 ⟨rfl, hF3⟩
            have hfr3 := hfr1.trans hF3.frm (by simp)
            refine Ops.m (Does.app rfl rfl Tryd.underlying38 (info3) rfl (by decide) (hown1.frm hF3.frm (by simp)) (hrdI hF3) (IB_one _) (by omega) (by omega)) rfl ?_
            rintro _ w4 ⟨A4, c4, rfl, hown4, hfr4, hob4⟩
            rw [← IB_append, ← hsn, ← hsl] at hown4
            have hge4 := up_app hge hob4 hfr3.size
            have hfr4' := hfr3.own hfr4 hge
            refine Ops.r (Run.asg rfl) rfl ?_
            refine Ops.nil ?_
            refine thenQ_n ⟨(A4, c4), (.cons rfl (.cons rfl (.cons (by rw [hsl]; rfl) (.cons rfl .nil)))), ?_⟩
            rw [hsn] at hown4
            exact ⟨by rw [hsn]; exact hown4, hge4, hfr4'⟩
          · skip
            rw [if_neg (by rw [hc3]; exact Bool.false_ne_true), List.append_nil] at hsn
            refine VC.skip ?_
            refine thenQ_n ⟨(C, q), (.cons rfl (.cons rfl (.cons (by rw [hsn]; rfl) (.cons rfl .nil)))), ?_⟩
            exact ⟨by rw [hsn]; exact hown1, hge, hfr1⟩
        · skip
          rintro ⟨C2, q2⟩ wr2 ⟨hown2, hge2, hfr2⟩ Γ hΓ
          dsimp only at hown2 hge2
          refine blockQ_n (thenQ_n (VC.sub _ hΓ ?_))
          refine VC.region ?_
          refine Ops.r (Run.mv rfl) rfl ?_
          refine Ops.r (Run.bin rfl rfl (Bin.add_i64 _ 1 (by omega))) rfl ?_
          refine Ops.r (Run.asg rfl) rfl ?_
          refine Ops.nil ?_
          refine thenQ_n ⟨(i + 1, C2, q2), (.cons rfl (.cons rfl (.cons rfl (.cons rfl .nil)))), ?_, ?_⟩
          · skip
            exact ⟨hc1, hown2, hge2, hfr2, hng1⟩
          · skip
            first | omega | (dsimp only; omega)
  · skip
    refine VC.exit ?_
    refine thenQ_x (thenQ_x (blockQ_x ?_))
    refine thenQ_n ?_
    refine VC.sub [(5, _)] (.cons rfl .nil) ?_
    refine VC.seq ?_
    refine VC.region ?_
    refine Ops.r (Run.mv rfl) rfl ?_
    refine Ops.r (Run.asg rfl) rfl ?_
    refine Ops.nil ?_
    refine thenQ_n ?_
    refine VC.sub [(4, _)] (.cons rfl .nil) ?_
    refine VC.ret ?_
    refine end1 rfl ?_
    have him : i = us.length := by omega
    subst him
    rw [List.take_length] at *
    rw [ofQ_good hng]
    exact ⟨hfr, C, q, rfl, hown, hge⟩

set_option maxRecDepth 100000 in
theorem same25_spec (A B : Option Addr) (c d : Nat) (a b : List Int) (w : World) (ha : Rd w 1 A a.length (IB a)) (hb : Rd w 1 B b.length (IB b)) (hla : a.length ≤ 1000000) (hlb : b.length ≤ 1000000) :
    Calls Tryd.prog 22 #[.slice A a.length c, .slice B b.length d] w fun e w' => e = .returned (.bool (decide (a = b))) ∧ Frm [] w w' := by
  refine VC.calls (nt := 26) (res := #[.tmp 4]) Tryd.func22 rfl Tryd.ntmps22 Tryd.results22 rfl ?_
  refine VC.seq ?_
  refine VC.region ?_
  refine Ops.r (Run.asg rfl) rfl ?_
  refine Ops.nil ?_
  refine thenQ_n ?_
  refine VC.sub [(0, _), (1, _)] (.cons rfl (.cons rfl .nil)) ?_
  refine VC.seq ?_
  refine VC.seq ?_
  refine VC.region ?_
  refine Ops.r (Run.mv rfl) rfl ?_
  refine Ops.r (Run.lenS rfl Tryd.underlying38) rfl ?_
  refine Ops.r (Run.mv rfl) rfl ?_
  refine Ops.r (Run.lenS rfl Tryd.underlying38) rfl ?_
  refine Ops.r (Run.bin rfl rfl (Bin.neqN _ _)) rfl ?_
  refine Ops.nil ?_
  refine thenQ_n ?_
  refine VC.sub [(0, _), (1, _), (10, _)] (.cons rfl (.cons rfl (.cons rfl .nil))) ?_
  refine VC.condD rfl (fun hc1 => ?_) (fun hc1 => ?_)
  · skip
    refine VC.seq ?_
    refine VC.region ?_
    refine Ops.r (Run.asg rfl) rfl ?_
    refine Ops.nil ?_
    refine thenQ_n ?_
    refine VC.sub [(4, _)] (.cons rfl .nil) ?_
    refine VC.ret ?_
    refine thenQ_r (end1 rfl ?_)
    exact ⟨by rw [decide_eq_false (fun h => hc1 (congrArg List.length h))], Frm.refl _ _⟩
  · skip
    have hab : a.length = b.length := by omega
    refine VC.skip ?_
    refine thenQ_n ?_
    refine VC.sub [(0, _), (1, _)] (.cons rfl (.cons rfl .nil)) ?_
    refine VC.seq ?_
    refine VC.seq ?_
    refine VC.region ?_
    refine Ops.r (v := .int .i64 ((0 : Nat) : Int)) (Run.asg rfl) rfl ?_
    refine Ops.nil ?_
    refine thenQ_n ?_
    refine VC.block ?_
    refine VC.loop (σ := Nat) (fun s => [(0, .slice A a.length c), (1, .slice B b.length d), (5, .int .i64 ((s : Nat) : Int))]) (fun s wr => s ≤ a.length ∧ Frm [] w wr ∧ ∀ j (h1 : j < a.length) (h2 : j < b.length), j < s → a[j] = b[j]) (fun s => a.length - s) 0 (.cons rfl (.cons rfl (.cons rfl .nil))) ⟨by omega, Frm.refl _ _, fun j _ _ h => absurd h (by omega)⟩ ?_
    rintro i wr ⟨hi, hfr, hsm⟩
    refine VC.seq ?_
    refine VC.seq ?_
    refine VC.region ?_
    refine Ops.r (Run.mv rfl) rfl ?_
    refine Ops.r (Run.mv rfl) rfl ?_
    refine Ops.r (Run.lenS rfl Tryd.underlying38) rfl ?_
    refine Ops.r (Run.bin rfl rfl (Bin.lssN _ _)) rfl ?_
    refine Ops.nil ?_
    refine thenQ_n ?_
    refine VC.sub [(0, _), (1, _), (5, _), (14, _)] (.cons rfl (.cons rfl (.cons rfl (.cons rfl .nil)))) ?_
    refine VC.condD rfl (fun hc2 => ?_) (fun hc2 => ?_)
    · skip
      have hc2b : i < b.length := by omega
      obtain ⟨ad, rfl, hcella⟩ := IB_at (ha.frm hfr (by simp)) hc2
      obtain ⟨bd, rfl, hcellb⟩ := IB_at (hb.frm hfr (by simp)) hc2b
      refine VC.skip ?_
      refine thenQ_n ?_
      refine VC.sub [(0, _), (1, _), (5, _)] (.cons rfl (.cons rfl (.cons rfl .nil))) ?_
      refine VC.seq ?_
      refine VC.block ?_
      refine VC.seq ?_
      refine VC.still (by kernel_rfl) (by kernel_rfl) ?_
      refine SOps.r (Run.mv rfl) rfl ?_
      refine SOps.r (Run.mv rfl) rfl ?_
      refine SOps.r (Run.index1 i rfl rfl Tryd.underlying38 Tryd.sizeOf3 hc2) rfl ?_
      refine SOps.r (Run.load rfl Tryd.isAgg3 hcella) rfl ?_
      refine SOps.r (Run.mv rfl) rfl ?_
      refine SOps.r (Run.mv rfl) rfl ?_
      refine SOps.r (Run.index1 i rfl rfl Tryd.underlying38 Tryd.sizeOf3 hc2b) rfl ?_
      refine SOps.r (Run.load rfl Tryd.isAgg3 hcellb) rfl ?_
      refine SOps.r (Run.bin rfl rfl (Bin.neq _ _)) rfl ?_
      refine SOps.nil ?_
      refine thenQ_n ?_
      refine VC.sub [(0, _), (1, _), (5, _), (25, _)] (.cons rfl (.cons rfl (.cons rfl (.cons rfl .nil)))) ?_
      refine VC.condD rfl (fun hc3 => ?_) (fun hc3 => ?_)
      · skip
        refine VC.seq ?_
        refine VC.region ?_
        refine Ops.r (Run.asg rfl) rfl ?_
        refine Ops.nil ?_
        refine thenQ_n ?_
        refine VC.sub [(4, _)] (.cons rfl .nil) ?_
        refine VC.ret ?_
        refine blockQ_r (thenQ_r (thenQ_r (blockQ_r (thenQ_r (end1 rfl ?_)))))
        exact ⟨by rw [decide_eq_false (fun h => hc3 (by subst h; rfl))], hfr.drew⟩
      · skip
        refine VC.skip ?_
        refine blockQ_n (thenQ_n ?_)
        refine VC.sub [(0, _), (1, _), (5, _)] (.cons rfl (.cons rfl (.cons rfl .nil))) ?_
        refine VC.region ?_
        refine Ops.r (Run.mv rfl) rfl ?_
        refine Ops.r (Run.bin rfl rfl (Bin.add_i64 _ 1 (by omega))) rfl ?_
        refine Ops.r (Run.asg rfl) rfl ?_
        refine Ops.nil ?_
        refine thenQ_n ⟨(i + 1), (.cons rfl (.cons rfl (.cons rfl .nil))), ?_, ?_⟩
        · skip
          refine ⟨hc2, hfr.drew, fun j h1 h2 h3 => ?_⟩
          rcases Nat.lt_or_ge j i with h | h
          · exact hsm j h1 h2 h
          · have : j = i := by omega
            subst this
            exact Classical.not_not.1 hc3
        · skip
          first | omega | (dsimp only; omega)
    · skip
      refine VC.exit ?_
      refine thenQ_x (thenQ_x (blockQ_x ?_))
      refine thenQ_n ?_
      refine VC.sub [] .nil ?_
      refine VC.seq ?_
      refine VC.region ?_
      refine Ops.r (Run.asg rfl) rfl ?_
      refine Ops.nil ?_
      refine thenQ_n ?_
      refine VC.ret ?_
      refine end1 rfl ?_
      exact ⟨by rw [decide_eq_true (List.ext_getElem hab fun j h1 h2 => hsm j h1 h2 (by omega))], hfr⟩

end Go.Proofs.YtnllhddbgkeboaaDoor
