/-
  May a section be told?
-/
import Derived.Test.YtenbjndldenkfaaGreatDoorSecV
namespace Go.Proofs.YtenbjndldenkfaaGreatDoor
open Go.RowKit Go.Sort

theorem not_may1 {v : Wnt} (h : 8 < v.path.length ∨ ∃ n ∈ v.path, BadN n) : ¬ MayW v := fun k => k.1 h
theorem not_may2 {v : Wnt} (h : (16 < v.names.length ∨ ¬ (NamedW v.what ↔ 0 < v.names.length)) ∨ ∃ s ∈ v.names, ¬ TokQ s) : ¬ MayW v := fun k => k.2.1 h
theorem kind_last {v : Wnt} (h3 : ¬ v.what = []) (h4 : ¬ v.what = hdrT) (h5 : ¬ v.what = txtT) (h6 : ¬ v.what = fldT) (h7 : ¬ v.what = othT) (h : KindW v) : v.what = mimT ∧ 0 < v.path.length := by
  rcases h with h | h | h | h | h | h
  · exact absurd h h3
  · exact absurd h h4
  · exact absurd h h5
  · exact absurd h h6
  · exact absurd h h7
  · exact h
theorem bne_dec (p q : Prop) [Decidable p] [Decidable q] : (decide p != decide q) = decide (¬ (p ↔ q)) := by
  by_cases hp : p <;> by_cases hq : q <;> simp [hp, hq]
theorem WtC_one (v : Wnt) (A : Option Addr) (c : Nat) (B : Option Addr) (d : Nat) : ∀ u ∈ (WtC v A c B d).toList, u.oneCell' = true := by
  intro u hu
  simp only [WtC, List.mem_cons, List.not_mem_nil, or_false] at hu
  rcases hu with rfl | rfl | rfl <;> rfl

set_option maxRecDepth 100000 in
theorem may_spec (v : Wnt) (A B : Option Addr) (c d : Nat) (w : World) (hp : Rd w 1 A v.path.length (PI v.path)) (hpl : v.path.length ≤ 1000000) (hn : Rd w 1 B v.names.length (SB v.names)) (hnl : v.names.length ≤ 1000000) (hns : ∀ s ∈ v.names, s.length ≤ 1000000) :
    Calls Tryz.prog 42 #[.agg (WtC v A c B d)] w fun e w' => e = .returned (.bool (decide (MayW v))) ∧ Frm [] w w' := by
  refine VC.calls (nt := 52) (res := #[.tmp 2]) Tryz.func42 rfl Tryz.ntmps42 Tryz.results42 rfl ?_
  refine VC.seq ?_
  refine VC.region ?_
  refine Ops.m (Does.box rfl) rfl ?_
  rintro _ w1 ⟨rfl, hF1⟩
  have hb1 : Blk w1 w.heap.size 38 (WtC v A c B d) := hF1.blk
  have K := hF1.frm
  have hp := hp.frm K (by simp)
  have hn := hn.frm K (by simp)
  generalize w.heap.size = g1 at hb1 ⊢
  refine Ops.r (Run.asg rfl) rfl ?_
  refine Ops.nil ?_
  refine thenQ_n ?_
  refine VC.sub [(1, _)] (.cons rfl .nil) ?_
  refine VC.seq ?_
  refine VC.split1 [(1, _)] (.cons rfl .nil) 3 (.bool (decide (NamedW v.what))) ?_ ?_
  · refine VC.region ?_
    refine Ops.r (Run.fieldAddr rfl Tryz.underlying38 rfl Tryz.sizeOf9 (by decide)) rfl ?_
    refine Ops.r (Run.load rfl Tryz.isAgg9 (hb1.cell 1)) rfl ?_
    refine Ops.r (Run.eqlT rfl rfl) rfl ?_
    by_cases hs6 : v.what = fldT
    · skip
      refine Ops.r (Run.mv rfl) rfl ?_
      refine Ops.sk rfl (by first | rfl | assumption | exact decide_eq_true (by assumption) | exact decide_eq_false (by assumption) | decide | (simp; done) | (simp; omega) | (simp [*]; done)) rfl ?_
      refine Ops.sk rfl (by first | rfl | assumption | exact decide_eq_true (by assumption) | exact decide_eq_false (by assumption) | decide | (simp; done) | (simp; omega) | (simp [*]; done)) rfl ?_
      refine Ops.sk rfl (by first | rfl | assumption | exact decide_eq_true (by assumption) | exact decide_eq_false (by assumption) | decide | (simp; done) | (simp; omega) | (simp [*]; done)) rfl ?_
      refine Ops.r (Run.pickT rfl rfl (by first | rfl | assumption | exact decide_eq_true (by assumption) | exact decide_eq_false (by assumption) | decide | (simp; done) | (simp; omega) | (simp [*]; done))) rfl ?_
      refine Ops.r (Run.asg rfl) rfl ?_
      refine Ops.nil ?_
      refine thenQ_n ⟨(.cons (congrArg (fun b => some (Value.bool b)) (by first | exact (decide_eq_true (show NamedW v.what from .inl hs6)).symm | exact (decide_eq_true hs6).trans (decide_eq_true (show NamedW v.what from .inl hs6)).symm | exact (decide_eq_true hs10).trans (decide_eq_true (show NamedW v.what from .inr hs10)).symm | exact (decide_eq_false hs10).trans (decide_eq_false (show ¬ (NamedW v.what) from fun h => h.elim hs6 hs10)).symm)) (.cons rfl .nil)), rfl⟩
    · skip
      refine Ops.r (Run.mv rfl) rfl ?_
      refine Ops.rg rfl (by first | rfl | assumption | exact decide_eq_true (by assumption) | exact decide_eq_false (by assumption) | decide | (simp; done) | (simp; omega) | (simp [*]; done)) (Run.fieldAddr rfl Tryz.underlying38 rfl Tryz.sizeOf9 (by decide)) rfl ?_
      refine Ops.rg rfl (by first | rfl | assumption | exact decide_eq_true (by assumption) | exact decide_eq_false (by assumption) | decide | (simp; done) | (simp; omega) | (simp [*]; done)) (Run.load rfl Tryz.isAgg9 (hb1.cell 1)) rfl ?_
      refine Ops.rg rfl (by first | rfl | assumption | exact decide_eq_true (by assumption) | exact decide_eq_false (by assumption) | decide | (simp; done) | (simp; omega) | (simp [*]; done)) (Run.eqlT rfl rfl) rfl ?_
      by_cases hs10 : v.what = othT
      · skip
        refine Ops.r (Run.pickF rfl rfl (by first | rfl | assumption | exact decide_eq_true (by assumption) | exact decide_eq_false (by assumption) | decide | (simp; done) | (simp; omega) | (simp [*]; done))) rfl ?_
        refine Ops.r (Run.asg rfl) rfl ?_
        refine Ops.nil ?_
        refine thenQ_n ⟨(.cons (congrArg (fun b => some (Value.bool b)) (by first | exact (decide_eq_true (show NamedW v.what from .inl hs6)).symm | exact (decide_eq_true hs6).trans (decide_eq_true (show NamedW v.what from .inl hs6)).symm | exact (decide_eq_true hs10).trans (decide_eq_true (show NamedW v.what from .inr hs10)).symm | exact (decide_eq_false hs10).trans (decide_eq_false (show ¬ (NamedW v.what) from fun h => h.elim hs6 hs10)).symm)) (.cons rfl .nil)), rfl⟩
      · skip
        refine Ops.r (Run.pickF rfl rfl (by first | rfl | assumption | exact decide_eq_true (by assumption) | exact decide_eq_false (by assumption) | decide | (simp; done) | (simp; omega) | (simp [*]; done))) rfl ?_
        refine Ops.r (Run.asg rfl) rfl ?_
        refine Ops.nil ?_
        refine thenQ_n ⟨(.cons (congrArg (fun b => some (Value.bool b)) (by first | exact (decide_eq_true (show NamedW v.what from .inl hs6)).symm | exact (decide_eq_true hs6).trans (decide_eq_true (show NamedW v.what from .inl hs6)).symm | exact (decide_eq_true hs10).trans (decide_eq_true (show NamedW v.what from .inr hs10)).symm | exact (decide_eq_false hs10).trans (decide_eq_false (show ¬ (NamedW v.what) from fun h => h.elim hs6 hs10)).symm)) (.cons rfl .nil)), rfl⟩
  · intro Γ hΓ
    refine thenQ_n (VC.sub _ hΓ ?_)
    refine VC.seq ?_
    refine VC.seq ?_
    refine VC.split1 [(1, _), (3, _)] (.cons rfl (.cons rfl .nil)) 20 (.bool (decide (8 < v.path.length ∨ ∃ n ∈ v.path, BadN n))) ?_ ?_
    · refine VC.region ?_
      refine Ops.r (Run.fieldAddr rfl Tryz.underlying38 rfl Tryz.sizeOf33 (by decide)) rfl ?_
      refine Ops.r (Run.load rfl Tryz.isAgg33 (hb1.cell 0)) rfl ?_
      refine Ops.r (Run.lenS rfl Tryz.underlying33) rfl ?_
      refine Ops.r (Run.bin rfl rfl (Bin.gtrN _ 8)) rfl ?_
      by_cases hs15 : 8 < v.path.length
      · skip
        refine Ops.r (Run.mv rfl) rfl ?_
        refine Ops.sk rfl (by first | rfl | assumption | exact decide_eq_true (by assumption) | exact decide_eq_false (by assumption) | decide | (simp; done) | (simp; omega) | (simp [*]; done)) rfl ?_
        refine Ops.sk rfl (by first | rfl | assumption | exact decide_eq_true (by assumption) | exact decide_eq_false (by assumption) | decide | (simp; done) | (simp; omega) | (simp [*]; done)) rfl ?_
        refine Ops.sk rfl (by first | rfl | assumption | exact decide_eq_true (by assumption) | exact decide_eq_false (by assumption) | decide | (simp; done) | (simp; omega) | (simp [*]; done)) rfl ?_
        refine Ops.r (Run.pickT rfl rfl (by first | rfl | assumption | exact decide_eq_true (by assumption) | exact decide_eq_false (by assumption) | decide | (simp; done) | (simp; omega) | (simp [*]; done))) rfl ?_
        refine Ops.nil ?_
        refine thenQ_n ⟨(.cons (congrArg (fun b => some (Value.bool b)) (by first | exact (decide_eq_true (show 8 < v.path.length ∨ ∃ n ∈ v.path, BadN n from .inl hs15)).symm | exact (decide_eq_true hs15).trans (decide_eq_true (show 8 < v.path.length ∨ ∃ n ∈ v.path, BadN n from .inl hs15)).symm | exact (decide_eq_true hs19).trans (decide_eq_true (show 8 < v.path.length ∨ ∃ n ∈ v.path, BadN n from .inr hs19)).symm | exact (decide_eq_false hs19).trans (decide_eq_false (show ¬ (8 < v.path.length ∨ ∃ n ∈ v.path, BadN n) from fun h => h.elim hs15 hs19)).symm)) (.cons rfl (.cons rfl .nil))), rfl⟩
      · skip
        refine Ops.r (Run.mv rfl) rfl ?_
        refine Ops.rg rfl (by first | rfl | assumption | exact decide_eq_true (by assumption) | exact decide_eq_false (by assumption) | decide | (simp; done) | (simp; omega) | (simp [*]; done)) (Run.fieldAddr rfl Tryz.underlying38 rfl Tryz.sizeOf33 (by decide)) rfl ?_
        refine Ops.rg rfl (by first | rfl | assumption | exact decide_eq_true (by assumption) | exact decide_eq_false (by assumption) | decide | (simp; done) | (simp; omega) | (simp [*]; done)) (Run.load rfl Tryz.isAgg33 (hb1.cell 0)) rfl ?_
        refine Ops.clg rfl (by first | rfl | assumption | exact decide_eq_true (by assumption) | exact decide_eq_false (by assumption) | decide | (simp; done) | (simp; omega) | (simp [*]; done)) (Enters.fn (evs.cons rfl (evs.cons rfl evs.nil)) Tryz.call72) ((idxI_has A c v.path _ hp hpl)) rfl ?_
        rintro e _ ⟨rfl, rfl⟩
        refine ⟨_, rfl, ?_⟩
        by_cases hs19 : ∃ n ∈ v.path, BadN n
        · skip
          refine Ops.r (Run.pickF rfl rfl (by first | rfl | assumption | exact decide_eq_true (by assumption) | exact decide_eq_false (by assumption) | decide | (simp; done) | (simp; omega) | (simp [*]; done))) rfl ?_
          refine Ops.nil ?_
          refine thenQ_n ⟨(.cons (congrArg (fun b => some (Value.bool b)) (by first | exact (decide_eq_true (show 8 < v.path.length ∨ ∃ n ∈ v.path, BadN n from .inl hs15)).symm | exact (decide_eq_true hs15).trans (decide_eq_true (show 8 < v.path.length ∨ ∃ n ∈ v.path, BadN n from .inl hs15)).symm | exact (decide_eq_true hs19).trans (decide_eq_true (show 8 < v.path.length ∨ ∃ n ∈ v.path, BadN n from .inr hs19)).symm | exact (decide_eq_false hs19).trans (decide_eq_false (show ¬ (8 < v.path.length ∨ ∃ n ∈ v.path, BadN n) from fun h => h.elim hs15 hs19)).symm)) (.cons rfl (.cons rfl .nil))), rfl⟩
        · skip
          refine Ops.r (Run.pickF rfl rfl (by first | rfl | assumption | exact decide_eq_true (by assumption) | exact decide_eq_false (by assumption) | decide | (simp; done) | (simp; omega) | (simp [*]; done))) rfl ?_
          refine Ops.nil ?_
          refine thenQ_n ⟨(.cons (congrArg (fun b => some (Value.bool b)) (by first | exact (decide_eq_true (show 8 < v.path.length ∨ ∃ n ∈ v.path, BadN n from .inl hs15)).symm | exact (decide_eq_true hs15).trans (decide_eq_true (show 8 < v.path.length ∨ ∃ n ∈ v.path, BadN n from .inl hs15)).symm | exact (decide_eq_true hs19).trans (decide_eq_true (show 8 < v.path.length ∨ ∃ n ∈ v.path, BadN n from .inr hs19)).symm | exact (decide_eq_false hs19).trans (decide_eq_false (show ¬ (8 < v.path.length ∨ ∃ n ∈ v.path, BadN n) from fun h => h.elim hs15 hs19)).symm)) (.cons rfl (.cons rfl .nil))), rfl⟩
    · intro Γ hΓ
      refine thenQ_n (VC.sub _ hΓ ?_)
      refine VC.condD rfl (fun hc1 => ?_) (fun hc1 => ?_)
      · skip
        refine VC.seq ?_
        refine VC.region ?_
        refine Ops.r (Run.asg rfl) rfl ?_
        refine Ops.nil ?_
        refine thenQ_n ?_
        refine VC.sub [(2, _)] (.cons rfl .nil) ?_
        refine VC.ret ?_
        refine thenQ_r (end1 rfl ?_)
        exact ⟨by rw [decide_eq_false (not_may1 hc1)], K⟩
      · skip
        refine VC.skip ?_
        refine thenQ_n ?_
        refine VC.sub [(1, _), (3, _)] (.cons rfl (.cons rfl .nil)) ?_
        refine VC.seq ?_
        refine VC.seq ?_
        refine VC.split1 [(1, _)] (.cons rfl .nil) 37 (.bool (decide ((16 < v.names.length ∨ ¬ (NamedW v.what ↔ 0 < v.names.length)) ∨ ∃ s ∈ v.names, ¬ TokQ s))) ?_ ?_
        · refine VC.region ?_
          refine Ops.r (Run.fieldAddr rfl Tryz.underlying38 rfl Tryz.sizeOf36 (by decide)) rfl ?_
          refine Ops.r (Run.load rfl Tryz.isAgg36 (hb1.cell 2)) rfl ?_
          refine Ops.r (Run.lenS rfl Tryz.underlying36) rfl ?_
          refine Ops.r (Run.bin rfl rfl (Bin.gtrN _ 16)) rfl ?_
          by_cases hs24 : 16 < v.names.length
          · skip
            refine Ops.r (Run.mv rfl) rfl ?_
            refine Ops.sk rfl (by first | rfl | assumption | exact decide_eq_true (by assumption) | exact decide_eq_false (by assumption) | decide | (simp; done) | (simp; omega) | (simp [*]; done)) rfl ?_
            refine Ops.sk rfl (by first | rfl | assumption | exact decide_eq_true (by assumption) | exact decide_eq_false (by assumption) | decide | (simp; done) | (simp; omega) | (simp [*]; done)) rfl ?_
            refine Ops.sk rfl (by first | rfl | assumption | exact decide_eq_true (by assumption) | exact decide_eq_false (by assumption) | decide | (simp; done) | (simp; omega) | (simp [*]; done)) rfl ?_
            refine Ops.sk rfl (by first | rfl | assumption | exact decide_eq_true (by assumption) | exact decide_eq_false (by assumption) | decide | (simp; done) | (simp; omega) | (simp [*]; done)) rfl ?_
            refine Ops.sk rfl (by first | rfl | assumption | exact decide_eq_true (by assumption) | exact decide_eq_false (by assumption) | decide | (simp; done) | (simp; omega) | (simp [*]; done)) rfl ?_
            refine Ops.sk rfl (by first | rfl | assumption | exact decide_eq_true (by assumption) | exact decide_eq_false (by assumption) | decide | (simp; done) | (simp; omega) | (simp [*]; done)) rfl ?_
            refine Ops.r (Run.pickT rfl rfl (by first | rfl | assumption | exact decide_eq_true (by assumption) | exact decide_eq_false (by assumption) | decide | (simp; done) | (simp; omega) | (simp [*]; done))) rfl ?_
            refine Ops.r (Run.mv rfl) rfl ?_
            refine Ops.sk rfl (by first | rfl | assumption | exact decide_eq_true (by assumption) | exact decide_eq_false (by assumption) | decide | (simp; done) | (simp; omega) | (simp [*]; done)) rfl ?_
            refine Ops.sk rfl (by first | rfl | assumption | exact decide_eq_true (by assumption) | exact decide_eq_false (by assumption) | decide | (simp; done) | (simp; omega) | (simp [*]; done)) rfl ?_
            refine Ops.sk rfl (by first | rfl | assumption | exact decide_eq_true (by assumption) | exact decide_eq_false (by assumption) | decide | (simp; done) | (simp; omega) | (simp [*]; done)) rfl ?_
            refine Ops.r (Run.pickT rfl rfl (by first | rfl | assumption | exact decide_eq_true (by assumption) | exact decide_eq_false (by assumption) | decide | (simp; done) | (simp; omega) | (simp [*]; done))) rfl ?_
            refine Ops.nil ?_
            refine thenQ_n ⟨(.cons (congrArg (fun b => some (Value.bool b)) (by first | exact (decide_eq_true (show (16 < v.names.length ∨ ¬ (NamedW v.what ↔ 0 < v.names.length)) ∨ ∃ s ∈ v.names, ¬ TokQ s from .inl (.inl hs24))).symm | exact (decide_eq_true hs24).trans (decide_eq_true (show (16 < v.names.length ∨ ¬ (NamedW v.what ↔ 0 < v.names.length)) ∨ ∃ s ∈ v.names, ¬ TokQ s from .inl (.inl hs24))).symm | exact (decide_eq_true (show (16 < v.names.length ∨ ¬ (NamedW v.what ↔ 0 < v.names.length)) ∨ ∃ s ∈ v.names, ¬ TokQ s from .inl (.inr hs31))).symm | exact (decide_eq_true hs31).trans (decide_eq_true (show (16 < v.names.length ∨ ¬ (NamedW v.what ↔ 0 < v.names.length)) ∨ ∃ s ∈ v.names, ¬ TokQ s from .inl (.inr hs31))).symm | exact (decide_eq_true hs36).trans (decide_eq_true (show (16 < v.names.length ∨ ¬ (NamedW v.what ↔ 0 < v.names.length)) ∨ ∃ s ∈ v.names, ¬ TokQ s from .inr hs36)).symm | exact (decide_eq_false hs36).trans (decide_eq_false (show ¬ ((16 < v.names.length ∨ ¬ (NamedW v.what ↔ 0 < v.names.length)) ∨ ∃ s ∈ v.names, ¬ TokQ s) from fun h => h.elim (fun h => h.elim hs24 hs31) hs36)).symm)) (.cons rfl .nil)), rfl⟩
          · skip
            refine Ops.r (Run.mv rfl) rfl ?_
            refine Ops.rg rfl (by first | rfl | assumption | exact decide_eq_true (by assumption) | exact decide_eq_false (by assumption) | decide | (simp; done) | (simp; omega) | (simp [*]; done)) (Run.mv rfl) rfl ?_
            refine Ops.rg rfl (by first | rfl | assumption | exact decide_eq_true (by assumption) | exact decide_eq_false (by assumption) | decide | (simp; done) | (simp; omega) | (simp [*]; done)) (Run.fieldAddr rfl Tryz.underlying38 rfl Tryz.sizeOf36 (by decide)) rfl ?_
            refine Ops.rg rfl (by first | rfl | assumption | exact decide_eq_true (by assumption) | exact decide_eq_false (by assumption) | decide | (simp; done) | (simp; omega) | (simp [*]; done)) (Run.load rfl Tryz.isAgg36 (hb1.cell 2)) rfl ?_
            refine Ops.rg rfl (by first | rfl | assumption | exact decide_eq_true (by assumption) | exact decide_eq_false (by assumption) | decide | (simp; done) | (simp; omega) | (simp [*]; done)) (Run.lenS rfl Tryz.underlying36) rfl ?_
            refine Ops.rg rfl (by first | rfl | assumption | exact decide_eq_true (by assumption) | exact decide_eq_false (by assumption) | decide | (simp; done) | (simp; omega) | (simp [*]; done)) (Run.bin rfl rfl (Bin.gtrN _ 0)) rfl ?_
            refine Ops.rg rfl (by first | rfl | assumption | exact decide_eq_true (by assumption) | exact decide_eq_false (by assumption) | decide | (simp; done) | (simp; omega) | (simp [*]; done)) (Run.neqB rfl rfl Tryz.underlying4) rfl ?_
            rw [bne_dec]
            by_cases hs31 : ¬ (NamedW v.what ↔ 0 < v.names.length)
            · skip
              refine Ops.r (Run.pickF rfl rfl (by first | rfl | assumption | exact decide_eq_true (by assumption) | exact decide_eq_false (by assumption) | decide | (simp; done) | (simp; omega) | (simp [*]; done))) rfl ?_
              refine Ops.r (Run.mv rfl) rfl ?_
              refine Ops.sk rfl (by first | rfl | assumption | exact decide_eq_true (by assumption) | exact decide_eq_false (by assumption) | decide | (simp; done) | (simp; omega) | (simp [*]; done)) rfl ?_
              refine Ops.sk rfl (by first | rfl | assumption | exact decide_eq_true (by assumption) | exact decide_eq_false (by assumption) | decide | (simp; done) | (simp; omega) | (simp [*]; done)) rfl ?_
              refine Ops.sk rfl (by first | rfl | assumption | exact decide_eq_true (by assumption) | exact decide_eq_false (by assumption) | decide | (simp; done) | (simp; omega) | (simp [*]; done)) rfl ?_
              refine Ops.r (Run.pickT rfl rfl (by first | rfl | assumption | exact decide_eq_true (by assumption) | exact decide_eq_false (by assumption) | decide | (simp; done) | (simp; omega) | (simp [*]; done))) rfl ?_
              refine Ops.nil ?_
              refine thenQ_n ⟨(.cons (congrArg (fun b => some (Value.bool b)) (by first | exact (decide_eq_true (show (16 < v.names.length ∨ ¬ (NamedW v.what ↔ 0 < v.names.length)) ∨ ∃ s ∈ v.names, ¬ TokQ s from .inl (.inl hs24))).symm | exact (decide_eq_true hs24).trans (decide_eq_true (show (16 < v.names.length ∨ ¬ (NamedW v.what ↔ 0 < v.names.length)) ∨ ∃ s ∈ v.names, ¬ TokQ s from .inl (.inl hs24))).symm | exact (decide_eq_true (show (16 < v.names.length ∨ ¬ (NamedW v.what ↔ 0 < v.names.length)) ∨ ∃ s ∈ v.names, ¬ TokQ s from .inl (.inr hs31))).symm | exact (decide_eq_true hs31).trans (decide_eq_true (show (16 < v.names.length ∨ ¬ (NamedW v.what ↔ 0 < v.names.length)) ∨ ∃ s ∈ v.names, ¬ TokQ s from .inl (.inr hs31))).symm | exact (decide_eq_true hs36).trans (decide_eq_true (show (16 < v.names.length ∨ ¬ (NamedW v.what ↔ 0 < v.names.length)) ∨ ∃ s ∈ v.names, ¬ TokQ s from .inr hs36)).symm | exact (decide_eq_false hs36).trans (decide_eq_false (show ¬ ((16 < v.names.length ∨ ¬ (NamedW v.what ↔ 0 < v.names.length)) ∨ ∃ s ∈ v.names, ¬ TokQ s) from fun h => h.elim (fun h => h.elim hs24 hs31) hs36)).symm)) (.cons rfl .nil)), rfl⟩
            · skip
              refine Ops.r (Run.pickF rfl rfl (by first | rfl | assumption | exact decide_eq_true (by assumption) | exact decide_eq_false (by assumption) | decide | (simp; done) | (simp; omega) | (simp [*]; done))) rfl ?_
              refine Ops.r (Run.mv rfl) rfl ?_
              refine Ops.rg rfl (by first | rfl | assumption | exact decide_eq_true (by assumption) | exact decide_eq_false (by assumption) | decide | (simp; done) | (simp; omega) | (simp [*]; done)) (Run.fieldAddr rfl Tryz.underlying38 rfl Tryz.sizeOf36 (by decide)) rfl ?_
              refine Ops.rg rfl (by first | rfl | assumption | exact decide_eq_true (by assumption) | exact decide_eq_false (by assumption) | decide | (simp; done) | (simp; omega) | (simp [*]; done)) (Run.load rfl Tryz.isAgg36 (hb1.cell 2)) rfl ?_
              refine Ops.clg rfl (by first | rfl | assumption | exact decide_eq_true (by assumption) | exact decide_eq_false (by assumption) | decide | (simp; done) | (simp; omega) | (simp [*]; done)) (Enters.fn (evs.cons rfl (evs.cons rfl evs.nil)) Tryz.call74) ((idxS_has B d v.names _ hn hnl hns)) rfl ?_
              rintro e _ ⟨rfl, rfl⟩
              refine ⟨_, rfl, ?_⟩
              by_cases hs36 : ∃ s ∈ v.names, ¬ TokQ s
              · skip
                refine Ops.r (Run.pickF rfl rfl (by first | rfl | assumption | exact decide_eq_true (by assumption) | exact decide_eq_false (by assumption) | decide | (simp; done) | (simp; omega) | (simp [*]; done))) rfl ?_
                refine Ops.nil ?_
                refine thenQ_n ⟨(.cons (congrArg (fun b => some (Value.bool b)) (by first | exact (decide_eq_true (show (16 < v.names.length ∨ ¬ (NamedW v.what ↔ 0 < v.names.length)) ∨ ∃ s ∈ v.names, ¬ TokQ s from .inl (.inl hs24))).symm | exact (decide_eq_true hs24).trans (decide_eq_true (show (16 < v.names.length ∨ ¬ (NamedW v.what ↔ 0 < v.names.length)) ∨ ∃ s ∈ v.names, ¬ TokQ s from .inl (.inl hs24))).symm | exact (decide_eq_true (show (16 < v.names.length ∨ ¬ (NamedW v.what ↔ 0 < v.names.length)) ∨ ∃ s ∈ v.names, ¬ TokQ s from .inl (.inr hs31))).symm | exact (decide_eq_true hs31).trans (decide_eq_true (show (16 < v.names.length ∨ ¬ (NamedW v.what ↔ 0 < v.names.length)) ∨ ∃ s ∈ v.names, ¬ TokQ s from .inl (.inr hs31))).symm | exact (decide_eq_true hs36).trans (decide_eq_true (show (16 < v.names.length ∨ ¬ (NamedW v.what ↔ 0 < v.names.length)) ∨ ∃ s ∈ v.names, ¬ TokQ s from .inr hs36)).symm | exact (decide_eq_false hs36).trans (decide_eq_false (show ¬ ((16 < v.names.length ∨ ¬ (NamedW v.what ↔ 0 < v.names.length)) ∨ ∃ s ∈ v.names, ¬ TokQ s) from fun h => h.elim (fun h => h.elim hs24 hs31) hs36)).symm)) (.cons rfl .nil)), rfl⟩
              · skip
                refine Ops.r (Run.pickF rfl rfl (by first | rfl | assumption | exact decide_eq_true (by assumption) | exact decide_eq_false (by assumption) | decide | (simp; done) | (simp; omega) | (simp [*]; done))) rfl ?_
                refine Ops.nil ?_
                refine thenQ_n ⟨(.cons (congrArg (fun b => some (Value.bool b)) (by first | exact (decide_eq_true (show (16 < v.names.length ∨ ¬ (NamedW v.what ↔ 0 < v.names.length)) ∨ ∃ s ∈ v.names, ¬ TokQ s from .inl (.inl hs24))).symm | exact (decide_eq_true hs24).trans (decide_eq_true (show (16 < v.names.length ∨ ¬ (NamedW v.what ↔ 0 < v.names.length)) ∨ ∃ s ∈ v.names, ¬ TokQ s from .inl (.inl hs24))).symm | exact (decide_eq_true (show (16 < v.names.length ∨ ¬ (NamedW v.what ↔ 0 < v.names.length)) ∨ ∃ s ∈ v.names, ¬ TokQ s from .inl (.inr hs31))).symm | exact (decide_eq_true hs31).trans (decide_eq_true (show (16 < v.names.length ∨ ¬ (NamedW v.what ↔ 0 < v.names.length)) ∨ ∃ s ∈ v.names, ¬ TokQ s from .inl (.inr hs31))).symm | exact (decide_eq_true hs36).trans (decide_eq_true (show (16 < v.names.length ∨ ¬ (NamedW v.what ↔ 0 < v.names.length)) ∨ ∃ s ∈ v.names, ¬ TokQ s from .inr hs36)).symm | exact (decide_eq_false hs36).trans (decide_eq_false (show ¬ ((16 < v.names.length ∨ ¬ (NamedW v.what ↔ 0 < v.names.length)) ∨ ∃ s ∈ v.names, ¬ TokQ s) from fun h => h.elim (fun h => h.elim hs24 hs31) hs36)).symm)) (.cons rfl .nil)), rfl⟩
        · intro Γ hΓ
          refine thenQ_n (VC.sub _ hΓ ?_)
          refine VC.condD rfl (fun hc2 => ?_) (fun hc2 => ?_)
          · skip
            refine VC.seq ?_
            refine VC.region ?_
            refine Ops.r (Run.asg rfl) rfl ?_
            refine Ops.nil ?_
            refine thenQ_n ?_
            refine VC.sub [(2, _)] (.cons rfl .nil) ?_
            refine VC.ret ?_
            refine thenQ_r (end1 rfl ?_)
            exact ⟨by rw [decide_eq_false (not_may2 hc2)], K⟩
          · skip
            refine VC.skip ?_
            refine thenQ_n ?_
            refine VC.sub [(1, _)] (.cons rfl .nil) ?_
            refine VC.seq ?_
            refine VC.seq ?_
            refine VC.region ?_
            refine Ops.r (Run.fieldAddr rfl Tryz.underlying38 rfl Tryz.sizeOf9 (by decide)) rfl ?_
            refine Ops.r (Run.load rfl Tryz.isAgg9 (hb1.cell 1)) rfl ?_
            refine Ops.nil ?_
            refine thenQ_n ?_
            refine VC.sub [(1, _), (39, _)] (.cons rfl (.cons rfl .nil)) ?_
            refine VC.block ?_
            refine VC.seq ?_
            refine VC.seq ?_
            refine VC.region ?_
            refine Ops.r (Run.eqlT rfl rfl) rfl ?_
            refine Ops.r (Run.asg rfl) rfl ?_
            refine Ops.nil ?_
            refine thenQ_n ?_
            refine VC.sub [(1, _), (39, _), (40, _)] (.cons rfl (.cons rfl (.cons rfl .nil))) ?_
            refine VC.condD rfl (fun hc3 => ?_) (fun hc3 => ?_)
            · skip
              refine VC.skip ?_
              refine thenQ_n ?_
              refine VC.condT rfl (decide_eq_true hc3) ?_
              refine VC.seq ?_
              refine VC.region ?_
              refine Ops.r (Run.asg rfl) rfl ?_
              refine Ops.nil ?_
              refine thenQ_n ?_
              refine VC.sub [(2, _)] (.cons rfl .nil) ?_
              refine VC.ret ?_
              refine blockQ_r (thenQ_r (end1 rfl ?_))
              exact ⟨by rw [decide_eq_true (show MayW v from ⟨hc1, hc2, .inl hc3⟩)], K⟩
            · skip
              refine VC.seq ?_
              refine VC.region ?_
              refine Ops.r (Run.eqlT rfl rfl) rfl ?_
              refine Ops.r (Run.asg rfl) rfl ?_
              refine Ops.nil ?_
              refine thenQ_n ?_
              refine VC.sub [(1, _), (39, _), (40, _)] (.cons rfl (.cons rfl (.cons rfl .nil))) ?_
              refine VC.condD rfl (fun hc4 => ?_) (fun hc4 => ?_)
              · skip
                refine VC.skip ?_
                refine thenQ_n ?_
                refine VC.condT rfl (decide_eq_true hc4) ?_
                refine VC.seq ?_
                refine VC.region ?_
                refine Ops.r (Run.asg rfl) rfl ?_
                refine Ops.nil ?_
                refine thenQ_n ?_
                refine VC.sub [(2, _)] (.cons rfl .nil) ?_
                refine VC.ret ?_
                refine blockQ_r (thenQ_r (end1 rfl ?_))
                exact ⟨by rw [decide_eq_true (show MayW v from ⟨hc1, hc2, .inr (.inl hc4)⟩)], K⟩
              · skip
                refine VC.seq ?_
                refine VC.region ?_
                refine Ops.r (Run.eqlT rfl rfl) rfl ?_
                refine Ops.r (Run.asg rfl) rfl ?_
                refine Ops.nil ?_
                refine thenQ_n ?_
                refine VC.sub [(1, _), (39, _), (40, _)] (.cons rfl (.cons rfl (.cons rfl .nil))) ?_
                refine VC.condD rfl (fun hc5 => ?_) (fun hc5 => ?_)
                · skip
                  refine VC.skip ?_
                  refine thenQ_n ?_
                  refine VC.condT rfl (decide_eq_true hc5) ?_
                  refine VC.seq ?_
                  refine VC.region ?_
                  refine Ops.r (Run.asg rfl) rfl ?_
                  refine Ops.nil ?_
                  refine thenQ_n ?_
                  refine VC.sub [(2, _)] (.cons rfl .nil) ?_
                  refine VC.ret ?_
                  refine blockQ_r (thenQ_r (end1 rfl ?_))
                  exact ⟨by rw [decide_eq_true (show MayW v from ⟨hc1, hc2, .inr (.inr (.inl hc5))⟩)], K⟩
                · skip
                  refine VC.seq ?_
                  refine VC.region ?_
                  refine Ops.r (Run.eqlT rfl rfl) rfl ?_
                  refine Ops.r (Run.asg rfl) rfl ?_
                  refine Ops.nil ?_
                  refine thenQ_n ?_
                  refine VC.sub [(1, _), (39, _), (40, _)] (.cons rfl (.cons rfl (.cons rfl .nil))) ?_
                  refine VC.condD rfl (fun hc6 => ?_) (fun hc6 => ?_)
                  · skip
                    refine VC.skip ?_
                    refine thenQ_n ?_
                    refine VC.condT rfl (decide_eq_true hc6) ?_
                    refine VC.seq ?_
                    refine VC.region ?_
                    refine Ops.r (Run.asg rfl) rfl ?_
                    refine Ops.nil ?_
                    refine thenQ_n ?_
                    refine VC.sub [(2, _)] (.cons rfl .nil) ?_
                    refine VC.ret ?_
                    refine blockQ_r (thenQ_r (end1 rfl ?_))
                    exact ⟨by rw [decide_eq_true (show MayW v from ⟨hc1, hc2, .inr (.inr (.inr (.inl hc6)))⟩)], K⟩
                  · skip
                    refine VC.region ?_
                    refine Ops.r (Run.eqlT rfl rfl) rfl ?_
                    refine Ops.r (Run.asg rfl) rfl ?_
                    refine Ops.nil ?_
                    refine thenQ_n ?_
                    refine VC.sub [(1, _), (39, _), (40, _)] (.cons rfl (.cons rfl (.cons rfl .nil))) ?_
                    refine VC.condD rfl (fun hc7 => ?_) (fun hc7 => ?_)
                    · skip
                      refine VC.seq ?_
                      refine VC.region ?_
                      refine Ops.r (Run.asg rfl) rfl ?_
                      refine Ops.nil ?_
                      refine thenQ_n ?_
                      refine VC.sub [(2, _)] (.cons rfl .nil) ?_
                      refine VC.ret ?_
                      refine blockQ_r (thenQ_r (end1 rfl ?_))
                      exact ⟨by rw [decide_eq_true (show MayW v from ⟨hc1, hc2, .inr (.inr (.inr (.inr (.inl hc7))))⟩)], K⟩
                    · skip
                      refine VC.seq ?_
                      refine VC.region ?_
                      refine Ops.r (Run.eqlT rfl rfl) rfl ?_
                      refine Ops.r (Run.asg rfl) rfl ?_
                      refine Ops.nil ?_
                      refine thenQ_n ?_
                      refine VC.sub [(1, _), (46, _)] (.cons rfl (.cons rfl .nil)) ?_
                      refine VC.condD rfl (fun hc8 => ?_) (fun hc8 => ?_)
                      · skip
                        refine VC.seq ?_
                        refine VC.region ?_
                        refine Ops.r (Run.fieldAddr rfl Tryz.underlying38 rfl Tryz.sizeOf33 (by decide)) rfl ?_
                        refine Ops.r (Run.load rfl Tryz.isAgg33 (hb1.cell 0)) rfl ?_
                        refine Ops.r (Run.lenS rfl Tryz.underlying33) rfl ?_
                        refine Ops.r (Run.bin rfl rfl (Bin.gtrN _ 0)) rfl ?_
                        refine Ops.r (Run.asg rfl) rfl ?_
                        refine Ops.nil ?_
                        refine thenQ_n ?_
                        refine VC.sub [(2, _)] (.cons rfl .nil) ?_
                        refine VC.ret ?_
                        refine blockQ_r (thenQ_r (end1 rfl ?_))
                        exact ⟨by rw [decide_eq_decide.2 (show 0 < v.path.length ↔ MayW v from ⟨fun h => ⟨hc1, hc2, .inr (.inr (.inr (.inr (.inr ⟨hc8, h⟩))))⟩, fun h => (kind_last hc3 hc4 hc5 hc6 hc7 h.2.2).2⟩)], K⟩
                      · skip
                        refine VC.skip ?_
                        refine blockQ_n (thenQ_n ?_)
                        refine VC.sub [] .nil ?_
                        refine VC.seq ?_
                        refine VC.region ?_
                        refine Ops.r (Run.asg rfl) rfl ?_
                        refine Ops.nil ?_
                        refine thenQ_n ?_
                        refine VC.ret ?_
                        refine end1 rfl ?_
                        exact ⟨by rw [decide_eq_false (show ¬ MayW v from fun h => hc8 (kind_last hc3 hc4 hc5 hc6 hc7 h.2.2).1)], K⟩

end Go.Proofs.YtenbjndldenkfaaGreatDoor
