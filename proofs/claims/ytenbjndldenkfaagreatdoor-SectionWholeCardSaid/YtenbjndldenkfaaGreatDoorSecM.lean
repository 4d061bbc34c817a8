/-
  Are two sections the same?
-/
import Derived.Test.YtenbjndldenkfaaGreatDoorSecN
namespace Go.Proofs.YtenbjndldenkfaaGreatDoor
open Go.RowKit Go.Sort

theorem PI_get {w : World} {ad : Addr} {l : List Int} {k : Nat} (h : Rd w 1 (some ad) l.length (PI l)) (hk : k < l.length) : w.cell? (ad.add (k * 1)) = some (.int .i64 l[k]) := by
  obtain ⟨ad', e, h⟩ := PI_at h hk
  cases e
  exact h
theorem SB_get1 {w : World} {ad : Addr} {l : List Tx} {k : Nat} (h : Rd w 1 (some ad) l.length (SB l)) (hk : k < l.length) : w.cell? (ad.add (k * 1)) = some (encStr l[k]) := by
  obtain ⟨ad', e, h⟩ := SB_at1 h hk
  cases e
  exact h
def SameW (v u : Wnt) : Prop := v.what = u.what ∧ v.path = u.path ∧ v.names = u.names
instance (v u : Wnt) : Decidable (SameW v u) := by unfold SameW; infer_instance
theorem not_same {v u : Wnt} (h : (v.what ≠ u.what ∨ v.path.length ≠ u.path.length) ∨ v.names.length ≠ u.names.length) : ¬ SameW v u := by
  rintro ⟨h1, h2, h3⟩
  rcases h with (h | h) | h
  · exact h h1
  · exact h (by rw [h2])
  · exact h (by rw [h3])

set_option maxRecDepth 100000 in
theorem same_want_spec (v u : Wnt) (A N B M : Option Addr) (c nc d mc : Nat) (w : World) (hp : Rd w 1 A v.path.length (PI v.path)) (hn : Rd w 1 N v.names.length (SB v.names)) (hq : Rd w 1 B u.path.length (PI u.path)) (hm : Rd w 1 M u.names.length (SB u.names)) (hpl : v.path.length ≤ 1000000) (hnl : v.names.length ≤ 1000000) :
    Calls Tryz.prog 47 #[.agg (WtC v A c N nc), .agg (WtC u B d M mc)] w fun e w' => e = .returned (.bool (decide (SameW v u))) ∧ Frm [] w w' := by
  refine VC.calls (nt := 66) (res := #[.tmp 4]) Tryz.func47 rfl Tryz.ntmps47 Tryz.results47 rfl ?_
  refine VC.seq ?_
  refine VC.region ?_
  refine Ops.m (Does.box rfl) rfl ?_
  rintro _ w1 ⟨rfl, hF2⟩
  have hb2 : Blk w1 w.heap.size 38 (WtC v A c N nc) := hF2.blk
  have f2 := hF2.frm
  have hp := hp.frm f2 (by simp)
  have hn := hn.frm f2 (by simp)
  have hq := hq.frm f2 (by simp)
  have hm := hm.frm f2 (by simp)
  generalize w.heap.size = g2 at hb2 ⊢
  refine Ops.m (Does.box rfl) rfl ?_
  rintro _ w2 ⟨rfl, hF3⟩
  have hb3 : Blk w2 w1.heap.size 38 (WtC u B d M mc) := hF3.blk
  have f3 := hF3.frm
  have hp := hp.frm f3 (by simp)
  have hn := hn.frm f3 (by simp)
  have hq := hq.frm f3 (by simp)
  have hm := hm.frm f3 (by simp)
  have hb2 := hb2.frm f3 (by simp)
  generalize w1.heap.size = g3 at hb3 ⊢
  have K := f2.trans f3 (by simp)
  have hb20 := hb2
  have hb30 := hb3
  refine Ops.r (Run.asg rfl) rfl ?_
  refine Ops.nil ?_
  refine thenQ_n ?_
  refine VC.sub [(2, _), (3, _)] (.cons rfl (.cons rfl .nil)) ?_
  refine VC.seq ?_
  refine VC.seq ?_
  refine VC.split1 [(2, _), (3, _)] (.cons rfl (.cons rfl .nil)) 29 (.bool (decide ((v.what ≠ u.what ∨ v.path.length ≠ u.path.length) ∨ v.names.length ≠ u.names.length))) ?_ ?_
  · refine VC.region ?_
    refine Ops.r (Run.fieldAddr rfl Tryz.underlying38 rfl Tryz.sizeOf9 (by decide)) rfl ?_
    refine Ops.r (Run.load rfl Tryz.isAgg9 (hb2.cell 1)) rfl ?_
    refine Ops.r (Run.fieldAddr rfl Tryz.underlying38 rfl Tryz.sizeOf9 (by decide)) rfl ?_
    refine Ops.r (Run.load rfl Tryz.isAgg9 (hb3.cell 1)) rfl ?_
    refine Ops.r (Run.neqT rfl rfl) rfl ?_
    by_cases hs11 : v.what ≠ u.what
    · skip
      refine Ops.r (Run.mv rfl) rfl ?_
      refine Ops.sk rfl (by first | rfl | assumption | exact decide_eq_true (by assumption) | exact decide_eq_false (by assumption) | decide | (simp; done) | (simp; omega) | (simp [*]; done)) rfl ?_
      refine Ops.sk rfl (by first | rfl | assumption | exact decide_eq_true (by assumption) | exact decide_eq_false (by assumption) | decide | (simp; done) | (simp; omega) | (simp [*]; done)) rfl ?_
      refine Ops.sk rfl (by first | rfl | assumption | exact decide_eq_true (by assumption) | exact decide_eq_false (by assumption) | decide | (simp; done) | (simp; omega) | (simp [*]; done)) rfl ?_
      refine Ops.sk rfl (by first | rfl | assumption | exact decide_eq_true (by assumption) | exact decide_eq_false (by assumption) | decide | (simp; done) | (simp; omega) | (simp [*]; done)) rfl ?_
      refine Ops.sk rfl (by first | rfl | assumption | exact decide_eq_true (by assumption) | exact decide_eq_false (by assumption) | decide | (simp; done) | (simp; omega) | (simp [*]; done)) rfl ?_
      refine Ops.sk rfl (by first | rfl | assumption | exact decide_eq_true (by assumption) | exact decide_eq_false (by assumption) | decide | (simp; done) | (simp; omega) | (simp [*]; done)) rfl ?_
      refine Ops.sk rfl (by first | rfl | assumption | exact decide_eq_true (by assumption) | exact decide_eq_false (by assumption) | decide | (simp; done) | (simp; omega) | (simp [*]; done)) rfl ?_
      refine Ops.r (Run.pickT rfl rfl (by first | rfl | assumption | exact decide_eq_true (by assumption) | exact decide_eq_false (by assumption) | decide | (simp; done) | (simp; omega) | (simp [*]; done))) rfl ?_
      refine Ops.r (Run.mv rfl) rfl ?_
      refine Ops.sk rfl (by first | rfl | assumption | exact decide_eq_true (by assumption) | exact decide_eq_false (by assumption) | decide | (simp; done) | (simp; omega) | (simp [*]; done)) rfl ?_
      refine Ops.sk rfl (by first | rfl | assumption | exact decide_eq_true (by assumption) | exact decide_eq_false (by assumption) | decide | (simp; done) | (simp; omega) | (simp [*]; done)) rfl ?_
      refine Ops.sk rfl (by first | rfl | assumption | exact decide_eq_true (by assumption) | exact decide_eq_false (by assumption) | decide | (simp; done) | (simp; omega) | (simp [*]; done)) rfl ?_
      refine Ops.sk rfl (by first | rfl | assumption | exact decide_eq_true (by assumption) | exact decide_eq_false (by assumption) | decide | (simp; done) | (simp; omega) | (simp [*]; done)) rfl ?_
      refine Ops.sk rfl (by first | rfl | assumption | exact decide_eq_true (by assumption) | exact decide_eq_false (by assumption) | decide | (simp; done) | (simp; omega) | (simp [*]; done)) rfl ?_
      refine Ops.sk rfl (by first | rfl | assumption | exact decide_eq_true (by assumption) | exact decide_eq_false (by assumption) | decide | (simp; done) | (simp; omega) | (simp [*]; done)) rfl ?_
      refine Ops.sk rfl (by first | rfl | assumption | exact decide_eq_true (by assumption) | exact decide_eq_false (by assumption) | decide | (simp; done) | (simp; omega) | (simp [*]; done)) rfl ?_
      refine Ops.r (Run.pickT rfl rfl (by first | rfl | assumption | exact decide_eq_true (by assumption) | exact decide_eq_false (by assumption) | decide | (simp; done) | (simp; omega) | (simp [*]; done))) rfl ?_
      refine Ops.nil ?_
      refine thenQ_n ⟨(.cons (congrArg (fun b => some (Value.bool b)) (by first | exact (decide_eq_true (show (v.what ≠ u.what ∨ v.path.length ≠ u.path.length) ∨ v.names.length ≠ u.names.length from .inl (.inl hs11))).symm | exact (decide_eq_true hs11).trans (decide_eq_true (show (v.what ≠ u.what ∨ v.path.length ≠ u.path.length) ∨ v.names.length ≠ u.names.length from .inl (.inl hs11))).symm | exact (decide_eq_true (show (v.what ≠ u.what ∨ v.path.length ≠ u.path.length) ∨ v.names.length ≠ u.names.length from .inl (.inr hs19))).symm | exact (decide_eq_true hs19).trans (decide_eq_true (show (v.what ≠ u.what ∨ v.path.length ≠ u.path.length) ∨ v.names.length ≠ u.names.length from .inl (.inr hs19))).symm | exact (decide_eq_true hs28).trans (decide_eq_true (show (v.what ≠ u.what ∨ v.path.length ≠ u.path.length) ∨ v.names.length ≠ u.names.length from .inr hs28)).symm | exact (decide_eq_false hs28).trans (decide_eq_false (show ¬ ((v.what ≠ u.what ∨ v.path.length ≠ u.path.length) ∨ v.names.length ≠ u.names.length) from fun h => h.elim (fun h => h.elim hs11 hs19) hs28)).symm)) (.cons rfl (.cons rfl .nil))), rfl⟩
    · skip
      refine Ops.r (Run.mv rfl) rfl ?_
      refine Ops.rg rfl (by first | rfl | assumption | exact decide_eq_true (by assumption) | exact decide_eq_false (by assumption) | decide | (simp; done) | (simp; omega) | (simp [*]; done)) (Run.fieldAddr rfl Tryz.underlying38 rfl Tryz.sizeOf33 (by decide)) rfl ?_
      refine Ops.rg rfl (by first | rfl | assumption | exact decide_eq_true (by assumption) | exact decide_eq_false (by assumption) | decide | (simp; done) | (simp; omega) | (simp [*]; done)) (Run.load rfl Tryz.isAgg33 (show _ = some (Value.slice A v.path.length c) from hb2.cell 0)) rfl ?_
      refine Ops.rg rfl (by first | rfl | assumption | exact decide_eq_true (by assumption) | exact decide_eq_false (by assumption) | decide | (simp; done) | (simp; omega) | (simp [*]; done)) (Run.lenS rfl Tryz.underlying33) rfl ?_
      refine Ops.rg rfl (by first | rfl | assumption | exact decide_eq_true (by assumption) | exact decide_eq_false (by assumption) | decide | (simp; done) | (simp; omega) | (simp [*]; done)) (Run.fieldAddr rfl Tryz.underlying38 rfl Tryz.sizeOf33 (by decide)) rfl ?_
      refine Ops.rg rfl (by first | rfl | assumption | exact decide_eq_true (by assumption) | exact decide_eq_false (by assumption) | decide | (simp; done) | (simp; omega) | (simp [*]; done)) (Run.load rfl Tryz.isAgg33 (show _ = some (Value.slice B u.path.length d) from hb3.cell 0)) rfl ?_
      refine Ops.rg rfl (by first | rfl | assumption | exact decide_eq_true (by assumption) | exact decide_eq_false (by assumption) | decide | (simp; done) | (simp; omega) | (simp [*]; done)) (Run.lenS rfl Tryz.underlying33) rfl ?_
      refine Ops.rg rfl (by first | rfl | assumption | exact decide_eq_true (by assumption) | exact decide_eq_false (by assumption) | decide | (simp; done) | (simp; omega) | (simp [*]; done)) (Run.bin rfl rfl (Bin.neqN _ _)) rfl ?_
      by_cases hs19 : v.path.length ≠ u.path.length
      · skip
        refine Ops.r (Run.pickF rfl rfl (by first | rfl | assumption | exact decide_eq_true (by assumption) | exact decide_eq_false (by assumption) | decide | (simp; done) | (simp; omega) | (simp [*]; done))) rfl ?_
        refine Ops.r (Run.mv rfl) rfl ?_
        refine Ops.sk rfl (by first | rfl | assumption | exact decide_eq_true (by assumption) | exact decide_eq_false (by assumption) | decide | (simp; done) | (simp; omega) | (simp [*]; done)) rfl ?_
        refine Ops.sk rfl (by first | rfl | assumption | exact decide_eq_true (by assumption) | exact decide_eq_false (by assumption) | decide | (simp; done) | (simp; omega) | (simp [*]; done)) rfl ?_
        refine Ops.sk rfl (by first | rfl | assumption | exact decide_eq_true (by assumption) | exact decide_eq_false (by assumption) | decide | (simp; done) | (simp; omega) | (simp [*]; done)) rfl ?_
        refine Ops.sk rfl (by first | rfl | assumption | exact decide_eq_true (by assumption) | exact decide_eq_false (by assumption) | decide | (simp; done) | (simp; omega) | (simp [*]; done)) rfl ?_
        refine Ops.sk rfl (by first | rfl | assumption | exact decide_eq_true (by assumption) | exact decide_eq_false (by assumption) | decide | (simp; done) | (simp; omega) | (simp [*]; done)) rfl ?_
        refine Ops.sk rfl (by first | rfl | assumption | exact decide_eq_true (by assumption) | exact decide_eq_false (by assumption) | decide | (simp; done) | (simp; omega) | (simp [*]; done)) rfl ?_
        refine Ops.sk rfl (by first | rfl | assumption | exact decide_eq_true (by assumption) | exact decide_eq_false (by assumption) | decide | (simp; done) | (simp; omega) | (simp [*]; done)) rfl ?_
        refine Ops.r (Run.pickT rfl rfl (by first | rfl | assumption | exact decide_eq_true (by assumption) | exact decide_eq_false (by assumption) | decide | (simp; done) | (simp; omega) | (simp [*]; done))) rfl ?_
        refine Ops.nil ?_
        refine thenQ_n ⟨(.cons (congrArg (fun b => some (Value.bool b)) (by first | exact (decide_eq_true (show (v.what ≠ u.what ∨ v.path.length ≠ u.path.length) ∨ v.names.length ≠ u.names.length from .inl (.inl hs11))).symm | exact (decide_eq_true hs11).trans (decide_eq_true (show (v.what ≠ u.what ∨ v.path.length ≠ u.path.length) ∨ v.names.length ≠ u.names.length from .inl (.inl hs11))).symm | exact (decide_eq_true (show (v.what ≠ u.what ∨ v.path.length ≠ u.path.length) ∨ v.names.length ≠ u.names.length from .inl (.inr hs19))).symm | exact (decide_eq_true hs19).trans (decide_eq_true (show (v.what ≠ u.what ∨ v.path.length ≠ u.path.length) ∨ v.names.length ≠ u.names.length from .inl (.inr hs19))).symm | exact (decide_eq_true hs28).trans (decide_eq_true (show (v.what ≠ u.what ∨ v.path.length ≠ u.path.length) ∨ v.names.length ≠ u.names.length from .inr hs28)).symm | exact (decide_eq_false hs28).trans (decide_eq_false (show ¬ ((v.what ≠ u.what ∨ v.path.length ≠ u.path.length) ∨ v.names.length ≠ u.names.length) from fun h => h.elim (fun h => h.elim hs11 hs19) hs28)).symm)) (.cons rfl (.cons rfl .nil))), rfl⟩
      · skip
        refine Ops.r (Run.pickF rfl rfl (by first | rfl | assumption | exact decide_eq_true (by assumption) | exact decide_eq_false (by assumption) | decide | (simp; done) | (simp; omega) | (simp [*]; done))) rfl ?_
        refine Ops.r (Run.mv rfl) rfl ?_
        refine Ops.rg rfl (by first | rfl | assumption | exact decide_eq_true (by assumption) | exact decide_eq_false (by assumption) | decide | (simp; done) | (simp; omega) | (simp [*]; done)) (Run.fieldAddr rfl Tryz.underlying38 rfl Tryz.sizeOf36 (by decide)) rfl ?_
        refine Ops.rg rfl (by first | rfl | assumption | exact decide_eq_true (by assumption) | exact decide_eq_false (by assumption) | decide | (simp; done) | (simp; omega) | (simp [*]; done)) (Run.load rfl Tryz.isAgg36 (show _ = some (Value.slice N v.names.length nc) from hb2.cell 2)) rfl ?_
        refine Ops.rg rfl (by first | rfl | assumption | exact decide_eq_true (by assumption) | exact decide_eq_false (by assumption) | decide | (simp; done) | (simp; omega) | (simp [*]; done)) (Run.lenS rfl Tryz.underlying36) rfl ?_
        refine Ops.rg rfl (by first | rfl | assumption | exact decide_eq_true (by assumption) | exact decide_eq_false (by assumption) | decide | (simp; done) | (simp; omega) | (simp [*]; done)) (Run.fieldAddr rfl Tryz.underlying38 rfl Tryz.sizeOf36 (by decide)) rfl ?_
        refine Ops.rg rfl (by first | rfl | assumption | exact decide_eq_true (by assumption) | exact decide_eq_false (by assumption) | decide | (simp; done) | (simp; omega) | (simp [*]; done)) (Run.load rfl Tryz.isAgg36 (show _ = some (Value.slice M u.names.length mc) from hb3.cell 2)) rfl ?_
        refine Ops.rg rfl (by first | rfl | assumption | exact decide_eq_true (by assumption) | exact decide_eq_false (by assumption) | decide | (simp; done) | (simp; omega) | (simp [*]; done)) (Run.lenS rfl Tryz.underlying36) rfl ?_
        refine Ops.rg rfl (by first | rfl | assumption | exact decide_eq_true (by assumption) | exact decide_eq_false (by assumption) | decide | (simp; done) | (simp; omega) | (simp [*]; done)) (Run.bin rfl rfl (Bin.neqN _ _)) rfl ?_
        by_cases hs28 : v.names.length ≠ u.names.length
        · skip
          refine Ops.r (Run.pickF rfl rfl (by first | rfl | assumption | exact decide_eq_true (by assumption) | exact decide_eq_false (by assumption) | decide | (simp; done) | (simp; omega) | (simp [*]; done))) rfl ?_
          refine Ops.nil ?_
          refine thenQ_n ⟨(.cons (congrArg (fun b => some (Value.bool b)) (by first | exact (decide_eq_true (show (v.what ≠ u.what ∨ v.path.length ≠ u.path.length) ∨ v.names.length ≠ u.names.length from .inl (.inl hs11))).symm | exact (decide_eq_true hs11).trans (decide_eq_true (show (v.what ≠ u.what ∨ v.path.length ≠ u.path.length) ∨ v.names.length ≠ u.names.length from .inl (.inl hs11))).symm | exact (decide_eq_true (show (v.what ≠ u.what ∨ v.path.length ≠ u.path.length) ∨ v.names.length ≠ u.names.length from .inl (.inr hs19))).symm | exact (decide_eq_true hs19).trans (decide_eq_true (show (v.what ≠ u.what ∨ v.path.length ≠ u.path.length) ∨ v.names.length ≠ u.names.length from .inl (.inr hs19))).symm | exact (decide_eq_true hs28).trans (decide_eq_true (show (v.what ≠ u.what ∨ v.path.length ≠ u.path.length) ∨ v.names.length ≠ u.names.length from .inr hs28)).symm | exact (decide_eq_false hs28).trans (decide_eq_false (show ¬ ((v.what ≠ u.what ∨ v.path.length ≠ u.path.length) ∨ v.names.length ≠ u.names.length) from fun h => h.elim (fun h => h.elim hs11 hs19) hs28)).symm)) (.cons rfl (.cons rfl .nil))), rfl⟩
        · skip
          refine Ops.r (Run.pickF rfl rfl (by first | rfl | assumption | exact decide_eq_true (by assumption) | exact decide_eq_false (by assumption) | decide | (simp; done) | (simp; omega) | (simp [*]; done))) rfl ?_
          refine Ops.nil ?_
          refine thenQ_n ⟨(.cons (congrArg (fun b => some (Value.bool b)) (by first | exact (decide_eq_true (show (v.what ≠ u.what ∨ v.path.length ≠ u.path.length) ∨ v.names.length ≠ u.names.length from .inl (.inl hs11))).symm | exact (decide_eq_true hs11).trans (decide_eq_true (show (v.what ≠ u.what ∨ v.path.length ≠ u.path.length) ∨ v.names.length ≠ u.names.length from .inl (.inl hs11))).symm | exact (decide_eq_true (show (v.what ≠ u.what ∨ v.path.length ≠ u.path.length) ∨ v.names.length ≠ u.names.length from .inl (.inr hs19))).symm | exact (decide_eq_true hs19).trans (decide_eq_true (show (v.what ≠ u.what ∨ v.path.length ≠ u.path.length) ∨ v.names.length ≠ u.names.length from .inl (.inr hs19))).symm | exact (decide_eq_true hs28).trans (decide_eq_true (show (v.what ≠ u.what ∨ v.path.length ≠ u.path.length) ∨ v.names.length ≠ u.names.length from .inr hs28)).symm | exact (decide_eq_false hs28).trans (decide_eq_false (show ¬ ((v.what ≠ u.what ∨ v.path.length ≠ u.path.length) ∨ v.names.length ≠ u.names.length) from fun h => h.elim (fun h => h.elim hs11 hs19) hs28)).symm)) (.cons rfl (.cons rfl .nil))), rfl⟩
  · intro Γ hΓ
    refine thenQ_n (VC.sub _ hΓ ?_)
    refine VC.condD rfl (fun hc1 => ?_) (fun hc1 => ?_)
    · skip
      refine VC.seq ?_
      refine VC.region ?_
      refine Ops.r (Run.asg rfl) rfl ?_
      refine Ops.nil ?_
      refine thenQ_n ?_
      refine VC.sub [(4, _)] (.cons rfl .nil) ?_
      refine VC.ret ?_
      refine thenQ_r (end1 rfl ?_)
      exact ⟨by rw [decide_eq_false (not_same hc1)], K⟩
    · skip
      have e1 : v.what = u.what := Classical.byContradiction fun h => hc1 (.inl (.inl h))
      have e2 : v.path.length = u.path.length := Classical.byContradiction fun h => hc1 (.inl (.inr h))
      have e3 : v.names.length = u.names.length := Classical.byContradiction fun h => hc1 (.inr h)
      refine VC.skip ?_
      refine thenQ_n ?_
      refine VC.sub [(2, _), (3, _)] (.cons rfl (.cons rfl .nil)) ?_
      refine VC.seq ?_
      refine VC.seq ?_
      refine VC.region ?_
      refine Ops.r (v := .int .i64 ((0 : Nat) : Int)) (Run.asg rfl) rfl ?_
      refine Ops.nil ?_
      refine thenQ_n ?_
      refine VC.block ?_
      refine VC.loop (σ := Nat) (fun s => [(2, .pointer (some ⟨g2, 0, none⟩)), (3, .pointer (some ⟨g3, 0, none⟩)), (5, .int .i64 ((s : Nat) : Int))]) (fun s wr => s ≤ v.path.length ∧ v.path.take s = u.path.take s ∧ Frm [] w2 wr) (fun s => v.path.length - s) 0 (.cons rfl (.cons rfl (.cons rfl .nil))) ⟨by omega, by simp, Frm.refl _ _⟩ ?_
      rintro i wr ⟨hi, heq, K0⟩
      have hb2 := hb20.frm K0 (by simp)
      have hb3 := hb30.frm K0 (by simp)
      refine VC.seq ?_
      refine VC.seq ?_
      refine VC.region ?_
      refine Ops.r (Run.mv rfl) rfl ?_
      refine Ops.r (Run.fieldAddr rfl Tryz.underlying38 rfl Tryz.sizeOf33 (by decide)) rfl ?_
      refine Ops.r (Run.load rfl Tryz.isAgg33 (show _ = some (Value.slice A v.path.length c) from hb2.cell 0)) rfl ?_
      refine Ops.r (Run.lenS rfl Tryz.underlying33) rfl ?_
      refine Ops.r (Run.bin rfl rfl (Bin.lssN _ _)) rfl ?_
      refine Ops.nil ?_
      refine thenQ_n ?_
      refine VC.sub [(2, _), (3, _), (5, _), (34, _)] (.cons rfl (.cons rfl (.cons rfl (.cons rfl .nil)))) ?_
      refine VC.condD rfl (fun hc2 => ?_) (fun hc2 => ?_)
      · skip
        obtain ⟨ad1, rfl, _⟩ := PI_at (hp.frm K0 (by simp)) hc2
        obtain ⟨ad2, rfl, _⟩ := PI_at (hq.frm K0 (by simp)) (show i < u.path.length by omega)
        have hg1 := fun {w0 : World} (k : Frm [] w2 w0) => PI_get (hp.frm k (by simp)) hc2
        have hg2 := fun {w0 : World} (k : Frm [] w2 w0) => PI_get (hq.frm k (by simp)) (show i < u.path.length by omega)
        have ht1 := take_snoc hc2
        have ht2 := take_snoc (show i < u.path.length by omega)
        refine VC.skip ?_
        refine thenQ_n ?_
        refine VC.sub [(2, _), (3, _), (5, _)] (.cons rfl (.cons rfl (.cons rfl .nil))) ?_
        refine VC.seq ?_
        refine VC.block ?_
        refine VC.seq ?_
        refine VC.held (fun V => Frm [] wr V) (by kernel_rfl) ?_
        have hS : Frm [] wr wr.drew := (Frm.refl [] wr).drew
        refine HOps.take 0 rfl (by kernel_rfl) (by kernel_rfl) (by kernel_rfl) hS (fun w0 hw0 => Run.fieldAddr rfl Tryz.underlying38 rfl Tryz.sizeOf33 (by decide)) trivial rfl rfl ?_
        refine HOps.take 1 rfl (by kernel_rfl) (by kernel_rfl) (by kernel_rfl) hS (fun w0 hw0 => Run.load rfl Tryz.isAgg33 (show _ = some (Value.slice (some ad1) v.path.length c) from (hb2.frm hw0 (by simp)).cell 0)) trivial rfl rfl ?_
        refine HOps.take 2 rfl (by kernel_rfl) (by kernel_rfl) (by kernel_rfl) hS (fun w0 hw0 => Run.mv rfl) trivial rfl rfl ?_
        refine HOps.take 3 rfl (by kernel_rfl) (by kernel_rfl) (by kernel_rfl) hS (fun w0 hw0 => Run.indexS i rfl rfl Tryz.underlying33 Tryz.sizeOf3 hc2) trivial rfl rfl ?_
        refine HOps.take 4 rfl (by kernel_rfl) (by kernel_rfl) (by kernel_rfl) hS (fun w0 hw0 => Run.load rfl Tryz.isAgg3 (hg1 (K0.trans hw0 (by simp)))) trivial rfl rfl ?_
        refine HOps.take 5 rfl (by kernel_rfl) (by kernel_rfl) (by kernel_rfl) hS (fun w0 hw0 => Run.fieldAddr rfl Tryz.underlying38 rfl Tryz.sizeOf33 (by decide)) trivial rfl rfl ?_
        refine HOps.take 6 rfl (by kernel_rfl) (by kernel_rfl) (by kernel_rfl) hS (fun w0 hw0 => Run.load rfl Tryz.isAgg33 (show _ = some (Value.slice (some ad2) u.path.length d) from (hb3.frm hw0 (by simp)).cell 0)) trivial rfl rfl ?_
        refine HOps.take 7 rfl (by kernel_rfl) (by kernel_rfl) (by kernel_rfl) hS (fun w0 hw0 => Run.mv rfl) trivial rfl rfl ?_
        refine HOps.take 8 rfl (by kernel_rfl) (by kernel_rfl) (by kernel_rfl) hS (fun w0 hw0 => Run.indexS i rfl rfl Tryz.underlying33 Tryz.sizeOf3 (by omega)) trivial rfl rfl ?_
        refine HOps.take 9 rfl (by kernel_rfl) (by kernel_rfl) (by kernel_rfl) hS (fun w0 hw0 => Run.load rfl Tryz.isAgg3 (hg2 (K0.trans hw0 (by simp)))) trivial rfl rfl ?_
        refine HOps.take 10 rfl (by kernel_rfl) (by kernel_rfl) (by kernel_rfl) hS (fun w0 hw0 => Run.bin rfl rfl (Bin.neq _ _)) trivial rfl rfl ?_
        refine HOps.done (by kernel_rfl) ?_
        refine thenQ_n ?_
        refine VC.sub [(2, _), (3, _), (5, _), (47, _)] (.cons rfl (.cons rfl (.cons rfl (.cons rfl .nil)))) ?_
        refine VC.condD rfl (fun hc3 => ?_) (fun hc3 => ?_)
        · skip
          have hne : v.path ≠ u.path := fun h => by have h2 := hc3; simp [h] at h2
          refine VC.seq ?_
          refine VC.region ?_
          refine Ops.r (Run.asg rfl) rfl ?_
          refine Ops.nil ?_
          refine thenQ_n ?_
          refine VC.sub [(4, _)] (.cons rfl .nil) ?_
          refine VC.ret ?_
          refine blockQ_r (thenQ_r (thenQ_r (blockQ_r (thenQ_r (end1 rfl ?_)))))
          exact ⟨by rw [decide_eq_false (show ¬ SameW v u from fun h => hne h.2.1)], K.trans (K0.drew) (by simp)⟩
        · skip
          refine VC.skip ?_
          refine blockQ_n (thenQ_n ?_)
          refine VC.sub [(2, _), (3, _), (5, _)] (.cons rfl (.cons rfl (.cons rfl .nil))) ?_
          refine VC.region ?_
          refine Ops.r (Run.mv rfl) rfl ?_
          refine Ops.r (Run.bin rfl rfl (Bin.add_i64 _ 1 (by omega))) rfl ?_
          refine Ops.r (Run.asg rfl) rfl ?_
          refine Ops.nil ?_
          refine thenQ_n ⟨(i + 1), (.cons rfl (.cons rfl (.cons rfl .nil))), ?_, ?_⟩
          · skip
            have hxy : v.path[i] = u.path[i] := by have h2 := hc3; simpa using h2
            exact ⟨by omega, by rw [ht1, ht2, heq, hxy], (K0.drew)⟩
          · skip
            first | omega | (dsimp only; omega)
      · skip
        have hep : v.path = u.path := by
          have hil : i = v.path.length := by omega
          rw [hil, List.take_length, e2, List.take_length] at heq
          exact heq
        refine VC.exit ?_
        refine thenQ_x (thenQ_x (blockQ_x ?_))
        refine thenQ_n ?_
        refine VC.sub [(2, _), (3, _)] (.cons rfl (.cons rfl .nil)) ?_
        refine VC.seq ?_
        refine VC.seq ?_
        refine VC.region ?_
        refine Ops.r (v := .int .i64 ((0 : Nat) : Int)) (Run.asg rfl) rfl ?_
        refine Ops.nil ?_
        refine thenQ_n ?_
        refine VC.block ?_
        refine VC.loop (σ := Nat) (fun s => [(2, .pointer (some ⟨g2, 0, none⟩)), (3, .pointer (some ⟨g3, 0, none⟩)), (6, .int .i64 ((s : Nat) : Int))]) (fun s wr => s ≤ v.names.length ∧ v.names.take s = u.names.take s ∧ Frm [] w2 wr) (fun s => v.names.length - s) 0 (.cons rfl (.cons rfl (.cons rfl .nil))) ⟨by omega, by simp, K0⟩ ?_
        rintro i wr ⟨hi, heq, K0⟩
        have hb2 := hb20.frm K0 (by simp)
        have hb3 := hb30.frm K0 (by simp)
        refine VC.seq ?_
        refine VC.seq ?_
        refine VC.region ?_
        refine Ops.r (Run.mv rfl) rfl ?_
        refine Ops.r (Run.fieldAddr rfl Tryz.underlying38 rfl Tryz.sizeOf36 (by decide)) rfl ?_
        refine Ops.r (Run.load rfl Tryz.isAgg36 (show _ = some (Value.slice N v.names.length nc) from hb2.cell 2)) rfl ?_
        refine Ops.r (Run.lenS rfl Tryz.underlying36) rfl ?_
        refine Ops.r (Run.bin rfl rfl (Bin.lssN _ _)) rfl ?_
        refine Ops.nil ?_
        refine thenQ_n ?_
        refine VC.sub [(2, _), (3, _), (6, _), (52, _)] (.cons rfl (.cons rfl (.cons rfl (.cons rfl .nil)))) ?_
        refine VC.condD rfl (fun hc4 => ?_) (fun hc4 => ?_)
        · skip
          obtain ⟨ad1, rfl, _⟩ := SB_at1 (hn.frm K0 (by simp)) hc4
          obtain ⟨ad2, rfl, _⟩ := SB_at1 (hm.frm K0 (by simp)) (show i < u.names.length by omega)
          have hg1 := fun {w0 : World} (k : Frm [] w2 w0) => SB_get1 (hn.frm k (by simp)) hc4
          have hg2 := fun {w0 : World} (k : Frm [] w2 w0) => SB_get1 (hm.frm k (by simp)) (show i < u.names.length by omega)
          have ht1 := take_snoc hc4
          have ht2 := take_snoc (show i < u.names.length by omega)
          refine VC.skip ?_
          refine thenQ_n ?_
          refine VC.sub [(2, _), (3, _), (6, _)] (.cons rfl (.cons rfl (.cons rfl .nil))) ?_
          refine VC.seq ?_
          refine VC.block ?_
          refine VC.seq ?_
          refine VC.held (fun V => Frm [] wr V) (by kernel_rfl) ?_
          have hS : Frm [] wr wr.drew := (Frm.refl [] wr).drew
          refine HOps.take 0 rfl (by kernel_rfl) (by kernel_rfl) (by kernel_rfl) hS (fun w0 hw0 => Run.fieldAddr rfl Tryz.underlying38 rfl Tryz.sizeOf36 (by decide)) trivial rfl rfl ?_
          refine HOps.take 1 rfl (by kernel_rfl) (by kernel_rfl) (by kernel_rfl) hS (fun w0 hw0 => Run.load rfl Tryz.isAgg36 (show _ = some (Value.slice (some ad1) v.names.length nc) from (hb2.frm hw0 (by simp)).cell 2)) trivial rfl rfl ?_
          refine HOps.take 2 rfl (by kernel_rfl) (by kernel_rfl) (by kernel_rfl) hS (fun w0 hw0 => Run.mv rfl) trivial rfl rfl ?_
          refine HOps.take 3 rfl (by kernel_rfl) (by kernel_rfl) (by kernel_rfl) hS (fun w0 hw0 => Run.indexS i rfl rfl Tryz.underlying36 Tryz.sizeOf9 hc4) trivial rfl rfl ?_
          refine HOps.take 4 rfl (by kernel_rfl) (by kernel_rfl) (by kernel_rfl) hS (fun w0 hw0 => Run.load rfl Tryz.isAgg9 (hg1 (K0.trans hw0 (by simp)))) trivial rfl rfl ?_
          refine HOps.take 5 rfl (by kernel_rfl) (by kernel_rfl) (by kernel_rfl) hS (fun w0 hw0 => Run.fieldAddr rfl Tryz.underlying38 rfl Tryz.sizeOf36 (by decide)) trivial rfl rfl ?_
          refine HOps.take 6 rfl (by kernel_rfl) (by kernel_rfl) (by kernel_rfl) hS (fun w0 hw0 => Run.load rfl Tryz.isAgg36 (show _ = some (Value.slice (some ad2) u.names.length mc) from (hb3.frm hw0 (by simp)).cell 2)) trivial rfl rfl ?_
          refine HOps.take 7 rfl (by kernel_rfl) (by kernel_rfl) (by kernel_rfl) hS (fun w0 hw0 => Run.mv rfl) trivial rfl rfl ?_
          refine HOps.take 8 rfl (by kernel_rfl) (by kernel_rfl) (by kernel_rfl) hS (fun w0 hw0 => Run.indexS i rfl rfl Tryz.underlying36 Tryz.sizeOf9 (by omega)) trivial rfl rfl ?_
          refine HOps.take 9 rfl (by kernel_rfl) (by kernel_rfl) (by kernel_rfl) hS (fun w0 hw0 => Run.load rfl Tryz.isAgg9 (hg2 (K0.trans hw0 (by simp)))) trivial rfl rfl ?_
          refine HOps.take 10 rfl (by kernel_rfl) (by kernel_rfl) (by kernel_rfl) hS (fun w0 hw0 => Run.neqT rfl rfl) trivial rfl rfl ?_
          refine HOps.done (by kernel_rfl) ?_
          refine thenQ_n ?_
          refine VC.sub [(2, _), (3, _), (6, _), (65, _)] (.cons rfl (.cons rfl (.cons rfl (.cons rfl .nil)))) ?_
          refine VC.condD rfl (fun hc5 => ?_) (fun hc5 => ?_)
          · skip
            have hne : v.names ≠ u.names := fun h => by have h2 := hc5; simp [h] at h2
            refine VC.seq ?_
            refine VC.region ?_
            refine Ops.r (Run.asg rfl) rfl ?_
            refine Ops.nil ?_
            refine thenQ_n ?_
            refine VC.sub [(4, _)] (.cons rfl .nil) ?_
            refine VC.ret ?_
            refine blockQ_r (thenQ_r (thenQ_r (blockQ_r (thenQ_r (end1 rfl ?_)))))
            exact ⟨by rw [decide_eq_false (show ¬ SameW v u from fun h => hne h.2.2)], K.trans (K0.drew) (by simp)⟩
          · skip
            refine VC.skip ?_
            refine blockQ_n (thenQ_n ?_)
            refine VC.sub [(2, _), (3, _), (6, _)] (.cons rfl (.cons rfl (.cons rfl .nil))) ?_
            refine VC.region ?_
            refine Ops.r (Run.mv rfl) rfl ?_
            refine Ops.r (Run.bin rfl rfl (Bin.add_i64 _ 1 (by omega))) rfl ?_
            refine Ops.r (Run.asg rfl) rfl ?_
            refine Ops.nil ?_
            refine thenQ_n ⟨(i + 1), (.cons rfl (.cons rfl (.cons rfl .nil))), ?_, ?_⟩
            · skip
              have hxy : v.names[i] = u.names[i] := by have h2 := hc5; simpa using h2
              exact ⟨by omega, by rw [ht1, ht2, heq, hxy], (K0.drew)⟩
            · skip
              first | omega | (dsimp only; omega)
        · skip
          have hen : v.names = u.names := by
            have hil : i = v.names.length := by omega
            rw [hil, List.take_length, e3, List.take_length] at heq
            exact heq
          refine VC.exit ?_
          refine thenQ_x (thenQ_x (blockQ_x ?_))
          refine thenQ_n ?_
          refine VC.sub [] .nil ?_
          refine VC.seq ?_
          refine VC.region ?_
          refine Ops.r (Run.asg rfl) rfl ?_
          refine Ops.nil ?_
          refine thenQ_n ?_
          refine VC.ret ?_
          refine end1 rfl ?_
          exact ⟨by rw [decide_eq_true (show SameW v u from ⟨e1, hep, hen⟩)], K.trans K0 (by simp)⟩

end Go.Proofs.YtenbjndldenkfaaGreatDoor
