/-
  The walks of date: may a date be; the document's.
-/
import Derived.Test.YtmfglifjnoilnaaDateW
namespace Go.Proofs.Ytmfglifjnoilnaa
open Go.RowKit

theorem civ_ok {n : Int} {y m d k : Nat} (h : ((n < -719162 ∨ 2932896 < n) ∧ y = 0 ∧ m = 0 ∧ d = 0 ∧ k = 4) ∨ (¬ (n < -719162 ∨ 2932896 < n) ∧ k = 0 ∧ CivOf n y m d)) : k = 0 ↔ (-719162 ≤ n ∧ n ≤ 2932896) := by
  rcases h with ⟨h1, _, _, _, h2⟩ | ⟨h1, h2, _⟩ <;> omega
theorem date_ok_iff {a b : Int} (h1 : -1439 ≤ b) (h2 : b ≤ 1439) : (-719162 ≤ (a + 60 * b) / 86400 ∧ (a + 60 * b) / 86400 ≤ 2932896) ↔ DateOk a b := by
  unfold DateOk
  omega

set_option maxRecDepth 100000 in
theorem local_spec (a b : Int) (w : World) (h1 : -1439 ≤ b) (h2 : b ≤ 1439) (h3 : -1099511627776 ≤ a) (h4 : a ≤ 1099511627776) : Calls Try.prog 67 #[.agg #[.int .i64 a, .int .i64 b]] w fun e w' => e = .returned (.int .i64 (a + 60 * b)) ∧ Frm [] w w' := by
  refine VC.calls (nt := 9) (res := #[.tmp 2]) Try.func67 rfl Try.ntmps67 Try.results67 rfl ?_
  refine VC.seq ?_
  refine VC.region ?_
  refine Ops.m (Does.box rfl) rfl ?_
  rintro _ w1 ⟨rfl, hF1⟩
  have hb1 := hF1.blk
  have hf1 := hF1.frm
  generalize hg1 : w.heap.size = g1 at *
  refine Ops.r (v := .int .i64 ((0 : Nat) : Int)) (Run.asg rfl) rfl ?_
  refine Ops.nil ?_
  refine thenQ_n ?_
  refine VC.sub [(1, _)] (.cons rfl .nil) ?_
  refine VC.seq ?_
  refine VC.region ?_
  refine Ops.r (Run.fieldAddr rfl Try.underlying42 rfl Try.sizeOf2 (by decide)) rfl ?_
  refine Ops.r (Run.load rfl Try.isAgg2 (hb1.cell 0)) rfl ?_
  refine Ops.r (Run.fieldAddr rfl Try.underlying42 rfl Try.sizeOf3 (by decide)) rfl ?_
  refine Ops.r (Run.load rfl Try.isAgg3 (hb1.cell 1)) rfl ?_
  refine Ops.r (Run.bin rfl rfl (Bin.mulZ 60 _ (by omega) (by omega))) rfl ?_
  refine Ops.r (Run.bin rfl rfl (Bin.addZ _ _ (by omega) (by omega))) rfl ?_
  refine Ops.r (Run.asg rfl) rfl ?_
  refine Ops.nil ?_
  refine thenQ_n ?_
  refine VC.sub [(2, _)] (.cons rfl .nil) ?_
  refine VC.ret ?_
  refine end1 rfl ?_
  exact ⟨rfl, hf1⟩

set_option maxRecDepth 100000 in
theorem dmay_spec (a b : Int) (w : World) : Calls Try.prog 51 #[.agg #[.int .i64 a, .int .i64 b]] w fun e w' => e = .returned (.bool (decide (DateOk a b))) ∧ Frm [] w w' := by
  refine VC.calls (nt := 42) (res := #[.tmp 2]) Try.func51 rfl Try.ntmps51 Try.results51 rfl ?_
  refine VC.seq ?_
  refine VC.region ?_
  refine Ops.m (Does.box rfl) rfl ?_
  rintro _ w1 ⟨rfl, hF1⟩
  have hb1 := hF1.blk
  have hf1 := hF1.frm
  generalize hg1 : w.heap.size = g1 at *
  refine Ops.r (Run.asg rfl) rfl ?_
  refine Ops.nil ?_
  refine thenQ_n ?_
  refine VC.sub [(1, _)] (.cons rfl .nil) ?_
  refine VC.seq ?_
  refine VC.seq ?_
  refine VC.split1 [(1, _)] (.cons rfl .nil) 26 (.bool (decide (b < -1439 ∨ 1439 < b ∨ 1099511627776 < a ∨ a < -1099511627776))) ?_ ?_
  · refine VC.region ?_
    refine Ops.r (Run.fieldAddr rfl Try.underlying42 rfl Try.sizeOf3 (by decide)) rfl ?_
    refine Ops.r (Run.load rfl Try.isAgg3 (hb1.cell 1)) rfl ?_
    refine Ops.r (Run.bin rfl rfl (Bin.lss _ (-1439))) rfl ?_
    by_cases hs11 : b < -1439
    · skip
      refine Ops.r (Run.mv rfl) rfl ?_
      refine Ops.sk rfl (by first | rfl | assumption | exact decide_eq_true (by assumption) | exact decide_eq_false (by assumption) | decide | (simp; done) | (simp; omega) | (simp [*]; done)) rfl ?_
      refine Ops.sk rfl (by first | rfl | assumption | exact decide_eq_true (by assumption) | exact decide_eq_false (by assumption) | decide | (simp; done) | (simp; omega) | (simp [*]; done)) rfl ?_
      refine Ops.sk rfl (by first | rfl | assumption | exact decide_eq_true (by assumption) | exact decide_eq_false (by assumption) | decide | (simp; done) | (simp; omega) | (simp [*]; done)) rfl ?_
      refine Ops.r (Run.pickT rfl rfl (by first | rfl | assumption | exact decide_eq_true (by assumption) | exact decide_eq_false (by assumption) | decide | (simp; done) | (simp; omega) | (simp [*]; done))) rfl ?_
      refine Ops.r (Run.mv rfl) rfl ?_
      refine Ops.sk rfl (by first | rfl | assumption | exact decide_eq_true (by assumption) | exact decide_eq_false (by assumption) | decide | (simp; done) | (simp; omega) | (simp [*]; done)) rfl ?_
      refine Ops.sk rfl (by first | rfl | assumption | exact decide_eq_true (by assumption) | exact decide_eq_false (by assumption) | decide | (simp; done) | (simp; omega) | (simp [*]; done)) rfl ?_
      refine Ops.sk rfl (by first | rfl | assumption | exact decide_eq_true (by assumption) | exact decide_eq_false (by assumption) | decide | (simp; done) | (simp; omega) | (simp [*]; done)) rfl ?_
      refine Ops.r (Run.pickT rfl rfl (by first | rfl | assumption | exact decide_eq_true (by assumption) | exact decide_eq_false (by assumption) | decide | (simp; done) | (simp; omega) | (simp [*]; done))) rfl ?_
      refine Ops.r (Run.mv rfl) rfl ?_
      refine Ops.sk rfl (by first | rfl | assumption | exact decide_eq_true (by assumption) | exact decide_eq_false (by assumption) | decide | (simp; done) | (simp; omega) | (simp [*]; done)) rfl ?_
      refine Ops.sk rfl (by first | rfl | assumption | exact decide_eq_true (by assumption) | exact decide_eq_false (by assumption) | decide | (simp; done) | (simp; omega) | (simp [*]; done)) rfl ?_
      refine Ops.sk rfl (by first | rfl | assumption | exact decide_eq_true (by assumption) | exact decide_eq_false (by assumption) | decide | (simp; done) | (simp; omega) | (simp [*]; done)) rfl ?_
      refine Ops.r (Run.pickT rfl rfl (by first | rfl | assumption | exact decide_eq_true (by assumption) | exact decide_eq_false (by assumption) | decide | (simp; done) | (simp; omega) | (simp [*]; done))) rfl ?_
      refine Ops.nil ?_
      refine thenQ_n ⟨(.cons (congrArg (fun b => some (Value.bool b)) (Eq.symm (by simp [*]))) (.cons rfl .nil)), rfl⟩
    · skip
      refine Ops.r (Run.mv rfl) rfl ?_
      refine Ops.rg rfl (by first | rfl | assumption | exact decide_eq_true (by assumption) | exact decide_eq_false (by assumption) | decide | (simp; done) | (simp; omega) | (simp [*]; done)) (Run.fieldAddr rfl Try.underlying42 rfl Try.sizeOf3 (by decide)) rfl ?_
      refine Ops.rg rfl (by first | rfl | assumption | exact decide_eq_true (by assumption) | exact decide_eq_false (by assumption) | decide | (simp; done) | (simp; omega) | (simp [*]; done)) (Run.load rfl Try.isAgg3 (hb1.cell 1)) rfl ?_
      refine Ops.rg rfl (by first | rfl | assumption | exact decide_eq_true (by assumption) | exact decide_eq_false (by assumption) | decide | (simp; done) | (simp; omega) | (simp [*]; done)) (Run.bin rfl rfl (Bin.gtr _ 1439)) rfl ?_
      by_cases hs15 : 1439 < b
      · skip
        refine Ops.r (Run.pickF rfl rfl (by first | rfl | assumption | exact decide_eq_true (by assumption) | exact decide_eq_false (by assumption) | decide | (simp; done) | (simp; omega) | (simp [*]; done))) rfl ?_
        refine Ops.r (Run.mv rfl) rfl ?_
        refine Ops.sk rfl (by first | rfl | assumption | exact decide_eq_true (by assumption) | exact decide_eq_false (by assumption) | decide | (simp; done) | (simp; omega) | (simp [*]; done)) rfl ?_
        refine Ops.sk rfl (by first | rfl | assumption | exact decide_eq_true (by assumption) | exact decide_eq_false (by assumption) | decide | (simp; done) | (simp; omega) | (simp [*]; done)) rfl ?_
        refine Ops.sk rfl (by first | rfl | assumption | exact decide_eq_true (by assumption) | exact decide_eq_false (by assumption) | decide | (simp; done) | (simp; omega) | (simp [*]; done)) rfl ?_
        refine Ops.r (Run.pickT rfl rfl (by first | rfl | assumption | exact decide_eq_true (by assumption) | exact decide_eq_false (by assumption) | decide | (simp; done) | (simp; omega) | (simp [*]; done))) rfl ?_
        refine Ops.r (Run.mv rfl) rfl ?_
        refine Ops.sk rfl (by first | rfl | assumption | exact decide_eq_true (by assumption) | exact decide_eq_false (by assumption) | decide | (simp; done) | (simp; omega) | (simp [*]; done)) rfl ?_
        refine Ops.sk rfl (by first | rfl | assumption | exact decide_eq_true (by assumption) | exact decide_eq_false (by assumption) | decide | (simp; done) | (simp; omega) | (simp [*]; done)) rfl ?_
        refine Ops.sk rfl (by first | rfl | assumption | exact decide_eq_true (by assumption) | exact decide_eq_false (by assumption) | decide | (simp; done) | (simp; omega) | (simp [*]; done)) rfl ?_
        refine Ops.r (Run.pickT rfl rfl (by first | rfl | assumption | exact decide_eq_true (by assumption) | exact decide_eq_false (by assumption) | decide | (simp; done) | (simp; omega) | (simp [*]; done))) rfl ?_
        refine Ops.nil ?_
        refine thenQ_n ⟨(.cons (congrArg (fun b => some (Value.bool b)) (Eq.symm (by simp [*]))) (.cons rfl .nil)), rfl⟩
      · skip
        refine Ops.r (Run.pickF rfl rfl (by first | rfl | assumption | exact decide_eq_true (by assumption) | exact decide_eq_false (by assumption) | decide | (simp; done) | (simp; omega) | (simp [*]; done))) rfl ?_
        refine Ops.r (Run.mv rfl) rfl ?_
        refine Ops.rg rfl (by first | rfl | assumption | exact decide_eq_true (by assumption) | exact decide_eq_false (by assumption) | decide | (simp; done) | (simp; omega) | (simp [*]; done)) (Run.fieldAddr rfl Try.underlying42 rfl Try.sizeOf2 (by decide)) rfl ?_
        refine Ops.rg rfl (by first | rfl | assumption | exact decide_eq_true (by assumption) | exact decide_eq_false (by assumption) | decide | (simp; done) | (simp; omega) | (simp [*]; done)) (Run.load rfl Try.isAgg2 (hb1.cell 0)) rfl ?_
        refine Ops.rg rfl (by first | rfl | assumption | exact decide_eq_true (by assumption) | exact decide_eq_false (by assumption) | decide | (simp; done) | (simp; omega) | (simp [*]; done)) (Run.bin rfl rfl (Bin.gtr _ 1099511627776)) rfl ?_
        by_cases hs20 : 1099511627776 < a
        · skip
          refine Ops.r (Run.pickF rfl rfl (by first | rfl | assumption | exact decide_eq_true (by assumption) | exact decide_eq_false (by assumption) | decide | (simp; done) | (simp; omega) | (simp [*]; done))) rfl ?_
          refine Ops.r (Run.mv rfl) rfl ?_
          refine Ops.sk rfl (by first | rfl | assumption | exact decide_eq_true (by assumption) | exact decide_eq_false (by assumption) | decide | (simp; done) | (simp; omega) | (simp [*]; done)) rfl ?_
          refine Ops.sk rfl (by first | rfl | assumption | exact decide_eq_true (by assumption) | exact decide_eq_false (by assumption) | decide | (simp; done) | (simp; omega) | (simp [*]; done)) rfl ?_
          refine Ops.sk rfl (by first | rfl | assumption | exact decide_eq_true (by assumption) | exact decide_eq_false (by assumption) | decide | (simp; done) | (simp; omega) | (simp [*]; done)) rfl ?_
          refine Ops.r (Run.pickT rfl rfl (by first | rfl | assumption | exact decide_eq_true (by assumption) | exact decide_eq_false (by assumption) | decide | (simp; done) | (simp; omega) | (simp [*]; done))) rfl ?_
          refine Ops.nil ?_
          refine thenQ_n ⟨(.cons (congrArg (fun b => some (Value.bool b)) (Eq.symm (by simp [*]))) (.cons rfl .nil)), rfl⟩
        · skip
          refine Ops.r (Run.pickF rfl rfl (by first | rfl | assumption | exact decide_eq_true (by assumption) | exact decide_eq_false (by assumption) | decide | (simp; done) | (simp; omega) | (simp [*]; done))) rfl ?_
          refine Ops.r (Run.mv rfl) rfl ?_
          refine Ops.rg rfl (by first | rfl | assumption | exact decide_eq_true (by assumption) | exact decide_eq_false (by assumption) | decide | (simp; done) | (simp; omega) | (simp [*]; done)) (Run.fieldAddr rfl Try.underlying42 rfl Try.sizeOf2 (by decide)) rfl ?_
          refine Ops.rg rfl (by first | rfl | assumption | exact decide_eq_true (by assumption) | exact decide_eq_false (by assumption) | decide | (simp; done) | (simp; omega) | (simp [*]; done)) (Run.load rfl Try.isAgg2 (hb1.cell 0)) rfl ?_
          refine Ops.rg rfl (by first | rfl | assumption | exact decide_eq_true (by assumption) | exact decide_eq_false (by assumption) | decide | (simp; done) | (simp; omega) | (simp [*]; done)) (Run.bin rfl rfl (Bin.lss _ (-1099511627776))) rfl ?_
          by_cases hs25 : a < -1099511627776
          · skip
            refine Ops.r (Run.pickF rfl rfl (by first | rfl | assumption | exact decide_eq_true (by assumption) | exact decide_eq_false (by assumption) | decide | (simp; done) | (simp; omega) | (simp [*]; done))) rfl ?_
            refine Ops.nil ?_
            refine thenQ_n ⟨(.cons (congrArg (fun b => some (Value.bool b)) (Eq.symm (by simp [*]))) (.cons rfl .nil)), rfl⟩
          · skip
            refine Ops.r (Run.pickF rfl rfl (by first | rfl | assumption | exact decide_eq_true (by assumption) | exact decide_eq_false (by assumption) | decide | (simp; done) | (simp; omega) | (simp [*]; done))) rfl ?_
            refine Ops.nil ?_
            refine thenQ_n ⟨(.cons (congrArg (fun b => some (Value.bool b)) (Eq.symm (by simp [*]))) (.cons rfl .nil)), rfl⟩
  · intro Γ hΓ
    refine thenQ_n (VC.sub _ hΓ ?_)
    refine VC.condD rfl (fun hc1 => ?_) (fun hc1 => ?_)
    · skip
      refine VC.seq ?_
      refine VC.region ?_
      refine Ops.r (Run.asg rfl) rfl ?_
      refine Ops.nil ?_
      refine thenQ_n ?_
      refine VC.sub [(2, _)] (.cons rfl .nil) ?_
      refine VC.ret ?_
      refine thenQ_r (end1 rfl ?_)
      exact ⟨by rw [decide_eq_false (by unfold DateOk; omega)], hf1⟩
    · skip
      refine VC.skip ?_
      refine thenQ_n ?_
      refine VC.sub [(1, _)] (.cons rfl .nil) ?_
      refine VC.seq ?_
      refine VC.region ?_
      refine Ops.r (Run.loadA rfl Try.isAgg42 Try.sizeOf42 (fun j v hj => hb1.cells j v hj) (by first | rfl | (simp; done))) rfl ?_
      refine Ops.cl (Enters.fn (evs.cons rfl evs.nil) Try.call67) (local_spec a b _ (by omega) (by omega) (by omega) (by omega)) rfl ?_
      rintro e w2 ⟨rfl, hf2⟩
      refine ⟨_, rfl, ?_⟩
      have hfr2 := hf1.trans hf2 (by simp)
      refine Ops.cl (Enters.fn (evs.cons rfl evs.nil) Try.call66) (split_spec (a + 60 * b) _ (by omega) (by omega)) rfl ?_
      rintro e _ ⟨rfl, rfl⟩
      refine ⟨_, rfl, ?_⟩
      refine Ops.r (Run.mv rfl) rfl ?_
      refine Ops.r (Run.extract rfl rfl) rfl ?_
      refine Ops.r (Run.extract rfl rfl) rfl ?_
      refine Ops.r (Run.asg rfl) rfl ?_
      refine Ops.r (Run.asg rfl) rfl ?_
      refine Ops.nil ?_
      refine thenQ_n ?_
      refine VC.sub [(3, _)] (.cons rfl .nil) ?_
      refine VC.seq ?_
      refine VC.region ?_
      refine Ops.r (Run.mv rfl) rfl ?_
      refine Ops.cl (Enters.fn (evs.cons rfl evs.nil) Try.call68) (civil_spec ((a + 60 * b) / 86400) _) rfl ?_
      rintro e _ ⟨rfl, y, m, d, k, rfl, hk⟩
      refine ⟨_, rfl, ?_⟩
      refine Ops.r (Run.mv rfl) rfl ?_
      refine Ops.r (Run.extract rfl rfl) rfl ?_
      refine Ops.r (Run.extract rfl rfl) rfl ?_
      refine Ops.r (Run.extract rfl rfl) rfl ?_
      refine Ops.r (Run.extract rfl rfl) rfl ?_
      refine Ops.r (Run.asg rfl) rfl ?_
      refine Ops.r (Run.asg rfl) rfl ?_
      refine Ops.r (Run.asg rfl) rfl ?_
      refine Ops.r (Run.asg rfl) rfl ?_
      refine Ops.nil ?_
      refine thenQ_n ?_
      refine VC.sub [(8, _)] (.cons rfl .nil) ?_
      refine VC.seq ?_
      refine VC.region ?_
      refine Ops.r (Run.mv rfl) rfl ?_
      refine Ops.r (Run.bin rfl rfl (Bin.eqlN _ 0)) rfl ?_
      refine Ops.r (Run.asg rfl) rfl ?_
      refine Ops.nil ?_
      refine thenQ_n ?_
      refine VC.sub [(2, _)] (.cons rfl .nil) ?_
      refine VC.ret ?_
      refine end1 rfl ?_
      refine ⟨?_, hfr2⟩
      rw [show (decide (k = 0)) = decide (DateOk a b) from decide_eq_decide.2 ((civ_ok hk).trans (date_ok_iff (by omega) (by omega)))]

set_option maxRecDepth 100000 in
theorem rleap_spec (y : Nat) (w : World) : Calls Try.prog 88 #[.int .i64 ((y : Nat) : Int)] w fun e w' => e = .returned (.bool (decide (Leap y))) ∧ w = w' := by
  refine VC.calls (nt := 16) (res := #[.tmp 2]) Try.func88 rfl Try.ntmps88 Try.results88 rfl ?_
  refine VC.seq ?_
  refine VC.region ?_
  refine Ops.r (Run.asg rfl) rfl ?_
  refine Ops.nil ?_
  refine thenQ_n ?_
  refine VC.sub [(0, _)] (.cons rfl .nil) ?_
  refine VC.seq ?_
  refine VC.split1 [] .nil 2 (.bool (decide (Leap y))) ?_ ?_
  · refine VC.region ?_
    refine Ops.r (Run.mv rfl) rfl ?_
    refine Ops.r (Run.bin rfl rfl (Bin.remN _ 400 (by omega))) rfl ?_
    refine Ops.r (Run.bin rfl rfl (Bin.eqlN _ 0)) rfl ?_
    by_cases hs5 : y % 400 = 0
    · skip
      refine Ops.r (Run.mv rfl) rfl ?_
      refine Ops.sk rfl (by first | rfl | assumption | exact decide_eq_true (by assumption) | exact decide_eq_false (by assumption) | decide | (simp; done) | (simp; omega) | (simp [*]; done)) rfl ?_
      refine Ops.sk rfl (by first | rfl | assumption | exact decide_eq_true (by assumption) | exact decide_eq_false (by assumption) | decide | (simp; done) | (simp; omega) | (simp [*]; done)) rfl ?_
      refine Ops.sk rfl (by first | rfl | assumption | exact decide_eq_true (by assumption) | exact decide_eq_false (by assumption) | decide | (simp; done) | (simp; omega) | (simp [*]; done)) rfl ?_
      refine Ops.sk rfl (by first | rfl | assumption | exact decide_eq_true (by assumption) | exact decide_eq_false (by assumption) | decide | (simp; done) | (simp; omega) | (simp [*]; done)) rfl ?_
      refine Ops.skU rfl rfl ?_
      refine Ops.skU rfl rfl ?_
      refine Ops.skU rfl rfl ?_
      refine Ops.sk rfl (by first | rfl | assumption | exact decide_eq_true (by assumption) | exact decide_eq_false (by assumption) | decide | (simp; done) | (simp; omega) | (simp [*]; done)) rfl ?_
      refine Ops.r (Run.pickT rfl rfl (by first | rfl | assumption | exact decide_eq_true (by assumption) | exact decide_eq_false (by assumption) | decide | (simp; done) | (simp; omega) | (simp [*]; done))) rfl ?_
      refine Ops.r (Run.asg rfl) rfl ?_
      refine Ops.nil ?_
      refine thenQ_n ⟨(.cons (congrArg (fun b => some (Value.bool b)) (Eq.symm (by unfold Leap; simp [*]))) .nil), rfl⟩
    · skip
      refine Ops.r (Run.mv rfl) rfl ?_
      refine Ops.rg rfl (by first | rfl | assumption | exact decide_eq_true (by assumption) | exact decide_eq_false (by assumption) | decide | (simp; done) | (simp; omega) | (simp [*]; done)) (Run.mv rfl) rfl ?_
      refine Ops.rg rfl (by first | rfl | assumption | exact decide_eq_true (by assumption) | exact decide_eq_false (by assumption) | decide | (simp; done) | (simp; omega) | (simp [*]; done)) (Run.bin rfl rfl (Bin.remN _ 4 (by omega))) rfl ?_
      refine Ops.rg rfl (by first | rfl | assumption | exact decide_eq_true (by assumption) | exact decide_eq_false (by assumption) | decide | (simp; done) | (simp; omega) | (simp [*]; done)) (Run.bin rfl rfl (Bin.eqlN _ 0)) rfl ?_
      by_cases hs9 : y % 4 = 0
      · skip
        refine Ops.rg rfl (by first | rfl | assumption | exact decide_eq_true (by assumption) | exact decide_eq_false (by assumption) | decide | (simp; done) | (simp; omega) | (simp [*]; done)) (Run.mv rfl) rfl ?_
        refine Ops.rg rfl (by first | rfl | assumption | exact decide_eq_true (by assumption) | exact decide_eq_false (by assumption) | decide | (simp; done) | (simp; omega) | (simp [*]; done)) (Run.mv rfl) rfl ?_
        refine Ops.rg rfl (by first | rfl | assumption | exact decide_eq_true (by assumption) | exact decide_eq_false (by assumption) | decide | (simp; done) | (simp; omega) | (simp [*]; done)) (Run.bin rfl rfl (Bin.remN _ 100 (by omega))) rfl ?_
        refine Ops.rg rfl (by first | rfl | assumption | exact decide_eq_true (by assumption) | exact decide_eq_false (by assumption) | decide | (simp; done) | (simp; omega) | (simp [*]; done)) (Run.bin rfl rfl (Bin.neqN _ 0)) rfl ?_
        by_cases hs13 : y % 100 ≠ 0
        · skip
          refine Ops.rg rfl (by first | rfl | assumption | exact decide_eq_true (by assumption) | exact decide_eq_false (by assumption) | decide | (simp; done) | (simp; omega) | (simp [*]; done)) (Run.pickT rfl rfl (by first | rfl | assumption | exact decide_eq_true (by assumption) | exact decide_eq_false (by assumption) | decide | (simp; done) | (simp; omega) | (simp [*]; done))) rfl ?_
          refine Ops.r (Run.pickF rfl rfl (by first | rfl | assumption | exact decide_eq_true (by assumption) | exact decide_eq_false (by assumption) | decide | (simp; done) | (simp; omega) | (simp [*]; done))) rfl ?_
          refine Ops.r (Run.asg rfl) rfl ?_
          refine Ops.nil ?_
          refine thenQ_n ⟨(.cons (congrArg (fun b => some (Value.bool b)) (Eq.symm (by unfold Leap; simp [*]))) .nil), rfl⟩
        · skip
          refine Ops.rg rfl (by first | rfl | assumption | exact decide_eq_true (by assumption) | exact decide_eq_false (by assumption) | decide | (simp; done) | (simp; omega) | (simp [*]; done)) (Run.pickT rfl rfl (by first | rfl | assumption | exact decide_eq_true (by assumption) | exact decide_eq_false (by assumption) | decide | (simp; done) | (simp; omega) | (simp [*]; done))) rfl ?_
          refine Ops.r (Run.pickF rfl rfl (by first | rfl | assumption | exact decide_eq_true (by assumption) | exact decide_eq_false (by assumption) | decide | (simp; done) | (simp; omega) | (simp [*]; done))) rfl ?_
          refine Ops.r (Run.asg rfl) rfl ?_
          refine Ops.nil ?_
          refine thenQ_n ⟨(.cons (congrArg (fun b => some (Value.bool b)) (Eq.symm (by unfold Leap; simp [*]))) .nil), rfl⟩
      · skip
        refine Ops.rg rfl (by first | rfl | assumption | exact decide_eq_true (by assumption) | exact decide_eq_false (by assumption) | decide | (simp; done) | (simp; omega) | (simp [*]; done)) (Run.mv rfl) rfl ?_
        refine Ops.sk rfl (by first | rfl | assumption | exact decide_eq_true (by assumption) | exact decide_eq_false (by assumption) | decide | (simp; done) | (simp; omega) | (simp [*]; done)) rfl ?_
        refine Ops.sk rfl (by first | rfl | assumption | exact decide_eq_true (by assumption) | exact decide_eq_false (by assumption) | decide | (simp; done) | (simp; omega) | (simp [*]; done)) rfl ?_
        refine Ops.sk rfl (by first | rfl | assumption | exact decide_eq_true (by assumption) | exact decide_eq_false (by assumption) | decide | (simp; done) | (simp; omega) | (simp [*]; done)) rfl ?_
        refine Ops.rg rfl (by first | rfl | assumption | exact decide_eq_true (by assumption) | exact decide_eq_false (by assumption) | decide | (simp; done) | (simp; omega) | (simp [*]; done)) (Run.pickF rfl rfl (by first | rfl | assumption | exact decide_eq_true (by assumption) | exact decide_eq_false (by assumption) | decide | (simp; done) | (simp; omega) | (simp [*]; done))) rfl ?_
        refine Ops.r (Run.pickF rfl rfl (by first | rfl | assumption | exact decide_eq_true (by assumption) | exact decide_eq_false (by assumption) | decide | (simp; done) | (simp; omega) | (simp [*]; done))) rfl ?_
        refine Ops.r (Run.asg rfl) rfl ?_
        refine Ops.nil ?_
        refine thenQ_n ⟨(.cons (congrArg (fun b => some (Value.bool b)) (Eq.symm (by unfold Leap; simp [*]))) .nil), rfl⟩
  · intro Γ hΓ
    refine thenQ_n (VC.sub _ hΓ ?_)
    refine VC.ret ?_
    refine end1 rfl ?_
    exact ⟨rfl, rfl⟩

set_option maxRecDepth 100000 in
theorem whole_spec (y : Nat) (w : World) : Calls Try.prog 80 #[.int .i64 ((y : Nat) : Int)] w fun e w' => e = .returned (.int .i64 ((wholeN y : Nat) : Int)) ∧ w = w' := by
  refine VC.calls (nt := 5) (res := #[.tmp 2]) Try.func80 rfl Try.ntmps80 Try.results80 rfl ?_
  refine VC.seq ?_
  refine VC.region ?_
  refine Ops.r (v := .int .i64 ((0 : Nat) : Int)) (Run.asg rfl) rfl ?_
  refine Ops.nil ?_
  refine thenQ_n ?_
  refine VC.sub [(0, _)] (.cons rfl .nil) ?_
  refine VC.seq ?_
  refine VC.seq ?_
  refine VC.region ?_
  refine Ops.r (Run.mv rfl) rfl ?_
  refine Ops.cl (Enters.fn (evs.cons rfl evs.nil) Try.call88) (rleap_spec y _) rfl ?_
  rintro e _ ⟨rfl, rfl⟩
  refine ⟨_, rfl, ?_⟩
  refine Ops.nil ?_
  refine thenQ_n ?_
  refine VC.sub [(4, _)] (.cons rfl .nil) ?_
  refine VC.condB rfl (fun hc1 => ?_) (fun hc1 => ?_)
  · skip
    have hl : Leap y := by simpa using hc1
    refine VC.seq ?_
    refine VC.region ?_
    refine Ops.r (v := .int .i64 ((366 : Nat) : Int)) (Run.asg rfl) rfl ?_
    refine Ops.nil ?_
    refine thenQ_n ?_
    refine VC.sub [(2, _)] (.cons rfl .nil) ?_
    refine VC.ret ?_
    refine thenQ_r (end1 rfl ?_)
    exact ⟨by unfold wholeN; rw [if_pos hl], rfl⟩
  · skip
    have hl : ¬ Leap y := by simpa using hc1
    refine VC.skip ?_
    refine thenQ_n ?_
    refine VC.sub [] .nil ?_
    refine VC.seq ?_
    refine VC.region ?_
    refine Ops.r (v := .int .i64 ((365 : Nat) : Int)) (Run.asg rfl) rfl ?_
    refine Ops.nil ?_
    refine thenQ_n ?_
    refine VC.ret ?_
    refine end1 rfl ?_
    exact ⟨by unfold wholeN; rw [if_neg hl], rfl⟩

set_option maxRecDepth 100000 in
theorem rlong_spec (y m : Nat) (w : World) : Calls Try.prog 81 #[.int .i64 ((y : Nat) : Int), .int .i64 ((m : Nat) : Int)] w fun e w' => e = .returned (.int .i64 ((longN y m : Nat) : Int)) ∧ w = w' := by
  refine VC.calls (nt := 15) (res := #[.tmp 4]) Try.func81 rfl Try.ntmps81 Try.results81 rfl ?_
  refine VC.seq ?_
  refine VC.region ?_
  refine Ops.r (v := .int .i64 ((0 : Nat) : Int)) (Run.asg rfl) rfl ?_
  refine Ops.nil ?_
  refine thenQ_n ?_
  refine VC.sub [(0, _), (1, _)] (.cons rfl (.cons rfl .nil)) ?_
  refine VC.seq ?_
  refine VC.seq ?_
  refine VC.region ?_
  refine Ops.r (Run.mv rfl) rfl ?_
  refine Ops.nil ?_
  refine thenQ_n ?_
  refine VC.sub [(0, _), (5, _)] (.cons rfl (.cons rfl .nil)) ?_
  refine VC.block ?_
  refine VC.seq ?_
  refine VC.seq ?_
  refine VC.region ?_
  refine Ops.r (Run.bin rfl rfl (Bin.eqlN _ 4)) rfl ?_
  refine Ops.r (Run.asg rfl) rfl ?_
  refine Ops.nil ?_
  refine thenQ_n ?_
  refine VC.sub [(0, _), (5, _), (6, _)] (.cons rfl (.cons rfl (.cons rfl .nil))) ?_
  refine VC.condD rfl (fun hc1 => ?_) (fun hc1 => ?_)
  · skip
    refine VC.skip ?_
    refine thenQ_n ?_
    refine VC.condD rfl (fun hc4 => ?_) (fun hc4 => ?_)
    · skip
      refine VC.seq ?_
      refine VC.region ?_
      refine Ops.r (v := .int .i64 ((30 : Nat) : Int)) (Run.asg rfl) rfl ?_
      refine Ops.nil ?_
      refine thenQ_n ?_
      refine VC.sub [(4, _)] (.cons rfl .nil) ?_
      refine VC.ret ?_
      refine blockQ_r (thenQ_r (end1 rfl ?_))
      exact ⟨by unfold longN; simp_all, rfl⟩
    · skip
      refine VC.seq ?_
      refine VC.region ?_
      refine Ops.r (Run.bin rfl rfl (Bin.eqlN _ 2)) rfl ?_
      refine Ops.r (Run.asg rfl) rfl ?_
      refine Ops.nil ?_
      refine thenQ_n ?_
      refine VC.sub [(0, _), (11, _)] (.cons rfl (.cons rfl .nil)) ?_
      refine VC.condD rfl (fun hc5 => ?_) (fun hc5 => ?_)
      · skip
        refine VC.seq ?_
        refine VC.seq ?_
        refine VC.region ?_
        refine Ops.r (Run.mv rfl) rfl ?_
        refine Ops.cl (Enters.fn (evs.cons rfl evs.nil) Try.call88) (rleap_spec y _) rfl ?_
        rintro e _ ⟨rfl, rfl⟩
        refine ⟨_, rfl, ?_⟩
        refine Ops.nil ?_
        refine thenQ_n ?_
        refine VC.sub [(14, _)] (.cons rfl .nil) ?_
        refine VC.condB rfl (fun hc6 => ?_) (fun hc6 => ?_)
        · skip
          refine VC.seq ?_
          refine VC.region ?_
          refine Ops.r (v := .int .i64 ((29 : Nat) : Int)) (Run.asg rfl) rfl ?_
          refine Ops.nil ?_
          refine thenQ_n ?_
          refine VC.sub [(4, _)] (.cons rfl .nil) ?_
          refine VC.ret ?_
          refine thenQ_r (blockQ_r (thenQ_r (end1 rfl ?_)))
          exact ⟨by unfold longN; simp_all, rfl⟩
        · skip
          refine VC.skip ?_
          refine thenQ_n ?_
          refine VC.sub [] .nil ?_
          refine VC.seq ?_
          refine VC.region ?_
          refine Ops.r (v := .int .i64 ((28 : Nat) : Int)) (Run.asg rfl) rfl ?_
          refine Ops.nil ?_
          refine thenQ_n ?_
          refine VC.ret ?_
          refine blockQ_r (thenQ_r (end1 rfl ?_))
          exact ⟨by unfold longN; simp_all, rfl⟩
      · skip
        refine VC.skip ?_
        refine blockQ_n (thenQ_n ?_)
        refine VC.sub [] .nil ?_
        refine VC.seq ?_
        refine VC.region ?_
        refine Ops.r (v := .int .i64 ((31 : Nat) : Int)) (Run.asg rfl) rfl ?_
        refine Ops.nil ?_
        refine thenQ_n ?_
        refine VC.ret ?_
        refine end1 rfl ?_
        exact ⟨by unfold longN; simp_all, rfl⟩
  · skip
    refine VC.seq ?_
    refine VC.region ?_
    refine Ops.r (Run.bin rfl rfl (Bin.eqlN _ 6)) rfl ?_
    refine Ops.r (Run.asg rfl) rfl ?_
    refine Ops.nil ?_
    refine thenQ_n ?_
    refine VC.sub [(0, _), (5, _), (6, _)] (.cons rfl (.cons rfl (.cons rfl .nil))) ?_
    refine VC.condD rfl (fun hc2 => ?_) (fun hc2 => ?_)
    · skip
      refine VC.skip ?_
      refine thenQ_n ?_
      refine VC.condD rfl (fun hc4 => ?_) (fun hc4 => ?_)
      · skip
        refine VC.seq ?_
        refine VC.region ?_
        refine Ops.r (v := .int .i64 ((30 : Nat) : Int)) (Run.asg rfl) rfl ?_
        refine Ops.nil ?_
        refine thenQ_n ?_
        refine VC.sub [(4, _)] (.cons rfl .nil) ?_
        refine VC.ret ?_
        refine blockQ_r (thenQ_r (end1 rfl ?_))
        exact ⟨by unfold longN; simp_all, rfl⟩
      · skip
        refine VC.seq ?_
        refine VC.region ?_
        refine Ops.r (Run.bin rfl rfl (Bin.eqlN _ 2)) rfl ?_
        refine Ops.r (Run.asg rfl) rfl ?_
        refine Ops.nil ?_
        refine thenQ_n ?_
        refine VC.sub [(0, _), (11, _)] (.cons rfl (.cons rfl .nil)) ?_
        refine VC.condD rfl (fun hc5 => ?_) (fun hc5 => ?_)
        · skip
          refine VC.seq ?_
          refine VC.seq ?_
          refine VC.region ?_
          refine Ops.r (Run.mv rfl) rfl ?_
          refine Ops.cl (Enters.fn (evs.cons rfl evs.nil) Try.call88) (rleap_spec y _) rfl ?_
          rintro e _ ⟨rfl, rfl⟩
          refine ⟨_, rfl, ?_⟩
          refine Ops.nil ?_
          refine thenQ_n ?_
          refine VC.sub [(14, _)] (.cons rfl .nil) ?_
          refine VC.condB rfl (fun hc6 => ?_) (fun hc6 => ?_)
          · skip
            refine VC.seq ?_
            refine VC.region ?_
            refine Ops.r (v := .int .i64 ((29 : Nat) : Int)) (Run.asg rfl) rfl ?_
            refine Ops.nil ?_
            refine thenQ_n ?_
            refine VC.sub [(4, _)] (.cons rfl .nil) ?_
            refine VC.ret ?_
            refine thenQ_r (blockQ_r (thenQ_r (end1 rfl ?_)))
            exact ⟨by unfold longN; simp_all, rfl⟩
          · skip
            refine VC.skip ?_
            refine thenQ_n ?_
            refine VC.sub [] .nil ?_
            refine VC.seq ?_
            refine VC.region ?_
            refine Ops.r (v := .int .i64 ((28 : Nat) : Int)) (Run.asg rfl) rfl ?_
            refine Ops.nil ?_
            refine thenQ_n ?_
            refine VC.ret ?_
            refine blockQ_r (thenQ_r (end1 rfl ?_))
            exact ⟨by unfold longN; simp_all, rfl⟩
        · skip
          refine VC.skip ?_
          refine blockQ_n (thenQ_n ?_)
          refine VC.sub [] .nil ?_
          refine VC.seq ?_
          refine VC.region ?_
          refine Ops.r (v := .int .i64 ((31 : Nat) : Int)) (Run.asg rfl) rfl ?_
          refine Ops.nil ?_
          refine thenQ_n ?_
          refine VC.ret ?_
          refine end1 rfl ?_
          exact ⟨by unfold longN; simp_all, rfl⟩
    · skip
      refine VC.seq ?_
      refine VC.region ?_
      refine Ops.r (Run.bin rfl rfl (Bin.eqlN _ 9)) rfl ?_
      refine Ops.r (Run.asg rfl) rfl ?_
      refine Ops.nil ?_
      refine thenQ_n ?_
      refine VC.sub [(0, _), (5, _), (6, _)] (.cons rfl (.cons rfl (.cons rfl .nil))) ?_
      refine VC.condD rfl (fun hc3 => ?_) (fun hc3 => ?_)
      · skip
        refine VC.skip ?_
        refine thenQ_n ?_
        refine VC.condD rfl (fun hc4 => ?_) (fun hc4 => ?_)
        · skip
          refine VC.seq ?_
          refine VC.region ?_
          refine Ops.r (v := .int .i64 ((30 : Nat) : Int)) (Run.asg rfl) rfl ?_
          refine Ops.nil ?_
          refine thenQ_n ?_
          refine VC.sub [(4, _)] (.cons rfl .nil) ?_
          refine VC.ret ?_
          refine blockQ_r (thenQ_r (end1 rfl ?_))
          exact ⟨by unfold longN; simp_all, rfl⟩
        · skip
          refine VC.seq ?_
          refine VC.region ?_
          refine Ops.r (Run.bin rfl rfl (Bin.eqlN _ 2)) rfl ?_
          refine Ops.r (Run.asg rfl) rfl ?_
          refine Ops.nil ?_
          refine thenQ_n ?_
          refine VC.sub [(0, _), (11, _)] (.cons rfl (.cons rfl .nil)) ?_
          refine VC.condD rfl (fun hc5 => ?_) (fun hc5 => ?_)
          · skip
            refine VC.seq ?_
            refine VC.seq ?_
            refine VC.region ?_
            refine Ops.r (Run.mv rfl) rfl ?_
            refine Ops.cl (Enters.fn (evs.cons rfl evs.nil) Try.call88) (rleap_spec y _) rfl ?_
            rintro e _ ⟨rfl, rfl⟩
            refine ⟨_, rfl, ?_⟩
            refine Ops.nil ?_
            refine thenQ_n ?_
            refine VC.sub [(14, _)] (.cons rfl .nil) ?_
            refine VC.condB rfl (fun hc6 => ?_) (fun hc6 => ?_)
            · skip
              refine VC.seq ?_
              refine VC.region ?_
              refine Ops.r (v := .int .i64 ((29 : Nat) : Int)) (Run.asg rfl) rfl ?_
              refine Ops.nil ?_
              refine thenQ_n ?_
              refine VC.sub [(4, _)] (.cons rfl .nil) ?_
              refine VC.ret ?_
              refine thenQ_r (blockQ_r (thenQ_r (end1 rfl ?_)))
              exact ⟨by unfold longN; simp_all, rfl⟩
            · skip
              refine VC.skip ?_
              refine thenQ_n ?_
              refine VC.sub [] .nil ?_
              refine VC.seq ?_
              refine VC.region ?_
              refine Ops.r (v := .int .i64 ((28 : Nat) : Int)) (Run.asg rfl) rfl ?_
              refine Ops.nil ?_
              refine thenQ_n ?_
              refine VC.ret ?_
              refine blockQ_r (thenQ_r (end1 rfl ?_))
              exact ⟨by unfold longN; simp_all, rfl⟩
          · skip
            refine VC.skip ?_
            refine blockQ_n (thenQ_n ?_)
            refine VC.sub [] .nil ?_
            refine VC.seq ?_
            refine VC.region ?_
            refine Ops.r (v := .int .i64 ((31 : Nat) : Int)) (Run.asg rfl) rfl ?_
            refine Ops.nil ?_
            refine thenQ_n ?_
            refine VC.ret ?_
            refine end1 rfl ?_
            exact ⟨by unfold longN; simp_all, rfl⟩
      · skip
        refine VC.region ?_
        refine Ops.r (Run.bin rfl rfl (Bin.eqlN _ 11)) rfl ?_
        refine Ops.r (Run.asg rfl) rfl ?_
        refine Ops.nil ?_
        refine thenQ_n ?_
        refine VC.sub [(0, _), (5, _), (6, _)] (.cons rfl (.cons rfl (.cons rfl .nil))) ?_
        refine VC.condD rfl (fun hc4 => ?_) (fun hc4 => ?_)
        · skip
          refine VC.seq ?_
          refine VC.region ?_
          refine Ops.r (v := .int .i64 ((30 : Nat) : Int)) (Run.asg rfl) rfl ?_
          refine Ops.nil ?_
          refine thenQ_n ?_
          refine VC.sub [(4, _)] (.cons rfl .nil) ?_
          refine VC.ret ?_
          refine blockQ_r (thenQ_r (end1 rfl ?_))
          exact ⟨by unfold longN; simp_all, rfl⟩
        · skip
          refine VC.seq ?_
          refine VC.region ?_
          refine Ops.r (Run.bin rfl rfl (Bin.eqlN _ 2)) rfl ?_
          refine Ops.r (Run.asg rfl) rfl ?_
          refine Ops.nil ?_
          refine thenQ_n ?_
          refine VC.sub [(0, _), (11, _)] (.cons rfl (.cons rfl .nil)) ?_
          refine VC.condD rfl (fun hc5 => ?_) (fun hc5 => ?_)
          · skip
            refine VC.seq ?_
            refine VC.seq ?_
            refine VC.region ?_
            refine Ops.r (Run.mv rfl) rfl ?_
            refine Ops.cl (Enters.fn (evs.cons rfl evs.nil) Try.call88) (rleap_spec y _) rfl ?_
            rintro e _ ⟨rfl, rfl⟩
            refine ⟨_, rfl, ?_⟩
            refine Ops.nil ?_
            refine thenQ_n ?_
            refine VC.sub [(14, _)] (.cons rfl .nil) ?_
            refine VC.condB rfl (fun hc6 => ?_) (fun hc6 => ?_)
            · skip
              refine VC.seq ?_
              refine VC.region ?_
              refine Ops.r (v := .int .i64 ((29 : Nat) : Int)) (Run.asg rfl) rfl ?_
              refine Ops.nil ?_
              refine thenQ_n ?_
              refine VC.sub [(4, _)] (.cons rfl .nil) ?_
              refine VC.ret ?_
              refine thenQ_r (blockQ_r (thenQ_r (end1 rfl ?_)))
              exact ⟨by unfold longN; simp_all, rfl⟩
            · skip
              refine VC.skip ?_
              refine thenQ_n ?_
              refine VC.sub [] .nil ?_
              refine VC.seq ?_
              refine VC.region ?_
              refine Ops.r (v := .int .i64 ((28 : Nat) : Int)) (Run.asg rfl) rfl ?_
              refine Ops.nil ?_
              refine thenQ_n ?_
              refine VC.ret ?_
              refine blockQ_r (thenQ_r (end1 rfl ?_))
              exact ⟨by unfold longN; simp_all, rfl⟩
          · skip
            refine VC.skip ?_
            refine blockQ_n (thenQ_n ?_)
            refine VC.sub [] .nil ?_
            refine VC.seq ?_
            refine VC.region ?_
            refine Ops.r (v := .int .i64 ((31 : Nat) : Int)) (Run.asg rfl) rfl ?_
            refine Ops.nil ?_
            refine thenQ_n ?_
            refine VC.ret ?_
            refine end1 rfl ?_
            exact ⟨by unfold longN; simp_all, rfl⟩

end Go.Proofs.Ytmfglifjnoilnaa
