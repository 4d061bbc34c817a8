/-
  'PartNumbers': the examples of layer 20 hold.
-/
import Derived.Test.YtenbjndldenkfaaDoorPartT
namespace Go.Proofs.YtenbjndldenkfaaDoor
open Go.RowKit Go.Sort

set_option maxRecDepth 100000 in
theorem numbers_walk (w : World) : Calls Tryd.prog 3 #[] w fun e w' => e = .returned (.bool true) ∧ Frm [] w w' := by
  refine VC.calls (nt := 4) (res := #[.tmp 0]) Tryd.func3 rfl Tryd.ntmps3 Tryd.results3 rfl ?_
  refine VC.seq ?_
  refine VC.region ?_
  refine Ops.r (Run.asg rfl) rfl ?_
  refine Ops.nil ?_
  refine thenQ_n ?_
  refine VC.sub [] .nil ?_
  refine VC.seq ?_
  refine VC.region ?_
  refine Ops.r (Run.mv rfl) rfl ?_
  refine Ops.clg rfl (by first | rfl | assumption | exact decide_eq_true (by assumption) | exact decide_eq_false (by assumption) | decide | (simp; done) | (simp; omega) | (simp [*]; done)) (Enters.fn evs.nil Tryd.call5) ((awake20_spec _)) rfl ?_
  rintro e w1 ⟨rfl, K⟩
  refine ⟨_, rfl, ?_⟩
  refine Ops.r (Run.pickT rfl rfl (by first | rfl | assumption | exact decide_eq_true (by assumption) | exact decide_eq_false (by assumption) | decide | (simp; done) | (simp; omega) | (simp [*]; done))) rfl ?_
  refine Ops.r (Run.asg rfl) rfl ?_
  refine Ops.nil ?_
  refine thenQ_n ?_
  refine VC.sub [(0, _)] (.cons rfl .nil) ?_
  refine VC.ret ?_
  refine end1 rfl ?_
  exact ⟨rfl, K⟩

end Go.Proofs.YtenbjndldenkfaaDoor
