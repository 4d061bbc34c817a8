/-
  'ParamReads': the media of any text is the document's; so is whether any is a token.
-/
import Derived.Test.YtnllhddbgkeboaaDoorParL0
namespace Go.Proofs.YtnllhddbgkeboaaDoor
open Go.RowKit Go.Sort


theorem medQ_count (q : Tx) : (medQ q).ps.length ≤ (pcs false q).length := by
  unfold medQ
  split
  · simp [med0]
  · rename_i p ps h
    unfold medOf
    split
    · have := pars_count ps
      show (ps.flatMap parQ).length ≤ _
      rw [h, List.length_cons]
      omega
    · show ([] : List Par).length ≤ _
      simp

set_option maxRecDepth 100000 in
theorem reads_walk (q0 : Tx) (w : World) (hq : q0.length ≤ 9223372036854775807) :
    Calls Tryd.prog 3 #[encStr q0] w fun e w' => e = .returned (.bool true) ∧ Frm [] w w' := by
  refine VC.calls (nt := 20) (res := #[.tmp 2]) Tryd.func3 rfl Tryd.ntmps3 Tryd.results3 rfl ?_
  refine VC.seq ?_
  refine VC.region ?_
  refine Ops.r (Run.asg rfl) rfl ?_
  refine Ops.nil ?_
  refine thenQ_n ?_
  refine VC.sub [(0, _)] (.cons rfl .nil) ?_
  refine VC.seq ?_
  refine VC.region ?_
  refine Ops.r (Run.mv rfl) rfl ?_
  refine Ops.cl (Enters.fn (evs.cons rfl evs.nil) Tryd.call11) (few19_spec q0 _ hq) rfl ?_
  rintro e _ ⟨rfl, rfl⟩
  refine ⟨_, rfl, ?_⟩
  have hql := few400_le q0
  generalize few400 q0 = q at *
  have hpc := pcs_count _ false q (Nat.le_refl _)
  have hmc : (medQ q).ps.length ≤ 500 := by
    have h := medQ_count q
    omega
  refine Ops.r (Run.asg rfl) rfl ?_
  refine Ops.nil ?_
  refine thenQ_n ?_
  refine VC.sub [(0, _)] (.cons rfl .nil) ?_
  refine VC.seq ?_
  refine VC.region ?_
  refine Ops.r (Run.mv rfl) rfl ?_
  refine Ops.cl (Enters.fn (evs.cons rfl evs.nil) Tryd.call13) (read_spec q _ (by omega)) rfl ?_
  rintro e w1 ⟨K, A1, c1, rfl, hO1, _⟩
  refine ⟨_, rfl, ?_⟩
  refine Ops.r (Run.mv rfl) rfl ?_
  refine Ops.cl (Enters.fn (evs.cons rfl evs.nil) Tryd.call14) (rread_spec q _ (by omega)) rfl ?_
  rintro e w2 ⟨hf2, A2, c2, rfl, hO2, _⟩
  refine ⟨_, rfl, ?_⟩
  have hO1 := hO1.frm hf2 (by simp)
  have K := K.trans hf2 (by simp)
  refine Ops.cl (Enters.fn (evs.cons rfl (evs.cons rfl evs.nil)) Tryd.call12) (rsame_spec _ _ A1 A2 c1 c2 _ hO1.rd hO2.rd (by omega) (by omega)) rfl ?_
  rintro e w3 ⟨rfl, hf3⟩
  rw [sameQ_self]
  refine ⟨_, rfl, ?_⟩
  have K := K.trans hf3 (by simp)
  refine Ops.r (Run.mv rfl) rfl ?_
  refine Ops.rg rfl (by first | rfl | assumption | exact decide_eq_true (by assumption) | exact decide_eq_false (by assumption) | decide | (simp; done) | (simp; omega) | (simp [*]; done)) (Run.mv rfl) rfl ?_
  refine Ops.clg rfl (by first | rfl | assumption | exact decide_eq_true (by assumption) | exact decide_eq_false (by assumption) | decide | (simp; done) | (simp; omega) | (simp [*]; done)) (Enters.fn (evs.cons rfl evs.nil) Tryd.call15) (token_spec q _ (by omega)) rfl ?_
  rintro e _ ⟨rfl, rfl⟩
  refine ⟨_, rfl, ?_⟩
  refine Ops.rg rfl (by first | rfl | assumption | exact decide_eq_true (by assumption) | exact decide_eq_false (by assumption) | decide | (simp; done) | (simp; omega) | (simp [*]; done)) (Run.mv rfl) rfl ?_
  refine Ops.clg rfl (by first | rfl | assumption | exact decide_eq_true (by assumption) | exact decide_eq_false (by assumption) | decide | (simp; done) | (simp; omega) | (simp [*]; done)) (Enters.fn (evs.cons rfl evs.nil) Tryd.call16) (rtoken_spec q _ (by omega)) rfl ?_
  rintro e _ ⟨rfl, rfl⟩
  refine ⟨_, rfl, ?_⟩
  refine Ops.rg rfl (by first | rfl | assumption | exact decide_eq_true (by assumption) | exact decide_eq_false (by assumption) | decide | (simp; done) | (simp; omega) | (simp [*]; done)) (Run.eqlB rfl rfl Tryd.underlying4) rfl ?_
  refine Ops.r (Run.pickT rfl rfl (by first | rfl | assumption | exact decide_eq_true (by assumption) | exact decide_eq_false (by assumption) | decide | (simp; done) | (simp; omega) | (simp [*]; done))) rfl ?_
  refine Ops.r (Run.mv rfl) rfl ?_
  refine Ops.clg rfl (by first | rfl | assumption | exact decide_eq_true (by assumption) | exact decide_eq_false (by assumption) | decide | (simp; done) | (simp; omega) | (simp [*]; done)) (Enters.fn evs.nil Tryd.call17) (awake19_spec _) rfl ?_
  rintro e w4 ⟨rfl, hf4⟩
  refine ⟨_, rfl, ?_⟩
  have K := K.trans hf4 (by simp)
  refine Ops.r (Run.pickT rfl rfl (by first | rfl | assumption | exact decide_eq_true (by assumption) | exact decide_eq_false (by assumption) | decide | (simp; done) | (simp; omega) | (simp [*]; done))) rfl ?_
  refine Ops.r (Run.asg rfl) rfl ?_
  refine Ops.nil ?_
  refine thenQ_n ?_
  refine VC.sub [(2, _)] (.cons rfl .nil) ?_
  refine VC.ret ?_
  refine end1 rfl ?_
  exact ⟨rfl, K⟩

end Go.Proofs.YtnllhddbgkeboaaDoor
