/-
  The parts of a letter whole.
-/
import Derived.Test.YtenbjndldenkfaaGreatDoorPartU
import Derived.Test.YtenbjndldenkfaaGreatDoorEng17
namespace Go.Proofs.YtenbjndldenkfaaGreatDoor
open Go.RowKit Go.Sort

theorem PP_get {w : World} {ad : Addr} {l : List Pc} {k : Nat} (h : Rd w 9 (some ad) l.length (PP l)) (hk : k < l.length) : ∀ j v, (PP1 l[k])[j]? = some v → w.cell? ((ad.add (k * 9)).add j) = some v := by
  obtain ⟨ad', e, h⟩ := PP_at h hk
  cases e
  exact h

set_option maxRecDepth 100000 in
theorem all_spec (A : Option Addr) (c : Nat) (q : Tx) (w : World) (hrd : Rd w 1 A q.length (U8 q)) (hq : q.length ≤ 400000) (hc : q.length ≤ c) :
    Calls Tryz.prog 38 #[.slice A q.length c] w fun e w' => Frm [] w w' ∧ ∃ (l : List Pc) (LA : Option Addr) (lc : Nat), l.map (·.1) = partsQ q ∧ e = .returned (.slice LA l.length lc) ∧ Own w' 69 9 LA l.length lc (PP l) ∧ OwnPs w' l ∧ ∀ x ∈ ob LA, w.heap.size ≤ x := by
  refine VC.calls (nt := 15) (res := #[.tmp 2]) Tryz.func38 rfl Tryz.ntmps38 Tryz.results38 rfl ?_
  refine VC.seq ?_
  refine VC.region ?_
  refine Ops.r (Run.asg rfl) rfl ?_
  refine Ops.nil ?_
  refine thenQ_n ?_
  refine VC.sub [(0, _)] (.cons rfl .nil) ?_
  refine VC.seq ?_
  refine VC.region ?_
  refine Ops.r (Run.mv rfl) rfl ?_
  refine Ops.r (Run.build (evs.cons rfl evs.nil) zero99 (places99).choose_spec.1 (places99).choose_spec.2 rfl) rfl ?_
  refine Ops.m (Does.box rfl) rfl ?_
  rintro _ w1 ⟨rfl, hF1⟩
  have hbg : Blk w1 w.heap.size 99 #[.slice A q.length c, .slice none 0 0] := hF1.blk
  have K := hF1.frm
  have hlt := hbg.lt
  refine Ops.r (Run.asg rfl) rfl ?_
  refine Ops.nil ?_
  refine thenQ_n ?_
  refine VC.sub [(0, _), (3, _)] (.cons rfl (.cons rfl .nil)) ?_
  refine VC.seq ?_
  refine VC.region ?_
  refine Ops.r (Run.mv rfl) rfl ?_
  refine Ops.r (Run.mv rfl) rfl ?_
  refine Ops.r (Run.lenS rfl Tryz.underlying22) rfl ?_
  refine Ops.cl (Enters.fn (evs.cons rfl (evs.cons rfl (evs.cons rfl (evs.cons rfl (evs.cons rfl (evs.cons rfl evs.nil)))))) Tryz.call68) ((find_all 6 0 rfl w.heap.size A c q [] none 0 0 q.length (-1) false _ (hrd.frm K (by simp)) hq hc (Nat.zero_le _) (Nat.le_refl _) (by simp) (by omega) (by simp) (by intro i x hx; simp at hx) hbg (Own.nil _ _ _) (by intro x hx; simp at hx) (fun x hx => ⟨by have := hrd.lt (obN_mem hx).1 x (obN_mem hx).2; omega, by simp [ob]⟩))) rfl ?_
  rintro e w2 ⟨rfl, l, LA, lc, hm, hbg, hO, hPs, hf2, hub⟩
  refine ⟨_, rfl, ?_⟩
  have K2 := Frm.own K hf2 (fun y hy => by simp [ob] at hy; omega)
  have hm : l.map (·.1) = partsQ q := hm
  refine Ops.nil ?_
  refine thenQ_n ?_
  refine VC.sub [(3, _)] (.cons rfl .nil) ?_
  refine VC.seq ?_
  refine VC.region ?_
  refine Ops.r (Run.mv rfl) rfl ?_
  refine Ops.r (Run.nilck rfl) rfl ?_
  refine Ops.r (Run.fieldAddr rfl Tryz.underlying99 rfl Tryz.sizeOf60 (by decide)) rfl ?_
  refine Ops.r (Run.load rfl Tryz.isAgg60 (hbg.cell 1)) rfl ?_
  refine Ops.r (Run.asg rfl) rfl ?_
  refine Ops.nil ?_
  refine thenQ_n ?_
  refine VC.sub [(2, _)] (.cons rfl .nil) ?_
  refine VC.ret ?_
  refine end1 rfl ?_
  exact ⟨K2, l, LA, lc, hm, rfl, hO, hPs, fun x hx => by rcases hub x hx with h | h; simp [ob] at h; omega⟩

end Go.Proofs.YtenbjndldenkfaaGreatDoor
