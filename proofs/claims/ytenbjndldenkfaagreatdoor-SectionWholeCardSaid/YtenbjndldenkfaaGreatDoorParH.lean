/-
  The answers of layer 19: Read.
-/
import Derived.Test.YtenbjndldenkfaaGreatDoorParG
namespace Go.Proofs.YtenbjndldenkfaaGreatDoor
open Go.RowKit Go.Sort

theorem cutI {s : Tx} {c : UInt8} (h : ¬ Lib.indexByte s c < 0) : ∃ a : Tx, c ∈ s ∧ Lib.indexByte s c = ((a.length : Nat) : Int) ∧ (s.drop 0).take (a.length - 0) = befF c s ∧ (s.drop (a.length + 1)).take (s.length - (a.length + 1)) = aftF c s ∧ a.length + 1 ≤ s.length := by
  rcases idxB_cases s c with ⟨h1, _⟩ | ⟨a, b, rfl, h2, h3⟩
  · exact absurd (by rw [h1]; decide) h
  · obtain ⟨e1, e2⟩ := bef_at (b := b) h2
    have e3 : (a ++ c :: b).drop (a.length + 1) = b := by rw [List.drop_append, List.drop_eq_nil_of_le (by omega)]; simp
    refine ⟨a, by simp, h3, ?_, ?_, by simp⟩
    · rw [e1]; simp
    · rw [e2, e3, List.take_of_length_le (by simp; omega)]
theorem cutN {s : Tx} {c : UInt8} (h : Lib.indexByte s c < 0) : c ∉ s := by
  rcases idxB_cases s c with ⟨_, h1⟩ | ⟨a, b, _, h2, h3⟩
  · exact h1
  · rw [h3] at h; omega

set_option maxRecDepth 100000 in
theorem rread_spec (q : Tx) (w : World) (hq : q.length ≤ 900000) :
    Calls Tryz.prog 108 #[encStr q] w fun e w' => Frm [] w w' ∧ ∃ A c, e = .returned (.agg (MdC (medQ q) A c)) ∧ Own w' 102 2 A (medQ q).ps.length c (PC (medQ q).ps) ∧ (∀ x ∈ ob A, w.heap.size ≤ x) := by
  have K := Frm.refl [] w
  refine VC.calls (nt := 87) (res := #[.cell 2 67]) Tryz.func108 rfl Tryz.ntmps108 Tryz.results108 rfl ?_
  refine VC.seq ?_
  refine VC.region ?_
  refine Ops.m (Does.alloc zero67) rfl ?_
  rintro _ w1 ⟨rfl, hF_w1⟩
  have hb2 := hF_w1.blk
  have hs2_K := K.size
  have K := Frm.trans K hF_w1.frm (by simp)
  generalize hg2 : w.heap.size = g2 at hb2 hs2_K ⊢
  refine Ops.nil ?_
  refine thenQ_n ?_
  refine VC.seq ?_
  refine VC.region ?_
  refine Ops.r (Run.build (evs.cons rfl (evs.cons rfl evs.nil)) zero67 (places67).choose_spec.1 (places67).choose_spec.2 rfl) rfl ?_
  refine Ops.m (Does.alloc zero67) rfl ?_
  rintro _ w2 ⟨rfl, hF_w2⟩
  have hb3 := hF_w2.blk
  have hs3_K := K.size
  have lt_hb2_3 := hb2.lt
  have hb2 := hb2.frm hF_w2.frm (by simp)
  have K := Frm.trans K hF_w2.frm (by simp)
  generalize hg3 : w1.heap.size = g3 at hb3 hs3_K lt_hb2_3 ⊢
  refine Ops.st (Acts.storeA rfl rfl Tryz.sizeOf67 hb3 rfl (MdC_one med0 none 0)) ?_
  rintro w3 ⟨hbn_w3, hf_w3, hsz_w3⟩
  have hb2 := hb2.frm hf_w3 (by simp; omega)
  have hb3 : Blk w3 g3 67 (MdC med0 none 0) := hbn_w3
  have K := Frm.own K hf_w3 (fun y hy => by simp at hy; omega)
  refine Ops.nil ?_
  refine thenQ_n ?_
  refine VC.sub [(0, _), (2, _), (3, _)] (.cons rfl (.cons rfl (.cons rfl .nil))) ?_
  refine VC.seq ?_
  refine VC.region ?_
  refine Ops.r (Run.mv rfl) rfl ?_
  refine Ops.cl (Enters.fn (evs.cons rfl evs.nil) Tryz.call145) (rpieces_spec q _ (by omega)) rfl ?_
  rintro e w4 ⟨hf_w4, AL, dL, rfl, hL, huL⟩
  have l2 := hb2.lt
  have l3 := hb3.lt
  refine ⟨_, rfl, ?_⟩
  have hb2 := hb2.frm hf_w4 (by simp)
  have hb3 := hb3.frm hf_w4 (by simp)
  have K := Frm.trans K hf_w4 (by simp)
  have hpl := pcs_len _ false q (Nat.le_refl _)
  have hpc := pcs_count _ false q (Nat.le_refl _)
  have hmq : ∀ p ps, pcs false q = p :: ps → medQ q = medOf p ps := fun p ps h => by unfold medQ; rw [h]
  obtain ⟨p0, rest, hpe⟩ : ∃ p ps, pcs false q = p :: ps := by
    cases hl : pcs false q with
    | nil => exact absurd hl (pcs_ne _ _)
    | cons p ps => exact ⟨p, ps, rfl⟩
  have hmq := hmq _ _ hpe
  rw [hpe] at hL hpl hpc ⊢
  obtain ⟨adL, hAL, h00⟩ := SB_at hL.rd (show 0 < (p0 :: rest).length by simp)
  subst hAL
  have h00 : w4.cell? (adL.add 0) = some (encStr p0) := h00
  have hp0 := hpl p0 (by simp)
  have htl := trimQ_len p0
  have hIM : IsMed p0 ↔ (47 ∈ trimQ p0 ∧ TokQ (befF 47 (trimQ p0)) ∧ TokQ (aftF 47 (trimQ p0))) := Iff.rfl
  have hmo : IsMed p0 → medOf p0 rest = ⟨smallS (befF 47 (trimQ p0)), smallS (aftF 47 (trimQ p0)), rest.flatMap parQ⟩ := fun h => by unfold medOf; rw [if_pos h]
  have hmn : ¬ IsMed p0 → medOf p0 rest = med0 := fun h => by unfold medOf; rw [if_neg h]
  generalize hTP : trimQ p0 = tp at htl hIM hmo
  have hlb := bef_len 47 tp
  refine Ops.r (Run.asg rfl) rfl ?_
  refine Ops.nil ?_
  refine thenQ_n ?_
  refine VC.sub [(2, _), (3, _), (4, _)] (.cons rfl (.cons rfl (.cons rfl .nil))) ?_
  refine VC.seq ?_
  refine VC.region ?_
  refine Ops.r (Run.mv rfl) rfl ?_
  refine Ops.r (Run.index1 0 rfl rfl Tryz.underlying36 Tryz.sizeOf9 (by simp)) rfl ?_
  refine Ops.r (Run.load rfl Tryz.isAgg9 (h00)) rfl ?_
  refine Ops.cl (Enters.fn (evs.cons rfl evs.nil) Tryz.call146) (rtrim_spec p0 _ (by omega)) rfl ?_
  rintro e _ ⟨rfl, rfl⟩
  refine ⟨_, rfl, ?_⟩
  rw [hTP]
  refine Ops.r (Run.asg rfl) rfl ?_
  refine Ops.nil ?_
  refine thenQ_n ?_
  refine VC.sub [(2, _), (3, _), (4, _), (5, _)] (.cons rfl (.cons rfl (.cons rfl (.cons rfl .nil)))) ?_
  refine VC.seq ?_
  refine VC.region ?_
  refine Ops.r (Run.mv rfl) rfl ?_
  refine Ops.cl (Enters.fn (evs.cons rfl (evs.cons rfl evs.nil)) Tryz.call147) (rat_spec tp 47 _ (by omega)) rfl ?_
  rintro e _ ⟨rfl, rfl⟩
  refine ⟨_, rfl, ?_⟩
  refine Ops.r (Run.asg rfl) rfl ?_
  refine Ops.nil ?_
  refine thenQ_n ?_
  refine VC.sub [(2, _), (3, _), (4, _), (5, _), (6, _)] (.cons rfl (.cons rfl (.cons rfl (.cons rfl (.cons rfl .nil))))) ?_
  refine VC.seq ?_
  refine VC.seq ?_
  refine VC.split1 [(2, _), (3, _), (4, _), (5, _), (6, _)] (.cons rfl (.cons rfl (.cons rfl (.cons rfl (.cons rfl .nil))))) 35 (.bool (decide (¬ IsMed p0))) ?_ ?_
  · refine VC.region ?_
    refine Ops.r (Run.mv rfl) rfl ?_
    refine Ops.r (Run.bin rfl rfl (Bin.lss _ 0)) rfl ?_
    by_cases hs20 : Lib.indexByte tp 47 < 0
    · skip
      have hcm := cutN hs20
      refine Ops.r (Run.mv rfl) rfl ?_
      refine Ops.sk rfl (by first | rfl | assumption | exact decide_eq_true (by assumption) | exact decide_eq_false (by assumption) | decide | (simp; done) | (simp; omega) | (simp [*]; done)) rfl ?_
      refine Ops.sk rfl (by first | rfl | assumption | exact decide_eq_true (by assumption) | exact decide_eq_false (by assumption) | decide | (simp; done) | (simp; omega) | (simp [*]; done)) rfl ?_
      refine Ops.sk rfl (by first | rfl | assumption | exact decide_eq_true (by assumption) | exact decide_eq_false (by assumption) | decide | (simp; done) | (simp; omega) | (simp [*]; done)) rfl ?_
      refine Ops.sk rfl (by first | rfl | assumption | exact decide_eq_true (by assumption) | exact decide_eq_false (by assumption) | decide | (simp; done) | (simp; omega) | (simp [*]; done)) rfl ?_
      refine Ops.sk rfl (by first | rfl | assumption | exact decide_eq_true (by assumption) | exact decide_eq_false (by assumption) | decide | (simp; done) | (simp; omega) | (simp [*]; done)) rfl ?_
      refine Ops.r (Run.pickT rfl rfl (by first | rfl | assumption | exact decide_eq_true (by assumption) | exact decide_eq_false (by assumption) | decide | (simp; done) | (simp; omega) | (simp [*]; done))) rfl ?_
      refine Ops.r (Run.mv rfl) rfl ?_
      refine Ops.sk rfl (by first | rfl | assumption | exact decide_eq_true (by assumption) | exact decide_eq_false (by assumption) | decide | (simp; done) | (simp; omega) | (simp [*]; done)) rfl ?_
      refine Ops.sk rfl (by first | rfl | assumption | exact decide_eq_true (by assumption) | exact decide_eq_false (by assumption) | decide | (simp; done) | (simp; omega) | (simp [*]; done)) rfl ?_
      refine Ops.sk rfl (by first | rfl | assumption | exact decide_eq_true (by assumption) | exact decide_eq_false (by assumption) | decide | (simp; done) | (simp; omega) | (simp [*]; done)) rfl ?_
      refine Ops.sk rfl (by first | rfl | assumption | exact decide_eq_true (by assumption) | exact decide_eq_false (by assumption) | decide | (simp; done) | (simp; omega) | (simp [*]; done)) rfl ?_
      refine Ops.sk rfl (by first | rfl | assumption | exact decide_eq_true (by assumption) | exact decide_eq_false (by assumption) | decide | (simp; done) | (simp; omega) | (simp [*]; done)) rfl ?_
      refine Ops.sk rfl (by first | rfl | assumption | exact decide_eq_true (by assumption) | exact decide_eq_false (by assumption) | decide | (simp; done) | (simp; omega) | (simp [*]; done)) rfl ?_
      refine Ops.r (Run.pickT rfl rfl (by first | rfl | assumption | exact decide_eq_true (by assumption) | exact decide_eq_false (by assumption) | decide | (simp; done) | (simp; omega) | (simp [*]; done))) rfl ?_
      refine Ops.nil ?_
      refine thenQ_n ⟨(.cons (congrArg (fun b => some (Value.bool b)) (by (rw [show decide (¬ IsMed p0) = decide (¬ (47 ∈ tp ∧ TokQ (befF 47 tp) ∧ TokQ (aftF 47 tp))) from decide_eq_decide.2 (not_congr hIM)]; simp [*]))) (.cons rfl (.cons rfl (.cons rfl (.cons rfl (.cons rfl .nil)))))), rfl⟩
    · skip
      obtain ⟨ca, hcm, hix, e1, e2, hcl⟩ := cutI hs20
      rw [hix]
      refine Ops.r (Run.mv rfl) rfl ?_
      refine Ops.rg rfl (by first | rfl | assumption | exact decide_eq_true (by assumption) | exact decide_eq_false (by assumption) | decide | (simp; done) | (simp; omega) | (simp [*]; done)) (Run.mv rfl) rfl ?_
      refine Ops.rg rfl (by first | rfl | assumption | exact decide_eq_true (by assumption) | exact decide_eq_false (by assumption) | decide | (simp; done) | (simp; omega) | (simp [*]; done)) (Run.mv rfl) rfl ?_
      refine Ops.rg rfl (by first | rfl | assumption | exact decide_eq_true (by assumption) | exact decide_eq_false (by assumption) | decide | (simp; done) | (simp; omega) | (simp [*]; done)) (Run.sliceT 0 ca.length rfl Tryz.underlying9 evB.none_ (evB.some_ rfl) (by omega) (by omega)) rfl ?_
      rw [e1]
      refine Ops.clg rfl (by first | rfl | assumption | exact decide_eq_true (by assumption) | exact decide_eq_false (by assumption) | decide | (simp; done) | (simp; omega) | (simp [*]; done)) (Enters.fn (evs.cons rfl evs.nil) Tryz.call49) (rtoken_spec (befF 47 tp) _ (by omega)) rfl ?_
      rintro e _ ⟨rfl, rfl⟩
      refine ⟨_, rfl, ?_⟩
      by_cases hs25 : TokQ (befF 47 tp)
      · skip
        refine Ops.rg rfl (by first | rfl | assumption | exact decide_eq_true (by assumption) | exact decide_eq_false (by assumption) | decide | (simp; done) | (simp; omega) | (simp [*]; done)) (Run.not rfl) rfl ?_
        refine Ops.r (Run.pickF rfl rfl (by first | rfl | assumption | exact decide_eq_true (by assumption) | exact decide_eq_false (by assumption) | decide | (simp; done) | (simp; omega) | (simp [*]; done))) rfl ?_
        refine Ops.r (Run.mv rfl) rfl ?_
        refine Ops.rg rfl (by first | rfl | assumption | exact decide_eq_true (by assumption) | exact decide_eq_false (by assumption) | decide | (simp; done) | (simp; omega) | (simp [*]; done)) (Run.mv rfl) rfl ?_
        refine Ops.rg rfl (by first | rfl | assumption | exact decide_eq_true (by assumption) | exact decide_eq_false (by assumption) | decide | (simp; done) | (simp; omega) | (simp [*]; done)) (Run.mv rfl) rfl ?_
        refine Ops.rg rfl (by first | rfl | assumption | exact decide_eq_true (by assumption) | exact decide_eq_false (by assumption) | decide | (simp; done) | (simp; omega) | (simp [*]; done)) (Run.bin rfl rfl (Bin.add_i64 ca.length 1 (by omega))) rfl ?_
        refine Ops.rg rfl (by first | rfl | assumption | exact decide_eq_true (by assumption) | exact decide_eq_false (by assumption) | decide | (simp; done) | (simp; omega) | (simp [*]; done)) (Run.sliceT (ca.length + 1) tp.length rfl Tryz.underlying9 (evB.some_ rfl) evB.none_ hcl (Nat.le_refl _)) rfl ?_
        rw [e2]
        refine Ops.clg rfl (by first | rfl | assumption | exact decide_eq_true (by assumption) | exact decide_eq_false (by assumption) | decide | (simp; done) | (simp; omega) | (simp [*]; done)) (Enters.fn (evs.cons rfl evs.nil) Tryz.call49) (rtoken_spec (aftF 47 tp) _ (by omega)) rfl ?_
        rintro e _ ⟨rfl, rfl⟩
        refine ⟨_, rfl, ?_⟩
        by_cases hs33 : TokQ (aftF 47 tp)
        · skip
          refine Ops.rg rfl (by first | rfl | assumption | exact decide_eq_true (by assumption) | exact decide_eq_false (by assumption) | decide | (simp; done) | (simp; omega) | (simp [*]; done)) (Run.not rfl) rfl ?_
          refine Ops.r (Run.pickF rfl rfl (by first | rfl | assumption | exact decide_eq_true (by assumption) | exact decide_eq_false (by assumption) | decide | (simp; done) | (simp; omega) | (simp [*]; done))) rfl ?_
          refine Ops.nil ?_
          refine thenQ_n ⟨(.cons (congrArg (fun b => some (Value.bool b)) (by (rw [show decide (¬ IsMed p0) = decide (¬ (47 ∈ tp ∧ TokQ (befF 47 tp) ∧ TokQ (aftF 47 tp))) from decide_eq_decide.2 (not_congr hIM)]; simp [*]))) (.cons rfl (.cons rfl (.cons rfl (.cons rfl (.cons rfl .nil)))))), rfl⟩
        · skip
          refine Ops.rg rfl (by first | rfl | assumption | exact decide_eq_true (by assumption) | exact decide_eq_false (by assumption) | decide | (simp; done) | (simp; omega) | (simp [*]; done)) (Run.not rfl) rfl ?_
          refine Ops.r (Run.pickF rfl rfl (by first | rfl | assumption | exact decide_eq_true (by assumption) | exact decide_eq_false (by assumption) | decide | (simp; done) | (simp; omega) | (simp [*]; done))) rfl ?_
          refine Ops.nil ?_
          refine thenQ_n ⟨(.cons (congrArg (fun b => some (Value.bool b)) (by (rw [show decide (¬ IsMed p0) = decide (¬ (47 ∈ tp ∧ TokQ (befF 47 tp) ∧ TokQ (aftF 47 tp))) from decide_eq_decide.2 (not_congr hIM)]; simp [*]))) (.cons rfl (.cons rfl (.cons rfl (.cons rfl (.cons rfl .nil)))))), rfl⟩
      · skip
        refine Ops.rg rfl (by first | rfl | assumption | exact decide_eq_true (by assumption) | exact decide_eq_false (by assumption) | decide | (simp; done) | (simp; omega) | (simp [*]; done)) (Run.not rfl) rfl ?_
        refine Ops.r (Run.pickF rfl rfl (by first | rfl | assumption | exact decide_eq_true (by assumption) | exact decide_eq_false (by assumption) | decide | (simp; done) | (simp; omega) | (simp [*]; done))) rfl ?_
        refine Ops.r (Run.mv rfl) rfl ?_
        refine Ops.sk rfl (by first | rfl | assumption | exact decide_eq_true (by assumption) | exact decide_eq_false (by assumption) | decide | (simp; done) | (simp; omega) | (simp [*]; done)) rfl ?_
        refine Ops.sk rfl (by first | rfl | assumption | exact decide_eq_true (by assumption) | exact decide_eq_false (by assumption) | decide | (simp; done) | (simp; omega) | (simp [*]; done)) rfl ?_
        refine Ops.sk rfl (by first | rfl | assumption | exact decide_eq_true (by assumption) | exact decide_eq_false (by assumption) | decide | (simp; done) | (simp; omega) | (simp [*]; done)) rfl ?_
        refine Ops.sk rfl (by first | rfl | assumption | exact decide_eq_true (by assumption) | exact decide_eq_false (by assumption) | decide | (simp; done) | (simp; omega) | (simp [*]; done)) rfl ?_
        refine Ops.sk rfl (by first | rfl | assumption | exact decide_eq_true (by assumption) | exact decide_eq_false (by assumption) | decide | (simp; done) | (simp; omega) | (simp [*]; done)) rfl ?_
        refine Ops.sk rfl (by first | rfl | assumption | exact decide_eq_true (by assumption) | exact decide_eq_false (by assumption) | decide | (simp; done) | (simp; omega) | (simp [*]; done)) rfl ?_
        refine Ops.r (Run.pickT rfl rfl (by first | rfl | assumption | exact decide_eq_true (by assumption) | exact decide_eq_false (by assumption) | decide | (simp; done) | (simp; omega) | (simp [*]; done))) rfl ?_
        refine Ops.nil ?_
        refine thenQ_n ⟨(.cons (congrArg (fun b => some (Value.bool b)) (by (rw [show decide (¬ IsMed p0) = decide (¬ (47 ∈ tp ∧ TokQ (befF 47 tp) ∧ TokQ (aftF 47 tp))) from decide_eq_decide.2 (not_congr hIM)]; simp [*]))) (.cons rfl (.cons rfl (.cons rfl (.cons rfl (.cons rfl .nil)))))), rfl⟩
  · intro Γ hΓ
    refine thenQ_n (VC.sub _ hΓ ?_)
    refine VC.condD rfl (fun hc1 => ?_) (fun hc1 => ?_)
    · skip
      rw [hmn hc1] at hmq
      refine VC.seq ?_
      refine VC.region ?_
      refine Ops.r (Run.loadA rfl Tryz.isAgg67 Tryz.sizeOf67 (fun j v hj => hb3.cells j v hj) (by first | rfl | (simp; done))) rfl ?_
      refine Ops.st (Acts.storeA rfl rfl Tryz.sizeOf67 hb2 rfl (MdC_one med0 none 0)) ?_
      rintro w5 ⟨hb2n, hf5, _⟩
      have hb2n : Blk w5 g2 67 (MdC med0 none 0) := hb2n
      have K := Frm.own K hf5 (fun y hy => by simp at hy; omega)
      refine Ops.nil ?_
      refine thenQ_n ?_
      refine VC.sub [(2, _)] (.cons rfl .nil) ?_
      refine VC.ret ?_
      refine thenQ_r (endR ?_)
      refine res_cellA rfl Tryz.isAgg67 Tryz.sizeOf67 (fun j v hj => hb2n.cells j v hj) (by first | rfl | (simp; done)) ?_
      refine res_nil ?_
      rw [hmq]
      exact ⟨K, none, 0, rfl, Own.nil _ _ _, by simp [ob]⟩
    · skip
      have hism := Classical.not_not.1 hc1
      rw [hmo hism] at hmq
      obtain ⟨ca, hcm, hix, e1, e2, hcl⟩ := cutI (fun h => cutN h (hIM.1 hism).1)
      rw [hix]
      refine VC.skip ?_
      refine thenQ_n ?_
      refine VC.sub [(2, _), (3, _), (4, _), (5, _), (6, _)] (.cons rfl (.cons rfl (.cons rfl (.cons rfl (.cons rfl .nil))))) ?_
      refine VC.seq ?_
      refine VC.region ?_
      refine Ops.r (Run.mv rfl) rfl ?_
      refine Ops.r (Run.mv rfl) rfl ?_
      refine Ops.r (Run.sliceT 0 ca.length rfl Tryz.underlying9 evB.none_ (evB.some_ rfl) (by omega) (by omega)) rfl ?_
      rw [e1]
      refine Ops.cl (Enters.fn (evs.cons rfl evs.nil) Tryz.call148) (rsmall_spec (befF 47 tp) _ (by omega)) rfl ?_
      rintro e w6 ⟨rfl, hf_w6⟩
      refine ⟨_, rfl, ?_⟩
      have hb2 := hb2.frm hf_w6 (by simp)
      have hb3 := hb3.frm hf_w6 (by simp)
      have hL := hL.frm hf_w6 (by simp)
      have K := K.trans hf_w6 (by simp)
      refine Ops.r (Run.fieldAddr rfl Tryz.underlying67 rfl Tryz.sizeOf9 (by decide)) rfl ?_
      refine Ops.st (Acts.store rfl rfl Tryz.sizeOf9 hb3 rfl rfl) ?_
      rintro w7 ⟨hb3n, hf_w7, _⟩
      have hb3 : Blk w7 g3 67 (#[encStr (smallS (befF 47 tp)), encStr med0.sub, .slice none 0 0]) := hb3n
      have hb2 := hb2.frm hf_w7 (by simp; omega)
      have hL := hL.frm hf_w7 (fun y hy => by have := huL y hy; simp; omega)
      have K := Frm.own K hf_w7 (fun y hy => by simp at hy; omega)
      refine Ops.nil ?_
      refine thenQ_n ?_
      refine VC.sub [(2, _), (3, _), (4, _), (5, _), (6, _)] (.cons rfl (.cons rfl (.cons rfl (.cons rfl (.cons rfl .nil))))) ?_
      refine VC.seq ?_
      refine VC.region ?_
      refine Ops.r (Run.mv rfl) rfl ?_
      refine Ops.r (Run.mv rfl) rfl ?_
      refine Ops.r (Run.bin rfl rfl (Bin.add_i64 ca.length 1 (by omega))) rfl ?_
      refine Ops.r (Run.sliceT (ca.length + 1) tp.length rfl Tryz.underlying9 (evB.some_ rfl) evB.none_ hcl (Nat.le_refl _)) rfl ?_
      rw [e2]
      refine Ops.cl (Enters.fn (evs.cons rfl evs.nil) Tryz.call148) (rsmall_spec (aftF 47 tp) _ (by omega)) rfl ?_
      rintro e w8 ⟨rfl, hf_w8⟩
      refine ⟨_, rfl, ?_⟩
      have hb2 := hb2.frm hf_w8 (by simp)
      have hb3 := hb3.frm hf_w8 (by simp)
      have hL := hL.frm hf_w8 (by simp)
      have K := K.trans hf_w8 (by simp)
      refine Ops.r (Run.fieldAddr rfl Tryz.underlying67 rfl Tryz.sizeOf9 (by decide)) rfl ?_
      refine Ops.st (Acts.store rfl rfl Tryz.sizeOf9 hb3 rfl rfl) ?_
      rintro w9 ⟨hb3n, hf_w9, _⟩
      have hb3 : Blk w9 g3 67 (MdC ⟨smallS (befF 47 tp), smallS (aftF 47 tp), (rest.take 0).flatMap parQ⟩ none 0) := hb3n
      have hb2 := hb2.frm hf_w9 (by simp; omega)
      have hL := hL.frm hf_w9 (fun y hy => by have := huL y hy; simp; omega)
      have K := Frm.own K hf_w9 (fun y hy => by simp at hy; omega)
      refine Ops.nil ?_
      refine thenQ_n ?_
      refine VC.sub [(2, _), (3, _), (4, _)] (.cons rfl (.cons rfl (.cons rfl .nil))) ?_
      refine VC.seq ?_
      refine VC.seq ?_
      refine VC.region ?_
      refine Ops.r (v := .int .i64 ((1 : Nat) : Int)) (Run.asg rfl) rfl ?_
      refine Ops.nil ?_
      refine thenQ_n ?_
      refine VC.block ?_
      refine VC.loop (σ := Nat × Option Addr × Nat) (fun s => [(2, .pointer (some ⟨g2, 0, none⟩)), (3, .pointer (some ⟨g3, 0, none⟩)), (4, .slice (some adL) (p0 :: rest).length dL), (7, .int .i64 ((s.1 + 1 : Nat) : Int))]) (fun s wr => s.1 ≤ rest.length ∧ Frm [] w wr ∧ Blk wr g2 67 #[encStr [], encStr [], .slice none 0 0] ∧ Blk wr g3 67 (MdC (⟨smallS (befF 47 tp), smallS (aftF 47 tp), (rest.take s.1).flatMap parQ⟩ : Med) s.2.1 s.2.2) ∧ Own wr 102 2 s.2.1 ((rest.take s.1).flatMap parQ).length s.2.2 (PC ((rest.take s.1).flatMap parQ)) ∧ (∀ x ∈ ob s.2.1, w.heap.size ≤ x) ∧ Own wr 9 1 (some adL) (p0 :: rest).length dL (SB (p0 :: rest))) (fun s => rest.length - s.1) (0, none, 0) (.cons rfl (.cons rfl (.cons rfl (.cons rfl .nil)))) ⟨by omega, K, hb2, hb3, by simpa [PC] using Own.nil _ _ _, by simp [ob], hL⟩ ?_
      rintro ⟨j, A, c⟩ wr ⟨hj, K, hb2, hb3, hA, hub, hL⟩
      dsimp only at hj K hb2 hb3 hA hub hL ⊢
      have hpcn := pars_count (rest.take j)
      rw [List.length_take] at hpcn
      have hrl : (p0 :: rest).length = rest.length + 1 := rfl
      refine VC.seq ?_
      refine VC.seq ?_
      refine VC.region ?_
      refine Ops.r (Run.mv rfl) rfl ?_
      refine Ops.r (Run.mv rfl) rfl ?_
      refine Ops.r (Run.lenS rfl Tryz.underlying36) rfl ?_
      refine Ops.r (Run.bin rfl rfl (Bin.lssN _ _)) rfl ?_
      refine Ops.nil ?_
      refine thenQ_n ?_
      refine VC.sub [(2, _), (3, _), (4, _), (7, _), (51, _)] (.cons rfl (.cons rfl (.cons rfl (.cons rfl (.cons rfl .nil))))) ?_
      refine VC.condD rfl (fun hc2 => ?_) (fun hc2 => ?_)
      · skip
        have hjr : j < rest.length := by omega
        have hgx : (p0 :: rest)[j + 1]? = some rest[j] := by simp [List.getElem?_eq_getElem hjr]
        have hts := take_snoc hjr
        have hxl := hpl rest[j] (by simp)
        have hcx : ∀ W, Own W 9 1 (some adL) (p0 :: rest).length dL (SB (p0 :: rest)) → W.cell? (adL.add (j + 1)) = some (encStr rest[j]) := by
          intro W hW
          obtain ⟨ad', h1, h2⟩ := SB_at hW.rd (show j + 1 < (p0 :: rest).length by omega)
          cases h1
          rw [h2]
          simp
        have hnew : ∀ x, rest[j] = x → (rest.take (j + 1)).flatMap parQ = (rest.take j).flatMap parQ ++ parQ x := fun x h => by rw [hts, List.flatMap_append, h]; simp
        generalize hx : rest[j] = x at *
        have hnew := hnew x rfl
        have hlbx := bef_len 61 x
        have hltx := trimQ_len (befF 61 x)
        have hIP : IsPar x ↔ (61 ∈ x ∧ TokQ (nameQ x)) := Iff.rfl
        have hnq : smallS (trimQ (befF 61 x)) = nameQ x := rfl
        refine VC.skip ?_
        refine thenQ_n ?_
        refine VC.sub [(2, _), (3, _), (4, _), (7, _)] (.cons rfl (.cons rfl (.cons rfl (.cons rfl .nil)))) ?_
        refine VC.seq ?_
        refine VC.block ?_
        refine VC.seq ?_
        refine VC.region ?_
        refine Ops.r (Run.mv rfl) rfl ?_
        refine Ops.r (Run.mv rfl) rfl ?_
        refine Ops.r (Run.index1 (j + 1) rfl rfl Tryz.underlying36 Tryz.sizeOf9 (by omega)) rfl ?_
        refine Ops.r (Run.load rfl Tryz.isAgg9 (hcx _ hL)) rfl ?_
        refine Ops.cl (Enters.fn (evs.cons rfl (evs.cons rfl evs.nil)) Tryz.call147) (rat_spec x 61 _ (by omega)) rfl ?_
        rintro e _ ⟨rfl, rfl⟩
        refine ⟨_, rfl, ?_⟩
        refine Ops.r (Run.asg rfl) rfl ?_
        refine Ops.nil ?_
        refine thenQ_n ?_
        refine VC.sub [(2, _), (3, _), (4, _), (7, _), (8, _)] (.cons rfl (.cons rfl (.cons rfl (.cons rfl (.cons rfl .nil))))) ?_
        refine VC.seq ?_
        refine VC.seq ?_
        refine VC.region ?_
        refine Ops.r (Run.mv rfl) rfl ?_
        refine Ops.r (Run.bin rfl rfl (Bin.lss _ 0)) rfl ?_
        refine Ops.nil ?_
        refine thenQ_n ?_
        refine VC.sub [(2, _), (3, _), (4, _), (7, _), (8, _), (60, _)] (.cons rfl (.cons rfl (.cons rfl (.cons rfl (.cons rfl (.cons rfl .nil)))))) ?_
        refine VC.condD rfl (fun hc3 => ?_) (fun hc3 => ?_)
        · skip
          have hnp : parQ x = [] := parQ_no (fun h => cutN hc3 h.1)
          refine VC.exit ?_
          refine thenQ_x (blockQ_x ?_)
          refine thenQ_n ?_
          refine VC.sub [(2, _), (3, _), (4, _), (7, _)] (.cons rfl (.cons rfl (.cons rfl (.cons rfl .nil)))) ?_
          refine VC.region ?_
          refine Ops.r (Run.mv rfl) rfl ?_
          refine Ops.r (Run.bin rfl rfl (Bin.add_i64 _ 1 (by omega))) rfl ?_
          refine Ops.r (Run.asg rfl) rfl ?_
          refine Ops.nil ?_
          refine thenQ_n ⟨(j + 1, A, c), (.cons rfl (.cons rfl (.cons rfl (.cons rfl .nil)))), ?_, ?_⟩
          · skip
            refine ⟨hjr, K, hb2, ?_, ?_, hub, hL⟩
            · rw [hnew, hnp, List.append_nil]; exact hb3
            · rw [hnew, hnp, List.append_nil]; exact hA
          · skip
            simp only; omega
        · skip
          obtain ⟨ca, hcm, hix, e1, e2, hcl⟩ := cutI hc3
          rw [hix]
          refine VC.skip ?_
          refine thenQ_n ?_
          refine VC.sub [(2, _), (3, _), (4, _), (7, _), (8, _)] (.cons rfl (.cons rfl (.cons rfl (.cons rfl (.cons rfl .nil))))) ?_
          refine VC.seq ?_
          refine VC.region ?_
          refine Ops.r (Run.mv rfl) rfl ?_
          refine Ops.r (Run.mv rfl) rfl ?_
          refine Ops.r (Run.index1 (j + 1) rfl rfl Tryz.underlying36 Tryz.sizeOf9 (by omega)) rfl ?_
          refine Ops.r (Run.load rfl Tryz.isAgg9 (hcx _ hL)) rfl ?_
          refine Ops.r (Run.mv rfl) rfl ?_
          refine Ops.r (Run.sliceT 0 ca.length rfl Tryz.underlying9 evB.none_ (evB.some_ rfl) (by omega) (by omega)) rfl ?_
          rw [e1]
          refine Ops.cl (Enters.fn (evs.cons rfl evs.nil) Tryz.call146) (rtrim_spec (befF 61 x) _ (by omega)) rfl ?_
          rintro e _ ⟨rfl, rfl⟩
          refine ⟨_, rfl, ?_⟩
          refine Ops.cl (Enters.fn (evs.cons rfl evs.nil) Tryz.call148) (rsmall_spec (trimQ (befF 61 x)) _ (by omega)) rfl ?_
          rintro e V1 ⟨rfl, hf_V1⟩
          refine ⟨_, rfl, ?_⟩
          have hb2 := hb2.frm hf_V1 (by simp)
          have hb3 := hb3.frm hf_V1 (by simp)
          have hA := hA.frm hf_V1 (by simp)
          have hL := hL.frm hf_V1 (by simp)
          have K := K.trans hf_V1 (by simp)
          have hnl := smallS_len (trimQ (befF 61 x))
          rw [hnq] at hnl ⊢
          refine Ops.r (Run.asg rfl) rfl ?_
          refine Ops.nil ?_
          refine thenQ_n ?_
          refine VC.sub [(2, _), (3, _), (4, _), (7, _), (8, _), (9, _)] (.cons rfl (.cons rfl (.cons rfl (.cons rfl (.cons rfl (.cons rfl .nil)))))) ?_
          refine VC.seq ?_
          refine VC.region ?_
          refine Ops.r (Run.mv rfl) rfl ?_
          refine Ops.cl (Enters.fn (evs.cons rfl evs.nil) Tryz.call49) (rtoken_spec (nameQ x) _ (by omega)) rfl ?_
          rintro e _ ⟨rfl, rfl⟩
          refine ⟨_, rfl, ?_⟩
          refine Ops.nil ?_
          refine thenQ_n ?_
          refine VC.sub [(2, _), (3, _), (4, _), (7, _), (8, _), (9, _), (70, _)] (.cons rfl (.cons rfl (.cons rfl (.cons rfl (.cons rfl (.cons rfl (.cons rfl .nil))))))) ?_
          refine VC.condB rfl (fun hc4 => ?_) (fun hc4 => ?_)
          · skip
            have hyes := parQ_yes (hIP.2 ⟨hcm, of_decide_eq_true hc4⟩)
            refine VC.heldL 15 (fun W => Frm (ob A) V1 W) (by kernel_rfl) ?_
            have hS0 : Frm [] V1 V1.drew := (Frm.refl [] V1).drew
            have hnA0 := hA.ne_blk hb3 (by decide)
            have hnL := hL.ne_own hA (by decide)
            have hS : Frm (ob A) V1 V1.drew := hS0.mono (by simp)
            have hb3v := hb3
            have hLv := hL
            have hA := hA.frm hS0 (by simp)
            have hb2 := hb2.frm hS0 (by simp)
            have hb3 := hb3.frm hS0 (by simp)
            have hL := hL.frm hS0 (by simp)
            have K := K.drew
            refine HOps.take 0 rfl (by kernel_rfl) (by kernel_rfl) (by kernel_rfl) hS (fun w0 hw0 => Run.fieldAddr rfl Tryz.underlying67 rfl Tryz.sizeOf65 (by decide)) trivial rfl rfl ?_
            refine HOps.take 1 rfl (by kernel_rfl) (by kernel_rfl) (by kernel_rfl) hS (fun w0 hw0 => Run.load rfl Tryz.isAgg65 (show World.cell? _ _ = some (.slice A ((rest.take j).flatMap parQ).length c) from (hb3v.frm hw0 hnA0).cell 2)) trivial rfl rfl ?_
            refine HOps.take 2 rfl (by kernel_rfl) (by kernel_rfl) (by kernel_rfl) hS (fun w0 hw0 => Run.mv rfl) trivial rfl rfl ?_
            refine HOps.take 3 rfl (by kernel_rfl) (by kernel_rfl) (by kernel_rfl) hS (fun w0 hw0 => Run.mv rfl) trivial rfl rfl ?_
            refine HOps.take 4 rfl (by kernel_rfl) (by kernel_rfl) (by kernel_rfl) hS (fun w0 hw0 => Run.mv rfl) trivial rfl rfl ?_
            refine HOps.take 5 rfl (by kernel_rfl) (by kernel_rfl) (by kernel_rfl) hS (fun w0 hw0 => Run.index1 (j + 1) rfl rfl Tryz.underlying36 Tryz.sizeOf9 (by omega)) trivial rfl rfl ?_
            refine HOps.take 6 rfl (by kernel_rfl) (by kernel_rfl) (by kernel_rfl) hS (fun w0 hw0 => Run.load rfl Tryz.isAgg9 (hcx _ (hLv.frm hw0 hnL))) trivial rfl rfl ?_
            refine HOps.r1 7 rfl (by kernel_rfl) hS (Run.mv rfl) trivial rfl rfl ?_
            refine HOps.r1 8 rfl (by kernel_rfl) hS (Run.bin rfl rfl (Bin.add_i64 ca.length 1 (by omega))) trivial rfl rfl ?_
            refine HOps.r1 9 rfl (by kernel_rfl) hS (Run.sliceT (ca.length + 1) x.length rfl Tryz.underlying9 (evB.some_ rfl) evB.none_ hcl (Nat.le_refl _)) trivial rfl rfl ?_
            rw [e2]
            refine HOps.cl 10 rfl (by kernel_rfl) (Enters.fn (evs.cons rfl evs.nil) Tryz.call149) (rvalue_spec (aftF 61 x) _ (by omega)) trivial rfl rfl ?_
            rintro e _ ⟨rfl, rfl⟩
            refine ⟨_, rfl, hS, ?_⟩
            refine HOps.r1 11 rfl (by kernel_rfl) hS (Run.build (evs.cons rfl (evs.cons rfl evs.nil)) zero102 (places102).choose_spec.1 (places102).choose_spec.2 rfl) trivial rfl rfl ?_
            refine HOps.m 12 rfl (by kernel_rfl) (Does.buildS1 rfl Tryz.underlying65 Tryz.sizeOf102 zero102 (by decide) (by decide) rfl rfl) trivial rfl rfl ?_
            rintro _ V5 ⟨rfl, hF5⟩
            have hrd := hrdP (x := (nameQ x, valQ (aftF 61 x))) hF5
            have hA := hA.frm hF5.frm (by simp)
            have hb2 := hb2.frm hF5.frm (by simp)
            have hb3 := hb3.frm hF5.frm (by simp)
            have hL := hL.frm hF5.frm (by simp)
            have K := K.trans hF5.frm (by simp)
            have hS := hS.trans hF5.frm (by simp)
            refine ⟨hS, ?_⟩
            refine HOps.m 13 rfl (by kernel_rfl) (Does.app rfl rfl Tryz.underlying65 (info102) rfl (by decide) hA hrd (PC_one _) (by omega) (by omega)) trivial rfl rfl ?_
            rintro _ V6 ⟨A6, c6, rfl, hA6, hf6, hob6⟩
            rw [← PC_append] at hA6
            have hne : ∀ y ∈ ob A, y ≠ g2 ∧ y ≠ g3 := fun y hy => ⟨by rintro rfl; exact hA.ne_blk hb2 (by decide) hy, by rintro rfl; exact hA.ne_blk hb3 (by decide) hy⟩
            have hb2 := hb2.frm hf6 (fun hy => (hne _ hy).1 rfl)
            have hb3 := hb3.frm hf6 (fun hy => (hne _ hy).2 rfl)
            have hL := hL.frm hf6 hnL
            have hub6 := up_app hub hob6 K.size
            have K := Frm.own K hf6 hub
            have hnA := hA6.ne_blk hb3 (by decide)
            have hnL3 := hL.ne_blk hb3 (by decide)
            have hS := hS.trans hf6 (fun y hy => .inl hy)
            refine ⟨hS, ?_⟩
            refine HOps.r1 14 rfl (by kernel_rfl) hS (Run.fieldAddr rfl Tryz.underlying67 rfl Tryz.sizeOf65 (by decide)) trivial rfl rfl ?_
            refine HOps.stL rfl (by kernel_rfl) (Acts.store rfl rfl Tryz.sizeOf65 hb3 rfl rfl) trivial rfl ?_
            rintro V7 ⟨hb3n, hf7, _⟩
            refine HOps.done (by kernel_rfl) ?_
            refine blockQ_n (thenQ_n ?_)
            refine VC.sub [(2, _), (3, _), (4, _), (7, _)] (.cons rfl (.cons rfl (.cons rfl (.cons rfl .nil)))) ?_
            refine VC.region ?_
            refine Ops.r (Run.mv rfl) rfl ?_
            refine Ops.r (Run.bin rfl rfl (Bin.add_i64 _ 1 (by omega))) rfl ?_
            refine Ops.r (Run.asg rfl) rfl ?_
            refine Ops.nil ?_
            refine thenQ_n ⟨(j + 1, A6, c6), (.cons rfl (.cons rfl (.cons rfl (.cons rfl .nil)))), ?_, ?_⟩
            · skip
              refine ⟨hjr, Frm.own K hf7 (fun y hy => by simp at hy; omega), hb2.frm hf7 (by simp; omega), ?_, ?_, hub6, hL.frm hf7 (fun y hy => by simp; rintro rfl; exact hnL3 hy)⟩
              · rw [hnew, hyes]
                unfold MdC
                rw [List.length_append]
                exact hb3n
              · rw [hnew, hyes, List.length_append]
                exact hA6.frm hf7 (fun y hy => by simp; rintro rfl; exact hnA hy)
            · skip
              simp only; omega
          · skip
            have hnp : parQ x = [] := parQ_no (fun h => of_decide_eq_false hc4 h.2)
            refine VC.skip ?_
            refine blockQ_n (thenQ_n ?_)
            refine VC.sub [(2, _), (3, _), (4, _), (7, _)] (.cons rfl (.cons rfl (.cons rfl (.cons rfl .nil)))) ?_
            refine VC.region ?_
            refine Ops.r (Run.mv rfl) rfl ?_
            refine Ops.r (Run.bin rfl rfl (Bin.add_i64 _ 1 (by omega))) rfl ?_
            refine Ops.r (Run.asg rfl) rfl ?_
            refine Ops.nil ?_
            refine thenQ_n ⟨(j + 1, A, c), (.cons rfl (.cons rfl (.cons rfl (.cons rfl .nil)))), ?_, ?_⟩
            · skip
              refine ⟨hjr, K, hb2, ?_, ?_, hub, hL⟩
              · rw [hnew, hnp, List.append_nil]; exact hb3
              · rw [hnew, hnp, List.append_nil]; exact hA
            · skip
              simp only; omega
      · skip
        have hjr : j = rest.length := by omega
        rw [hjr, List.take_length] at hA hb3
        refine VC.exit ?_
        refine thenQ_x (thenQ_x (blockQ_x ?_))
        refine thenQ_n ?_
        refine VC.sub [(2, _), (3, _)] (.cons rfl (.cons rfl .nil)) ?_
        refine VC.seq ?_
        refine VC.region ?_
        refine Ops.r (Run.loadA rfl Tryz.isAgg67 Tryz.sizeOf67 (fun j v hj => hb3.cells j v hj) (by first | rfl | (simp; done))) rfl ?_
        refine Ops.st (Acts.storeA rfl rfl Tryz.sizeOf67 hb2 rfl (MdC_one _ A c)) ?_
        rintro V8 ⟨hb2n, hf8, _⟩
        have hA := hA.frm hf8 (fun y hy => by have := hA.ne_blk hb2 (by decide); simp; rintro rfl; exact this hy)
        have K := Frm.own K hf8 (fun y hy => by simp at hy; omega)
        refine Ops.nil ?_
        refine thenQ_n ?_
        refine VC.sub [(2, _)] (.cons rfl .nil) ?_
        refine VC.ret ?_
        refine endR ?_
        refine res_cellA rfl Tryz.isAgg67 Tryz.sizeOf67 (fun j v hj => hb2n.cells j v hj) (by first | rfl | (simp; done)) ?_
        refine res_nil ?_
        rw [hmq]
        exact ⟨K, A, c, rfl, hA, fun x hx => by have := hub x hx; omega⟩

end Go.Proofs.YtenbjndldenkfaaGreatDoor
