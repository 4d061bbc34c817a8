/-
  What a text's media is: Read.
-/
import Derived.Test.YtenbjndldenkfaaGreatDoorParC
namespace Go.Proofs.YtenbjndldenkfaaGreatDoor
open Go.RowKit Go.Sort

def mdQ : List Tx → Option Med
  | [] => some med0
  | p :: ps => if IsMed p then some (medOf p ps) else none
theorem mdQ_snoc {p x : Tx} {ps : List Tx} {m : Med} (h : mdQ (p :: ps) = some m) : mdQ (p :: ps ++ [x]) = some ⟨m.ty, m.sub, m.ps ++ parQ x⟩ := by
  have h : (if IsMed p then some (medOf p ps) else none) = some m := h
  split at h
  · rename_i hm
    cases h
    show (if IsMed p then _ else _) = _
    rw [if_pos hm]
    simp [medOf, hm]
  · cases h
theorem mdQ_all {q : Tx} {m : Med} (h : mdQ (pcs false q) = some m) : medQ q = m := by
  unfold medQ
  have hne := pcs_ne false q
  generalize pcs false q = l at *
  cases l with
  | nil => exact absurd rfl hne
  | cons p ps =>
    have h : (if IsMed p then some (medOf p ps) else none) = some m := h
    split at h
    · cases h; rfl
    · cases h
theorem medQ_bad {q p : Tx} (h : [p] <+: pcs false q) (hp : ¬ IsMed p) : medQ q = med0 := by
  obtain ⟨t, ht⟩ := h
  unfold medQ
  rw [← ht]
  show medOf p t = _
  unfold medOf
  rw [if_neg hp]
theorem mdQ_count {l : List Tx} {m : Med} (h : mdQ l = some m) : m.ps.length ≤ l.length := by
  cases l with
  | nil => cases h; simp [med0]
  | cons p ps =>
    have h : (if IsMed p then some (medOf p ps) else none) = some m := h
    split at h
    · rename_i hm
      cases h
      have := pars_count ps
      show (medOf p ps).ps.length ≤ _
      rw [medOf, if_pos hm, List.length_cons]
      show (ps.flatMap parQ).length ≤ _
      omega
    · cases h
theorem parQ_yes {x : Tx} (h : IsPar x) : parQ x = [(nameQ x, valQ (aftF 61 x))] := by unfold parQ; rw [if_pos h]
theorem parQ_no {x : Tx} (h : ¬ IsPar x) : parQ x = [] := by unfold parQ; rw [if_neg h]
theorem hrdP {w w' : World} {t : TypeId} {x : Par} (h : Fresh w w' t (PC1 x).toArray) : Rd w' 2 (some ⟨w.heap.size, 0, none⟩) 1 (PC [x]) := Rd.of_blk (n := 1) (size := 2) h.blk rfl
/-- A media, as it stands in cells. -/
def MdC (m : Med) (A : Option Addr) (c : Nat) : Array Value := #[encStr m.ty, encStr m.sub, .slice A m.ps.length c]
theorem MdC_one (m : Med) (A : Option Addr) (c : Nat) : ∀ u ∈ (MdC m A c).toList, u.oneCell' = true := by
  intro u hu
  simp only [MdC, List.mem_cons, List.not_mem_nil, or_false] at hu
  rcases hu with rfl | rfl | rfl <;> rfl
/-- What Read has of some pieces. -/
def ReI (w : World) (q : Tx) (g2 g3 g4 : Nat) (Bt : List Nat) (pre : List Tx) (W : World) : Prop :=
  ∃ (m : Med) (A : Option Addr) (c : Nat), mdQ pre = some m ∧ pre.length ≤ q.length + 1 ∧ Frm [] w W ∧ Blk W g2 67 #[encStr [], encStr [], .slice none 0 0] ∧ Blk W g3 67 (MdC m A c) ∧ Own W 102 2 A m.ps.length c (PC m.ps) ∧ Blk W g4 4 #[.bool pre.isEmpty] ∧ (∀ x ∈ ob A, w.heap.size ≤ x ∧ x ∉ Bt) ∧ (pre = [] → A = none ∧ c = 0)
def ReX (w : World) (q : Tx) (g2 : Nat) (e : Exit) (_pre : List Tx) (W : World) : Prop :=
  e = .ret ∧ medQ q = med0 ∧ Frm [] w W ∧ Blk W g2 67 (MdC med0 none 0)

set_option maxRecDepth 100000 in
theorem read_spec (q : Tx) (w : World) (hq : q.length ≤ 900000) :
    Calls Tryz.prog 139 #[encStr q] w fun e w' => Frm [] w w' ∧ ∃ A c, e = .returned (.agg (MdC (medQ q) A c)) ∧ Own w' 102 2 A (medQ q).ps.length c (PC (medQ q).ps) ∧ (∀ x ∈ ob A, w.heap.size ≤ x) := by
  have K := Frm.refl [] w
  refine DV.calls (nt := 67) (res := #[.cell 2 67]) Tryz.func139 rfl Tryz.ntmps139 Tryz.results139 rfl ?_
  refine DV.seq ?_
  refine DV.vc ?_
  refine VC.region ?_
  refine Ops.m (Does.alloc zero67) rfl ?_
  rintro _ w1 ⟨rfl, hF_w1⟩
  have hb2 := hF_w1.blk
  have hs2_K := K.size
  have K := Frm.trans K hF_w1.frm (by simp)
  generalize hg2 : w.heap.size = g2 at hb2 hs2_K ⊢
  refine Ops.nil ?_
  refine thenD_n ?_
  refine DV.seq ?_
  refine DV.vc ?_
  refine VC.region ?_
  refine Ops.r (Run.build (evs.cons rfl (evs.cons rfl evs.nil)) zero67 (places67).choose_spec.1 (places67).choose_spec.2 rfl) rfl ?_
  refine Ops.m (Does.alloc zero67) rfl ?_
  rintro _ w2 ⟨rfl, hF_w2⟩
  have hb3 := hF_w2.blk
  have hs3_K := K.size
  have lt_hb2_3 := hb2.lt
  have hb2 := hb2.frm hF_w2.frm (by simp)
  have K := Frm.trans K hF_w2.frm (by simp)
  generalize hg3 : w1.heap.size = g3 at hb3 hs3_K lt_hb2_3 ⊢
  refine Ops.st (Acts.storeA rfl rfl Tryz.sizeOf67 hb3 rfl (MdC_one med0 none 0)) ?_
  rintro w3 ⟨hbn_w3, hf_w3, hsz_w3⟩
  have hb2 := hb2.frm hf_w3 (by simp; omega)
  have hb3 : Blk w3 g3 67 (MdC med0 none 0) := hbn_w3
  have K := Frm.own K hf_w3 (fun y hy => by simp at hy; omega)
  refine Ops.nil ?_
  refine thenD_n ?_
  refine DV.sub [(0, _), (2, _), (3, _)] (.cons rfl (.cons rfl (.cons rfl .nil))) ?_
  refine DV.seq ?_
  refine DV.vc ?_
  refine VC.region ?_
  refine Ops.m (Does.alloc zero4) rfl ?_
  rintro _ w4 ⟨rfl, hF_w4⟩
  have hb4 := hF_w4.blk
  have hs4_K := K.size
  have lt_hb2_4 := hb2.lt
  have lt_hb3_4 := hb3.lt
  have hb2 := hb2.frm hF_w4.frm (by simp)
  have hb3 := hb3.frm hF_w4.frm (by simp)
  have K := Frm.trans K hF_w4.frm (by simp)
  generalize hg4 : w3.heap.size = g4 at hb4 hs4_K lt_hb2_4 lt_hb3_4 ⊢
  refine Ops.st (Acts.store rfl rfl Tryz.sizeOf4 hb4 rfl rfl) ?_
  rintro w5 ⟨hbn_w5, hf_w5, hsz_w5⟩
  have hb2 := hb2.frm hf_w5 (by simp; omega)
  have hb3 := hb3.frm hf_w5 (by simp; omega)
  have hb4 : Blk w5 g4 4 (#[.bool true]) := hbn_w5
  have K := Frm.own K hf_w5 (fun y hy => by simp at hy; omega)
  refine Ops.nil ?_
  refine thenD_n ?_
  refine DV.seq ?_
  refine DV.seq ?_
  refine DV.vc ?_
  refine VC.region ?_
  refine Ops.r (Run.mv rfl) rfl ?_
  refine Ops.cl (Enters.fn (evs.cons rfl evs.nil) Tryz.call181) (pieces_spec q _) rfl ?_
  rintro e w6 ⟨hf_w6, g1, rfl, hp1, hg1⟩
  have l2 := hb2.lt
  have l3 := hb3.lt
  have l4 := hb4.lt
  have l1 := hp1.lt
  refine ⟨_, rfl, ?_⟩
  have hb2 := hb2.frm hf_w6 (by simp)
  have hb3 := hb3.frm hf_w6 (by simp)
  have hb4 := hb4.frm hf_w6 (by simp)
  have K := Frm.trans K hf_w6 (by simp)
  refine Ops.nil ?_
  refine thenD_n ?_
  refine DV.sub [(2, _), (3, _), (4, _), (14, _)] (.cons rfl (.cons rfl (.cons rfl (.cons rfl .nil)))) ?_
  refine DV.block ?_
  have hKs := K.size
  refine DV.range (ps := [15]) (fun x => [encStr x]) (pieces_iter q g1 (by omega)) rfl Tryz.call208 (fun _ => rfl) rfl (ReI w q g2 g3 g4 [g1]) (ReX w q g2) (fun x => [(2, .pointer (some ⟨g2, 0, none⟩)), (3, .pointer (some ⟨g3, 0, none⟩)), (4, .pointer (some ⟨g4, 0, none⟩)), (5, encStr x)]) ?_ ?_ ?_ ?_ ?_ ?_ ?_ ?_ ?_ ?_ ?_
  · skip
    rintro pre W W' S ⟨m, A, c, h1, h2, h3, h4, h5, h6, h7, h8, h9⟩ hf hS
    exact ⟨m, A, c, h1, h2, h3.nc hf hS (by simp) K.size, h4.frm hf (h4.nc hS (by simp)), h5.frm hf (h5.nc hS (by simp)), h6.frm hf (h6.nc hS (by simp)), h7.frm hf (h7.nc hS (by simp)), h8, h9⟩
  · skip
    rintro e pre W W' S ⟨h1, h2, h3, h4⟩ hf hS
    exact ⟨h1, h2, h3.nc hf hS (by simp) K.size, h4.frm hf (h4.nc hS (by simp))⟩
  · skip
    exact fun W hf => hp1.frm hf (by simp)
  · skip
    simp
  · skip
    simp; omega
  · skip
    exact ⟨med0, none, 0, rfl, by simp, K, hb2, hb3, Own.nil _ _ _, hb4, by simp [ob], fun _ => ⟨rfl, rfl⟩⟩
  · intro l x W
    refine VC.sub [(2, _), (3, _), (4, _), (15, _)] (.cons rfl (.cons rfl (.cons rfl (.cons rfl .nil)))) ?_
    refine VC.region ?_
    refine Ops.r (Run.asg rfl) rfl ?_
    refine Ops.nil ?_
    refine thenQ_n ⟨rfl, (.cons rfl (.cons rfl (.cons rfl (.cons rfl .nil))))⟩
  · skip
    rintro l pre x W ⟨m, A, c, hm, hpl, K, hb2, hb3, hA, hb4, hAB, hnil⟩ hpre hsz hmk
    have hxm : x ∈ pcs false q := hpre.subset (by simp)
    have hxl := Nat.le_trans (pcs_len _ _ _ (Nat.le_refl _) x hxm) (show q.length ≤ 1000000 by omega)
    have hmc := mdQ_count hm
    have hpc := pcs_count _ false q (Nat.le_refl _)
    have KW := Frm.refl [] W
    have h20 := hb2
    have h30 := hb3
    have h40 := hb4
    have hA0 := hA
    have K0 := K
    refine VC.block ?_
    refine VC.seq ?_
    refine VC.seq ?_
    refine VC.region ?_
    refine Ops.r (Run.load rfl Tryz.isAgg4 (hb4.cell 0)) rfl ?_
    refine Ops.nil ?_
    refine thenQ_n ?_
    refine VC.condB rfl (fun hc1 => ?_) (fun hc1 => ?_)
    · skip
      obtain rfl : pre = [] := by simpa using hc1
      have h0m : m = med0 ∧ A = none ∧ c = 0 := ⟨by cases hm; rfl, hnil rfl⟩
      refine VC.seq ?_
      refine VC.region ?_
      refine Ops.r (Run.mv rfl) rfl ?_
      refine Ops.cl (Enters.fn (evs.cons rfl evs.nil) Tryz.call182) (ptrim_spec x _ hxl) rfl ?_
      rintro e W1 ⟨rfl, hf_W1⟩
      refine ⟨_, rfl, ?_⟩
      have hb2 := hb2.frm hf_W1 (by simp)
      have hb3 := hb3.frm hf_W1 (by simp)
      have hb4 := hb4.frm hf_W1 (by simp)
      have hA := hA.frm hf_W1 (by simp)
      have KW := Frm.trans KW hf_W1 (by simp)
      have K := Frm.trans K hf_W1 (by simp)
      have htl := trimQ_len x
      have hIM : IsMed x ↔ (47 ∈ trimQ x ∧ TokQ (befF 47 (trimQ x)) ∧ TokQ (aftF 47 (trimQ x))) := Iff.rfl
      have hmo : IsMed x → medOf x [] = ⟨smallS (befF 47 (trimQ x)), smallS (aftF 47 (trimQ x)), []⟩ := fun h => by unfold medOf; rw [if_pos h]; rfl
      have htq : leftB (rightB x) = trimQ x := rfl
      rw [htq]
      generalize htp : trimQ x = tp at *
      have hlb := bef_len 47 tp
      refine Ops.cl (Enters.fn (evs.cons rfl (evs.cons rfl evs.nil)) Tryz.call79) (cut_spec tp 47 _ (by omega)) rfl ?_
      rintro e W2 ⟨rfl, hf_W2⟩
      refine ⟨_, rfl, ?_⟩
      have hb2 := hb2.frm hf_W2 (by simp)
      have hb3 := hb3.frm hf_W2 (by simp)
      have hb4 := hb4.frm hf_W2 (by simp)
      have hA := hA.frm hf_W2 (by simp)
      have KW := Frm.trans KW hf_W2 (by simp)
      have K := Frm.trans K hf_W2 (by simp)
      refine Ops.r (Run.mv rfl) rfl ?_
      refine Ops.r (Run.extract rfl rfl) rfl ?_
      refine Ops.r (Run.extract rfl rfl) rfl ?_
      refine Ops.r (Run.extract rfl rfl) rfl ?_
      refine Ops.r (Run.asg rfl) rfl ?_
      refine Ops.r (Run.asg rfl) rfl ?_
      refine Ops.r (Run.asg rfl) rfl ?_
      refine Ops.nil ?_
      refine thenQ_n ?_
      refine VC.sub [(2, _), (3, _), (4, _), (6, _), (7, _), (8, _)] (.cons rfl (.cons rfl (.cons rfl (.cons rfl (.cons rfl (.cons rfl .nil)))))) ?_
      refine VC.seq ?_
      refine VC.seq ?_
      refine VC.split1 [(2, _), (3, _), (4, _), (6, _), (7, _)] (.cons rfl (.cons rfl (.cons rfl (.cons rfl (.cons rfl .nil))))) 35 (.bool (decide (¬ IsMed x))) ?_ ?_
      · refine VC.region ?_
        refine Ops.r (Run.mv rfl) rfl ?_
        by_cases hs24 : 47 ∈ tp
        · skip
          refine Ops.r (Run.not rfl) rfl ?_
          refine Ops.r (Run.mv rfl) rfl ?_
          refine Ops.rg rfl (by first | rfl | assumption | exact decide_eq_true (by assumption) | exact decide_eq_false (by assumption) | decide | (simp; done) | (simp; omega) | (simp [*]; done)) (Run.mv rfl) rfl ?_
          refine Ops.clg rfl (by first | rfl | assumption | exact decide_eq_true (by assumption) | exact decide_eq_false (by assumption) | decide | (simp; done) | (simp; omega) | (simp [*]; done)) (Enters.fn (evs.cons rfl evs.nil) Tryz.call76) (token_spec (befF 47 tp) _ (by omega)) rfl ?_
          rintro e _ ⟨rfl, rfl⟩
          refine ⟨_, rfl, ?_⟩
          by_cases hs28 : TokQ (befF 47 tp)
          · skip
            refine Ops.rg rfl (by first | rfl | assumption | exact decide_eq_true (by assumption) | exact decide_eq_false (by assumption) | decide | (simp; done) | (simp; omega) | (simp [*]; done)) (Run.not rfl) rfl ?_
            refine Ops.r (Run.pickF rfl rfl (by first | rfl | assumption | exact decide_eq_true (by assumption) | exact decide_eq_false (by assumption) | decide | (simp; done) | (simp; omega) | (simp [*]; done))) rfl ?_
            refine Ops.r (Run.mv rfl) rfl ?_
            refine Ops.rg rfl (by first | rfl | assumption | exact decide_eq_true (by assumption) | exact decide_eq_false (by assumption) | decide | (simp; done) | (simp; omega) | (simp [*]; done)) (Run.mv rfl) rfl ?_
            refine Ops.clg rfl (by first | rfl | assumption | exact decide_eq_true (by assumption) | exact decide_eq_false (by assumption) | decide | (simp; done) | (simp; omega) | (simp [*]; done)) (Enters.fn (evs.cons rfl evs.nil) Tryz.call76) (token_spec (aftF 47 tp) _ (by omega)) rfl ?_
            rintro e _ ⟨rfl, rfl⟩
            refine ⟨_, rfl, ?_⟩
            by_cases hs33 : TokQ (aftF 47 tp)
            · skip
              refine Ops.rg rfl (by first | rfl | assumption | exact decide_eq_true (by assumption) | exact decide_eq_false (by assumption) | decide | (simp; done) | (simp; omega) | (simp [*]; done)) (Run.not rfl) rfl ?_
              refine Ops.r (Run.pickF rfl rfl (by first | rfl | assumption | exact decide_eq_true (by assumption) | exact decide_eq_false (by assumption) | decide | (simp; done) | (simp; omega) | (simp [*]; done))) rfl ?_
              refine Ops.nil ?_
              refine thenQ_n ⟨(.cons (congrArg (fun b => some (Value.bool b)) (by (rw [show decide (¬ IsMed x) = decide (¬ (47 ∈ tp ∧ TokQ (befF 47 tp) ∧ TokQ (aftF 47 tp))) from decide_eq_decide.2 (not_congr hIM)]; simp [*]))) (.cons rfl (.cons rfl (.cons rfl (.cons rfl (.cons rfl .nil)))))), rfl⟩
            · skip
              refine Ops.rg rfl (by first | rfl | assumption | exact decide_eq_true (by assumption) | exact decide_eq_false (by assumption) | decide | (simp; done) | (simp; omega) | (simp [*]; done)) (Run.not rfl) rfl ?_
              refine Ops.r (Run.pickF rfl rfl (by first | rfl | assumption | exact decide_eq_true (by assumption) | exact decide_eq_false (by assumption) | decide | (simp; done) | (simp; omega) | (simp [*]; done))) rfl ?_
              refine Ops.nil ?_
              refine thenQ_n ⟨(.cons (congrArg (fun b => some (Value.bool b)) (by (rw [show decide (¬ IsMed x) = decide (¬ (47 ∈ tp ∧ TokQ (befF 47 tp) ∧ TokQ (aftF 47 tp))) from decide_eq_decide.2 (not_congr hIM)]; simp [*]))) (.cons rfl (.cons rfl (.cons rfl (.cons rfl (.cons rfl .nil)))))), rfl⟩
          · skip
            refine Ops.rg rfl (by first | rfl | assumption | exact decide_eq_true (by assumption) | exact decide_eq_false (by assumption) | decide | (simp; done) | (simp; omega) | (simp [*]; done)) (Run.not rfl) rfl ?_
            refine Ops.r (Run.pickF rfl rfl (by first | rfl | assumption | exact decide_eq_true (by assumption) | exact decide_eq_false (by assumption) | decide | (simp; done) | (simp; omega) | (simp [*]; done))) rfl ?_
            refine Ops.r (Run.mv rfl) rfl ?_
            refine Ops.sk rfl (by first | rfl | assumption | exact decide_eq_true (by assumption) | exact decide_eq_false (by assumption) | decide | (simp; done) | (simp; omega) | (simp [*]; done)) rfl ?_
            refine Ops.sk rfl (by first | rfl | assumption | exact decide_eq_true (by assumption) | exact decide_eq_false (by assumption) | decide | (simp; done) | (simp; omega) | (simp [*]; done)) rfl ?_
            refine Ops.sk rfl (by first | rfl | assumption | exact decide_eq_true (by assumption) | exact decide_eq_false (by assumption) | decide | (simp; done) | (simp; omega) | (simp [*]; done)) rfl ?_
            refine Ops.r (Run.pickT rfl rfl (by first | rfl | assumption | exact decide_eq_true (by assumption) | exact decide_eq_false (by assumption) | decide | (simp; done) | (simp; omega) | (simp [*]; done))) rfl ?_
            refine Ops.nil ?_
            refine thenQ_n ⟨(.cons (congrArg (fun b => some (Value.bool b)) (by (rw [show decide (¬ IsMed x) = decide (¬ (47 ∈ tp ∧ TokQ (befF 47 tp) ∧ TokQ (aftF 47 tp))) from decide_eq_decide.2 (not_congr hIM)]; simp [*]))) (.cons rfl (.cons rfl (.cons rfl (.cons rfl (.cons rfl .nil)))))), rfl⟩
        · skip
          refine Ops.r (Run.not rfl) rfl ?_
          refine Ops.r (Run.mv rfl) rfl ?_
          refine Ops.sk rfl (by first | rfl | assumption | exact decide_eq_true (by assumption) | exact decide_eq_false (by assumption) | decide | (simp; done) | (simp; omega) | (simp [*]; done)) rfl ?_
          refine Ops.sk rfl (by first | rfl | assumption | exact decide_eq_true (by assumption) | exact decide_eq_false (by assumption) | decide | (simp; done) | (simp; omega) | (simp [*]; done)) rfl ?_
          refine Ops.sk rfl (by first | rfl | assumption | exact decide_eq_true (by assumption) | exact decide_eq_false (by assumption) | decide | (simp; done) | (simp; omega) | (simp [*]; done)) rfl ?_
          refine Ops.r (Run.pickT rfl rfl (by first | rfl | assumption | exact decide_eq_true (by assumption) | exact decide_eq_false (by assumption) | decide | (simp; done) | (simp; omega) | (simp [*]; done))) rfl ?_
          refine Ops.r (Run.mv rfl) rfl ?_
          refine Ops.sk rfl (by first | rfl | assumption | exact decide_eq_true (by assumption) | exact decide_eq_false (by assumption) | decide | (simp; done) | (simp; omega) | (simp [*]; done)) rfl ?_
          refine Ops.sk rfl (by first | rfl | assumption | exact decide_eq_true (by assumption) | exact decide_eq_false (by assumption) | decide | (simp; done) | (simp; omega) | (simp [*]; done)) rfl ?_
          refine Ops.sk rfl (by first | rfl | assumption | exact decide_eq_true (by assumption) | exact decide_eq_false (by assumption) | decide | (simp; done) | (simp; omega) | (simp [*]; done)) rfl ?_
          refine Ops.r (Run.pickT rfl rfl (by first | rfl | assumption | exact decide_eq_true (by assumption) | exact decide_eq_false (by assumption) | decide | (simp; done) | (simp; omega) | (simp [*]; done))) rfl ?_
          refine Ops.nil ?_
          refine thenQ_n ⟨(.cons (congrArg (fun b => some (Value.bool b)) (by (rw [show decide (¬ IsMed x) = decide (¬ (47 ∈ tp ∧ TokQ (befF 47 tp) ∧ TokQ (aftF 47 tp))) from decide_eq_decide.2 (not_congr hIM)]; simp [*]))) (.cons rfl (.cons rfl (.cons rfl (.cons rfl (.cons rfl .nil)))))), rfl⟩
      · intro Γ hΓ
        refine thenQ_n (VC.sub _ hΓ ?_)
        refine VC.condD rfl (fun hc2 => ?_) (fun hc2 => ?_)
        · skip
          refine VC.seq ?_
          refine VC.region ?_
          refine Ops.r (Run.loadA rfl Tryz.isAgg67 Tryz.sizeOf67 (fun j v hj => hb3.cells j v hj) (by first | rfl | (simp; done))) rfl ?_
          refine Ops.st (Acts.storeA rfl rfl Tryz.sizeOf67 hb2 rfl (MdC_one m A c)) ?_
          rintro W3 ⟨hb2n, hf3, _⟩
          have hb2n : Blk W3 g2 67 (MdC m A c) := hb2n
          refine Ops.nil ?_
          refine thenQ_n ?_
          refine VC.sub [(2, _)] (.cons rfl .nil) ?_
          refine VC.ret ?_
          refine thenQ_r (thenQ_r (blockQ_r (?_)))
          obtain ⟨rfl, rfl, rfl⟩ := h0m
          refine ⟨⟨[g2], (KW.mono (T := [g2]) (by simp)).trans hf3 (by simp), ?_⟩, rfl, medQ_bad hpre hc2, Frm.own K hf3 (fun y hy => by simp at hy; omega), hb2n⟩
          intro b hb
          simp only [List.mem_singleton] at hb
          subst hb
          exact ⟨by simp; omega, h20.isC⟩
        · skip
          refine VC.skip ?_
          refine thenQ_n ?_
          refine VC.sub [(3, _), (4, _), (6, _), (7, _)] (.cons rfl (.cons rfl (.cons rfl (.cons rfl .nil)))) ?_
          refine VC.seq ?_
          refine VC.region ?_
          refine Ops.r (Run.mv rfl) rfl ?_
          refine Ops.cl (Enters.fn (evs.cons rfl evs.nil) Tryz.call183) (lower_spec (befF 47 tp) _ (by omega)) rfl ?_
          rintro e W4 ⟨rfl, hf_W4⟩
          refine ⟨_, rfl, ?_⟩
          have hb2 := hb2.frm hf_W4 (by simp)
          have hb3 := hb3.frm hf_W4 (by simp)
          have hb4 := hb4.frm hf_W4 (by simp)
          have hA := hA.frm hf_W4 (by simp)
          have KW := Frm.trans KW hf_W4 (by simp)
          have K := Frm.trans K hf_W4 (by simp)
          refine Ops.r (Run.mv rfl) rfl ?_
          refine Ops.cl (Enters.fn (evs.cons rfl evs.nil) Tryz.call183) (lower_spec (aftF 47 tp) _ (by omega)) rfl ?_
          rintro e W5 ⟨rfl, hf_W5⟩
          refine ⟨_, rfl, ?_⟩
          have hb2 := hb2.frm hf_W5 (by simp)
          have hb3 := hb3.frm hf_W5 (by simp)
          have hb4 := hb4.frm hf_W5 (by simp)
          have hA := hA.frm hf_W5 (by simp)
          have KW := Frm.trans KW hf_W5 (by simp)
          have K := Frm.trans K hf_W5 (by simp)
          refine Ops.r (Run.fieldAddr rfl Tryz.underlying67 rfl Tryz.sizeOf9 (by decide)) rfl ?_
          obtain ⟨rfl, rfl, rfl⟩ := h0m
          refine Ops.st (Acts.store rfl rfl Tryz.sizeOf9 hb3 rfl rfl) ?_
          rintro W6 ⟨hbn, hf_W6, _⟩
          have hA := hA.frm hf_W6 (fun y hy => by have := hA.ne_blk hb3 (by decide); simp; rintro rfl; exact this hy)
          have hb2 := hb2.frm hf_W6 (by simp; omega)
          have hb4 := hb4.frm hf_W6 (by simp; omega)
          have hb3 : Blk W6 g3 67 (#[encStr (smallS (befF 47 tp)), encStr med0.sub, .slice none 0 0]) := hbn
          have KW := (KW.mono (T := [g3, g4]) (by simp)).trans hf_W6 (by simp)
          have K := Frm.own K hf_W6 (fun y hy => by simp at hy; omega)
          refine Ops.r (Run.fieldAddr rfl Tryz.underlying67 rfl Tryz.sizeOf9 (by decide)) rfl ?_
          refine Ops.st (Acts.store rfl rfl Tryz.sizeOf9 hb3 rfl rfl) ?_
          rintro W7 ⟨hbn, hf_W7, _⟩
          have hA := hA.frm hf_W7 (fun y hy => by have := hA.ne_blk hb3 (by decide); simp; rintro rfl; exact this hy)
          have hb2 := hb2.frm hf_W7 (by simp; omega)
          have hb4 := hb4.frm hf_W7 (by simp; omega)
          have hb3 : Blk W7 g3 67 (#[encStr (smallS (befF 47 tp)), encStr (smallS (aftF 47 tp)), .slice none 0 0]) := hbn
          have KW := (KW.mono (T := [g3, g4]) (by simp)).trans hf_W7 (by simp)
          have K := Frm.own K hf_W7 (fun y hy => by simp at hy; omega)
          refine Ops.st (Acts.store rfl rfl Tryz.sizeOf4 hb4 rfl rfl) ?_
          rintro W8 ⟨hbn, hf_W8, _⟩
          have hA := hA.frm hf_W8 (fun y hy => by have := hA.ne_blk hb4 (by decide); simp; rintro rfl; exact this hy)
          have hb2 := hb2.frm hf_W8 (by simp; omega)
          have hb3 := hb3.frm hf_W8 (by simp; omega)
          have hb4 : Blk W8 g4 4 (#[.bool false]) := hbn
          have KW := (KW.mono (T := [g3, g4]) (by simp)).trans hf_W8 (by simp)
          have K := Frm.own K hf_W8 (fun y hy => by simp at hy; omega)
          refine Ops.nil ?_
          refine thenQ_n ?_
          refine VC.sub [] .nil ?_
          refine VC.exit ?_
          refine thenQ_x (blockQ_x ?_)
          refine ⟨⟨[g3, g4], KW, ?_⟩, medOf x [], none, 0, ?_, by simp, K, hb2, ?_, ?_, hb4, by simp [ob], fun h => absurd h (by simp)⟩
          · intro b hb
            simp only [List.mem_cons, List.not_mem_nil, or_false] at hb
            rcases hb with rfl | rfl
            · exact ⟨by simp; omega, h30.isC⟩
            · exact ⟨by simp; omega, h40.isC⟩
          · show (if IsMed x then _ else _) = _
            rw [if_pos (Classical.not_not.1 hc2)]
          · rw [hmo (Classical.not_not.1 hc2)]; exact hb3
          · rw [hmo (Classical.not_not.1 hc2)]; exact hA
    · skip
      obtain ⟨p0, ps0, hprE⟩ : ∃ p ps, pre = p :: ps := by
        cases pre with
        | nil => exact absurd hc1 (by simp)
        | cons p ps => exact ⟨p, ps, rfl⟩
      have hpF : pre.isEmpty = false := by rw [hprE]; rfl
      refine VC.skip ?_
      refine thenQ_n ?_
      refine VC.sub [(3, _), (5, _)] (.cons rfl (.cons rfl .nil)) ?_
      refine VC.seq ?_
      refine VC.region ?_
      refine Ops.r (Run.mv rfl) rfl ?_
      refine Ops.cl (Enters.fn (evs.cons rfl (evs.cons rfl evs.nil)) Tryz.call79) (cut_spec x 61 _ hxl) rfl ?_
      rintro e V1 ⟨rfl, hf_V1⟩
      refine ⟨_, rfl, ?_⟩
      have hb2 := hb2.frm hf_V1 (by simp)
      have hb3 := hb3.frm hf_V1 (by simp)
      have hb4 := hb4.frm hf_V1 (by simp)
      have hA := hA.frm hf_V1 (by simp)
      have KW := Frm.trans KW hf_V1 (by simp)
      have K := Frm.trans K hf_V1 (by simp)
      have hlb := bef_len 61 x
      have hlt := trimQ_len (befF 61 x)
      have hIP : IsPar x ↔ (61 ∈ x ∧ TokQ (nameQ x)) := Iff.rfl
      have hnq : smallS (trimQ (befF 61 x)) = nameQ x := rfl
      refine Ops.r (Run.mv rfl) rfl ?_
      refine Ops.r (Run.extract rfl rfl) rfl ?_
      refine Ops.r (Run.extract rfl rfl) rfl ?_
      refine Ops.r (Run.extract rfl rfl) rfl ?_
      refine Ops.r (Run.asg rfl) rfl ?_
      refine Ops.r (Run.asg rfl) rfl ?_
      refine Ops.r (Run.asg rfl) rfl ?_
      refine Ops.nil ?_
      refine thenQ_n ?_
      refine VC.sub [(3, _), (9, _), (10, _), (11, _)] (.cons rfl (.cons rfl (.cons rfl (.cons rfl .nil)))) ?_
      refine VC.seq ?_
      refine VC.region ?_
      refine Ops.r (Run.mv rfl) rfl ?_
      refine Ops.cl (Enters.fn (evs.cons rfl evs.nil) Tryz.call182) (ptrim_spec (befF 61 x) _ (by omega)) rfl ?_
      rintro e V2 ⟨rfl, hf_V2⟩
      refine ⟨_, rfl, ?_⟩
      have hb2 := hb2.frm hf_V2 (by simp)
      have hb3 := hb3.frm hf_V2 (by simp)
      have hb4 := hb4.frm hf_V2 (by simp)
      have hA := hA.frm hf_V2 (by simp)
      have KW := Frm.trans KW hf_V2 (by simp)
      have K := Frm.trans K hf_V2 (by simp)
      rw [show leftB (rightB (befF 61 x)) = trimQ (befF 61 x) from rfl]
      refine Ops.cl (Enters.fn (evs.cons rfl evs.nil) Tryz.call183) (lower_spec (trimQ (befF 61 x)) _ (by omega)) rfl ?_
      rintro e V3 ⟨rfl, hf_V3⟩
      refine ⟨_, rfl, ?_⟩
      have hb2 := hb2.frm hf_V3 (by simp)
      have hb3 := hb3.frm hf_V3 (by simp)
      have hb4 := hb4.frm hf_V3 (by simp)
      have hA := hA.frm hf_V3 (by simp)
      have KW := Frm.trans KW hf_V3 (by simp)
      have K := Frm.trans K hf_V3 (by simp)
      have hnl := smallS_len (trimQ (befF 61 x))
      rw [hnq] at hnl ⊢
      refine Ops.r (Run.asg rfl) rfl ?_
      refine Ops.nil ?_
      refine thenQ_n ?_
      refine VC.sub [(3, _), (9, _), (10, _), (11, _)] (.cons rfl (.cons rfl (.cons rfl (.cons rfl .nil)))) ?_
      refine VC.seq ?_
      refine VC.split1 [(3, _), (9, _), (10, _)] (.cons rfl (.cons rfl (.cons rfl .nil))) 56 (.bool (decide (IsPar x))) ?_ ?_
      · refine VC.region ?_
        refine Ops.r (Run.mv rfl) rfl ?_
        by_cases hs52 : 61 ∈ x
        · skip
          refine Ops.r (Run.mv rfl) rfl ?_
          refine Ops.rg rfl (by first | rfl | assumption | exact decide_eq_true (by assumption) | exact decide_eq_false (by assumption) | decide | (simp; done) | (simp; omega) | (simp [*]; done)) (Run.mv rfl) rfl ?_
          refine Ops.clg rfl (by first | rfl | assumption | exact decide_eq_true (by assumption) | exact decide_eq_false (by assumption) | decide | (simp; done) | (simp; omega) | (simp [*]; done)) (Enters.fn (evs.cons rfl evs.nil) Tryz.call76) (token_spec (nameQ x) _ (by omega)) rfl ?_
          rintro e _ ⟨rfl, rfl⟩
          refine ⟨_, rfl, ?_⟩
          by_cases hs55 : TokQ (nameQ x)
          · skip
            refine Ops.r (Run.pickT rfl rfl (by first | rfl | assumption | exact decide_eq_true (by assumption) | exact decide_eq_false (by assumption) | decide | (simp; done) | (simp; omega) | (simp [*]; done))) rfl ?_
            refine Ops.nil ?_
            refine thenQ_n ⟨(.cons (congrArg (fun b => some (Value.bool b)) (by (rw [show decide (IsPar x) = decide (61 ∈ x ∧ TokQ (nameQ x)) from decide_eq_decide.2 hIP]; simp [*]))) (.cons rfl (.cons rfl (.cons rfl .nil)))), rfl⟩
          · skip
            refine Ops.r (Run.pickT rfl rfl (by first | rfl | assumption | exact decide_eq_true (by assumption) | exact decide_eq_false (by assumption) | decide | (simp; done) | (simp; omega) | (simp [*]; done))) rfl ?_
            refine Ops.nil ?_
            refine thenQ_n ⟨(.cons (congrArg (fun b => some (Value.bool b)) (by (rw [show decide (IsPar x) = decide (61 ∈ x ∧ TokQ (nameQ x)) from decide_eq_decide.2 hIP]; simp [*]))) (.cons rfl (.cons rfl (.cons rfl .nil)))), rfl⟩
        · skip
          refine Ops.r (Run.mv rfl) rfl ?_
          refine Ops.sk rfl (by first | rfl | assumption | exact decide_eq_true (by assumption) | exact decide_eq_false (by assumption) | decide | (simp; done) | (simp; omega) | (simp [*]; done)) rfl ?_
          refine Ops.sk rfl (by first | rfl | assumption | exact decide_eq_true (by assumption) | exact decide_eq_false (by assumption) | decide | (simp; done) | (simp; omega) | (simp [*]; done)) rfl ?_
          refine Ops.r (Run.pickF rfl rfl (by first | rfl | assumption | exact decide_eq_true (by assumption) | exact decide_eq_false (by assumption) | decide | (simp; done) | (simp; omega) | (simp [*]; done))) rfl ?_
          refine Ops.nil ?_
          refine thenQ_n ⟨(.cons (congrArg (fun b => some (Value.bool b)) (by (rw [show decide (IsPar x) = decide (61 ∈ x ∧ TokQ (nameQ x)) from decide_eq_decide.2 hIP]; simp [*]))) (.cons rfl (.cons rfl (.cons rfl .nil)))), rfl⟩
      · intro Γ hΓ
        refine thenQ_n (VC.sub _ hΓ ?_)
        refine VC.condD rfl (fun hc3 => ?_) (fun hc3 => ?_)
        · skip
          refine VC.heldL 9 (fun W => Frm (ob A) V3 W) (by kernel_rfl) ?_
          have hS0 : Frm [] V3 V3.drew := (Frm.refl [] V3).drew
          have hnA0 := hA.ne_blk hb3 (by decide)
          have hS : Frm (ob A) V3 V3.drew := hS0.mono (by simp)
          have hA := hA.frm hS0 (by simp)
          have KW := KW.drew
          have K := K.drew
          have hb2 := hb2.frm hS0 (by simp)
          have hb3v := hb3
          have hb3 := hb3.frm hS0 (by simp)
          have hb4 := hb4.frm hS0 (by simp)
          refine HOps.take 0 rfl (by kernel_rfl) (by kernel_rfl) (by kernel_rfl) hS (fun w0 hw0 => Run.fieldAddr rfl Tryz.underlying67 rfl Tryz.sizeOf65 (by decide)) trivial rfl rfl ?_
          refine HOps.take 1 rfl (by kernel_rfl) (by kernel_rfl) (by kernel_rfl) hS (fun w0 hw0 => Run.load rfl Tryz.isAgg65 ((hb3v.frm hw0 hnA0).cell 2)) trivial rfl rfl ?_
          refine HOps.take 2 rfl (by kernel_rfl) (by kernel_rfl) (by kernel_rfl) hS (fun w0 hw0 => Run.mv rfl) trivial rfl rfl ?_
          refine HOps.r1 3 rfl (by kernel_rfl) hS (Run.mv rfl) trivial rfl rfl ?_
          refine HOps.cl 4 rfl (by kernel_rfl) (Enters.fn (evs.cons rfl evs.nil) Tryz.call184) (value_spec (aftF 61 x) _ (by omega)) trivial rfl rfl ?_
          rintro e V4 ⟨rfl, hf_V4⟩
          have hb2 := hb2.frm hf_V4 (by simp)
          have hb3 := hb3.frm hf_V4 (by simp)
          have hb4 := hb4.frm hf_V4 (by simp)
          have hA := hA.frm hf_V4 (by simp)
          have KW := Frm.trans KW hf_V4 (by simp)
          have K := Frm.trans K hf_V4 (by simp)
          have hS := Frm.trans hS hf_V4 (by simp)
          refine ⟨_, rfl, hS, ?_⟩
          refine HOps.r1 5 rfl (by kernel_rfl) hS (Run.build (evs.cons rfl (evs.cons rfl evs.nil)) zero102 (places102).choose_spec.1 (places102).choose_spec.2 rfl) trivial rfl rfl ?_
          refine HOps.m 6 rfl (by kernel_rfl) (Does.buildS1 rfl Tryz.underlying65 Tryz.sizeOf102 zero102 (by decide) (by decide) rfl rfl) trivial rfl rfl ?_
          rintro _ V5 ⟨rfl, hF5⟩
          have hrd := hrdP (x := (nameQ x, valQ (aftF 61 x))) hF5
          have hA := hA.frm hF5.frm (by simp)
          have hb2 := hb2.frm hF5.frm (by simp)
          have hb3 := hb3.frm hF5.frm (by simp)
          have hb4 := hb4.frm hF5.frm (by simp)
          have KW := KW.trans hF5.frm (by simp)
          have K := K.trans hF5.frm (by simp)
          have hS := hS.trans hF5.frm (by simp)
          refine ⟨hS, ?_⟩
          refine HOps.m 7 rfl (by kernel_rfl) (Does.app rfl rfl Tryz.underlying65 (info102) rfl (by decide) hA hrd (PC_one _) (by omega) (by omega)) trivial rfl rfl ?_
          rintro _ V6 ⟨A6, c6, rfl, hA6, hf6, hob6⟩
          rw [← PC_append] at hA6
          have hne : ∀ y ∈ ob A, y ≠ g2 ∧ y ≠ g3 ∧ y ≠ g4 := fun y hy => ⟨by rintro rfl; exact hA.ne_blk hb2 (by decide) hy, by rintro rfl; exact hA.ne_blk hb3 (by decide) hy, by rintro rfl; exact hA.ne_blk hb4 (by decide) hy⟩
          have hb2 := hb2.frm hf6 (fun hy => (hne _ hy).1 rfl)
          have hb3 := hb3.frm hf6 (fun hy => (hne _ hy).2.1 rfl)
          have hb4 := hb4.frm hf6 (fun hy => (hne _ hy).2.2 rfl)
          have K := Frm.own K hf6 (fun y hy => (hAB y hy).1)
          have hnA := hA6.ne_blk hb3 (by decide)
          have hS := hS.trans hf6 (fun y hy => .inl hy)
          refine ⟨hS, ?_⟩
          refine HOps.r1 8 rfl (by kernel_rfl) hS (Run.fieldAddr rfl Tryz.underlying67 rfl Tryz.sizeOf65 (by decide)) trivial rfl rfl ?_
          refine HOps.stL rfl (by kernel_rfl) (Acts.store rfl rfl Tryz.sizeOf65 hb3 rfl rfl) trivial rfl ?_
          rintro V7 ⟨hb3n, hf7, _⟩
          refine HOps.done (by kernel_rfl) ?_
          refine blockQ_n (?_)
          refine ⟨⟨ob A ++ [g3], ?_, ?_⟩, ⟨m.ty, m.sub, m.ps ++ parQ x⟩, A6, c6, ?_, ?_, Frm.own K hf7 (fun y hy => by simp at hy; omega), hb2.frm hf7 (by simp; omega), ?_, ?_, ?_, ?_, fun h => absurd h (by simp)⟩
          · exact ((KW.mono (T := ob A ++ [g3]) (by simp)).trans hf6 (fun y hy => .inl (by simp [hy]))).trans hf7 (fun y hy => .inl (by simp at hy; simp [hy]))
          · intro b hb
            rcases List.mem_append.1 hb with h | h
            · exact ⟨(hAB b h).2, hA0.isC b h⟩
            · simp only [List.mem_singleton] at h
              subst h
              exact ⟨by simp; omega, h30.isC⟩
          · rw [hprE]; exact mdQ_snoc (hprE ▸ hm)
          · have := hpre.length_le; omega
          · rw [parQ_yes hc3]
            unfold MdC
            rw [List.length_append]
            exact hb3n
          · rw [parQ_yes hc3, List.length_append]
            exact hA6.frm hf7 (fun y hy => by simp; rintro rfl; exact hnA hy)
          · rw [show (pre ++ [x]).isEmpty = false by simp, ← hpF]; exact hb4.frm hf7 (by simp; omega)
          · intro y hy
            rcases hob6 with h | h
            · rw [h] at hy; exact hAB y hy
            · rw [h] at hy
              simp only [List.mem_singleton] at hy
              have := K0.size
              have := KW.size
              subst hy
              exact ⟨by omega, by simp; omega⟩
        · skip
          refine VC.skip ?_
          refine blockQ_n (?_)
          refine ⟨.frm0 KW, ⟨m.ty, m.sub, m.ps ++ parQ x⟩, A, c, ?_, ?_, K, hb2, ?_, ?_, ?_, hAB, fun h => absurd h (by simp)⟩
          · rw [hprE]; exact mdQ_snoc (hprE ▸ hm)
          · have := hpre.length_le; omega
          · rw [parQ_no hc3, List.append_nil]; exact hb3
          · rw [parQ_no hc3, List.append_nil]; exact hA
          · rw [show (pre ++ [x]).isEmpty = false by simp, ← hpF]; exact hb4
  · skip
    rintro W ⟨m, A, c, hm, hpl, K, hb2, hb3, hA, hb4, hAB, _⟩ hsz hmk
    refine blockD_n (thenD_n ?_)
    refine DV.sub [(2, _), (3, _)] (.cons rfl (.cons rfl .nil)) ?_
    refine DV.seq ?_
    refine DV.vc ?_
    refine VC.region ?_
    refine Ops.r (Run.loadA rfl Tryz.isAgg67 Tryz.sizeOf67 (fun j v hj => hb3.cells j v hj) (by first | rfl | (simp; done))) rfl ?_
    refine Ops.st (Acts.storeA rfl rfl Tryz.sizeOf67 hb2 rfl (MdC_one m A c)) ?_
    rintro V8 ⟨hb2n, hf8, _⟩
    have hb2n : Blk V8 g2 67 (MdC m A c) := hb2n
    have hmk := hmk.frm hf8 (by simp; exact hmk.ne_blk hb2)
    have hA := hA.frm hf8 (fun y hy => by have := hA.ne_blk hb2 (by decide); simp; rintro rfl; exact this hy)
    have K := Frm.own K hf8 (fun y hy => by simp at hy; omega)
    refine Ops.nil ?_
    refine thenD_n ?_
    refine DV.sub [(2, _)] (.cons rfl .nil) ?_
    refine DV.vc (VC.ret ?_)
    refine endD_r (by simp) (fun d hd => by simp only [List.mem_singleton] at hd; subst hd; exact hmk) (fun wz hsh => ?_)
    have hb2n := hb2n.frm hsh (by simp; omega)
    have hA := hA.frm hsh (fun y hy => by have := hmk.ne_own hA; simp; rintro rfl; exact this hy)
    have K := Frm.own K hsh (fun y hy => by have := hKs; simp at hy; omega)
    refine endR ?_
    refine res_cellA rfl Tryz.isAgg67 Tryz.sizeOf67 (fun j v hj => hb2n.cells j v hj) (by first | rfl | (simp; done)) ?_
    refine res_nil ?_
    rw [mdQ_all hm]
    exact ⟨K, A, c, rfl, hA, fun x hx => by have := (hAB x hx).1; omega⟩
  · skip
    rintro pre W ⟨_, hno, K, hb2⟩ hsz hmk
    refine blockD_r (thenD_r (endD_r (by simp) (fun d hd => by simp only [List.mem_singleton] at hd; subst hd; exact hmk) (fun wz hsh => ?_)))
    have hb2 := hb2.frm hsh (by simp; omega)
    have K := Frm.own K hsh (fun y hy => by have := hKs; simp at hy; omega)
    refine endR ?_
    refine res_cellA rfl Tryz.isAgg67 Tryz.sizeOf67 (fun j v hj => hb2.cells j v hj) (by first | rfl | (simp; done)) ?_
    refine res_nil ?_
    rw [hno]
    exact ⟨K, none, 0, rfl, Own.nil _ _ _, by simp [ob]⟩
  · skip
    exact fun _ _ _ h => absurd h.1 (by simp)

end Go.Proofs.YtenbjndldenkfaaGreatDoor
