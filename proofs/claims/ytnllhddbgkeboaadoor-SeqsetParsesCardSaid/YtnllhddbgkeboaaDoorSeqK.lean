/-
  The walks of seqset: spans of a text.
-/
import Derived.Test.YtnllhddbgkeboaaDoorSeqJ
namespace Go.Proofs.YtnllhddbgkeboaaDoor
open Go.RowKit Go.Sort

theorem SC_map_snoc (pre : List Tx) (x : Tx) : SC (pre.map spanQ) ++ SC [spanQ x] = SC ((pre ++ [x]).map spanQ) := by simp [SC]
theorem hrdS {w w' : World} {t : TypeId} {x : Sp} (h : Fresh w w' t (Value.agg (SC1 x).toArray).cells) : Rd w' 2 (some ⟨w.heap.size, 0, none⟩) 1 (SC [x]) := Rd.of_blk (n := 1) (size := 2) h.blk rfl
theorem SC_one (l : List Sp) : ∀ u ∈ SC l, u.oneCell' = true := by
  intro u hu
  obtain ⟨x, _, hx⟩ := List.mem_flatMap.1 hu
  exact SC1_one x u hx
theorem SC_len (l : List Sp) : (SC l).length = l.length * 2 := by induction l with
  | nil => rfl
  | cons a l ih => rw [show SC (a :: l) = SC1 a ++ SC l from rfl, List.length_append, ih, SC1_len, List.length_cons]; omega
def perr (s : Tx) : Int := if ParseOk s then 0 else 3
/-- What Parse has of some words. -/
def PaI (w : World) (s : Tx) (g2 g3 g4 : Nat) (Bt : List Nat) (pre : List Tx) (W : World) : Prop :=
  (∀ x ∈ pre, GoodW x) ∧ pre.length ≤ 64 ∧ Frm [] w W ∧ Blk W g2 37 #[.slice none 0 0] ∧ Blk W g3 49 #[.int .i64 0] ∧
    ∃ A q, Blk W g4 37 #[.slice A pre.length q] ∧ Own W 46 2 A pre.length q (SC (pre.map spanQ)) ∧ ∀ x ∈ ob A, w.heap.size ≤ x ∧ x ∉ Bt
def PaX (w : World) (s : Tx) (g2 g3 : Nat) (e : Exit) (pre : List Tx) (W : World) : Prop :=
  e = .ret ∧ ¬ ParseOk s ∧ Frm [] w W ∧ Blk W g2 37 #[.slice none 0 0] ∧ Blk W g3 49 #[.int .i64 3]
theorem parse_good {s : Tx} (h : ParseOk s) : parseQ s = (splitF 44 s).map spanQ ∧ perr s = 0 := by unfold parseQ perr; rw [if_pos h, if_pos h]; exact ⟨rfl, rfl⟩
theorem parse_bad {s : Tx} (h : ¬ ParseOk s) : parseQ s = [] ∧ perr s = 3 := by unfold parseQ perr; rw [if_neg h, if_neg h]; exact ⟨rfl, rfl⟩

set_option maxRecDepth 100000 in
theorem parse_spec (s : Tx) (w : World) (hs : s.length ≤ 1000000) :
    Calls Tryd.prog 28 #[encStr s] w fun e w' => Frm [] w w' ∧ ∃ A q, e = .returned (.tuple #[.slice A (parseQ s).length q, .int .i64 (perr s)]) ∧ Own w' 46 2 A (parseQ s).length q (SC (parseQ s)) ∧ (∀ x ∈ ob A, w.heap.size ≤ x) := by
  have K := Frm.refl [] w
  refine DV.calls (nt := 46) (res := #[.cell 2 37, .cell 3 49]) Tryd.func28 rfl Tryd.ntmps28 Tryd.results28 rfl ?_
  refine DV.seq ?_
  refine DV.vc ?_
  refine VC.region ?_
  refine Ops.m (Does.alloc zero37) rfl ?_
  rintro _ w1 ⟨rfl, hF_w1⟩
  have hb2 := hF_w1.blk
  have hs2_K := K.size
  have K := Frm.trans K hF_w1.frm (by simp)
  generalize hg2 : w.heap.size = g2 at hb2 hs2_K ⊢
  refine Ops.m (Does.alloc zero49) rfl ?_
  rintro _ w2 ⟨rfl, hF_w2⟩
  have hb3 := hF_w2.blk
  have hs3_K := K.size
  have lt_hb2_3 := hb2.lt
  have hb2 := hb2.frm hF_w2.frm (by simp)
  have K := Frm.trans K hF_w2.frm (by simp)
  generalize hg3 : w1.heap.size = g3 at hb3 hs3_K lt_hb2_3 ⊢
  refine Ops.nil ?_
  refine thenD_n ?_
  refine DV.seq ?_
  refine DV.vc ?_
  refine VC.region ?_
  refine Ops.m (Does.alloc zero37) rfl ?_
  rintro _ w3 ⟨rfl, hF_w3⟩
  have hb4 := hF_w3.blk
  have hs4_K := K.size
  have lt_hb2_4 := hb2.lt
  have lt_hb3_4 := hb3.lt
  have hb2 := hb2.frm hF_w3.frm (by simp)
  have hb3 := hb3.frm hF_w3.frm (by simp)
  have K := Frm.trans K hF_w3.frm (by simp)
  generalize hg4 : w2.heap.size = g4 at hb4 hs4_K lt_hb2_4 lt_hb3_4 ⊢
  have l2 := hb2.lt
  have l3 := hb3.lt
  have l4 := hb4.lt
  refine Ops.nil ?_
  refine thenD_n ?_
  refine DV.seq ?_
  refine DV.seq ?_
  refine DV.vc ?_
  refine VC.region ?_
  refine Ops.r (Run.mv rfl) rfl ?_
  refine Ops.cl (Enters.fn (evs.cons rfl (evs.cons rfl evs.nil)) Tryd.call53) (SplitSeq_spec s 44 _) rfl ?_
  rintro e w4 ⟨hf_w4, ga, gb, gc, rfl, ⟨hqa, hqb, hqc⟩, hga, hgb, hgc, hnab, hncb⟩
  refine ⟨_, rfl, ?_⟩
  have hb2 := hb2.frm hf_w4 (by simp)
  have hb3 := hb3.frm hf_w4 (by simp)
  have hb4 := hb4.frm hf_w4 (by simp)
  have K := Frm.trans K hf_w4 (by simp)
  have h34 := hf_w4.size
  refine Ops.nil ?_
  refine thenD_n ?_
  refine DV.sub [(2, _), (3, _), (4, _), (11, _)] (.cons rfl (.cons rfl (.cons rfl (.cons rfl .nil)))) ?_
  refine DV.block ?_
  have hKs := K.size
  refine DV.range (ps := [12]) (fun x => [encStr x]) (split_iter s 44 ga gb gc hs ⟨hnab, hncb⟩) rfl Tryd.call103 (fun _ => rfl) rfl (PaI w s g2 g3 g4 [ga, gb, gc]) (PaX w s g2 g3) (fun x => [(2, .pointer (some ⟨g2, 0, none⟩)), (3, .pointer (some ⟨g3, 0, none⟩)), (4, .pointer (some ⟨g4, 0, none⟩)), (5, encStr x)]) ?_ ?_ ?_ ?_ ?_ ?_ ?_ ?_ ?_ ?_ ?_
  · skip
    rintro pre W W' S ⟨h1, h2, h3, h4, h5, A, q, h6, h7, h8⟩ hf hS
    exact ⟨h1, h2, h3.nc hf hS (by simp; omega) K.size, h4.frm hf (h4.nc hS (by simp; omega)), h5.frm hf (h5.nc hS (by simp; omega)), A, q, h6.frm hf (h6.nc hS (by simp; omega)), h7.frm hf (h7.nc hS (fun x hx hb => (h8 x hx).2 (by simp at hb ⊢; simp [hb]))), h8⟩
  · skip
    rintro e pre W W' S ⟨h1, h2, h3, h4, h5⟩ hf hS
    exact ⟨h1, h2, h3.nc hf hS (by simp; omega) K.size, h4.frm hf (h4.nc hS (by simp; omega)), h5.frm hf (h5.nc hS (by simp; omega))⟩
  · skip
    exact fun W hf => ⟨hqa.frm hf (by simp), hqb.frm hf (by simp), hqc.frm hf (by simp)⟩
  · skip
    simp
  · skip
    have := hqa.lt
    have := hqb.lt
    have := hqc.lt
    simp; omega
  · skip
    exact ⟨by simp, by simp, K, hb2, hb3, none, 0, hb4, Own.nil _ _ _, by simp [ob]⟩
  · intro l x W
    refine VC.sub [(2, _), (3, _), (4, _), (12, _)] (.cons rfl (.cons rfl (.cons rfl (.cons rfl .nil)))) ?_
    refine VC.region ?_
    refine Ops.r (Run.asg rfl) rfl ?_
    refine Ops.nil ?_
    refine thenQ_n ⟨rfl, (.cons rfl (.cons rfl (.cons rfl (.cons rfl .nil))))⟩
  · skip
    rintro l pre x W ⟨hgd, hpl, K, hb2, hb3, A, q, hb4, hA, hAB⟩ hpre hsz hmk
    have hxm : x ∈ splitF 44 s := hpre.subset (by simp)
    have hxl := Nat.le_trans (split_len s x hxm) hs
    have hxb := bef_len 58 x
    have KW := Frm.refl [] W
    have hAlt := hA.lt
    have h20 := hb2
    have h30 := hb3
    have h40 := hb4
    have hA0 := hA
    have K0 := K
    have hl2 := hb2.lt
    have hl3 := hb3.lt
    have hl4 := hb4.lt
    have hla := hqa.lt
    have hlb := hqb.lt
    have hlc := hqc.lt
    have hAne : ∀ y ∈ ob A, y ≠ g4 ∧ y ≠ g2 ∧ y ≠ g3 := by
      intro y hy
      refine ⟨?_, ?_, ?_⟩
      · rintro rfl; exact hA.ne_blk hb4 (by decide) hy
      · rintro rfl; exact hA.ne_blk hb2 (by decide) hy
      · rintro rfl; exact hA.ne_blk hb3 (by decide) hy
    refine VC.block ?_
    refine VC.seq ?_
    refine VC.region ?_
    refine Ops.r (Run.mv rfl) rfl ?_
    refine Ops.cl (Enters.fn (evs.cons rfl (evs.cons rfl evs.nil)) Tryd.call34) (cut_spec x 58 _ hxl) rfl ?_
    rintro e W1 ⟨rfl, hf_W1⟩
    refine ⟨_, rfl, ?_⟩
    have hb2 := hb2.frm hf_W1 (by simp)
    have hb3 := hb3.frm hf_W1 (by simp)
    have hb4 := hb4.frm hf_W1 (by simp)
    have KW := Frm.trans KW hf_W1 (by simp)
    have K := Frm.trans K hf_W1 (by simp)
    have hA := hA.frm hf_W1 (by simp)
    refine Ops.r (Run.mv rfl) rfl ?_
    refine Ops.r (Run.extract rfl rfl) rfl ?_
    refine Ops.r (Run.extract rfl rfl) rfl ?_
    refine Ops.r (Run.extract rfl rfl) rfl ?_
    refine Ops.r (Run.asg rfl) rfl ?_
    refine Ops.r (Run.asg rfl) rfl ?_
    refine Ops.r (Run.asg rfl) rfl ?_
    refine Ops.nil ?_
    refine thenQ_n ?_
    refine VC.sub [(2, _), (3, _), (4, _), (6, _), (7, _), (8, _)] (.cons rfl (.cons rfl (.cons rfl (.cons rfl (.cons rfl (.cons rfl .nil)))))) ?_
    refine VC.seq ?_
    refine VC.region ?_
    refine Ops.r (Run.mv rfl) rfl ?_
    refine Ops.cl (Enters.fn (evs.cons rfl evs.nil) Tryd.call54) (number_spec (befF 58 x) _ (by omega)) rfl ?_
    rintro e _ ⟨rfl, rfl⟩
    refine ⟨_, rfl, ?_⟩
    refine Ops.r (Run.mv rfl) rfl ?_
    refine Ops.cl (Enters.fn (evs.cons rfl evs.nil) Tryd.call54) (number_spec (befF 58 x) _ (by omega)) rfl ?_
    rintro e _ ⟨rfl, rfl⟩
    refine ⟨_, rfl, ?_⟩
    refine Ops.r (Run.build (evs.cons rfl (evs.cons rfl evs.nil)) zero46 (places46).choose_spec.1 (places46).choose_spec.2 rfl) rfl ?_
    refine Ops.m (Does.alloc zero46) rfl ?_
    rintro _ W2 ⟨rfl, hF_W2⟩
    have hb9 := hF_W2.blk
    have hs9_KW := KW.size
    have hs9_K := K.size
    have lt_hb2_9 := hb2.lt
    have lt_hb3_9 := hb3.lt
    have lt_hb4_9 := hb4.lt
    have hb2 := hb2.frm hF_W2.frm (by simp)
    have hb3 := hb3.frm hF_W2.frm (by simp)
    have hb4 := hb4.frm hF_W2.frm (by simp)
    have KW := Frm.trans KW hF_W2.frm (by simp)
    have K := Frm.trans K hF_W2.frm (by simp)
    generalize hg9 : W1.heap.size = g9 at hb9 hs9_KW hs9_K lt_hb2_9 lt_hb3_9 lt_hb4_9 ⊢
    have hA := hA.frm hF_W2.frm (by simp)
    refine Ops.st (Acts.storeA rfl rfl Tryd.sizeOf46 hb9 rfl (SC1_one (numQ (befF 58 x), numQ (befF 58 x)))) ?_
    rintro W3 ⟨hb9n, hf_W3, hsz_W3⟩
    have hb9 : Blk W3 g9 46 #[.int .i64 (numQ (befF 58 x)), .int .i64 (numQ (befF 58 x))] := hb9n
    have hA := hA.frm hf_W3 (fun y hy => by have := hAlt y hy; simp; omega)
    have hb2 := hb2.frm hf_W3 (by simp; omega)
    have hb3 := hb3.frm hf_W3 (by simp; omega)
    have hb4 := hb4.frm hf_W3 (by simp; omega)
    have KW := Frm.own KW hf_W3 (fun y hy => by simp at hy; omega)
    have K := Frm.own K hf_W3 (fun y hy => by simp at hy; omega)
    refine Ops.nil ?_
    refine thenQ_n ?_
    refine VC.sub [(2, _), (3, _), (4, _), (7, _), (8, _), (9, _)] (.cons rfl (.cons rfl (.cons rfl (.cons rfl (.cons rfl (.cons rfl .nil)))))) ?_
    refine VC.seq ?_
    refine VC.seq ?_
    refine VC.region ?_
    refine Ops.r (Run.mv rfl) rfl ?_
    refine Ops.nil ?_
    refine thenQ_n ?_
    refine VC.sub [(2, _), (3, _), (4, _), (7, _), (9, _), (24, _)] (.cons rfl (.cons rfl (.cons rfl (.cons rfl (.cons rfl (.cons rfl .nil)))))) ?_
    refine VC.meet (σ := Unit) (fun s => [(2, .pointer (some ⟨g2, 0, none⟩)), (3, .pointer (some ⟨g3, 0, none⟩)), (4, .pointer (some ⟨g4, 0, none⟩)), (9, .pointer (some ⟨g9, 0, none⟩))]) (fun s wr => Blk wr g9 46 (SC1 (spanQ x)).toArray ∧ Frm [g9] W3 wr) ?_ ?_
    · skip
      refine VC.condB rfl (fun hc1 => ?_) (fun hc1 => ?_)
      · skip
        refine VC.region ?_
        refine Ops.r (Run.mv rfl) rfl ?_
        refine Ops.cl (Enters.fn (evs.cons rfl evs.nil) Tryd.call54) (number_spec (aftF 58 x) _ (by omega)) rfl ?_
        rintro e _ ⟨rfl, rfl⟩
        refine ⟨_, rfl, ?_⟩
        refine Ops.r (Run.fieldAddr rfl Tryd.underlying46 rfl Tryd.sizeOf3 (by decide)) rfl ?_
        refine Ops.st (Acts.store rfl rfl Tryd.sizeOf3 hb9 rfl rfl) ?_
        rintro W4 ⟨hb9n, hf_W4, hsz_W4⟩
        have hb9n : Blk W4 g9 46 #[.int .i64 (numQ (befF 58 x)), .int .i64 (numQ (aftF 58 x))] := hb9n
        refine Ops.nil ?_
        refine thenQ_n ⟨(), (.cons rfl (.cons rfl (.cons rfl (.cons rfl .nil)))), ?_⟩
        have h58 : 58 ∈ x := of_decide_eq_true hc1
        exact ⟨by unfold spanQ; rw [if_pos h58]; exact hb9n, hf_W4⟩
      · skip
        refine VC.skip ?_
        refine thenQ_n ⟨(), (.cons rfl (.cons rfl (.cons rfl (.cons rfl .nil)))), ?_⟩
        have h58 : ¬ 58 ∈ x := of_decide_eq_false hc1
        exact ⟨by unfold spanQ; rw [if_neg h58]; exact hb9, Frm.refl _ _⟩
    · skip
      rintro _ W5 ⟨hb9, hf_W5⟩ Γ hΓ
      have hA := hA.frm hf_W5 (fun y hy => by have := hAlt y hy; simp; omega)
      have hb2 := hb2.frm hf_W5 (by simp; omega)
      have hb3 := hb3.frm hf_W5 (by simp; omega)
      have hb4 := hb4.frm hf_W5 (by simp; omega)
      have KW := Frm.own KW hf_W5 (fun y hy => by simp at hy; omega)
      have K := Frm.own K hf_W5 (fun y hy => by simp at hy; omega)
      have hbadQ : GoodW x ↔ (0 ≤ (spanQ x).1 ∧ 0 ≤ (spanQ x).2) := Iff.rfl
      have hsp : ∃ sp, spanQ x = sp := ⟨_, rfl⟩
      obtain ⟨sp, hsp⟩ := hsp
      rw [hsp] at hb9 hbadQ
      refine thenQ_n (VC.sub _ hΓ ?_)
      refine VC.seq ?_
      refine VC.seq ?_
      refine VC.split1 [(2, _), (3, _), (4, _), (9, _)] (.cons rfl (.cons rfl (.cons rfl (.cons rfl .nil)))) 40 (.bool (decide (¬ GoodW x ∨ pre.length = 64))) ?_ ?_
      · refine VC.region ?_
        refine Ops.r (Run.fieldAddr rfl Tryd.underlying46 rfl Tryd.sizeOf3 (by decide)) rfl ?_
        refine Ops.r (Run.load rfl Tryd.isAgg3 (hb9.cell 0)) rfl ?_
        refine Ops.r (Run.bin rfl rfl (Bin.lss _ 0)) rfl ?_
        by_cases hs30 : sp.1 < 0
        · skip
          refine Ops.r (Run.mv rfl) rfl ?_
          refine Ops.sk rfl (by first | rfl | assumption | exact decide_eq_true (by assumption) | exact decide_eq_false (by assumption) | decide | (simp; done) | (simp; omega) | (simp [*]; done)) rfl ?_
          refine Ops.sk rfl (by first | rfl | assumption | exact decide_eq_true (by assumption) | exact decide_eq_false (by assumption) | decide | (simp; done) | (simp; omega) | (simp [*]; done)) rfl ?_
          refine Ops.sk rfl (by first | rfl | assumption | exact decide_eq_true (by assumption) | exact decide_eq_false (by assumption) | decide | (simp; done) | (simp; omega) | (simp [*]; done)) rfl ?_
          refine Ops.r (Run.pickT rfl rfl (by first | rfl | assumption | exact decide_eq_true (by assumption) | exact decide_eq_false (by assumption) | decide | (simp; done) | (simp; omega) | (simp [*]; done))) rfl ?_
          refine Ops.r (Run.mv rfl) rfl ?_
          refine Ops.sk rfl (by first | rfl | assumption | exact decide_eq_true (by assumption) | exact decide_eq_false (by assumption) | decide | (simp; done) | (simp; omega) | (simp [*]; done)) rfl ?_
          refine Ops.sk rfl (by first | rfl | assumption | exact decide_eq_true (by assumption) | exact decide_eq_false (by assumption) | decide | (simp; done) | (simp; omega) | (simp [*]; done)) rfl ?_
          refine Ops.sk rfl (by first | rfl | assumption | exact decide_eq_true (by assumption) | exact decide_eq_false (by assumption) | decide | (simp; done) | (simp; omega) | (simp [*]; done)) rfl ?_
          refine Ops.r (Run.pickT rfl rfl (by first | rfl | assumption | exact decide_eq_true (by assumption) | exact decide_eq_false (by assumption) | decide | (simp; done) | (simp; omega) | (simp [*]; done))) rfl ?_
          refine Ops.nil ?_
          refine thenQ_n ⟨(.cons (congrArg (fun b => some (Value.bool b)) (Eq.symm (by first | exact decide_eq_true (.inl fun h => by have := (hbadQ.1 h).1; omega) | exact decide_eq_true (.inl fun h => by have := (hbadQ.1 h).2; omega) | exact decide_eq_decide.2 ⟨fun h => h.resolve_left (fun h2 => h2 (hbadQ.2 ⟨by omega, by omega⟩)), .inr⟩))) (.cons rfl (.cons rfl (.cons rfl (.cons rfl .nil))))), rfl⟩
        · skip
          refine Ops.r (Run.mv rfl) rfl ?_
          refine Ops.rg rfl (by first | rfl | assumption | exact decide_eq_true (by assumption) | exact decide_eq_false (by assumption) | decide | (simp; done) | (simp; omega) | (simp [*]; done)) (Run.fieldAddr rfl Tryd.underlying46 rfl Tryd.sizeOf3 (by decide)) rfl ?_
          refine Ops.rg rfl (by first | rfl | assumption | exact decide_eq_true (by assumption) | exact decide_eq_false (by assumption) | decide | (simp; done) | (simp; omega) | (simp [*]; done)) (Run.load rfl Tryd.isAgg3 (hb9.cell 1)) rfl ?_
          refine Ops.rg rfl (by first | rfl | assumption | exact decide_eq_true (by assumption) | exact decide_eq_false (by assumption) | decide | (simp; done) | (simp; omega) | (simp [*]; done)) (Run.bin rfl rfl (Bin.lss _ 0)) rfl ?_
          by_cases hs34 : sp.2 < 0
          · skip
            refine Ops.r (Run.pickF rfl rfl (by first | rfl | assumption | exact decide_eq_true (by assumption) | exact decide_eq_false (by assumption) | decide | (simp; done) | (simp; omega) | (simp [*]; done))) rfl ?_
            refine Ops.r (Run.mv rfl) rfl ?_
            refine Ops.sk rfl (by first | rfl | assumption | exact decide_eq_true (by assumption) | exact decide_eq_false (by assumption) | decide | (simp; done) | (simp; omega) | (simp [*]; done)) rfl ?_
            refine Ops.sk rfl (by first | rfl | assumption | exact decide_eq_true (by assumption) | exact decide_eq_false (by assumption) | decide | (simp; done) | (simp; omega) | (simp [*]; done)) rfl ?_
            refine Ops.sk rfl (by first | rfl | assumption | exact decide_eq_true (by assumption) | exact decide_eq_false (by assumption) | decide | (simp; done) | (simp; omega) | (simp [*]; done)) rfl ?_
            refine Ops.r (Run.pickT rfl rfl (by first | rfl | assumption | exact decide_eq_true (by assumption) | exact decide_eq_false (by assumption) | decide | (simp; done) | (simp; omega) | (simp [*]; done))) rfl ?_
            refine Ops.nil ?_
            refine thenQ_n ⟨(.cons (congrArg (fun b => some (Value.bool b)) (Eq.symm (by first | exact decide_eq_true (.inl fun h => by have := (hbadQ.1 h).1; omega) | exact decide_eq_true (.inl fun h => by have := (hbadQ.1 h).2; omega) | exact decide_eq_decide.2 ⟨fun h => h.resolve_left (fun h2 => h2 (hbadQ.2 ⟨by omega, by omega⟩)), .inr⟩))) (.cons rfl (.cons rfl (.cons rfl (.cons rfl .nil))))), rfl⟩
          · skip
            refine Ops.r (Run.pickF rfl rfl (by first | rfl | assumption | exact decide_eq_true (by assumption) | exact decide_eq_false (by assumption) | decide | (simp; done) | (simp; omega) | (simp [*]; done))) rfl ?_
            refine Ops.r (Run.mv rfl) rfl ?_
            refine Ops.rg rfl (by first | rfl | assumption | exact decide_eq_true (by assumption) | exact decide_eq_false (by assumption) | decide | (simp; done) | (simp; omega) | (simp [*]; done)) (Run.load rfl Tryd.isAgg37 (hb4.cell 0)) rfl ?_
            refine Ops.rg rfl (by first | rfl | assumption | exact decide_eq_true (by assumption) | exact decide_eq_false (by assumption) | decide | (simp; done) | (simp; omega) | (simp [*]; done)) (Run.lenS rfl Tryd.underlying37) rfl ?_
            refine Ops.rg rfl (by first | rfl | assumption | exact decide_eq_true (by assumption) | exact decide_eq_false (by assumption) | decide | (simp; done) | (simp; omega) | (simp [*]; done)) (Run.bin rfl rfl (Bin.eqlN _ 64)) rfl ?_
            by_cases hs39 : pre.length = 64
            · skip
              refine Ops.r (Run.pickF rfl rfl (by first | rfl | assumption | exact decide_eq_true (by assumption) | exact decide_eq_false (by assumption) | decide | (simp; done) | (simp; omega) | (simp [*]; done))) rfl ?_
              refine Ops.nil ?_
              refine thenQ_n ⟨(.cons (congrArg (fun b => some (Value.bool b)) (Eq.symm (by first | exact decide_eq_true (.inl fun h => by have := (hbadQ.1 h).1; omega) | exact decide_eq_true (.inl fun h => by have := (hbadQ.1 h).2; omega) | exact decide_eq_decide.2 ⟨fun h => h.resolve_left (fun h2 => h2 (hbadQ.2 ⟨by omega, by omega⟩)), .inr⟩))) (.cons rfl (.cons rfl (.cons rfl (.cons rfl .nil))))), rfl⟩
            · skip
              refine Ops.r (Run.pickF rfl rfl (by first | rfl | assumption | exact decide_eq_true (by assumption) | exact decide_eq_false (by assumption) | decide | (simp; done) | (simp; omega) | (simp [*]; done))) rfl ?_
              refine Ops.nil ?_
              refine thenQ_n ⟨(.cons (congrArg (fun b => some (Value.bool b)) (Eq.symm (by first | exact decide_eq_true (.inl fun h => by have := (hbadQ.1 h).1; omega) | exact decide_eq_true (.inl fun h => by have := (hbadQ.1 h).2; omega) | exact decide_eq_decide.2 ⟨fun h => h.resolve_left (fun h2 => h2 (hbadQ.2 ⟨by omega, by omega⟩)), .inr⟩))) (.cons rfl (.cons rfl (.cons rfl (.cons rfl .nil))))), rfl⟩
      · intro Γ hΓ
        refine thenQ_n (VC.sub _ hΓ ?_)
        refine VC.condD rfl (fun hc2 => ?_) (fun hc2 => ?_)
        · skip
          refine VC.seq ?_
          refine VC.region ?_
          refine Ops.st (Acts.store rfl rfl Tryd.sizeOf37 hb2 rfl rfl) ?_
          rintro W6 ⟨hb2n, hf_W6, hsz_W6⟩
          have hb2n : Blk W6 g2 37 #[.slice none 0 0] := hb2n
          have hb3 := hb3.frm hf_W6 (by simp; omega)
          refine Ops.st (Acts.store rfl rfl Tryd.sizeOf49 hb3 rfl rfl) ?_
          rintro W7 ⟨hb3n, hf_W7, hsz_W7⟩
          have hb3n : Blk W7 g3 49 #[.int .i64 3] := hb3n
          have hb2n := hb2n.frm hf_W7 (by simp; omega)
          refine Ops.nil ?_
          refine thenQ_n ?_
          refine VC.sub [(2, _), (3, _)] (.cons rfl (.cons rfl .nil)) ?_
          refine VC.ret ?_
          refine thenQ_r (blockQ_r (?_))
          refine ⟨⟨[g2, g3], ?_, ?_⟩, rfl, ?_, ?_, hb2n, hb3n⟩
          · exact ((KW.mono (T := [g2, g3]) (by simp)).trans hf_W6 (by simp)).trans hf_W7 (by simp)
          · intro b hb
            simp only [List.mem_cons, List.not_mem_nil, or_false] at hb
            rcases hb with rfl | rfl
            · exact ⟨by simp; omega, h20.isC⟩
            · exact ⟨by simp; omega, h30.isC⟩
          · rintro ⟨hall, hlen⟩
            rcases hc2 with h | h
            · exact h (hall x hxm)
            · have := hpre.length_le
              simp at this
              omega
          · exact Frm.own (Frm.own K hf_W6 (fun y hy => by simp at hy; omega)) hf_W7 (fun y hy => by simp at hy; omega)
        · skip
          refine VC.skip ?_
          refine thenQ_n ?_
          refine VC.sub [(4, _), (9, _)] (.cons rfl (.cons rfl .nil)) ?_
          refine VC.region ?_
          refine Ops.r (Run.load rfl Tryd.isAgg37 (hb4.cell 0)) rfl ?_
          refine Ops.r (Run.loadA rfl Tryd.isAgg46 Tryd.sizeOf46 (fun j v hj => hb9.cells j v hj) (by first | rfl | (simp; done))) rfl ?_
          refine Ops.m (Does.buildS1 rfl Tryd.underlying37 Tryd.sizeOf46 zero46 (by decide) (by decide) rfl rfl) rfl ?_
          rintro _ W6 ⟨rfl, hF_W6⟩
          have hb4 := hb4.frm hF_W6.frm (by simp)
          have hb2 := hb2.frm hF_W6.frm (by simp)
          have hb3 := hb3.frm hF_W6.frm (by simp)
          have KW := KW.trans hF_W6.frm (by simp)
          have K := K.trans hF_W6.frm (by simp)
          refine Ops.m (Does.app rfl rfl Tryd.underlying37 (info46) rfl (by decide) (hA.frm hF_W6.frm (by simp)) (hrdS hF_W6) (SC_one _) (by omega) (by omega)) rfl ?_
          rintro _ W7 ⟨A7, c7, rfl, hA7, hf_W7, hob7⟩
          rw [← hsp, SC_map_snoc] at hA7
          have hb4 := hb4.frm hf_W7 (fun hy => (hAne _ hy).1 rfl)
          have hb2 := hb2.frm hf_W7 (fun hy => (hAne _ hy).2.1 rfl)
          have hb3 := hb3.frm hf_W7 (fun hy => (hAne _ hy).2.2 rfl)
          have K := Frm.own K hf_W7 (fun y hy => (hAB y hy).1)
          refine Ops.st (Acts.store rfl rfl Tryd.sizeOf37 hb4 rfl rfl) ?_
          rintro W8 ⟨hb4n, hf_W8, hsz_W8⟩
          refine Ops.nil ?_
          refine blockQ_n (?_)
          refine ⟨⟨ob A ++ [g4], ?_, ?_⟩, ?_⟩
          · exact ((KW.mono (T := ob A ++ [g4]) (by simp)).trans hf_W7 (fun y hy => .inl (by simp [hy]))).trans hf_W8 (fun y hy => .inl (by simp at hy; simp [hy]))
          · intro b hb
            rcases List.mem_append.1 hb with h | h
            · exact ⟨(hAB b h).2, hA0.isC b h⟩
            · simp only [List.mem_singleton] at h
              subst h
              exact ⟨by simp; omega, h40.isC⟩
          · have hgx : GoodW x := Classical.byContradiction fun h => hc2 (.inl h)
            have hne4 : ∀ y ∈ ob A7, y ≠ g4 := by
              intro y hy
              have := hA7.ne_blk hb4 (by decide)
              rintro rfl
              exact this hy
            refine ⟨fun y hy => ?_, ?_, Frm.own K hf_W8 (fun y hy => by simp at hy; omega), hb2.frm hf_W8 (by simp; omega), hb3.frm hf_W8 (by simp; omega), A7, c7, ?_, ?_, ?_⟩
            · rcases List.mem_append.1 hy with h | h
              · exact hgd y h
              · simp only [List.mem_singleton] at h; subst h; exact hgx
            · have : pre.length ≠ 64 := fun h => hc2 (.inr h)
              simp; omega
            · rw [List.length_append]; exact hb4n
            · rw [List.length_append]; exact hA7.frm hf_W8 (fun y hy => by have := hne4 y hy; simpa using this)
            · intro y hy
              rcases hob7 with h | h
              · rw [h] at hy; exact hAB y hy
              · rw [h] at hy
                simp only [List.mem_singleton] at hy
                have := KW.size
                have := hF_W6.size
                have := K0.size
                subst hy
                exact ⟨by omega, by simp; omega⟩
  · skip
    rintro W ⟨hgd, hpl, K, hb2, hb3, A, q, hb4, hA, hAB⟩ hsz hmk
    refine blockD_n (thenD_n ?_)
    refine DV.sub [(2, _), (3, _), (4, _)] (.cons rfl (.cons rfl (.cons rfl .nil))) ?_
    refine DV.seq ?_
    refine DV.vc ?_
    refine VC.region ?_
    refine Ops.r (Run.load rfl Tryd.isAgg37 (hb4.cell 0)) rfl ?_
    refine Ops.st (Acts.store rfl rfl Tryd.sizeOf37 hb2 rfl rfl) ?_
    rintro V1 ⟨hb2n, hf_V1, _⟩
    have hb2n : Blk V1 g2 37 #[.slice A (splitF 44 s).length q] := hb2n
    have hmk := hmk.frm hf_V1 (by simp; exact hmk.ne_blk hb2)
    have hA := hA.frm hf_V1 (fun y hy => by have := hA.ne_blk hb2 (by decide); simp; rintro rfl; exact this hy)
    have hb3 := hb3.frm hf_V1 (by simp; omega)
    have K := Frm.own K hf_V1 (fun y hy => by simp at hy; omega)
    refine Ops.st (Acts.store rfl rfl Tryd.sizeOf49 hb3 rfl rfl) ?_
    rintro V2 ⟨hb3n, hf_V2, _⟩
    have hb3n : Blk V2 g3 49 #[.int .i64 0] := hb3n
    have hmk := hmk.frm hf_V2 (by simp; exact hmk.ne_blk hb3)
    have hA := hA.frm hf_V2 (fun y hy => by have := hA.ne_blk hb3 (by decide); simp; rintro rfl; exact this hy)
    have hb2n := hb2n.frm hf_V2 (by simp; omega)
    have K := Frm.own K hf_V2 (fun y hy => by simp at hy; omega)
    refine Ops.nil ?_
    refine thenD_n ?_
    refine DV.sub [(2, _), (3, _)] (.cons rfl (.cons rfl .nil)) ?_
    refine DV.vc (VC.ret ?_)
    refine endD_r (by simp) (fun d hd => by simp only [List.mem_singleton] at hd; subst hd; exact hmk) (fun wz hsh => ?_)
    have hb2n := hb2n.frm hsh (by simp; omega)
    have hb3n := hb3n.frm hsh (by simp; omega)
    have hA := hA.frm hsh (fun y hy => by have := hmk.ne_own hA; simp; rintro rfl; exact this hy)
    have K := Frm.own K hsh (fun y hy => by have := hKs; simp at hy; omega)
    refine endR ?_
    refine res_cell rfl Tryd.isAgg37 (hb2n.cell 0) ?_
    refine res_cell rfl Tryd.isAgg49 (hb3n.cell 0) ?_
    refine res_nil ?_
    have hok : ParseOk s := ⟨hgd, hpl⟩
    obtain ⟨h1, h2⟩ := parse_good hok
    rw [h1, h2]
    exact ⟨K, A, q, by rw [List.length_map]; rfl, by rw [List.length_map]; exact hA, fun x hx => by have := (hAB x hx).1; omega⟩
  · skip
    rintro pre W ⟨_, hno, K, hb2, hb3⟩ hsz hmk
    refine blockD_r (thenD_r (endD_r (by simp) (fun d hd => by simp only [List.mem_singleton] at hd; subst hd; exact hmk) (fun wz hsh => ?_)))
    have hb2 := hb2.frm hsh (by simp; omega)
    have hb3 := hb3.frm hsh (by simp; omega)
    have K := Frm.own K hsh (fun y hy => by have := hKs; simp at hy; omega)
    refine endR ?_
    refine res_cell rfl Tryd.isAgg37 (hb2.cell 0) ?_
    refine res_cell rfl Tryd.isAgg49 (hb3.cell 0) ?_
    refine res_nil ?_
    obtain ⟨h1, h2⟩ := parse_bad hno
    rw [h1, h2]
    exact ⟨K, none, 0, rfl, Own.nil _ _ _, by simp [ob]⟩
  · skip
    exact fun _ _ _ h => absurd h.1 (by simp)

end Go.Proofs.YtnllhddbgkeboaaDoor
