/-
  Pieces of a text, one behind the other.
-/
import Derived.Test.YtenbjndldenkfaaGreatDoorParB
namespace Go.Proofs.YtenbjndldenkfaaGreatDoor
open Go.RowKit Go.Sort

theorem gluP_last {a : List Tx} {b : Tx} {qt : Bool} : a ++ gluP b (pcs qt []) = a ++ [b] := by simp [pcs, gluP]
theorem cur_snoc {q : Tx} {f i : Nat} (hf : f ≤ i) (hi : i < q.length) : (q.drop f).take (i + 1 - f) = (q.drop f).take (i - f) ++ [q[i]] := by
  have hl : i - f < (q.drop f).length := by rw [List.length_drop]; omega
  rw [show i + 1 - f = (i - f) + 1 by omega, take_snoc hl]
  congr 2
  rw [List.getElem_drop]
  congr 1
  omega

set_option maxRecDepth 100000 in
theorem pieces_iter (q : Tx) (g1 : Nat) (hs : q.length ≤ 1000000) :
    Iter Tryz.prog 208 #[.pointer (some ⟨g1, 0, none⟩)] (fun x => #[encStr x]) [] [g1] (fun w => Blk w g1 9 #[encStr q]) (pcs false q) := by
  intro l J Jx w hJ hJx hb1 hY h0
  refine VC.calls (nt := 52) (res := #[]) Tryz.func208 rfl Tryz.ntmps208 Tryz.results208 rfl ?_
  refine VC.seq ?_
  refine VC.region ?_
  refine Ops.r (v := .int .i64 ((0 : Nat) : Int)) (Run.asg rfl) rfl ?_
  refine Ops.r (Run.asg rfl) rfl ?_
  refine Ops.nil ?_
  refine thenQ_n ?_
  refine VC.seq ?_
  refine VC.seq ?_
  refine VC.region ?_
  refine Ops.r (v := .int .i64 ((0 : Nat) : Int)) (Run.asg rfl) rfl ?_
  refine Ops.nil ?_
  refine thenQ_n ?_
  refine VC.block ?_
  refine VC.loop (σ := Nat × Nat × List Tx × Tx × Bool) (fun s1 => [(0, .func (.yield l) #[] #[]), (1, .pointer (some ⟨g1, 0, none⟩)), (3, .int .i64 ((s1.2.1 : Nat) : Int)), (4, .bool s1.2.2.2.2), (5, .int .i64 ((s1.1 : Nat) : Int))]) (fun s1 wr => s1.1 ≤ q.length + 1 ∧ s1.2.1 ≤ s1.1 ∧ s1.2.1 ≤ q.length ∧ s1.2.2.2.1 = (q.drop s1.2.1).take (s1.1 - s1.2.1) ∧ pcs false q = s1.2.2.1 ++ gluP s1.2.2.2.1 (pcs s1.2.2.2.2 (q.drop s1.1)) ∧ Blk wr g1 9 #[encStr q] ∧ J s1.2.2.1 wr) (fun s1 => q.length + 1 - s1.1) (0, 0, [], [], false) (.cons rfl (.cons rfl (.cons rfl (.cons rfl (.cons rfl .nil))))) ⟨by omega, by simp, by simp, by simp, by rw [List.drop_zero, List.nil_append, gluP_nil (pcs_ne _ q)], hb1, h0⟩ ?_
  rintro ⟨i, f, a, b, qt⟩ wr ⟨hi, hfi, hfl, hb, hsp, hb1, hj⟩
  dsimp only at hi hfi hfl hb hsp hj ⊢
  refine VC.seq ?_
  refine VC.seq ?_
  refine VC.region ?_
  refine Ops.r (Run.mv rfl) rfl ?_
  refine Ops.r (Run.load rfl Tryz.isAgg9 (hb1.cell 0)) rfl ?_
  refine Ops.r (Run.lenT rfl Tryz.underlying9) rfl ?_
  refine Ops.r (Run.bin rfl rfl (Bin.lssN _ _)) rfl ?_
  refine Ops.nil ?_
  refine thenQ_n ?_
  refine VC.sub [(0, _), (1, _), (3, _), (4, _), (5, _), (9, _)] (.cons rfl (.cons rfl (.cons rfl (.cons rfl (.cons rfl (.cons rfl .nil)))))) ?_
  refine VC.condD rfl (fun hc1 => ?_) (fun hc1 => ?_)
  · skip
    have hgx : q[i]? = some q[i] := List.getElem?_eq_getElem hc1
    have hdc := drop_cons hc1
    have hcs := cur_snoc hfi hc1
    rw [← hb] at hcs
    generalize hx : q[i] = x at *
    refine VC.skip ?_
    refine thenQ_n ?_
    refine VC.sub [(0, _), (1, _), (3, _), (4, _), (5, _)] (.cons rfl (.cons rfl (.cons rfl (.cons rfl (.cons rfl .nil))))) ?_
    refine VC.seq ?_
    refine VC.block ?_
    refine VC.block ?_
    refine VC.seq ?_
    refine VC.split1 [(0, _), (1, _), (3, _), (4, _), (5, _)] (.cons rfl (.cons rfl (.cons rfl (.cons rfl (.cons rfl .nil))))) 12 (.bool (decide (qt = true ∧ x.toNat = 92))) ?_ ?_
    · refine VC.region ?_
      refine Ops.r (Run.mv rfl) rfl ?_
      by_cases hs13 : qt = true
      · skip
        refine Ops.r (Run.mv rfl) rfl ?_
        refine Ops.rg rfl (by first | rfl | assumption | exact decide_eq_true (by assumption) | exact decide_eq_false (by assumption) | decide | (simp; done) | (simp; omega) | (simp [*]; done)) (Run.load rfl Tryz.isAgg9 (hb1.cell 0)) rfl ?_
        refine Ops.rg rfl (by first | rfl | assumption | exact decide_eq_true (by assumption) | exact decide_eq_false (by assumption) | decide | (simp; done) | (simp; omega) | (simp [*]; done)) (Run.mv rfl) rfl ?_
        refine Ops.rg rfl (by first | rfl | assumption | exact decide_eq_true (by assumption) | exact decide_eq_false (by assumption) | decide | (simp; done) | (simp; omega) | (simp [*]; done)) (Run.indexT _ rfl rfl Tryz.underlying9 hgx) rfl ?_
        refine Ops.rg rfl (by first | rfl | assumption | exact decide_eq_true (by assumption) | exact decide_eq_false (by assumption) | decide | (simp; done) | (simp; omega) | (simp [*]; done)) (Run.bin rfl rfl (Bin.eqlN _ 92)) rfl ?_
        by_cases hs18 : x.toNat = 92
        · skip
          refine Ops.r (Run.pickT rfl rfl (by first | rfl | assumption | exact decide_eq_true (by assumption) | exact decide_eq_false (by assumption) | decide | (simp; done) | (simp; omega) | (simp [*]; done))) rfl ?_
          refine Ops.r (Run.asg rfl) rfl ?_
          refine Ops.nil ?_
          refine thenQ_n ⟨(.cons (congrArg (fun b => some (Value.bool b)) (by first | (simp [*]; done) | (simp_all; done))) (.cons rfl (.cons rfl (.cons rfl (.cons rfl (.cons rfl .nil)))))), rfl⟩
        · skip
          refine Ops.r (Run.pickT rfl rfl (by first | rfl | assumption | exact decide_eq_true (by assumption) | exact decide_eq_false (by assumption) | decide | (simp; done) | (simp; omega) | (simp [*]; done))) rfl ?_
          refine Ops.r (Run.asg rfl) rfl ?_
          refine Ops.nil ?_
          refine thenQ_n ⟨(.cons (congrArg (fun b => some (Value.bool b)) (by first | (simp [*]; done) | (simp_all; done))) (.cons rfl (.cons rfl (.cons rfl (.cons rfl (.cons rfl .nil)))))), rfl⟩
      · skip
        refine Ops.r (Run.mv rfl) rfl ?_
        refine Ops.sk rfl (by first | rfl | assumption | exact decide_eq_true (by assumption) | exact decide_eq_false (by assumption) | decide | (simp; done) | (simp; omega) | (simp [*]; done)) rfl ?_
        refine Ops.sk rfl (by first | rfl | assumption | exact decide_eq_true (by assumption) | exact decide_eq_false (by assumption) | decide | (simp; done) | (simp; omega) | (simp [*]; done)) rfl ?_
        refine Ops.sk rfl (by first | rfl | assumption | exact decide_eq_true (by assumption) | exact decide_eq_false (by assumption) | decide | (simp; done) | (simp; omega) | (simp [*]; done)) rfl ?_
        refine Ops.sk rfl (by first | rfl | assumption | exact decide_eq_true (by assumption) | exact decide_eq_false (by assumption) | decide | (simp; done) | (simp; omega) | (simp [*]; done)) rfl ?_
        refine Ops.r (Run.pickF rfl rfl (by first | rfl | assumption | exact decide_eq_true (by assumption) | exact decide_eq_false (by assumption) | decide | (simp; done) | (simp; omega) | (simp [*]; done))) rfl ?_
        refine Ops.r (Run.asg rfl) rfl ?_
        refine Ops.nil ?_
        refine thenQ_n ⟨(.cons (congrArg (fun b => some (Value.bool b)) (by first | (simp [*]; done) | (simp_all; done))) (.cons rfl (.cons rfl (.cons rfl (.cons rfl (.cons rfl .nil)))))), rfl⟩
    · intro Γ hΓ
      refine thenQ_n (VC.sub _ hΓ ?_)
      refine VC.condD rfl (fun hc2 => ?_) (fun hc2 => ?_)
      · skip
        obtain ⟨rfl, h92⟩ := hc2
        have hx92 : x = 92 := UInt8.toNat_inj.1 h92
        subst hx92
        refine VC.region ?_
        refine Ops.r (Run.mv rfl) rfl ?_
        refine Ops.r (Run.bin rfl rfl (Bin.add_i64 _ 1 (by omega))) rfl ?_
        refine Ops.r (Run.asg rfl) rfl ?_
        refine Ops.nil ?_
        refine blockQ_n (blockQ_n (thenQ_n ?_))
        refine VC.sub [(0, _), (1, _), (3, _), (4, _), (5, _)] (.cons rfl (.cons rfl (.cons rfl (.cons rfl (.cons rfl .nil))))) ?_
        refine VC.region ?_
        refine Ops.r (Run.mv rfl) rfl ?_
        refine Ops.r (Run.bin rfl rfl (Bin.add_i64 _ 1 (by omega))) rfl ?_
        refine Ops.r (Run.asg rfl) rfl ?_
        refine Ops.nil ?_
        refine thenQ_n ⟨(i + 2, f, a, (q.drop f).take (i + 2 - f), true), (.cons rfl (.cons rfl (.cons rfl (.cons rfl (.cons rfl .nil))))), ?_, ?_⟩
        · skip
          refine ⟨by dsimp only; omega, by dsimp only; omega, hfl, rfl, ?_, hb1, hj⟩
          dsimp only
          by_cases h2 : i + 1 < q.length
          · have hcs2 := cur_snoc (show f ≤ i + 1 by omega) h2
            rw [show i + 1 + 1 = i + 2 by omega] at hcs2
            rw [hcs2, hcs, hsp, hdc, drop_cons h2, pcs_esc, gluP_gluP]
            simp
          · rw [hsp, hdc, List.drop_eq_nil_of_le (show q.length ≤ i + 1 by omega), List.drop_eq_nil_of_le (show q.length ≤ i + 2 by omega), pcs_esc_end, gluP_gluP, ← hcs]
            rw [List.take_of_length_le (show (q.drop f).length ≤ i + 2 - f by simp; omega), List.take_of_length_le (show (q.drop f).length ≤ i + 1 - f by simp; omega)]
        · skip
          simp only; omega
      · skip
        refine VC.seq ?_
        refine VC.region ?_
        refine Ops.r (Run.load rfl Tryz.isAgg9 (hb1.cell 0)) rfl ?_
        refine Ops.r (Run.mv rfl) rfl ?_
        refine Ops.r (Run.indexT _ rfl rfl Tryz.underlying9 hgx) rfl ?_
        refine Ops.r (Run.bin rfl rfl (Bin.eqlN _ 34)) rfl ?_
        refine Ops.r (Run.asg rfl) rfl ?_
        refine Ops.nil ?_
        refine thenQ_n ?_
        refine VC.sub [(0, _), (1, _), (3, _), (4, _), (5, _), (22, _)] (.cons rfl (.cons rfl (.cons rfl (.cons rfl (.cons rfl (.cons rfl .nil)))))) ?_
        refine VC.condD rfl (fun hc3 => ?_) (fun hc3 => ?_)
        · skip
          have hx34 : x = 34 := UInt8.toNat_inj.1 hc3
          have hsp2 : pcs false q = a ++ gluP (b ++ [x]) (pcs (!qt) (q.drop (i + 1))) := by rw [hsp, hdc, hx34, pcs_quote, gluP_gluP]
          refine VC.region ?_
          refine Ops.r (Run.mv rfl) rfl ?_
          refine Ops.r (Run.not rfl) rfl ?_
          refine Ops.r (Run.asg rfl) rfl ?_
          refine Ops.nil ?_
          refine blockQ_n (blockQ_n (thenQ_n ?_))
          refine VC.sub [(0, _), (1, _), (3, _), (4, _), (5, _)] (.cons rfl (.cons rfl (.cons rfl (.cons rfl (.cons rfl .nil))))) ?_
          refine VC.region ?_
          refine Ops.r (Run.mv rfl) rfl ?_
          refine Ops.r (Run.bin rfl rfl (Bin.add_i64 _ 1 (by omega))) rfl ?_
          refine Ops.r (Run.asg rfl) rfl ?_
          refine Ops.nil ?_
          refine thenQ_n ⟨(i + 1, f, a, b ++ [x], !qt), (.cons rfl (.cons rfl (.cons rfl (.cons rfl (.cons rfl .nil))))), ?_, ?_⟩
          · skip
            exact ⟨by dsimp only; omega, by dsimp only; omega, hfl, hcs.symm, hsp2, hb1, hj⟩
          · skip
            simp only; omega
        · skip
          refine VC.seq ?_
          refine VC.split1 [(0, _), (1, _), (3, _), (4, _), (5, _)] (.cons rfl (.cons rfl (.cons rfl (.cons rfl (.cons rfl .nil))))) 29 (.bool (decide (qt = false ∧ x.toNat = 59))) ?_ ?_
          · refine VC.region ?_
            refine Ops.r (Run.mv rfl) rfl ?_
            by_cases hs30 : qt = true
            · skip
              refine Ops.r (Run.not rfl) rfl ?_
              refine Ops.r (Run.mv rfl) rfl ?_
              refine Ops.sk rfl (by first | rfl | assumption | exact decide_eq_true (by assumption) | exact decide_eq_false (by assumption) | decide | (simp; done) | (simp; omega) | (simp [*]; done)) rfl ?_
              refine Ops.sk rfl (by first | rfl | assumption | exact decide_eq_true (by assumption) | exact decide_eq_false (by assumption) | decide | (simp; done) | (simp; omega) | (simp [*]; done)) rfl ?_
              refine Ops.sk rfl (by first | rfl | assumption | exact decide_eq_true (by assumption) | exact decide_eq_false (by assumption) | decide | (simp; done) | (simp; omega) | (simp [*]; done)) rfl ?_
              refine Ops.sk rfl (by first | rfl | assumption | exact decide_eq_true (by assumption) | exact decide_eq_false (by assumption) | decide | (simp; done) | (simp; omega) | (simp [*]; done)) rfl ?_
              refine Ops.r (Run.pickF rfl rfl (by first | rfl | assumption | exact decide_eq_true (by assumption) | exact decide_eq_false (by assumption) | decide | (simp; done) | (simp; omega) | (simp [*]; done))) rfl ?_
              refine Ops.r (Run.asg rfl) rfl ?_
              refine Ops.nil ?_
              refine thenQ_n ⟨(.cons (congrArg (fun b => some (Value.bool b)) (by first | (simp [*]; done) | (simp_all; done))) (.cons rfl (.cons rfl (.cons rfl (.cons rfl (.cons rfl .nil)))))), rfl⟩
            · skip
              refine Ops.r (Run.not rfl) rfl ?_
              refine Ops.r (Run.mv rfl) rfl ?_
              refine Ops.rg rfl (by first | rfl | assumption | exact decide_eq_true (by assumption) | exact decide_eq_false (by assumption) | decide | (simp; done) | (simp; omega) | (simp [*]; done)) (Run.load rfl Tryz.isAgg9 (hb1.cell 0)) rfl ?_
              refine Ops.rg rfl (by first | rfl | assumption | exact decide_eq_true (by assumption) | exact decide_eq_false (by assumption) | decide | (simp; done) | (simp; omega) | (simp [*]; done)) (Run.mv rfl) rfl ?_
              refine Ops.rg rfl (by first | rfl | assumption | exact decide_eq_true (by assumption) | exact decide_eq_false (by assumption) | decide | (simp; done) | (simp; omega) | (simp [*]; done)) (Run.indexT _ rfl rfl Tryz.underlying9 hgx) rfl ?_
              refine Ops.rg rfl (by first | rfl | assumption | exact decide_eq_true (by assumption) | exact decide_eq_false (by assumption) | decide | (simp; done) | (simp; omega) | (simp [*]; done)) (Run.bin rfl rfl (Bin.eqlN _ 59)) rfl ?_
              by_cases hs36 : x.toNat = 59
              · skip
                refine Ops.r (Run.pickT rfl rfl (by first | rfl | assumption | exact decide_eq_true (by assumption) | exact decide_eq_false (by assumption) | decide | (simp; done) | (simp; omega) | (simp [*]; done))) rfl ?_
                refine Ops.r (Run.asg rfl) rfl ?_
                refine Ops.nil ?_
                refine thenQ_n ⟨(.cons (congrArg (fun b => some (Value.bool b)) (by first | (simp [*]; done) | (simp_all; done))) (.cons rfl (.cons rfl (.cons rfl (.cons rfl (.cons rfl .nil)))))), rfl⟩
              · skip
                refine Ops.r (Run.pickT rfl rfl (by first | rfl | assumption | exact decide_eq_true (by assumption) | exact decide_eq_false (by assumption) | decide | (simp; done) | (simp; omega) | (simp [*]; done))) rfl ?_
                refine Ops.r (Run.asg rfl) rfl ?_
                refine Ops.nil ?_
                refine thenQ_n ⟨(.cons (congrArg (fun b => some (Value.bool b)) (by first | (simp [*]; done) | (simp_all; done))) (.cons rfl (.cons rfl (.cons rfl (.cons rfl (.cons rfl .nil)))))), rfl⟩
          · intro Γ hΓ
            refine thenQ_n (VC.sub _ hΓ ?_)
            refine VC.condD rfl (fun hc4 => ?_) (fun hc4 => ?_)
            · skip
              obtain ⟨hqt, h59⟩ := hc4
              have hx59 : x = 59 := UInt8.toNat_inj.1 h59
              have hsp2 : pcs false q = (a ++ [b]) ++ gluP [] (pcs qt (q.drop (i + 1))) := by rw [hsp, hdc, hx59, hqt, pcs_cut, gluP_nil (pcs_ne _ _)]; simp [gluP]
              have hpre : (a ++ [b]) <+: pcs false q := ⟨gluP [] (pcs qt (q.drop (i + 1))), hsp2.symm⟩
              refine VC.seq ?_
              refine VC.seq ?_
              refine VC.region ?_
              refine Ops.r (Run.mv rfl) rfl ?_
              refine Ops.r (Run.load rfl Tryz.isAgg9 (hb1.cell 0)) rfl ?_
              refine Ops.r (Run.mv rfl) rfl ?_
              refine Ops.r (Run.mv rfl) rfl ?_
              refine Ops.r (Run.sliceT f i rfl Tryz.underlying9 (evB.some_ rfl) (evB.some_ rfl) hfi (by omega)) rfl ?_
              rw [← hb]
              refine Ops.yield rfl rfl (evs.cons rfl evs.nil) ((by simpa using hY a b wr hj hpre : YieldsTo Tryz.prog l #[encStr _] wr _)) rfl rfl ?_
              rintro e w1 ⟨hoff, hR0⟩
              obtain ⟨yb, rfl, hR⟩ : ∃ yb : Bool, e = .returned (.bool yb) ∧ ((yb = true ∧ J (a ++ [b]) w1) ∨ (yb = false ∧ Jx (a ++ [b]) w1)) := by
                rcases hR0 with ⟨rfl, h⟩ | ⟨rfl, h⟩
                · exact ⟨true, rfl, .inl ⟨rfl, h⟩⟩
                · exact ⟨false, rfl, .inr ⟨rfl, h⟩⟩
              refine ⟨_, rfl, ?_⟩
              have hb1 := hoff.blk hb1 (by simp)
              refine Ops.r (Run.not rfl) rfl ?_
              refine Ops.nil ?_
              refine thenQ_n ?_
              refine VC.sub [(0, _), (1, _), (4, _), (5, _), (44, _)] (.cons rfl (.cons rfl (.cons rfl (.cons rfl (.cons rfl .nil))))) ?_
              refine VC.condB rfl (fun hc5 => ?_) (fun hc5 => ?_)
              · skip
                refine VC.ret ?_
                refine thenQ_r (blockQ_r (blockQ_r (thenQ_r (thenQ_r (blockQ_r (thenQ_r (end0 ?_)))))))
                exact ⟨⟨_, rfl⟩, .inr ⟨_, (hR.resolve_left (fun h => by rw [h.1] at hc5; simp at hc5)).2⟩⟩
              · skip
                refine VC.skip ?_
                refine thenQ_n ?_
                refine VC.sub [(0, _), (1, _), (4, _), (5, _)] (.cons rfl (.cons rfl (.cons rfl (.cons rfl .nil)))) ?_
                refine VC.region ?_
                refine Ops.r (Run.mv rfl) rfl ?_
                refine Ops.r (Run.bin rfl rfl (Bin.add_i64 _ 1 (by omega))) rfl ?_
                refine Ops.r (Run.asg rfl) rfl ?_
                refine Ops.nil ?_
                refine blockQ_n (blockQ_n (thenQ_n ?_))
                refine VC.sub [(0, _), (1, _), (3, _), (4, _), (5, _)] (.cons rfl (.cons rfl (.cons rfl (.cons rfl (.cons rfl .nil))))) ?_
                refine VC.region ?_
                refine Ops.r (Run.mv rfl) rfl ?_
                refine Ops.r (Run.bin rfl rfl (Bin.add_i64 _ 1 (by omega))) rfl ?_
                refine Ops.r (Run.asg rfl) rfl ?_
                refine Ops.nil ?_
                refine thenQ_n ⟨(i + 1, i + 1, a ++ [b], [], qt), (.cons rfl (.cons rfl (.cons rfl (.cons rfl (.cons rfl .nil))))), ?_, ?_⟩
                · skip
                  exact ⟨by dsimp only; omega, by dsimp only; omega, by dsimp only; omega, by simp, hsp2, hb1, (hR.resolve_right (fun h => by rw [h.1] at hc5; simp at hc5)).2⟩
                · skip
                  simp only; omega
            · skip
              have hsp2 : pcs false q = a ++ gluP (b ++ [x]) (pcs qt (q.drop (i + 1))) := by
                rw [hsp, hdc, pcs_other (fun h => hc2 ⟨h.1, by rw [h.2]; rfl⟩) (fun h => hc3 (by rw [h]; rfl)) (fun h => hc4 ⟨h.2, by rw [h.1]; rfl⟩), gluP_gluP]
              refine VC.skip ?_
              refine blockQ_n (blockQ_n (thenQ_n ?_))
              refine VC.sub [(0, _), (1, _), (3, _), (4, _), (5, _)] (.cons rfl (.cons rfl (.cons rfl (.cons rfl (.cons rfl .nil))))) ?_
              refine VC.region ?_
              refine Ops.r (Run.mv rfl) rfl ?_
              refine Ops.r (Run.bin rfl rfl (Bin.add_i64 _ 1 (by omega))) rfl ?_
              refine Ops.r (Run.asg rfl) rfl ?_
              refine Ops.nil ?_
              refine thenQ_n ⟨(i + 1, f, a, b ++ [x], qt), (.cons rfl (.cons rfl (.cons rfl (.cons rfl (.cons rfl .nil))))), ?_, ?_⟩
              · skip
                exact ⟨by dsimp only; omega, by dsimp only; omega, hfl, hcs.symm, hsp2, hb1, hj⟩
              · skip
                simp only; omega
  · skip
    have hfin : pcs false q = a ++ [b] := by rw [hsp, List.drop_eq_nil_of_le (by omega)]; exact gluP_last
    have hbq : (q.drop f).take (q.length - f) = b := by
      rw [hb, List.take_of_length_le (by simp), List.take_of_length_le (by simp; omega)]
    have hpre : (a ++ [b]) <+: pcs false q := ⟨[], by rw [hfin]; simp⟩
    refine VC.exit ?_
    refine thenQ_x (thenQ_x (blockQ_x ?_))
    refine thenQ_n ?_
    refine VC.sub [(0, _), (1, _), (3, _)] (.cons rfl (.cons rfl (.cons rfl .nil))) ?_
    refine VC.region ?_
    refine Ops.r (Run.mv rfl) rfl ?_
    refine Ops.r (Run.load rfl Tryz.isAgg9 (hb1.cell 0)) rfl ?_
    refine Ops.r (Run.mv rfl) rfl ?_
    refine Ops.r (Run.sliceT f q.length rfl Tryz.underlying9 (evB.some_ rfl) evB.none_ hfl (Nat.le_refl _)) rfl ?_
    rw [hbq]
    refine Ops.yield rfl rfl (evs.cons rfl evs.nil) ((by simpa using hY a b wr hj hpre : YieldsTo Tryz.prog l #[encStr _] wr _)) rfl rfl ?_
    rintro e w1 ⟨hoff, hR0⟩
    obtain ⟨yb, rfl, hR⟩ : ∃ yb : Bool, e = .returned (.bool yb) ∧ ((yb = true ∧ J (a ++ [b]) w1) ∨ (yb = false ∧ Jx (a ++ [b]) w1)) := by
      rcases hR0 with ⟨rfl, h⟩ | ⟨rfl, h⟩
      · exact ⟨true, rfl, .inl ⟨rfl, h⟩⟩
      · exact ⟨false, rfl, .inr ⟨rfl, h⟩⟩
    refine ⟨_, rfl, ?_⟩
    have hb1 := hoff.blk hb1 (by simp)
    refine Ops.nil ?_
    refine end0n ?_
    refine ⟨⟨_, rfl⟩, ?_⟩
    rcases hR with ⟨_, h⟩ | ⟨_, h⟩
    · exact .inl (by rw [hfin]; exact h)
    · exact .inr ⟨_, h⟩

set_option maxRecDepth 100000 in
theorem pieces_spec (q : Tx) (w : World) : Calls Tryz.prog 181 #[encStr q] w fun e w' => Frm [] w w' ∧ ∃ g1, e = .returned (.func (.func 208) #[] #[.pointer (some ⟨g1, 0, none⟩)]) ∧ Blk w' g1 9 #[encStr q] ∧ w.heap.size ≤ g1 := by
  refine VC.calls (nt := 4) (res := #[.tmp 2]) Tryz.func181 rfl Tryz.ntmps181 Tryz.results181 rfl ?_
  refine VC.seq ?_
  refine VC.region ?_
  refine Ops.m (Does.box rfl) rfl ?_
  rintro _ w1 ⟨rfl, hF1⟩
  have hb1 := hF1.blk
  refine Ops.r (Run.asg rfl) rfl ?_
  refine Ops.nil ?_
  refine thenQ_n ?_
  refine VC.sub [(1, _)] (.cons rfl .nil) ?_
  refine VC.seq ?_
  refine VC.region ?_
  refine Ops.r (Run.mkFunc evs.nil (evs.cons rfl evs.nil)) rfl ?_
  refine Ops.r (Run.asg rfl) rfl ?_
  refine Ops.nil ?_
  refine thenQ_n ?_
  refine VC.sub [(2, _)] (.cons rfl .nil) ?_
  refine VC.ret ?_
  refine end1 rfl ?_
  exact ⟨hF1.frm, _, rfl, hb1, Nat.le_refl _⟩

end Go.Proofs.YtenbjndldenkfaaGreatDoor
