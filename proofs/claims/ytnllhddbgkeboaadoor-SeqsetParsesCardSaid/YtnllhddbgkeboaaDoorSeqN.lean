/-
  The walks of seqset: numbers, spans.
-/
import Derived.Test.YtnllhddbgkeboaaDoorSeqC
namespace Go.Proofs.YtnllhddbgkeboaaDoor
open Go.RowKit Go.Sort

theorem numQ_star : numQ [42] = 0 := by decide
theorem numQ_bad {s : Tx} (h : s ≠ [42]) (h2 : s = [] ∨ 10 < s.length ∨ s.head? = some 48) : numQ s = -1 := by
  unfold numQ
  rw [if_neg h, if_pos h2]
theorem numQ_of {s : Tx} (h : s ≠ [42]) (h2 : ¬ (s = [] ∨ 10 < s.length ∨ s.head? = some 48)) : numQ s = if (∀ x ∈ s, Dig x) ∧ decN 0 s ≤ 2147483647 then ((decN 0 s : Nat) : Int) else -1 := by
  unfold numQ
  rw [if_neg h, if_neg h2]

set_option maxRecDepth 100000 in
theorem number_spec (s : Tx) (w : World) (hs : s.length ≤ 1000000) : Calls Tryd.prog 54 #[encStr s] w fun e w' => e = .returned (.int .i64 (numQ s)) ∧ w = w' := by
  refine VC.calls (nt := 46) (res := #[.tmp 2]) Tryd.func54 rfl Tryd.ntmps54 Tryd.results54 rfl ?_
  refine VC.seq ?_
  refine VC.region ?_
  refine Ops.r (v := .int .i64 ((0 : Nat) : Int)) (Run.asg rfl) rfl ?_
  refine Ops.nil ?_
  refine thenQ_n ?_
  refine VC.sub [(0, _)] (.cons rfl .nil) ?_
  refine VC.seq ?_
  refine VC.seq ?_
  refine VC.region ?_
  refine Ops.r (Run.mv rfl) rfl ?_
  refine Ops.r (Run.eqlT rfl rfl) rfl ?_
  refine Ops.nil ?_
  refine thenQ_n ?_
  refine VC.sub [(0, _), (6, _)] (.cons rfl (.cons rfl .nil)) ?_
  refine VC.condD rfl (fun hc1 => ?_) (fun hc1 => ?_)
  · skip
    subst hc1
    refine VC.seq ?_
    refine VC.region ?_
    refine Ops.r (v := .int .i64 ((0 : Nat) : Int)) (Run.asg rfl) rfl ?_
    refine Ops.nil ?_
    refine thenQ_n ?_
    refine VC.sub [(2, _)] (.cons rfl .nil) ?_
    refine VC.ret ?_
    refine thenQ_r (end1 rfl ?_)
    exact ⟨by rw [numQ_star]; rfl, rfl⟩
  · skip
    refine VC.skip ?_
    refine thenQ_n ?_
    refine VC.sub [(0, _)] (.cons rfl .nil) ?_
    refine VC.seq ?_
    refine VC.seq ?_
    refine VC.split1 [(0, _)] (.cons rfl .nil) 18 (.bool (decide (s = [] ∨ 10 < s.length ∨ s.head? = some 48))) ?_ ?_
    · refine VC.region ?_
      refine Ops.r (Run.mv rfl) rfl ?_
      refine Ops.r (Run.eqlT rfl rfl) rfl ?_
      by_cases hs8 : s = []
      · skip
        refine Ops.r (Run.mv rfl) rfl ?_
        refine Ops.sk rfl (by first | rfl | assumption | exact decide_eq_true (by assumption) | exact decide_eq_false (by assumption) | decide | (simp; done) | (simp; omega) | (simp [*]; done)) rfl ?_
        refine Ops.sk rfl (by first | rfl | assumption | exact decide_eq_true (by assumption) | exact decide_eq_false (by assumption) | decide | (simp; done) | (simp; omega) | (simp [*]; done)) rfl ?_
        refine Ops.sk rfl (by first | rfl | assumption | exact decide_eq_true (by assumption) | exact decide_eq_false (by assumption) | decide | (simp; done) | (simp; omega) | (simp [*]; done)) rfl ?_
        refine Ops.r (Run.pickT rfl rfl (by first | rfl | assumption | exact decide_eq_true (by assumption) | exact decide_eq_false (by assumption) | decide | (simp; done) | (simp; omega) | (simp [*]; done))) rfl ?_
        refine Ops.r (Run.mv rfl) rfl ?_
        refine Ops.sk rfl (by first | rfl | assumption | exact decide_eq_true (by assumption) | exact decide_eq_false (by assumption) | decide | (simp; done) | (simp; omega) | (simp [*]; done)) rfl ?_
        refine Ops.sk rfl (by first | rfl | assumption | exact decide_eq_true (by assumption) | exact decide_eq_false (by assumption) | decide | (simp; done) | (simp; omega) | (simp [*]; done)) rfl ?_
        refine Ops.sk rfl (by first | rfl | assumption | exact decide_eq_true (by assumption) | exact decide_eq_false (by assumption) | decide | (simp; done) | (simp; omega) | (simp [*]; done)) rfl ?_
        refine Ops.r (Run.pickT rfl rfl (by first | rfl | assumption | exact decide_eq_true (by assumption) | exact decide_eq_false (by assumption) | decide | (simp; done) | (simp; omega) | (simp [*]; done))) rfl ?_
        refine Ops.nil ?_
        refine thenQ_n ⟨(.cons (congrArg (fun b => some (Value.bool b)) (Eq.symm (by first | exact decide_eq_true (.inl ‹_›) | exact decide_eq_true (.inr (.inl ‹_›)) | exact decide_eq_true (.inr (.inr (congrArg some (hx48.2 ‹_›)))) | (simp only [List.head?_cons, Option.some.injEq, hx48]; simp_all)))) (.cons rfl .nil)), rfl⟩
      · skip
        refine Ops.r (Run.mv rfl) rfl ?_
        refine Ops.rg rfl (by first | rfl | assumption | exact decide_eq_true (by assumption) | exact decide_eq_false (by assumption) | decide | (simp; done) | (simp; omega) | (simp [*]; done)) (Run.mv rfl) rfl ?_
        refine Ops.rg rfl (by first | rfl | assumption | exact decide_eq_true (by assumption) | exact decide_eq_false (by assumption) | decide | (simp; done) | (simp; omega) | (simp [*]; done)) (Run.lenT rfl Tryd.underlying9) rfl ?_
        refine Ops.rg rfl (by first | rfl | assumption | exact decide_eq_true (by assumption) | exact decide_eq_false (by assumption) | decide | (simp; done) | (simp; omega) | (simp [*]; done)) (Run.bin rfl rfl (Bin.gtrN _ 10)) rfl ?_
        by_cases hs12 : 10 < s.length
        · skip
          refine Ops.r (Run.pickF rfl rfl (by first | rfl | assumption | exact decide_eq_true (by assumption) | exact decide_eq_false (by assumption) | decide | (simp; done) | (simp; omega) | (simp [*]; done))) rfl ?_
          refine Ops.r (Run.mv rfl) rfl ?_
          refine Ops.sk rfl (by first | rfl | assumption | exact decide_eq_true (by assumption) | exact decide_eq_false (by assumption) | decide | (simp; done) | (simp; omega) | (simp [*]; done)) rfl ?_
          refine Ops.sk rfl (by first | rfl | assumption | exact decide_eq_true (by assumption) | exact decide_eq_false (by assumption) | decide | (simp; done) | (simp; omega) | (simp [*]; done)) rfl ?_
          refine Ops.sk rfl (by first | rfl | assumption | exact decide_eq_true (by assumption) | exact decide_eq_false (by assumption) | decide | (simp; done) | (simp; omega) | (simp [*]; done)) rfl ?_
          refine Ops.r (Run.pickT rfl rfl (by first | rfl | assumption | exact decide_eq_true (by assumption) | exact decide_eq_false (by assumption) | decide | (simp; done) | (simp; omega) | (simp [*]; done))) rfl ?_
          refine Ops.nil ?_
          refine thenQ_n ⟨(.cons (congrArg (fun b => some (Value.bool b)) (Eq.symm (by first | exact decide_eq_true (.inl ‹_›) | exact decide_eq_true (.inr (.inl ‹_›)) | exact decide_eq_true (.inr (.inr (congrArg some (hx48.2 ‹_›)))) | (simp only [List.head?_cons, Option.some.injEq, hx48]; simp_all)))) (.cons rfl .nil)), rfl⟩
        · skip
          obtain ⟨x0, r0, rfl⟩ : ∃ x0 r0, s = x0 :: r0 := by
            cases s with
            | nil => exact absurd rfl hs8
            | cons a r => exact ⟨a, r, rfl⟩
          have hx48 : x0 = 48 ↔ x0.toNat = 48 := ⟨fun h => by subst h; rfl, fun h => UInt8.toNat_inj.1 h⟩
          refine Ops.r (Run.pickF rfl rfl (by first | rfl | assumption | exact decide_eq_true (by assumption) | exact decide_eq_false (by assumption) | decide | (simp; done) | (simp; omega) | (simp [*]; done))) rfl ?_
          refine Ops.r (Run.mv rfl) rfl ?_
          refine Ops.rg rfl (by first | rfl | assumption | exact decide_eq_true (by assumption) | exact decide_eq_false (by assumption) | decide | (simp; done) | (simp; omega) | (simp [*]; done)) (Run.mv rfl) rfl ?_
          refine Ops.rg rfl (by first | rfl | assumption | exact decide_eq_true (by assumption) | exact decide_eq_false (by assumption) | decide | (simp; done) | (simp; omega) | (simp [*]; done)) (Run.indexT 0 rfl rfl Tryd.underlying9 rfl) rfl ?_
          refine Ops.rg rfl (by first | rfl | assumption | exact decide_eq_true (by assumption) | exact decide_eq_false (by assumption) | decide | (simp; done) | (simp; omega) | (simp [*]; done)) (Run.bin rfl rfl (Bin.eqlN _ 48)) rfl ?_
          by_cases hs17 : x0.toNat = 48
          · skip
            refine Ops.r (Run.pickF rfl rfl (by first | rfl | assumption | exact decide_eq_true (by assumption) | exact decide_eq_false (by assumption) | decide | (simp; done) | (simp; omega) | (simp [*]; done))) rfl ?_
            refine Ops.nil ?_
            refine thenQ_n ⟨(.cons (congrArg (fun b => some (Value.bool b)) (Eq.symm (by first | exact decide_eq_true (.inl ‹_›) | exact decide_eq_true (.inr (.inl ‹_›)) | exact decide_eq_true (.inr (.inr (congrArg some (hx48.2 ‹_›)))) | (simp only [List.head?_cons, Option.some.injEq, hx48]; simp_all)))) (.cons rfl .nil)), rfl⟩
          · skip
            refine Ops.r (Run.pickF rfl rfl (by first | rfl | assumption | exact decide_eq_true (by assumption) | exact decide_eq_false (by assumption) | decide | (simp; done) | (simp; omega) | (simp [*]; done))) rfl ?_
            refine Ops.nil ?_
            refine thenQ_n ⟨(.cons (congrArg (fun b => some (Value.bool b)) (Eq.symm (by first | exact decide_eq_true (.inl ‹_›) | exact decide_eq_true (.inr (.inl ‹_›)) | exact decide_eq_true (.inr (.inr (congrArg some (hx48.2 ‹_›)))) | (simp only [List.head?_cons, Option.some.injEq, hx48]; simp_all)))) (.cons rfl .nil)), rfl⟩
    · intro Γ hΓ
      refine thenQ_n (VC.sub _ hΓ ?_)
      refine VC.condD rfl (fun hc2 => ?_) (fun hc2 => ?_)
      · skip
        have hnq := numQ_bad hc1 hc2
        refine VC.seq ?_
        refine VC.region ?_
        refine Ops.r (v := .int .i64 (-1)) (Run.asg rfl) rfl ?_
        refine Ops.nil ?_
        refine thenQ_n ?_
        refine VC.sub [(2, _)] (.cons rfl .nil) ?_
        refine VC.ret ?_
        refine thenQ_r (end1 rfl ?_)
        exact ⟨by rw [hnq], rfl⟩
      · skip
        have hnq := numQ_of hc1 hc2
        have hl10 : s.length ≤ 10 := Nat.le_of_not_lt fun h => hc2 (.inr (.inl h))
        refine VC.skip ?_
        refine thenQ_n ?_
        refine VC.sub [(0, _)] (.cons rfl .nil) ?_
        refine VC.seq ?_
        refine VC.region ?_
        refine Ops.r (v := .int .i64 ((0 : Nat) : Int)) (Run.asg rfl) rfl ?_
        refine Ops.nil ?_
        refine thenQ_n ?_
        refine VC.seq ?_
        refine VC.seq ?_
        refine VC.region ?_
        refine Ops.r (Run.mv rfl) rfl ?_
        refine Ops.r (Run.lenT rfl Tryd.underlying9) rfl ?_
        refine Ops.r (v := .int .i64 ((0 : Nat) : Int)) (Run.mv rfl) rfl ?_
        refine Ops.nil ?_
        refine thenQ_n ?_
        refine VC.sub [(0, _), (3, _), (20, _), (21, _)] (.cons rfl (.cons rfl (.cons rfl (.cons rfl .nil)))) ?_
        refine VC.block ?_
        refine VC.loop (σ := Nat) (fun i => [(0, encStr s), (3, .int .i64 ((decN 0 (s.take i) : Nat) : Int)), (20, .int .i64 ((s.length : Nat) : Int)), (21, .int .i64 ((i : Nat) : Int))]) (fun i wr => i ≤ s.length ∧ (∀ x ∈ s.take i, Dig x) ∧ w = wr) (fun i => s.length - i) 0 (.cons rfl (.cons rfl (.cons rfl (.cons rfl .nil)))) ⟨by omega, by simp, rfl⟩ ?_
        rintro i _ ⟨hi, hd, rfl⟩
        refine VC.seq ?_
        refine VC.region ?_
        refine Ops.r (Run.bin rfl rfl (Bin.lssN _ _)) rfl ?_
        refine Ops.nil ?_
        refine thenQ_n ?_
        refine VC.seq ?_
        refine VC.condD rfl (fun hc3 => ?_) (fun hc3 => ?_)
        · skip
          have hts : s.take (i + 1) = s.take i ++ [s[i]] := by rw [List.take_add_one, List.getElem?_eq_getElem hc3]; rfl
          have hxm : s[i] ∈ s := List.getElem_mem hc3
          have hgx : s[i]? = some s[i] := List.getElem?_eq_getElem hc3
          have hdl := decN_lt (s.take i) 0 0 hd (by decide)
          have hdl2 : decN 0 (s.take i) < 10 ^ 10 := Nat.lt_of_lt_of_le hdl (Nat.pow_le_pow_right (by decide) (by simp; omega))
          generalize hx : s[i] = x at *
          have hds := decN_snoc 0 (s.take i) x
          refine VC.skip ?_
          refine thenQ_n ?_
          refine VC.sub [(0, _), (3, _), (20, _), (21, _)] (.cons rfl (.cons rfl (.cons rfl (.cons rfl .nil)))) ?_
          refine VC.seq ?_
          refine VC.block ?_
          refine VC.seq ?_
          refine VC.region ?_
          refine Ops.r (Run.mv rfl) rfl ?_
          refine Ops.r (Run.asg rfl) rfl ?_
          refine Ops.nil ?_
          refine thenQ_n ?_
          refine VC.sub [(0, _), (3, _), (4, _), (20, _), (21, _)] (.cons rfl (.cons rfl (.cons rfl (.cons rfl (.cons rfl .nil))))) ?_
          refine VC.seq ?_
          refine VC.seq ?_
          refine VC.split1 [(0, _), (3, _), (4, _), (20, _), (21, _)] (.cons rfl (.cons rfl (.cons rfl (.cons rfl (.cons rfl .nil))))) 33 (.bool (decide (¬ Dig x))) ?_ ?_
          · refine VC.region ?_
            refine Ops.r (Run.mv rfl) rfl ?_
            refine Ops.r (Run.mv rfl) rfl ?_
            refine Ops.r (Run.indexT _ rfl rfl Tryd.underlying9 hgx) rfl ?_
            refine Ops.r (Run.bin rfl rfl (Bin.lssN _ 48)) rfl ?_
            by_cases hs27 : x.toNat < 48
            · skip
              refine Ops.r (Run.mv rfl) rfl ?_
              refine Ops.sk rfl (by first | rfl | assumption | exact decide_eq_true (by assumption) | exact decide_eq_false (by assumption) | decide | (simp; done) | (simp; omega) | (simp [*]; done)) rfl ?_
              refine Ops.sk rfl (by first | rfl | assumption | exact decide_eq_true (by assumption) | exact decide_eq_false (by assumption) | decide | (simp; done) | (simp; omega) | (simp [*]; done)) rfl ?_
              refine Ops.sk rfl (by first | rfl | assumption | exact decide_eq_true (by assumption) | exact decide_eq_false (by assumption) | decide | (simp; done) | (simp; omega) | (simp [*]; done)) rfl ?_
              refine Ops.sk rfl (by first | rfl | assumption | exact decide_eq_true (by assumption) | exact decide_eq_false (by assumption) | decide | (simp; done) | (simp; omega) | (simp [*]; done)) rfl ?_
              refine Ops.r (Run.pickT rfl rfl (by first | rfl | assumption | exact decide_eq_true (by assumption) | exact decide_eq_false (by assumption) | decide | (simp; done) | (simp; omega) | (simp [*]; done))) rfl ?_
              refine Ops.nil ?_
              refine thenQ_n ⟨(.cons (congrArg (fun b => some (Value.bool b)) (Eq.symm (by first | exact decide_eq_true (by unfold Dig; omega) | exact decide_eq_decide.2 (by unfold Dig; omega)))) (.cons rfl (.cons rfl (.cons rfl (.cons rfl (.cons rfl .nil)))))), rfl⟩
            · skip
              refine Ops.r (Run.mv rfl) rfl ?_
              refine Ops.rg rfl (by first | rfl | assumption | exact decide_eq_true (by assumption) | exact decide_eq_false (by assumption) | decide | (simp; done) | (simp; omega) | (simp [*]; done)) (Run.mv rfl) rfl ?_
              refine Ops.rg rfl (by first | rfl | assumption | exact decide_eq_true (by assumption) | exact decide_eq_false (by assumption) | decide | (simp; done) | (simp; omega) | (simp [*]; done)) (Run.mv rfl) rfl ?_
              refine Ops.rg rfl (by first | rfl | assumption | exact decide_eq_true (by assumption) | exact decide_eq_false (by assumption) | decide | (simp; done) | (simp; omega) | (simp [*]; done)) (Run.indexT _ rfl rfl Tryd.underlying9 hgx) rfl ?_
              refine Ops.rg rfl (by first | rfl | assumption | exact decide_eq_true (by assumption) | exact decide_eq_false (by assumption) | decide | (simp; done) | (simp; omega) | (simp [*]; done)) (Run.bin rfl rfl (Bin.gtrN _ 57)) rfl ?_
              by_cases hs32 : 57 < x.toNat
              · skip
                refine Ops.r (Run.pickF rfl rfl (by first | rfl | assumption | exact decide_eq_true (by assumption) | exact decide_eq_false (by assumption) | decide | (simp; done) | (simp; omega) | (simp [*]; done))) rfl ?_
                refine Ops.nil ?_
                refine thenQ_n ⟨(.cons (congrArg (fun b => some (Value.bool b)) (Eq.symm (by first | exact decide_eq_true (by unfold Dig; omega) | exact decide_eq_decide.2 (by unfold Dig; omega)))) (.cons rfl (.cons rfl (.cons rfl (.cons rfl (.cons rfl .nil)))))), rfl⟩
              · skip
                refine Ops.r (Run.pickF rfl rfl (by first | rfl | assumption | exact decide_eq_true (by assumption) | exact decide_eq_false (by assumption) | decide | (simp; done) | (simp; omega) | (simp [*]; done))) rfl ?_
                refine Ops.nil ?_
                refine thenQ_n ⟨(.cons (congrArg (fun b => some (Value.bool b)) (Eq.symm (by first | exact decide_eq_true (by unfold Dig; omega) | exact decide_eq_decide.2 (by unfold Dig; omega)))) (.cons rfl (.cons rfl (.cons rfl (.cons rfl (.cons rfl .nil)))))), rfl⟩
          · intro Γ hΓ
            refine thenQ_n (VC.sub _ hΓ ?_)
            refine VC.condD rfl (fun hc4 => ?_) (fun hc4 => ?_)
            · skip
              refine VC.seq ?_
              refine VC.region ?_
              refine Ops.r (v := .int .i64 (-1)) (Run.asg rfl) rfl ?_
              refine Ops.nil ?_
              refine thenQ_n ?_
              refine VC.sub [(2, _)] (.cons rfl .nil) ?_
              refine VC.ret ?_
              refine thenQ_r (blockQ_r (thenQ_r (thenQ_r (blockQ_r (thenQ_r (end1 rfl ?_))))))
              refine ⟨?_, rfl⟩
              rw [hnq, if_neg (fun h => hc4 (h.1 x hxm))]
            · skip
              refine VC.skip ?_
              refine thenQ_n ?_
              refine VC.sub [(0, _), (3, _), (4, _), (20, _), (21, _)] (.cons rfl (.cons rfl (.cons rfl (.cons rfl (.cons rfl .nil))))) ?_
              refine VC.region ?_
              refine Ops.r (Run.mv rfl) rfl ?_
              refine Ops.r (Run.bin rfl rfl (Bin.mul_i64 10 _ (by omega))) rfl ?_
              refine Ops.r (Run.mv rfl) rfl ?_
              refine Ops.r (Run.mv rfl) rfl ?_
              refine Ops.r (Run.indexT _ rfl rfl Tryd.underlying9 hgx) rfl ?_
              refine Ops.r (Run.bin rfl rfl (Bin.sub_u8 x.toNat 48 (by have := (Classical.not_not.1 hc4).1; omega) (by have := x.toNat_lt; omega))) rfl ?_
              refine Ops.r (Run.convN _ rfl Tryd.underlying5 Tryd.underlying3 (by simp only [bmax]; omega)) rfl ?_
              refine Ops.r (Run.bin rfl rfl (Bin.add_i64 _ _ (by omega))) rfl ?_
              refine Ops.r (Run.asg rfl) rfl ?_
              refine Ops.nil ?_
              refine blockQ_n (thenQ_n ?_)
              refine VC.sub [(0, _), (3, _), (20, _), (21, _)] (.cons rfl (.cons rfl (.cons rfl (.cons rfl .nil)))) ?_
              refine VC.region ?_
              refine Ops.r (Run.bin rfl rfl (Bin.add_i64 _ 1 (by omega))) rfl ?_
              refine Ops.r (Run.mv rfl) rfl ?_
              refine Ops.nil ?_
              refine thenQ_n ⟨(i + 1), (.cons rfl (.cons (by rw [hts, hds]; rfl) (.cons rfl (.cons rfl .nil)))), ?_, ?_⟩
              · skip
                refine ⟨hc3, fun y hy => ?_, rfl⟩
                rw [hts] at hy
                rcases List.mem_append.1 hy with h | h
                · exact hd y h
                · simp only [List.mem_singleton] at h; subst h; exact Classical.not_not.1 hc4
              · skip
                first | omega | (dsimp only; omega)
        · skip
          have hil : i = s.length := by omega
          subst hil
          rw [List.take_length] at hd ⊢
          refine VC.exit ?_
          refine thenQ_x (thenQ_x (blockQ_x ?_))
          refine thenQ_n ?_
          refine VC.sub [(3, _)] (.cons rfl .nil) ?_
          refine VC.seq ?_
          refine VC.seq ?_
          refine VC.region ?_
          refine Ops.r (Run.mv rfl) rfl ?_
          refine Ops.r (Run.bin rfl rfl (Bin.gtrN _ 2147483647)) rfl ?_
          refine Ops.nil ?_
          refine thenQ_n ?_
          refine VC.sub [(3, _), (44, _)] (.cons rfl (.cons rfl .nil)) ?_
          refine VC.condD rfl (fun hc5 => ?_) (fun hc5 => ?_)
          · skip
            refine VC.seq ?_
            refine VC.region ?_
            refine Ops.r (v := .int .i64 (-1)) (Run.asg rfl) rfl ?_
            refine Ops.nil ?_
            refine thenQ_n ?_
            refine VC.sub [(2, _)] (.cons rfl .nil) ?_
            refine VC.ret ?_
            refine thenQ_r (end1 rfl ?_)
            exact ⟨by rw [hnq, if_neg (fun h => by have := h.2; omega)], rfl⟩
          · skip
            refine VC.skip ?_
            refine thenQ_n ?_
            refine VC.sub [(3, _)] (.cons rfl .nil) ?_
            refine VC.seq ?_
            refine VC.region ?_
            refine Ops.r (Run.mv rfl) rfl ?_
            refine Ops.r (Run.asg rfl) rfl ?_
            refine Ops.nil ?_
            refine thenQ_n ?_
            refine VC.sub [(2, _)] (.cons rfl .nil) ?_
            refine VC.ret ?_
            refine end1 rfl ?_
            exact ⟨by rw [hnq, if_pos ⟨hd, by omega⟩], rfl⟩

set_option maxRecDepth 100000 in
theorem ends_spec (x : Sp) (gr : Int) (w : World) : Calls Tryd.prog 50 #[.agg (SC1 x).toArray, .int .i64 gr] w fun e w' => e = .returned (.tuple #[.int .i64 (endsQ x gr).1, .int .i64 (endsQ x gr).2]) ∧ Frm [] w w' := by
  refine VC.calls (nt := 26) (res := #[.tmp 4, .tmp 5]) Tryd.func50 rfl Tryd.ntmps50 Tryd.results50 rfl ?_
  refine VC.seq ?_
  refine VC.region ?_
  refine Ops.m (Does.box rfl) rfl ?_
  rintro _ w1 ⟨rfl, hF2⟩
  have hb2 : Blk w1 w.heap.size 46 (SC1 x).toArray := hF2.blk
  have hf2 := hF2.frm
  generalize hg2 : w.heap.size = g2 at hb2 ⊢
  have hgl : g2 ≥ w.heap.size := by omega
  refine Ops.r (v := .int .i64 ((0 : Nat) : Int)) (Run.asg rfl) rfl ?_
  refine Ops.r (v := .int .i64 ((0 : Nat) : Int)) (Run.asg rfl) rfl ?_
  refine Ops.nil ?_
  refine thenQ_n ?_
  refine VC.sub [(1, _), (2, _)] (.cons rfl (.cons rfl .nil)) ?_
  refine VC.seq ?_
  refine VC.seq ?_
  refine VC.region ?_
  refine Ops.r (Run.fieldAddr rfl Tryd.underlying46 rfl Tryd.sizeOf3 (by decide)) rfl ?_
  refine Ops.r (Run.load rfl Tryd.isAgg3 (hb2.cell 0)) rfl ?_
  refine Ops.r (Run.bin rfl rfl (Bin.eql _ 0)) rfl ?_
  refine Ops.nil ?_
  refine thenQ_n ?_
  refine VC.sub [(1, _), (2, _), (8, _)] (.cons rfl (.cons rfl (.cons rfl .nil))) ?_
  refine VC.meet (σ := Unit) (fun s => [(1, .int .i64 gr), (2, .pointer (some ⟨g2, 0, none⟩))]) (fun s wm => Blk wm g2 46 #[.int .i64 (if x.1 = 0 then gr else x.1), .int .i64 x.2] ∧ Frm [] w wm) ?_ ?_
  · skip
    refine VC.condD rfl (fun hc1 => ?_) (fun hc1 => ?_)
    · skip
      refine VC.region ?_
      refine Ops.r (Run.mv rfl) rfl ?_
      refine Ops.r (Run.fieldAddr rfl Tryd.underlying46 rfl Tryd.sizeOf3 (by decide)) rfl ?_
      refine Ops.st (Acts.store rfl rfl Tryd.sizeOf3 hb2 rfl rfl) ?_
      rintro w2 ⟨hb22, hf22, _⟩
      refine Ops.nil ?_
      refine thenQ_n ⟨(), (.cons rfl (.cons rfl .nil)), ?_⟩
      exact ⟨by rw [if_pos hc1]; exact hb22, hf2.own hf22 (fun y hy => by simp at hy; omega)⟩
    · skip
      refine VC.skip ?_
      refine thenQ_n ⟨(), (.cons rfl (.cons rfl .nil)), ?_⟩
      exact ⟨by rw [if_neg hc1]; exact hb2, hf2⟩
  · skip
    rintro _ w3 ⟨hb3, hf3⟩ Γ hΓ
    refine thenQ_n (VC.sub _ hΓ ?_)
    refine VC.seq ?_
    refine VC.seq ?_
    refine VC.region ?_
    refine Ops.r (Run.fieldAddr rfl Tryd.underlying46 rfl Tryd.sizeOf3 (by decide)) rfl ?_
    refine Ops.r (Run.load rfl Tryd.isAgg3 (hb3.cell 1)) rfl ?_
    refine Ops.r (Run.bin rfl rfl (Bin.eql _ 0)) rfl ?_
    refine Ops.nil ?_
    refine thenQ_n ?_
    refine VC.sub [(1, _), (2, _), (13, _)] (.cons rfl (.cons rfl (.cons rfl .nil))) ?_
    refine VC.meet (σ := Unit) (fun s => [(2, .pointer (some ⟨g2, 0, none⟩))]) (fun s wm => Blk wm g2 46 #[.int .i64 (if x.1 = 0 then gr else x.1), .int .i64 (if x.2 = 0 then gr else x.2)] ∧ Frm [] w wm) ?_ ?_
    · skip
      refine VC.condD rfl (fun hc2 => ?_) (fun hc2 => ?_)
      · skip
        refine VC.region ?_
        refine Ops.r (Run.mv rfl) rfl ?_
        refine Ops.r (Run.fieldAddr rfl Tryd.underlying46 rfl Tryd.sizeOf3 (by decide)) rfl ?_
        refine Ops.st (Acts.store rfl rfl Tryd.sizeOf3 hb3 rfl rfl) ?_
        rintro w4 ⟨hb4, hf4, _⟩
        refine Ops.nil ?_
        refine thenQ_n ⟨(), (.cons rfl .nil), ?_⟩
        exact ⟨by rw [if_pos hc2]; exact hb4, hf3.own hf4 (fun y hy => by simp at hy; omega)⟩
      · skip
        refine VC.skip ?_
        refine thenQ_n ⟨(), (.cons rfl .nil), ?_⟩
        exact ⟨by rw [if_neg hc2]; exact hb3, hf3⟩
    · skip
      rintro _ w5 ⟨hb5, hf5⟩ Γ hΓ
      refine thenQ_n (VC.sub _ hΓ ?_)
      refine VC.seq ?_
      refine VC.held (fun W => Frm [] w5 W) (by kernel_rfl) ?_
      have hS : Frm [] w5 w5.drew := (Frm.refl _ _).drew
      refine HOps.take 0 rfl (by kernel_rfl) (by kernel_rfl) (by kernel_rfl) hS (fun w0 hw0 => Run.fieldAddr rfl Tryd.underlying46 rfl Tryd.sizeOf3 (by decide)) trivial rfl rfl ?_
      refine HOps.take 1 rfl (by kernel_rfl) (by kernel_rfl) (by kernel_rfl) hS (fun w0 hw0 => Run.load rfl Tryd.isAgg3 ((hb5.frm hw0 (by simp)).cell 0)) trivial rfl rfl ?_
      refine HOps.take 2 rfl (by kernel_rfl) (by kernel_rfl) (by kernel_rfl) hS (fun w0 hw0 => Run.fieldAddr rfl Tryd.underlying46 rfl Tryd.sizeOf3 (by decide)) trivial rfl rfl ?_
      refine HOps.take 3 rfl (by kernel_rfl) (by kernel_rfl) (by kernel_rfl) hS (fun w0 hw0 => Run.load rfl Tryd.isAgg3 ((hb5.frm hw0 (by simp)).cell 1)) trivial rfl rfl ?_
      refine HOps.take 4 rfl (by kernel_rfl) (by kernel_rfl) (by kernel_rfl) hS (fun w0 hw0 => Run.minI rfl rfl) trivial rfl rfl ?_
      refine HOps.take 5 rfl (by kernel_rfl) (by kernel_rfl) (by kernel_rfl) hS (fun w0 hw0 => Run.fieldAddr rfl Tryd.underlying46 rfl Tryd.sizeOf3 (by decide)) trivial rfl rfl ?_
      refine HOps.take 6 rfl (by kernel_rfl) (by kernel_rfl) (by kernel_rfl) hS (fun w0 hw0 => Run.load rfl Tryd.isAgg3 ((hb5.frm hw0 (by simp)).cell 0)) trivial rfl rfl ?_
      refine HOps.take 7 rfl (by kernel_rfl) (by kernel_rfl) (by kernel_rfl) hS (fun w0 hw0 => Run.fieldAddr rfl Tryd.underlying46 rfl Tryd.sizeOf3 (by decide)) trivial rfl rfl ?_
      refine HOps.take 8 rfl (by kernel_rfl) (by kernel_rfl) (by kernel_rfl) hS (fun w0 hw0 => Run.load rfl Tryd.isAgg3 ((hb5.frm hw0 (by simp)).cell 1)) trivial rfl rfl ?_
      refine HOps.take 9 rfl (by kernel_rfl) (by kernel_rfl) (by kernel_rfl) hS (fun w0 hw0 => Run.maxI rfl rfl) trivial rfl rfl ?_
      refine HOps.take 10 rfl (by kernel_rfl) (by kernel_rfl) (by kernel_rfl) hS (fun w0 hw0 => Run.asg rfl) trivial rfl rfl ?_
      refine HOps.take 11 rfl (by kernel_rfl) (by kernel_rfl) (by kernel_rfl) hS (fun w0 hw0 => Run.asg rfl) trivial rfl rfl ?_
      refine HOps.done (by kernel_rfl) ?_
      refine thenQ_n ?_
      refine VC.sub [(4, _), (5, _)] (.cons rfl (.cons rfl .nil)) ?_
      refine VC.ret ?_
      refine end2 rfl rfl ?_
      exact ⟨rfl, hf5.trans hS (by simp)⟩

end Go.Proofs.YtnllhddbgkeboaaDoor
