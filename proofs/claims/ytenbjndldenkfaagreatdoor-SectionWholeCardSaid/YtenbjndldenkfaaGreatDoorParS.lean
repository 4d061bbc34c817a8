/-
  The answers of layer 19: values, pieces.
-/
import Derived.Test.YtenbjndldenkfaaGreatDoorParR
namespace Go.Proofs.YtenbjndldenkfaaGreatDoor
open Go.RowKit Go.Sort

set_option maxRecDepth 100000 in
theorem rvalue_spec (q : Tx) (w : World) (hq : q.length ≤ 1000000) : Calls Tryz.prog 149 #[encStr q] w fun e w' => e = .returned (encStr (valQ q)) ∧ w = w' := by
  refine VC.calls (nt := 69) (res := #[.tmp 2]) Tryz.func149 rfl Tryz.ntmps149 Tryz.results149 rfl ?_
  refine VC.seq ?_
  refine VC.region ?_
  refine Ops.r (Run.asg rfl) rfl ?_
  refine Ops.nil ?_
  refine thenQ_n ?_
  refine VC.sub [(0, _)] (.cons rfl .nil) ?_
  refine VC.seq ?_
  refine VC.region ?_
  refine Ops.r (Run.mv rfl) rfl ?_
  refine Ops.cl (Enters.fn (evs.cons rfl evs.nil) Tryz.call187) (rleft_spec q _ hq) rfl ?_
  rintro e _ ⟨rfl, rfl⟩
  refine ⟨_, rfl, ?_⟩
  have hql := leftB_le q
  have hv : valQ q = match leftB q with | [] => [] | x :: r => if x = 34 then unq r else noB (x :: r) := rfl
  generalize hq1 : leftB q = q1 at *
  refine Ops.r (Run.asg rfl) rfl ?_
  refine Ops.nil ?_
  refine thenQ_n ?_
  refine VC.sub [(0, _)] (.cons rfl .nil) ?_
  refine VC.seq ?_
  refine VC.region ?_
  refine Ops.r (Run.asg rfl) rfl ?_
  refine Ops.nil ?_
  refine thenQ_n ?_
  refine VC.seq ?_
  refine VC.seq ?_
  refine VC.region ?_
  refine Ops.r (Run.mv rfl) rfl ?_
  refine Ops.r (Run.eqlT rfl rfl) rfl ?_
  refine Ops.nil ?_
  refine thenQ_n ?_
  refine VC.sub [(0, _), (3, _), (9, _)] (.cons rfl (.cons rfl (.cons rfl .nil))) ?_
  refine VC.condD rfl (fun hc1 => ?_) (fun hc1 => ?_)
  · skip
    subst hc1
    refine VC.seq ?_
    refine VC.region ?_
    refine Ops.r (Run.asg rfl) rfl ?_
    refine Ops.nil ?_
    refine thenQ_n ?_
    refine VC.sub [(2, _)] (.cons rfl .nil) ?_
    refine VC.ret ?_
    refine thenQ_r (end1 rfl ?_)
    exact ⟨by rw [hv], rfl⟩
  · skip
    obtain ⟨y, r2, rfl⟩ : ∃ y r2, q1 = y :: r2 := by
      cases q1 with
      | nil => exact absurd rfl hc1
      | cons a r => exact ⟨a, r, rfl⟩
    have hv : valQ q = if y = 34 then unq r2 else noB (y :: r2) := hv
    have hyl : (y :: r2).length = r2.length + 1 := rfl
    refine VC.skip ?_
    refine thenQ_n ?_
    refine VC.sub [(0, _), (3, _)] (.cons rfl (.cons rfl .nil)) ?_
    refine VC.seq ?_
    refine VC.seq ?_
    refine VC.region ?_
    refine Ops.r (Run.mv rfl) rfl ?_
    refine Ops.r (Run.indexT 0 rfl rfl Tryz.underlying9 rfl) rfl ?_
    refine Ops.r (Run.bin rfl rfl (Bin.neqN _ 34)) rfl ?_
    refine Ops.nil ?_
    refine thenQ_n ?_
    refine VC.sub [(0, _), (3, _), (12, _)] (.cons rfl (.cons rfl (.cons rfl .nil))) ?_
    refine VC.condD rfl (fun hc2 => ?_) (fun hc2 => ?_)
    · skip
      rw [if_neg (fun h => hc2 (by rw [h]; rfl))] at hv
      refine VC.seq ?_
      refine VC.seq ?_
      refine VC.region ?_
      refine Ops.r (v := .int .i64 ((0 : Nat) : Int)) (Run.asg rfl) rfl ?_
      refine Ops.nil ?_
      refine thenQ_n ?_
      refine VC.sub [(0, _), (3, _), (4, _)] (.cons rfl (.cons rfl (.cons rfl .nil))) ?_
      refine VC.block ?_
      refine VC.loop (σ := Nat) (fun s => [(0, encStr (y :: r2)), (3, encStr ((y :: r2).take s)), (4, .int .i64 ((s : Nat) : Int))]) (fun s wr => s ≤ (y :: r2).length ∧ (∀ c ∈ (y :: r2).take s, ¬ Bl c) ∧ w = wr) (fun s => (y :: r2).length - s) 0 (.cons rfl (.cons rfl (.cons rfl .nil))) ⟨by omega, by simp, rfl⟩ ?_
      rintro i _ ⟨hi, hno, rfl⟩
      have hltk : ((y :: r2).take i).length = i := by rw [List.length_take]; omega
      refine VC.seq ?_
      refine VC.seq ?_
      refine VC.split1 [(0, _), (3, _), (4, _)] (.cons rfl (.cons rfl (.cons rfl .nil))) 28 (.bool (decide (hdN ((y :: r2).drop i) = true))) ?_ ?_
      · refine VC.region ?_
        refine Ops.r (Run.mv rfl) rfl ?_
        refine Ops.r (Run.mv rfl) rfl ?_
        refine Ops.r (Run.lenT rfl Tryz.underlying9) rfl ?_
        refine Ops.r (Run.bin rfl rfl (Bin.lssN _ _)) rfl ?_
        by_cases hs16 : i < (y :: r2).length
        · skip
          have hgx : (y :: r2)[i]? = some (y :: r2)[i] := List.getElem?_eq_getElem hs16
          have hhd : hdN ((y :: r2).drop i) = decide (¬ Bl (y :: r2)[i]) := by rw [drop_cons hs16]; rfl
          generalize hz : (y :: r2)[i] = z at *
          have hzb := bl_nat z
          refine Ops.r (Run.mv rfl) rfl ?_
          refine Ops.rg rfl (by first | rfl | assumption | exact decide_eq_true (by assumption) | exact decide_eq_false (by assumption) | decide | (simp; done) | (simp; omega) | (simp [*]; done)) (Run.mv rfl) rfl ?_
          refine Ops.rg rfl (by first | rfl | assumption | exact decide_eq_true (by assumption) | exact decide_eq_false (by assumption) | decide | (simp; done) | (simp; omega) | (simp [*]; done)) (Run.mv rfl) rfl ?_
          refine Ops.rg rfl (by first | rfl | assumption | exact decide_eq_true (by assumption) | exact decide_eq_false (by assumption) | decide | (simp; done) | (simp; omega) | (simp [*]; done)) (Run.indexT _ rfl rfl Tryz.underlying9 hgx) rfl ?_
          refine Ops.rg rfl (by first | rfl | assumption | exact decide_eq_true (by assumption) | exact decide_eq_false (by assumption) | decide | (simp; done) | (simp; omega) | (simp [*]; done)) (Run.bin rfl rfl (Bin.neqN _ 32)) rfl ?_
          by_cases hs21 : z.toNat ≠ 32
          · skip
            refine Ops.r (Run.pickT rfl rfl (by first | rfl | assumption | exact decide_eq_true (by assumption) | exact decide_eq_false (by assumption) | decide | (simp; done) | (simp; omega) | (simp [*]; done))) rfl ?_
            refine Ops.r (Run.mv rfl) rfl ?_
            refine Ops.rg rfl (by first | rfl | assumption | exact decide_eq_true (by assumption) | exact decide_eq_false (by assumption) | decide | (simp; done) | (simp; omega) | (simp [*]; done)) (Run.mv rfl) rfl ?_
            refine Ops.rg rfl (by first | rfl | assumption | exact decide_eq_true (by assumption) | exact decide_eq_false (by assumption) | decide | (simp; done) | (simp; omega) | (simp [*]; done)) (Run.mv rfl) rfl ?_
            refine Ops.rg rfl (by first | rfl | assumption | exact decide_eq_true (by assumption) | exact decide_eq_false (by assumption) | decide | (simp; done) | (simp; omega) | (simp [*]; done)) (Run.indexT _ rfl rfl Tryz.underlying9 hgx) rfl ?_
            refine Ops.rg rfl (by first | rfl | assumption | exact decide_eq_true (by assumption) | exact decide_eq_false (by assumption) | decide | (simp; done) | (simp; omega) | (simp [*]; done)) (Run.bin rfl rfl (Bin.neqN _ 9)) rfl ?_
            by_cases hs27 : z.toNat ≠ 9
            · skip
              refine Ops.r (Run.pickT rfl rfl (by first | rfl | assumption | exact decide_eq_true (by assumption) | exact decide_eq_false (by assumption) | decide | (simp; done) | (simp; omega) | (simp [*]; done))) rfl ?_
              refine Ops.nil ?_
              refine thenQ_n ⟨(.cons (congrArg (fun b => some (Value.bool b)) (by first | (rw [hhd]; rfl) | (rw [hhd]; first | exact (decide_eq_decide.2 (by rw [decide_eq_true_eq, hzb]; omega)) | (symm; exact decide_eq_false (fun h => by rw [decide_eq_true_eq, hzb] at h; omega))))) (.cons rfl (.cons rfl (.cons rfl .nil)))), rfl⟩
            · skip
              refine Ops.r (Run.pickT rfl rfl (by first | rfl | assumption | exact decide_eq_true (by assumption) | exact decide_eq_false (by assumption) | decide | (simp; done) | (simp; omega) | (simp [*]; done))) rfl ?_
              refine Ops.nil ?_
              refine thenQ_n ⟨(.cons (congrArg (fun b => some (Value.bool b)) (by first | (rw [hhd]; rfl) | (rw [hhd]; first | exact (decide_eq_decide.2 (by rw [decide_eq_true_eq, hzb]; omega)) | (symm; exact decide_eq_false (fun h => by rw [decide_eq_true_eq, hzb] at h; omega))))) (.cons rfl (.cons rfl (.cons rfl .nil)))), rfl⟩
          · skip
            refine Ops.r (Run.pickT rfl rfl (by first | rfl | assumption | exact decide_eq_true (by assumption) | exact decide_eq_false (by assumption) | decide | (simp; done) | (simp; omega) | (simp [*]; done))) rfl ?_
            refine Ops.r (Run.mv rfl) rfl ?_
            refine Ops.sk rfl (by first | rfl | assumption | exact decide_eq_true (by assumption) | exact decide_eq_false (by assumption) | decide | (simp; done) | (simp; omega) | (simp [*]; done)) rfl ?_
            refine Ops.sk rfl (by first | rfl | assumption | exact decide_eq_true (by assumption) | exact decide_eq_false (by assumption) | decide | (simp; done) | (simp; omega) | (simp [*]; done)) rfl ?_
            refine Ops.sk rfl (by first | rfl | assumption | exact decide_eq_true (by assumption) | exact decide_eq_false (by assumption) | decide | (simp; done) | (simp; omega) | (simp [*]; done)) rfl ?_
            refine Ops.sk rfl (by first | rfl | assumption | exact decide_eq_true (by assumption) | exact decide_eq_false (by assumption) | decide | (simp; done) | (simp; omega) | (simp [*]; done)) rfl ?_
            refine Ops.r (Run.pickF rfl rfl (by first | rfl | assumption | exact decide_eq_true (by assumption) | exact decide_eq_false (by assumption) | decide | (simp; done) | (simp; omega) | (simp [*]; done))) rfl ?_
            refine Ops.nil ?_
            refine thenQ_n ⟨(.cons (congrArg (fun b => some (Value.bool b)) (by first | (rw [hhd]; rfl) | (rw [hhd]; first | exact (decide_eq_decide.2 (by rw [decide_eq_true_eq, hzb]; omega)) | (symm; exact decide_eq_false (fun h => by rw [decide_eq_true_eq, hzb] at h; omega))))) (.cons rfl (.cons rfl (.cons rfl .nil)))), rfl⟩
        · skip
          have hhd : hdN ((y :: r2).drop i) = false := by rw [List.drop_eq_nil_of_le (by omega)]; rfl
          refine Ops.r (Run.mv rfl) rfl ?_
          refine Ops.sk rfl (by first | rfl | assumption | exact decide_eq_true (by assumption) | exact decide_eq_false (by assumption) | decide | (simp; done) | (simp; omega) | (simp [*]; done)) rfl ?_
          refine Ops.sk rfl (by first | rfl | assumption | exact decide_eq_true (by assumption) | exact decide_eq_false (by assumption) | decide | (simp; done) | (simp; omega) | (simp [*]; done)) rfl ?_
          refine Ops.sk rfl (by first | rfl | assumption | exact decide_eq_true (by assumption) | exact decide_eq_false (by assumption) | decide | (simp; done) | (simp; omega) | (simp [*]; done)) rfl ?_
          refine Ops.sk rfl (by first | rfl | assumption | exact decide_eq_true (by assumption) | exact decide_eq_false (by assumption) | decide | (simp; done) | (simp; omega) | (simp [*]; done)) rfl ?_
          refine Ops.r (Run.pickF rfl rfl (by first | rfl | assumption | exact decide_eq_true (by assumption) | exact decide_eq_false (by assumption) | decide | (simp; done) | (simp; omega) | (simp [*]; done))) rfl ?_
          refine Ops.r (Run.mv rfl) rfl ?_
          refine Ops.sk rfl (by first | rfl | assumption | exact decide_eq_true (by assumption) | exact decide_eq_false (by assumption) | decide | (simp; done) | (simp; omega) | (simp [*]; done)) rfl ?_
          refine Ops.sk rfl (by first | rfl | assumption | exact decide_eq_true (by assumption) | exact decide_eq_false (by assumption) | decide | (simp; done) | (simp; omega) | (simp [*]; done)) rfl ?_
          refine Ops.sk rfl (by first | rfl | assumption | exact decide_eq_true (by assumption) | exact decide_eq_false (by assumption) | decide | (simp; done) | (simp; omega) | (simp [*]; done)) rfl ?_
          refine Ops.sk rfl (by first | rfl | assumption | exact decide_eq_true (by assumption) | exact decide_eq_false (by assumption) | decide | (simp; done) | (simp; omega) | (simp [*]; done)) rfl ?_
          refine Ops.r (Run.pickF rfl rfl (by first | rfl | assumption | exact decide_eq_true (by assumption) | exact decide_eq_false (by assumption) | decide | (simp; done) | (simp; omega) | (simp [*]; done))) rfl ?_
          refine Ops.nil ?_
          refine thenQ_n ⟨(.cons (congrArg (fun b => some (Value.bool b)) (by first | (rw [hhd]; rfl) | (rw [hhd]; first | exact (decide_eq_decide.2 (by rw [decide_eq_true_eq, hzb]; omega)) | (symm; exact decide_eq_false (fun h => by rw [decide_eq_true_eq, hzb] at h; omega))))) (.cons rfl (.cons rfl (.cons rfl .nil)))), rfl⟩
      · intro Γ hΓ
        refine thenQ_n (VC.sub _ hΓ ?_)
        refine VC.condD rfl (fun hc3 => ?_) (fun hc3 => ?_)
        · skip
          have hil : i < (y :: r2).length := Nat.lt_of_not_le fun h => by rw [List.drop_eq_nil_of_le h] at hc3; cases hc3
          have hts := take_snoc hil
          have hgx : (y :: r2)[i]? = some (y :: r2)[i] := List.getElem?_eq_getElem hil
          have hto := take_one hil
          have hzb : ¬ Bl (y :: r2)[i] := by rw [drop_cons hil] at hc3; exact of_decide_eq_true hc3
          generalize hz : (y :: r2)[i] = z at *
          refine VC.skip ?_
          refine thenQ_n ?_
          refine VC.sub [(0, _), (3, _), (4, _)] (.cons rfl (.cons rfl (.cons rfl .nil))) ?_
          refine VC.seq ?_
          refine VC.block ?_
          refine VC.region ?_
          refine Ops.r (Run.mv rfl) rfl ?_
          refine Ops.r (Run.mv rfl) rfl ?_
          refine Ops.r (Run.mv rfl) rfl ?_
          refine Ops.r (Run.mv rfl) rfl ?_
          refine Ops.r (Run.bin rfl rfl (Bin.add_i64 _ 1 (by omega))) rfl ?_
          refine Ops.r (Run.sliceT i (i + 1) rfl Tryz.underlying9 (evB.some_ rfl) (evB.some_ rfl) (by omega) (by omega)) rfl ?_
          rw [hto]
          refine Ops.r (Run.addT rfl rfl (by simp; omega)) rfl ?_
          refine Ops.r (Run.asg rfl) rfl ?_
          refine Ops.nil ?_
          refine blockQ_n (thenQ_n ?_)
          refine VC.sub [(0, _), (3, _), (4, _)] (.cons rfl (.cons rfl (.cons rfl .nil))) ?_
          refine VC.region ?_
          refine Ops.r (Run.mv rfl) rfl ?_
          refine Ops.r (Run.bin rfl rfl (Bin.add_i64 _ 1 (by omega))) rfl ?_
          refine Ops.r (Run.asg rfl) rfl ?_
          refine Ops.nil ?_
          refine thenQ_n ⟨(i + 1), (.cons rfl (.cons (by rw [hts]; rfl) (.cons rfl .nil))), ?_, ?_⟩
          · skip
            refine ⟨hil, fun c hc => ?_, rfl⟩
            rw [hts] at hc
            rcases List.mem_append.1 hc with h | h
            · exact hno c h
            · simp only [List.mem_singleton] at h; subst h; exact hzb
          · skip
            first | omega | (dsimp only; omega)
        · skip
          have hfin : noB (y :: r2) = (y :: r2).take i := by
            by_cases hil : i < (y :: r2).length
            · refine noB_take hil hno (fun c hc => ?_)
              rw [List.getElem?_eq_getElem hil] at hc
              cases hc
              rw [drop_cons hil] at hc3
              exact Classical.byContradiction fun h => hc3 (decide_eq_true h)
            · rw [List.take_of_length_le (by omega)] at hno ⊢
              exact noB_all hno
          refine VC.exit ?_
          refine thenQ_x (thenQ_x (blockQ_x ?_))
          refine thenQ_n ?_
          refine VC.sub [(3, _)] (.cons rfl .nil) ?_
          refine VC.seq ?_
          refine VC.region ?_
          refine Ops.r (Run.mv rfl) rfl ?_
          refine Ops.r (Run.asg rfl) rfl ?_
          refine Ops.nil ?_
          refine thenQ_n ?_
          refine VC.sub [(2, _)] (.cons rfl .nil) ?_
          refine VC.ret ?_
          refine thenQ_r (end1 rfl ?_)
          exact ⟨by rw [hv, hfin], rfl⟩
    · skip
      rw [if_pos (UInt8.toNat_inj.1 (Classical.not_not.1 hc2))] at hv
      refine VC.skip ?_
      refine thenQ_n ?_
      refine VC.sub [(0, _), (3, _)] (.cons rfl (.cons rfl .nil)) ?_
      refine VC.seq ?_
      refine VC.seq ?_
      refine VC.region ?_
      refine Ops.r (v := .int .i64 ((1 : Nat) : Int)) (Run.asg rfl) rfl ?_
      refine Ops.nil ?_
      refine thenQ_n ?_
      refine VC.block ?_
      refine VC.loop (σ := Nat × Tx) (fun s => [(0, encStr (y :: r2)), (3, encStr s.2), (5, .int .i64 ((s.1 : Nat) : Int))]) (fun s wr => s.1 ≤ (y :: r2).length ∧ unq r2 = s.2 ++ unq ((y :: r2).drop s.1) ∧ s.2.length ≤ s.1 ∧ w = wr) (fun s => (y :: r2).length - s.1) (1, []) (.cons rfl (.cons rfl (.cons rfl .nil))) ⟨by simp, rfl, by simp, rfl⟩ ?_
      rintro ⟨i, b⟩ _ ⟨hi, hu, hbl, rfl⟩
      dsimp only at hi hu hbl ⊢
      refine VC.seq ?_
      refine VC.seq ?_
      refine VC.region ?_
      refine Ops.r (Run.mv rfl) rfl ?_
      refine Ops.r (Run.mv rfl) rfl ?_
      refine Ops.r (Run.lenT rfl Tryz.underlying9) rfl ?_
      refine Ops.r (Run.bin rfl rfl (Bin.lssN _ _)) rfl ?_
      refine Ops.nil ?_
      refine thenQ_n ?_
      refine VC.sub [(0, _), (3, _), (5, _), (42, _)] (.cons rfl (.cons rfl (.cons rfl (.cons rfl .nil)))) ?_
      refine VC.condD rfl (fun hc4 => ?_) (fun hc4 => ?_)
      · skip
        have hgx : (y :: r2)[i]? = some (y :: r2)[i] := List.getElem?_eq_getElem hc4
        have hdc := drop_cons hc4
        generalize hz : (y :: r2)[i] = z at *
        refine VC.skip ?_
        refine thenQ_n ?_
        refine VC.sub [(0, _), (3, _), (5, _)] (.cons rfl (.cons rfl (.cons rfl .nil))) ?_
        refine VC.seq ?_
        refine VC.block ?_
        refine VC.seq ?_
        refine VC.seq ?_
        refine VC.region ?_
        refine Ops.r (Run.mv rfl) rfl ?_
        refine Ops.r (Run.mv rfl) rfl ?_
        refine Ops.r (Run.indexT _ rfl rfl Tryz.underlying9 hgx) rfl ?_
        refine Ops.r (Run.bin rfl rfl (Bin.eqlN _ 34)) rfl ?_
        refine Ops.nil ?_
        refine thenQ_n ?_
        refine VC.sub [(0, _), (3, _), (5, _), (48, _)] (.cons rfl (.cons rfl (.cons rfl (.cons rfl .nil)))) ?_
        refine VC.condD rfl (fun hc5 => ?_) (fun hc5 => ?_)
        · skip
          have hfin : unq r2 = b := by rw [hu, hdc, UInt8.toNat_inj.1 (show z.toNat = (34 : UInt8).toNat from hc5), unq_end, List.append_nil]
          refine VC.seq ?_
          refine VC.region ?_
          refine Ops.r (Run.mv rfl) rfl ?_
          refine Ops.r (Run.asg rfl) rfl ?_
          refine Ops.nil ?_
          refine thenQ_n ?_
          refine VC.sub [(2, _)] (.cons rfl .nil) ?_
          refine VC.ret ?_
          refine thenQ_r (blockQ_r (thenQ_r (thenQ_r (blockQ_r (thenQ_r (end1 rfl ?_))))))
          exact ⟨by rw [hv, hfin], rfl⟩
        · skip
          refine VC.skip ?_
          refine thenQ_n ?_
          refine VC.sub [(0, _), (3, _), (5, _)] (.cons rfl (.cons rfl (.cons rfl .nil))) ?_
          refine VC.seq ?_
          refine VC.seq ?_
          refine VC.region ?_
          refine Ops.r (Run.mv rfl) rfl ?_
          refine Ops.r (Run.mv rfl) rfl ?_
          refine Ops.r (Run.indexT _ rfl rfl Tryz.underlying9 hgx) rfl ?_
          refine Ops.r (Run.bin rfl rfl (Bin.eqlN _ 92)) rfl ?_
          refine Ops.nil ?_
          refine thenQ_n ?_
          refine VC.sub [(0, _), (3, _), (5, _), (53, _)] (.cons rfl (.cons rfl (.cons rfl (.cons rfl .nil)))) ?_
          refine VC.meet (σ := Nat) (fun s => [(0, encStr (y :: r2)), (3, encStr b), (5, .int .i64 ((s : Nat) : Int))]) (fun s wr => s < (y :: r2).length ∧ i ≤ s ∧ (∀ z, (y :: r2)[s]? = some z → unq r2 = b ++ z :: unq ((y :: r2).drop (s + 1))) ∧ w = wr) ?_ ?_
          · skip
            refine VC.condD rfl (fun hc6 => ?_) (fun hc6 => ?_)
            · skip
              have hz92 : z = 92 := UInt8.toNat_inj.1 hc6
              refine VC.seq ?_
              refine VC.region ?_
              refine Ops.r (Run.mv rfl) rfl ?_
              refine Ops.r (Run.bin rfl rfl (Bin.add_i64 _ 1 (by omega))) rfl ?_
              refine Ops.r (Run.asg rfl) rfl ?_
              refine Ops.nil ?_
              refine thenQ_n ?_
              refine VC.sub [(0, _), (3, _), (5, _)] (.cons rfl (.cons rfl (.cons rfl .nil))) ?_
              refine VC.seq ?_
              refine VC.region ?_
              refine Ops.r (Run.mv rfl) rfl ?_
              refine Ops.r (Run.mv rfl) rfl ?_
              refine Ops.r (Run.lenT rfl Tryz.underlying9) rfl ?_
              refine Ops.r (Run.bin rfl rfl (Bin.eqlN _ _)) rfl ?_
              refine Ops.nil ?_
              refine thenQ_n ?_
              refine VC.sub [(0, _), (3, _), (5, _), (59, _)] (.cons rfl (.cons rfl (.cons rfl (.cons rfl .nil)))) ?_
              refine VC.condD rfl (fun hc7 => ?_) (fun hc7 => ?_)
              · skip
                have hfin : unq r2 = b := by rw [hu, hdc, hz92, List.drop_eq_nil_of_le (by omega), unq_esc_end, List.append_nil]
                refine VC.seq ?_
                refine VC.region ?_
                refine Ops.r (Run.mv rfl) rfl ?_
                refine Ops.r (Run.asg rfl) rfl ?_
                refine Ops.nil ?_
                refine thenQ_n ?_
                refine VC.sub [(2, _)] (.cons rfl .nil) ?_
                refine VC.ret ?_
                refine thenQ_r (thenQ_r (blockQ_r (thenQ_r (thenQ_r (blockQ_r (thenQ_r (end1 rfl ?_)))))))
                exact ⟨by rw [hv, hfin], rfl⟩
              · skip
                refine VC.skip ?_
                refine thenQ_n ⟨(i + 1), (.cons rfl (.cons rfl (.cons rfl .nil))), ?_⟩
                have hj : i + 1 < (y :: r2).length := by omega
                refine ⟨hj, by omega, fun z2 hz2 => ?_, rfl⟩
                rw [List.getElem?_eq_getElem hj] at hz2
                cases hz2
                rw [hu, hdc, hz92, drop_cons hj, unq_esc]
            · skip
              refine VC.skip ?_
              refine thenQ_n ⟨i, (.cons rfl (.cons rfl (.cons rfl .nil))), ?_⟩
              refine ⟨hc4, by omega, fun z2 hz2 => ?_, rfl⟩
              rw [hgx] at hz2
              cases hz2
              rw [hu, hdc, unq_other (fun h => hc5 (by rw [h]; rfl)) (fun h => hc6 (by rw [h]; rfl))]
          · skip
            rintro j _ ⟨hj, hij, huj, rfl⟩ Γ hΓ
            have hto := take_one hj
            have huj := huj _ (List.getElem?_eq_getElem hj)
            generalize hzj : (y :: r2)[j] = zj at *
            refine thenQ_n (VC.sub _ hΓ ?_)
            refine VC.region ?_
            refine Ops.r (Run.mv rfl) rfl ?_
            refine Ops.r (Run.mv rfl) rfl ?_
            refine Ops.r (Run.mv rfl) rfl ?_
            refine Ops.r (Run.mv rfl) rfl ?_
            refine Ops.r (Run.bin rfl rfl (Bin.add_i64 _ 1 (by omega))) rfl ?_
            refine Ops.r (Run.sliceT j (j + 1) rfl Tryz.underlying9 (evB.some_ rfl) (evB.some_ rfl) (by omega) (by omega)) rfl ?_
            rw [hto]
            refine Ops.r (Run.addT rfl rfl (by simp; omega)) rfl ?_
            refine Ops.r (Run.asg rfl) rfl ?_
            refine Ops.nil ?_
            refine blockQ_n (thenQ_n ?_)
            refine VC.sub [(0, _), (3, _), (5, _)] (.cons rfl (.cons rfl (.cons rfl .nil))) ?_
            refine VC.region ?_
            refine Ops.r (Run.mv rfl) rfl ?_
            refine Ops.r (Run.bin rfl rfl (Bin.add_i64 _ 1 (by omega))) rfl ?_
            refine Ops.r (Run.asg rfl) rfl ?_
            refine Ops.nil ?_
            refine thenQ_n ⟨(j + 1, b ++ [zj]), (.cons rfl (.cons rfl (.cons rfl .nil))), ?_, ?_⟩
            · skip
              exact ⟨hj, by rw [huj]; simp, by simp; omega, rfl⟩
            · skip
              simp only; omega
      · skip
        have hfin : unq r2 = b := by rw [hu, List.drop_eq_nil_of_le (by omega)]; simp [unq]
        refine VC.exit ?_
        refine thenQ_x (thenQ_x (blockQ_x ?_))
        refine thenQ_n ?_
        refine VC.sub [(3, _)] (.cons rfl .nil) ?_
        refine VC.seq ?_
        refine VC.region ?_
        refine Ops.r (Run.mv rfl) rfl ?_
        refine Ops.r (Run.asg rfl) rfl ?_
        refine Ops.nil ?_
        refine thenQ_n ?_
        refine VC.sub [(2, _)] (.cons rfl .nil) ?_
        refine VC.ret ?_
        refine end1 rfl ?_
        exact ⟨by rw [hv, hfin], rfl⟩

set_option maxRecDepth 100000 in
theorem rpieces_spec (q : Tx) (w : World) (hs : q.length ≤ 1000000) : Calls Tryz.prog 145 #[encStr q] w fun e w' => Frm [] w w' ∧ ∃ A d, e = .returned (.slice A (pcs false q).length d) ∧ Own w' 9 1 A (pcs false q).length d (SB (pcs false q)) ∧ ∀ x ∈ ob A, w.heap.size ≤ x := by
  refine VC.calls (nt := 69) (res := #[.tmp 2]) Tryz.func145 rfl Tryz.ntmps145 Tryz.results145 rfl ?_
  refine VC.seq ?_
  refine VC.region ?_
  refine Ops.r (Run.asg rfl) rfl ?_
  refine Ops.nil ?_
  refine thenQ_n ?_
  refine VC.sub [(0, _)] (.cons rfl .nil) ?_
  refine VC.seq ?_
  refine VC.region ?_
  refine Ops.m (Does.buildS1 rfl Tryz.underlying36 Tryz.sizeOf9 zero9 (by decide) (by decide) rfl rfl) rfl ?_
  rintro _ w1 ⟨rfl, hF1⟩
  have K := hF1.frm
  have hA : Own w1 9 1 (some ⟨w.heap.size, 0, none⟩) 1 1 (SB [[]]) := Own.of_blk (n := 1) hF1.blk rfl (by decide)
  have hub : ∀ x ∈ ob (some (⟨w.heap.size, 0, none⟩ : Addr)), w.heap.size ≤ x := by simp [ob]
  refine Ops.r (Run.asg rfl) rfl ?_
  refine Ops.nil ?_
  refine thenQ_n ?_
  refine VC.sub [(0, _), (3, _)] (.cons rfl (.cons rfl .nil)) ?_
  refine VC.seq ?_
  refine VC.region ?_
  refine Ops.r (Run.asg rfl) rfl ?_
  refine Ops.nil ?_
  refine thenQ_n ?_
  refine VC.seq ?_
  refine VC.seq ?_
  refine VC.region ?_
  refine Ops.r (v := .int .i64 ((0 : Nat) : Int)) (Run.asg rfl) rfl ?_
  refine Ops.nil ?_
  refine thenQ_n ?_
  refine VC.block ?_
  refine VC.loop (σ := Nat × List Tx × Tx × Bool × Option Addr × Nat) (fun s => [(0, encStr q), (3, .slice s.2.2.2.2.1 (s.2.1 ++ [s.2.2.1]).length s.2.2.2.2.2), (4, .bool s.2.2.2.1), (5, .int .i64 ((s.1 : Nat) : Int))]) (fun s wr => s.1 ≤ q.length ∧ pcs false q = s.2.1 ++ gluP s.2.2.1 (pcs s.2.2.2.1 (q.drop s.1)) ∧ s.2.1.length ≤ s.1 ∧ s.2.2.1.length ≤ s.1 ∧ Own wr 9 1 s.2.2.2.2.1 (s.2.1 ++ [s.2.2.1]).length s.2.2.2.2.2 (SB (s.2.1 ++ [s.2.2.1])) ∧ (∀ x ∈ ob s.2.2.2.2.1, w.heap.size ≤ x) ∧ Frm [] w wr) (fun s => q.length - s.1) (0, [], [], false, some ⟨w.heap.size, 0, none⟩, 1) (.cons rfl (.cons rfl (.cons rfl (.cons rfl .nil)))) ⟨by omega, by rw [List.drop_zero, List.nil_append, gluP_nil (pcs_ne _ q)], by simp, by simp, hA, hub, K⟩ ?_
  rintro ⟨i, a, b, qt, A, d⟩ wr ⟨hi, hsp, hal, hbl, hA, hub, K⟩
  dsimp only at hi hsp hal hbl hA hub ⊢
  have hwl : (a ++ [b]).length = a.length + 1 := by simp
  refine VC.seq ?_
  refine VC.seq ?_
  refine VC.region ?_
  refine Ops.r (Run.mv rfl) rfl ?_
  refine Ops.r (Run.mv rfl) rfl ?_
  refine Ops.r (Run.lenT rfl Tryz.underlying9) rfl ?_
  refine Ops.r (Run.bin rfl rfl (Bin.lssN _ _)) rfl ?_
  refine Ops.nil ?_
  refine thenQ_n ?_
  refine VC.sub [(0, _), (3, _), (4, _), (5, _), (11, _)] (.cons rfl (.cons rfl (.cons rfl (.cons rfl (.cons rfl .nil))))) ?_
  refine VC.condD rfl (fun hc1 => ?_) (fun hc1 => ?_)
  · skip
    have hgx : q[i]? = some q[i] := List.getElem?_eq_getElem hc1
    have hdc := drop_cons hc1
    have hto := take_one hc1
    generalize hx : q[i] = x at *
    have hx92 : ([x] = ([92] : Tx)) ↔ x = 92 := by simp
    have hx34 : ([x] = ([34] : Tx)) ↔ x = 34 := by simp
    have hx59 : ([x] = ([59] : Tx)) ↔ x = 59 := by simp
    refine VC.skip ?_
    refine thenQ_n ?_
    refine VC.sub [(0, _), (3, _), (4, _), (5, _)] (.cons rfl (.cons rfl (.cons rfl (.cons rfl .nil)))) ?_
    refine VC.seq ?_
    refine VC.block ?_
    refine VC.seq ?_
    refine VC.region ?_
    refine Ops.r (Run.mv rfl) rfl ?_
    refine Ops.r (Run.mv rfl) rfl ?_
    refine Ops.r (Run.mv rfl) rfl ?_
    refine Ops.r (Run.bin rfl rfl (Bin.add_i64 _ 1 (by omega))) rfl ?_
    refine Ops.r (Run.sliceT i (i + 1) rfl Tryz.underlying9 (evB.some_ rfl) (evB.some_ rfl) (by omega) (by omega)) rfl ?_
    rw [hto]
    refine Ops.r (Run.asg rfl) rfl ?_
    refine Ops.nil ?_
    refine thenQ_n ?_
    refine VC.sub [(0, _), (3, _), (4, _), (5, _), (6, _)] (.cons rfl (.cons rfl (.cons rfl (.cons rfl (.cons rfl .nil))))) ?_
    refine VC.seq ?_
    refine VC.seq ?_
    refine VC.split1 [(0, _), (3, _), (4, _), (5, _), (6, _)] (.cons rfl (.cons rfl (.cons rfl (.cons rfl (.cons rfl .nil))))) 30 (.bool (decide (qt = true ∧ x = 92 ∧ i + 1 < q.length))) ?_ ?_
    · refine VC.region ?_
      refine Ops.r (Run.mv rfl) rfl ?_
      by_cases hs19 : qt = true
      · skip
        refine Ops.r (Run.mv rfl) rfl ?_
        refine Ops.rg rfl (by first | rfl | assumption | exact decide_eq_true (by assumption) | exact decide_eq_false (by assumption) | decide | (simp; done) | (simp; omega) | (simp [*]; done)) (Run.mv rfl) rfl ?_
        refine Ops.rg rfl (by first | rfl | assumption | exact decide_eq_true (by assumption) | exact decide_eq_false (by assumption) | decide | (simp; done) | (simp; omega) | (simp [*]; done)) (Run.eqlT rfl rfl) rfl ?_
        rw [show decide ([x] = ([92] : Tx)) = decide (x = 92) from decide_eq_decide.2 hx92]
        by_cases hs22 : x = 92
        · skip
          refine Ops.r (Run.pickT rfl rfl (by first | rfl | assumption | exact decide_eq_true (by assumption) | exact decide_eq_false (by assumption) | decide | (simp; done) | (simp; omega) | (simp [*]; done))) rfl ?_
          refine Ops.r (Run.mv rfl) rfl ?_
          refine Ops.rg rfl (by first | rfl | assumption | exact decide_eq_true (by assumption) | exact decide_eq_false (by assumption) | decide | (simp; done) | (simp; omega) | (simp [*]; done)) (Run.mv rfl) rfl ?_
          refine Ops.rg rfl (by first | rfl | assumption | exact decide_eq_true (by assumption) | exact decide_eq_false (by assumption) | decide | (simp; done) | (simp; omega) | (simp [*]; done)) (Run.bin rfl rfl (Bin.add_i64 _ 1 (by omega))) rfl ?_
          refine Ops.rg rfl (by first | rfl | assumption | exact decide_eq_true (by assumption) | exact decide_eq_false (by assumption) | decide | (simp; done) | (simp; omega) | (simp [*]; done)) (Run.mv rfl) rfl ?_
          refine Ops.rg rfl (by first | rfl | assumption | exact decide_eq_true (by assumption) | exact decide_eq_false (by assumption) | decide | (simp; done) | (simp; omega) | (simp [*]; done)) (Run.lenT rfl Tryz.underlying9) rfl ?_
          refine Ops.rg rfl (by first | rfl | assumption | exact decide_eq_true (by assumption) | exact decide_eq_false (by assumption) | decide | (simp; done) | (simp; omega) | (simp [*]; done)) (Run.bin rfl rfl (Bin.lssN _ _)) rfl ?_
          by_cases hs29 : i + 1 < q.length
          · skip
            refine Ops.r (Run.pickT rfl rfl (by first | rfl | assumption | exact decide_eq_true (by assumption) | exact decide_eq_false (by assumption) | decide | (simp; done) | (simp; omega) | (simp [*]; done))) rfl ?_
            refine Ops.nil ?_
            refine thenQ_n ⟨(.cons (congrArg (fun b => some (Value.bool b)) (by first | (simp [*]; done) | (simp_all; done))) (.cons rfl (.cons rfl (.cons rfl (.cons rfl (.cons rfl .nil)))))), rfl⟩
          · skip
            refine Ops.r (Run.pickT rfl rfl (by first | rfl | assumption | exact decide_eq_true (by assumption) | exact decide_eq_false (by assumption) | decide | (simp; done) | (simp; omega) | (simp [*]; done))) rfl ?_
            refine Ops.nil ?_
            refine thenQ_n ⟨(.cons (congrArg (fun b => some (Value.bool b)) (by first | (simp [*]; done) | (simp_all; done))) (.cons rfl (.cons rfl (.cons rfl (.cons rfl (.cons rfl .nil)))))), rfl⟩
        · skip
          refine Ops.r (Run.pickT rfl rfl (by first | rfl | assumption | exact decide_eq_true (by assumption) | exact decide_eq_false (by assumption) | decide | (simp; done) | (simp; omega) | (simp [*]; done))) rfl ?_
          refine Ops.r (Run.mv rfl) rfl ?_
          refine Ops.sk rfl (by first | rfl | assumption | exact decide_eq_true (by assumption) | exact decide_eq_false (by assumption) | decide | (simp; done) | (simp; omega) | (simp [*]; done)) rfl ?_
          refine Ops.sk rfl (by first | rfl | assumption | exact decide_eq_true (by assumption) | exact decide_eq_false (by assumption) | decide | (simp; done) | (simp; omega) | (simp [*]; done)) rfl ?_
          refine Ops.sk rfl (by first | rfl | assumption | exact decide_eq_true (by assumption) | exact decide_eq_false (by assumption) | decide | (simp; done) | (simp; omega) | (simp [*]; done)) rfl ?_
          refine Ops.sk rfl (by first | rfl | assumption | exact decide_eq_true (by assumption) | exact decide_eq_false (by assumption) | decide | (simp; done) | (simp; omega) | (simp [*]; done)) rfl ?_
          refine Ops.sk rfl (by first | rfl | assumption | exact decide_eq_true (by assumption) | exact decide_eq_false (by assumption) | decide | (simp; done) | (simp; omega) | (simp [*]; done)) rfl ?_
          refine Ops.r (Run.pickF rfl rfl (by first | rfl | assumption | exact decide_eq_true (by assumption) | exact decide_eq_false (by assumption) | decide | (simp; done) | (simp; omega) | (simp [*]; done))) rfl ?_
          refine Ops.nil ?_
          refine thenQ_n ⟨(.cons (congrArg (fun b => some (Value.bool b)) (by first | (simp [*]; done) | (simp_all; done))) (.cons rfl (.cons rfl (.cons rfl (.cons rfl (.cons rfl .nil)))))), rfl⟩
      · skip
        refine Ops.r (Run.mv rfl) rfl ?_
        refine Ops.sk rfl (by first | rfl | assumption | exact decide_eq_true (by assumption) | exact decide_eq_false (by assumption) | decide | (simp; done) | (simp; omega) | (simp [*]; done)) rfl ?_
        refine Ops.sk rfl (by first | rfl | assumption | exact decide_eq_true (by assumption) | exact decide_eq_false (by assumption) | decide | (simp; done) | (simp; omega) | (simp [*]; done)) rfl ?_
        refine Ops.r (Run.pickF rfl rfl (by first | rfl | assumption | exact decide_eq_true (by assumption) | exact decide_eq_false (by assumption) | decide | (simp; done) | (simp; omega) | (simp [*]; done))) rfl ?_
        refine Ops.r (Run.mv rfl) rfl ?_
        refine Ops.sk rfl (by first | rfl | assumption | exact decide_eq_true (by assumption) | exact decide_eq_false (by assumption) | decide | (simp; done) | (simp; omega) | (simp [*]; done)) rfl ?_
        refine Ops.sk rfl (by first | rfl | assumption | exact decide_eq_true (by assumption) | exact decide_eq_false (by assumption) | decide | (simp; done) | (simp; omega) | (simp [*]; done)) rfl ?_
        refine Ops.sk rfl (by first | rfl | assumption | exact decide_eq_true (by assumption) | exact decide_eq_false (by assumption) | decide | (simp; done) | (simp; omega) | (simp [*]; done)) rfl ?_
        refine Ops.sk rfl (by first | rfl | assumption | exact decide_eq_true (by assumption) | exact decide_eq_false (by assumption) | decide | (simp; done) | (simp; omega) | (simp [*]; done)) rfl ?_
        refine Ops.sk rfl (by first | rfl | assumption | exact decide_eq_true (by assumption) | exact decide_eq_false (by assumption) | decide | (simp; done) | (simp; omega) | (simp [*]; done)) rfl ?_
        refine Ops.r (Run.pickF rfl rfl (by first | rfl | assumption | exact decide_eq_true (by assumption) | exact decide_eq_false (by assumption) | decide | (simp; done) | (simp; omega) | (simp [*]; done))) rfl ?_
        refine Ops.nil ?_
        refine thenQ_n ⟨(.cons (congrArg (fun b => some (Value.bool b)) (by first | (simp [*]; done) | (simp_all; done))) (.cons rfl (.cons rfl (.cons rfl (.cons rfl (.cons rfl .nil)))))), rfl⟩
    · intro Γ hΓ
      refine thenQ_n (VC.sub _ hΓ ?_)
      refine VC.condD rfl (fun hc2 => ?_) (fun hc2 => ?_)
      · skip
        obtain ⟨rfl, rfl, hi2⟩ := hc2
        obtain ⟨ad, rfl, _⟩ := SB_at hA.rd (show a.length < (a ++ [b]).length by omega)
        have hdc2 := drop_cons hi2
        have hto2 : (q.drop i).take (i + 2 - i) = [92, q[i + 1]] := by rw [hdc, hdc2, show i + 2 - i = 2 by omega]; rfl
        generalize hx2 : q[i + 1] = x2 at *
        have hsp2 : pcs false q = a ++ gluP (b ++ [92, x2]) (pcs true (q.drop (i + 2))) := by rw [hsp, hdc, hdc2, pcs_esc, gluP_gluP]
        refine VC.seq ?_
        refine VC.held (fun _ => True) (by kernel_rfl) ?_
        refine HOps.take 0 rfl (by kernel_rfl) (by kernel_rfl) (by kernel_rfl) trivial (fun w0 hw0 => Run.mv rfl) trivial rfl rfl ?_
        refine HOps.take 1 rfl (by kernel_rfl) (by kernel_rfl) (by kernel_rfl) trivial (fun w0 hw0 => Run.mv rfl) trivial rfl rfl ?_
        refine HOps.take 2 rfl (by kernel_rfl) (by kernel_rfl) (by kernel_rfl) trivial (fun w0 hw0 => Run.lenS rfl Tryz.underlying36) trivial rfl rfl ?_
        refine HOps.take 3 rfl (by kernel_rfl) (by kernel_rfl) (by kernel_rfl) trivial (fun w0 hw0 => Run.bin rfl rfl (Bin.subN (a ++ [b]).length 1 (by omega) (by simp [bmax]; omega))) trivial rfl rfl ?_
        refine HOps.take 4 rfl (by kernel_rfl) (by kernel_rfl) (by kernel_rfl) trivial (fun w0 hw0 => Run.index1 ((a ++ [b]).length - 1) rfl rfl Tryz.underlying36 Tryz.sizeOf9 (show (a ++ [b]).length - 1 < (a ++ [b]).length by omega)) trivial rfl rfl ?_
        refine HOps.take 6 rfl (by kernel_rfl) (by kernel_rfl) (by kernel_rfl) trivial (fun w0 hw0 => Run.mv rfl) trivial rfl rfl ?_
        refine HOps.take 7 rfl (by kernel_rfl) (by kernel_rfl) (by kernel_rfl) trivial (fun w0 hw0 => Run.mv rfl) trivial rfl rfl ?_
        refine HOps.take 8 rfl (by kernel_rfl) (by kernel_rfl) (by kernel_rfl) trivial (fun w0 hw0 => Run.mv rfl) trivial rfl rfl ?_
        refine HOps.take 9 rfl (by kernel_rfl) (by kernel_rfl) (by kernel_rfl) trivial (fun w0 hw0 => Run.bin rfl rfl (Bin.add_i64 _ 2 (by omega))) trivial rfl rfl ?_
        refine HOps.take 10 rfl (by kernel_rfl) (by kernel_rfl) (by kernel_rfl) trivial (fun w0 hw0 => Run.sliceT i (i + 2) rfl Tryz.underlying9 (evB.some_ rfl) (evB.some_ rfl) (by omega) (by omega)) trivial rfl rfl ?_
        rw [hto2]
        refine HOps.r1 5 rfl (by kernel_rfl) trivial (Run.load rfl Tryz.isAgg9 (last_cell hA)) trivial rfl rfl ?_
        refine HOps.take 11 rfl (by kernel_rfl) (by kernel_rfl) (by kernel_rfl) trivial (fun w0 hw0 => Run.addT rfl rfl (by simp; omega)) trivial rfl rfl ?_
        refine HOps.take 12 rfl (by kernel_rfl) (by kernel_rfl) (by kernel_rfl) trivial (fun w0 hw0 => Run.index1 ((a ++ [b]).length - 1) rfl rfl Tryz.underlying36 Tryz.sizeOf9 (show (a ++ [b]).length - 1 < (a ++ [b]).length by omega)) trivial rfl rfl ?_
        refine HOps.st 13 rfl (by kernel_rfl) (Acts.storeOwn ((a ++ [b]).length - 1) rfl rfl Tryz.sizeOf9 hA rfl (by omega) rfl) trivial rfl ?_
        rintro w6 ⟨hA6, hf6, _⟩
        have hA6 : Own w6 9 1 (some ad) (a ++ [b ++ [92, x2]]).length d (SB (a ++ [b ++ [92, x2]])) := by
          have e1 : (SB (a ++ [b])).set ((a ++ [b]).length - 1) (encStr (b ++ [92, x2])) = SB (a ++ [b ++ [92, x2]]) := by
            rw [show (a ++ [b]).length - 1 = a.length by omega, SB_append, SB_append, ← SB_len a]
            exact set_last _ _ _
          rw [← e1, show (a ++ [b ++ [92, x2]]).length = (a ++ [b]).length by simp]
          exact hA6
        have K := Frm.own K.drew hf6 hub
        refine ⟨trivial, ?_⟩
        refine HOps.done (by kernel_rfl) ?_
        refine thenQ_n ?_
        refine VC.sub [(0, _), (3, _), (4, _), (5, _)] (.cons rfl (.cons rfl (.cons rfl (.cons rfl .nil)))) ?_
        refine VC.seq ?_
        refine VC.region ?_
        refine Ops.r (Run.mv rfl) rfl ?_
        refine Ops.r (Run.bin rfl rfl (Bin.add_i64 _ 1 (by omega))) rfl ?_
        refine Ops.r (Run.asg rfl) rfl ?_
        refine Ops.nil ?_
        refine thenQ_n ?_
        refine VC.sub [(0, _), (3, _), (4, _), (5, _)] (.cons rfl (.cons rfl (.cons rfl (.cons rfl .nil)))) ?_
        refine VC.exit ?_
        refine thenQ_x (blockQ_x ?_)
        refine thenQ_n ?_
        refine VC.region ?_
        refine Ops.r (Run.mv rfl) rfl ?_
        refine Ops.r (Run.bin rfl rfl (Bin.add_i64 _ 1 (by omega))) rfl ?_
        refine Ops.r (Run.asg rfl) rfl ?_
        refine Ops.nil ?_
        refine thenQ_n ⟨(i + 2, a, b ++ [92, x2], true, some ad, d), (.cons rfl (.cons (by simp; rfl) (.cons rfl (.cons rfl .nil)))), ?_, ?_⟩
        · skip
          exact ⟨by dsimp only; omega, hsp2, by dsimp only; omega, by simp; omega, hA6, hub, K⟩
        · skip
          first | omega | (dsimp only; omega)
      · skip
        refine VC.skip ?_
        refine thenQ_n ?_
        refine VC.sub [(0, _), (3, _), (4, _), (5, _), (6, _)] (.cons rfl (.cons rfl (.cons rfl (.cons rfl (.cons rfl .nil))))) ?_
        refine VC.seq ?_
        refine VC.seq ?_
        refine VC.region ?_
        refine Ops.r (Run.mv rfl) rfl ?_
        refine Ops.r (Run.eqlT rfl rfl) rfl ?_
        rw [show decide ([x] = ([34] : Tx)) = decide (x = 34) from decide_eq_decide.2 hx34]
        refine Ops.nil ?_
        refine thenQ_n ?_
        refine VC.sub [(0, _), (3, _), (4, _), (5, _), (6, _), (47, _)] (.cons rfl (.cons rfl (.cons rfl (.cons rfl (.cons rfl (.cons rfl .nil)))))) ?_
        refine VC.meet (σ := Bool) (fun s => [(0, encStr q), (3, .slice A (a ++ [b]).length d), (4, .bool s), (5, .int .i64 ((i : Nat) : Int)), (6, encStr [x])]) (fun s wr2 => s = (if x = 34 then !qt else qt) ∧ wr = wr2) ?_ ?_
        · skip
          refine VC.condD rfl (fun hc3 => ?_) (fun hc3 => ?_)
          · skip
            refine VC.region ?_
            refine Ops.r (Run.mv rfl) rfl ?_
            refine Ops.r (Run.not rfl) rfl ?_
            refine Ops.r (Run.asg rfl) rfl ?_
            refine Ops.nil ?_
            refine thenQ_n ⟨(!qt), (.cons rfl (.cons rfl (.cons rfl (.cons rfl (.cons rfl .nil))))), ?_⟩
            exact ⟨by rw [if_pos hc3], rfl⟩
          · skip
            refine VC.skip ?_
            refine thenQ_n ⟨qt, (.cons rfl (.cons rfl (.cons rfl (.cons rfl (.cons rfl .nil))))), ?_⟩
            exact ⟨by rw [if_neg hc3], rfl⟩
        · skip
          rintro q2 _ ⟨hq2, rfl⟩ Γ hΓ
          refine thenQ_n (VC.sub _ hΓ ?_)
          refine VC.seq ?_
          refine VC.seq ?_
          refine VC.split1 [(0, _), (3, _), (4, _), (5, _), (6, _)] (.cons rfl (.cons rfl (.cons rfl (.cons rfl (.cons rfl .nil))))) 55 (.bool (decide (x = 59 ∧ q2 = false))) ?_ ?_
          · refine VC.region ?_
            refine Ops.r (Run.mv rfl) rfl ?_
            refine Ops.r (Run.eqlT rfl rfl) rfl ?_
            rw [show decide ([x] = ([59] : Tx)) = decide (x = 59) from decide_eq_decide.2 hx59]
            by_cases hs51 : x = 59
            · skip
              refine Ops.r (Run.mv rfl) rfl ?_
              refine Ops.rg rfl (by first | rfl | assumption | exact decide_eq_true (by assumption) | exact decide_eq_false (by assumption) | decide | (simp; done) | (simp; omega) | (simp [*]; done)) (Run.mv rfl) rfl ?_
              by_cases hs53 : q2 = true
              · skip
                refine Ops.rg rfl (by first | rfl | assumption | exact decide_eq_true (by assumption) | exact decide_eq_false (by assumption) | decide | (simp; done) | (simp; omega) | (simp [*]; done)) (Run.not rfl) rfl ?_
                refine Ops.r (Run.pickT rfl rfl (by first | rfl | assumption | exact decide_eq_true (by assumption) | exact decide_eq_false (by assumption) | decide | (simp; done) | (simp; omega) | (simp [*]; done))) rfl ?_
                refine Ops.nil ?_
                refine thenQ_n ⟨(.cons (congrArg (fun b => some (Value.bool b)) (by first | (simp [*]; done) | (simp_all; done))) (.cons rfl (.cons rfl (.cons rfl (.cons rfl (.cons rfl .nil)))))), rfl⟩
              · skip
                refine Ops.rg rfl (by first | rfl | assumption | exact decide_eq_true (by assumption) | exact decide_eq_false (by assumption) | decide | (simp; done) | (simp; omega) | (simp [*]; done)) (Run.not rfl) rfl ?_
                refine Ops.r (Run.pickT rfl rfl (by first | rfl | assumption | exact decide_eq_true (by assumption) | exact decide_eq_false (by assumption) | decide | (simp; done) | (simp; omega) | (simp [*]; done))) rfl ?_
                refine Ops.nil ?_
                refine thenQ_n ⟨(.cons (congrArg (fun b => some (Value.bool b)) (by first | (simp [*]; done) | (simp_all; done))) (.cons rfl (.cons rfl (.cons rfl (.cons rfl (.cons rfl .nil)))))), rfl⟩
            · skip
              refine Ops.r (Run.mv rfl) rfl ?_
              refine Ops.sk rfl (by first | rfl | assumption | exact decide_eq_true (by assumption) | exact decide_eq_false (by assumption) | decide | (simp; done) | (simp; omega) | (simp [*]; done)) rfl ?_
              refine Ops.sk rfl (by first | rfl | assumption | exact decide_eq_true (by assumption) | exact decide_eq_false (by assumption) | decide | (simp; done) | (simp; omega) | (simp [*]; done)) rfl ?_
              refine Ops.r (Run.pickF rfl rfl (by first | rfl | assumption | exact decide_eq_true (by assumption) | exact decide_eq_false (by assumption) | decide | (simp; done) | (simp; omega) | (simp [*]; done))) rfl ?_
              refine Ops.nil ?_
              refine thenQ_n ⟨(.cons (congrArg (fun b => some (Value.bool b)) (by first | (simp [*]; done) | (simp_all; done))) (.cons rfl (.cons rfl (.cons rfl (.cons rfl (.cons rfl .nil)))))), rfl⟩
          · intro Γ hΓ
            refine thenQ_n (VC.sub _ hΓ ?_)
            refine VC.condD rfl (fun hc4 => ?_) (fun hc4 => ?_)
            · skip
              obtain ⟨hx9, hqf⟩ := hc4
              have hqt : qt = false := by rw [hx9, hqf] at hq2; simpa using hq2.symm
              have hl2 : (a ++ [b]).length + 1 = (a ++ [b] ++ [([] : Tx)]).length := by simp
              have hsp2 : pcs false q = (a ++ [b]) ++ gluP [] (pcs q2 (q.drop (i + 1))) := by rw [hsp, hdc, hx9, hqt, hqf, pcs_cut, gluP_nil (pcs_ne _ _)]; simp [gluP]
              refine VC.seq ?_
              refine VC.region ?_
              refine Ops.r (Run.mv rfl) rfl ?_
              refine Ops.m (Does.buildS1 rfl Tryz.underlying36 Tryz.sizeOf9 zero9 (by decide) (by decide) rfl rfl) rfl ?_
              rintro _ w3 ⟨rfl, hF3⟩
              have K := K.trans hF3.frm (by simp)
              refine Ops.m (Does.app rfl rfl Tryz.underlying36 (info9) rfl (by decide) (hA.frm hF3.frm (by simp)) (hrdT (q := []) hF3) (SB_one _) (by omega) (by omega)) rfl ?_
              rintro _ w4 ⟨A4, d4, rfl, hA4, hf4, hob4⟩
              rw [← SB_append] at hA4
              have hub4 := up_app hub hob4 K.size
              have K := Frm.own K hf4 hub
              refine Ops.r (Run.asg rfl) rfl ?_
              refine Ops.nil ?_
              refine thenQ_n ?_
              refine VC.sub [(0, _), (3, _), (4, _), (5, _)] (.cons rfl (.cons rfl (.cons rfl (.cons rfl .nil)))) ?_
              refine VC.exit ?_
              refine thenQ_x (blockQ_x ?_)
              refine thenQ_n ?_
              refine VC.region ?_
              refine Ops.r (Run.mv rfl) rfl ?_
              refine Ops.r (Run.bin rfl rfl (Bin.add_i64 _ 1 (by omega))) rfl ?_
              refine Ops.r (Run.asg rfl) rfl ?_
              refine Ops.nil ?_
              refine thenQ_n ⟨(i + 1, a ++ [b], [], q2, A4, d4), (.cons rfl (.cons (by rw [← hl2]; rfl) (.cons rfl (.cons rfl .nil)))), ?_, ?_⟩
              · skip
                exact ⟨hc1, hsp2, by dsimp only; omega, by simp, by simpa using hA4, hub4, K⟩
              · skip
                first | omega | (dsimp only; omega)
            · skip
              obtain ⟨ad, rfl, _⟩ := SB_at hA.rd (show a.length < (a ++ [b]).length by omega)
              have hsp2 : pcs false q = a ++ gluP (b ++ [x]) (pcs q2 (q.drop (i + 1))) := by
                rw [hsp, hdc]
                by_cases h34 : x = 34
                · rw [if_pos h34] at hq2
                  rw [h34, pcs_quote, gluP_gluP, hq2]
                · rw [if_neg h34] at hq2
                  rw [hq2] at hc4 ⊢
                  by_cases h92 : qt = true ∧ x = 92
                  · obtain ⟨rfl, rfl⟩ := h92
                    rw [List.drop_eq_nil_of_le (show q.length ≤ i + 1 from Nat.le_of_not_lt fun h => hc2 ⟨rfl, rfl, h⟩), pcs_esc_end, gluP_gluP]
                  · rw [pcs_other h92 h34 hc4, gluP_gluP]
              refine VC.skip ?_
              refine thenQ_n ?_
              refine VC.sub [(0, _), (3, _), (4, _), (5, _), (6, _)] (.cons rfl (.cons rfl (.cons rfl (.cons rfl (.cons rfl .nil))))) ?_
              refine VC.region ?_
              refine Ops.r (Run.mv rfl) rfl ?_
              refine Ops.r (Run.mv rfl) rfl ?_
              refine Ops.r (Run.lenS rfl Tryz.underlying36) rfl ?_
              refine Ops.r (Run.bin rfl rfl (Bin.subN (a ++ [b]).length 1 (by omega) (by simp [bmax]; omega))) rfl ?_
              refine Ops.r (Run.index1 ((a ++ [b]).length - 1) rfl rfl Tryz.underlying36 Tryz.sizeOf9 (show (a ++ [b]).length - 1 < (a ++ [b]).length by omega)) rfl ?_
              refine Ops.r (Run.load rfl Tryz.isAgg9 (last_cell hA)) rfl ?_
              refine Ops.r (Run.mv rfl) rfl ?_
              refine Ops.r (Run.addT rfl rfl (by simp; omega)) rfl ?_
              refine Ops.r (Run.index1 ((a ++ [b]).length - 1) rfl rfl Tryz.underlying36 Tryz.sizeOf9 (show (a ++ [b]).length - 1 < (a ++ [b]).length by omega)) rfl ?_
              refine Ops.st (Acts.storeOwn ((a ++ [b]).length - 1) rfl rfl Tryz.sizeOf9 hA rfl (by omega) rfl) ?_
              rintro w6 ⟨hA6, hf6, _⟩
              have hA6 : Own w6 9 1 (some ad) (a ++ [b ++ [x]]).length d (SB (a ++ [b ++ [x]])) := by
                have e1 : (SB (a ++ [b])).set ((a ++ [b]).length - 1) (encStr (b ++ [x])) = SB (a ++ [b ++ [x]]) := by
                  rw [show (a ++ [b]).length - 1 = a.length by omega, SB_append, SB_append, ← SB_len a]
                  exact set_last _ _ _
                rw [← e1, show (a ++ [b ++ [x]]).length = (a ++ [b]).length by simp]
                exact hA6
              have K := Frm.own K hf6 hub
              refine Ops.nil ?_
              refine blockQ_n (thenQ_n ?_)
              refine VC.sub [(0, _), (3, _), (4, _), (5, _)] (.cons rfl (.cons rfl (.cons rfl (.cons rfl .nil)))) ?_
              refine VC.region ?_
              refine Ops.r (Run.mv rfl) rfl ?_
              refine Ops.r (Run.bin rfl rfl (Bin.add_i64 _ 1 (by omega))) rfl ?_
              refine Ops.r (Run.asg rfl) rfl ?_
              refine Ops.nil ?_
              refine thenQ_n ⟨(i + 1, a, b ++ [x], q2, some ad, d), (.cons rfl (.cons (by simp; rfl) (.cons rfl (.cons rfl .nil)))), ?_, ?_⟩
              · skip
                exact ⟨hc1, hsp2, by dsimp only; omega, by simp; omega, hA6, hub, K⟩
              · skip
                first | omega | (dsimp only; omega)
  · skip
    have him : i = q.length := by omega
    subst him
    have hfin : pcs false q = a ++ [b] := by rw [hsp, List.drop_length]; simp [pcs, gluP]
    refine VC.exit ?_
    refine thenQ_x (thenQ_x (blockQ_x ?_))
    refine thenQ_n ?_
    refine VC.sub [(3, _)] (.cons rfl .nil) ?_
    refine VC.seq ?_
    refine VC.region ?_
    refine Ops.r (Run.mv rfl) rfl ?_
    refine Ops.r (Run.asg rfl) rfl ?_
    refine Ops.nil ?_
    refine thenQ_n ?_
    refine VC.sub [(2, _)] (.cons rfl .nil) ?_
    refine VC.ret ?_
    refine end1 rfl ?_
    rw [hfin]
    exact ⟨K, A, d, rfl, hA, hub⟩

end Go.Proofs.YtenbjndldenkfaaGreatDoor
