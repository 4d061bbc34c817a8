/-
  The walks of the document's answer for layer 9: who may be read by, and what is taken.
-/
import Derived.Test.YtfjhmbgckmhdaaaCanV
import Derived.Test.YtfjhmbgckmhdaaaCanT
namespace Go.Proofs.Ytfjhmbgckmhdaaa
open Go.RowKit

set_option maxRecDepth 100000 in
theorem refNew_spec (A : Option Addr) (c0 : Nat) (l : List Int) (w : World) (hl : l.length ≤ 1000000) (hr : Rd w 1 A l.length (IB l)) :
    Calls Try.prog 44 #[.slice A l.length c0] w fun e w' => e = .returned (.int .i64 ((newE l : Nat) : Int)) ∧ Frm [] w w' := by
  have hone : (order l).length = 1 → ∃ j, (order l)[0]? = some j ∧ j < l.length ∧ (l.getD j 0 = 1 ↔ cn l 1 = 1) := fun h => ⟨_, List.getElem?_eq_getElem (by omega), (order_get l 0 _ (List.getElem?_eq_getElem (by omega))).choose_spec.2.2.1, order_one l _ h (List.getElem?_eq_getElem (by omega))⟩
  refine VC.calls (nt := 31) (res := #[.tmp 2]) Try.func44 rfl Try.ntmps44 Try.results44 rfl ?_
  refine VC.seq ?_
  refine VC.region ?_
  refine Ops.r (v := .int .i64 ((0 : Nat) : Int)) (Run.asg rfl) rfl ?_
  refine Ops.nil ?_
  refine thenQ_n ?_
  refine VC.sub [(0, _)] (.cons rfl .nil) ?_
  refine VC.seq ?_
  refine VC.region ?_
  refine Ops.r (Run.mv rfl) rfl ?_
  refine Ops.cl (Enters.fn (evs.cons rfl evs.nil) Try.call54) (refCheck_spec A c0 l _ hl hr) rfl ?_
  rintro e _ ⟨rfl, rfl⟩
  refine ⟨_, rfl, ?_⟩
  refine Ops.r (Run.asg rfl) rfl ?_
  refine Ops.nil ?_
  refine thenQ_n ?_
  refine VC.sub [(0, _), (3, _)] (.cons rfl (.cons rfl .nil)) ?_
  refine VC.seq ?_
  refine VC.region ?_
  refine Ops.r (Run.mv rfl) rfl ?_
  refine Ops.cl (Enters.fn (evs.cons rfl evs.nil) Try.call55) (refOrder_spec A c0 l _ hl hr) rfl ?_
  rintro e w1 ⟨Bo, co, rfl, hord, hf1, huo⟩
  refine ⟨_, rfl, ?_⟩
  refine Ops.r (Run.asg rfl) rfl ?_
  refine Ops.nil ?_
  refine thenQ_n ?_
  refine VC.sub [(0, _), (3, _), (4, _)] (.cons rfl (.cons rfl (.cons rfl .nil))) ?_
  refine VC.seq ?_
  refine VC.seq ?_
  refine VC.split1 [(3, _)] (.cons rfl .nil) 29 (.bool (decide (chk l = 2 ∧ ((order l).length = 0 ∨ (order l).length = 1 ∧ cn l 1 = 1)))) ?_ ?_
  · refine VC.region ?_
    refine Ops.r (Run.mv rfl) rfl ?_
    refine Ops.r (Run.bin rfl rfl (Bin.eqlN _ 2)) rfl ?_
    by_cases hs10 : chk l = 2
    · skip
      refine Ops.r (Run.mv rfl) rfl ?_
      refine Ops.rg rfl (by first | rfl | assumption | decide | (simp; done) | (simp; omega) | (simp [*]; done)) (Run.mv rfl) rfl ?_
      refine Ops.rg rfl (by first | rfl | assumption | decide | (simp; done) | (simp; omega) | (simp [*]; done)) (Run.lenS rfl Try.underlying37) rfl ?_
      refine Ops.rg rfl (by first | rfl | assumption | decide | (simp; done) | (simp; omega) | (simp [*]; done)) (Run.bin rfl rfl (Bin.eqlN _ 0)) rfl ?_
      by_cases hs14 : (order l).length = 0
      · skip
        refine Ops.rg rfl (by first | rfl | assumption | decide | (simp; done) | (simp; omega) | (simp [*]; done)) (Run.mv rfl) rfl ?_
        refine Ops.sk rfl (by first | rfl | assumption | decide | (simp; done) | (simp; omega) | (simp [*]; done)) rfl ?_
        refine Ops.sk rfl (by first | rfl | assumption | decide | (simp; done) | (simp; omega) | (simp [*]; done)) rfl ?_
        refine Ops.sk rfl (by first | rfl | assumption | decide | (simp; done) | (simp; omega) | (simp [*]; done)) rfl ?_
        refine Ops.sk rfl (by first | rfl | assumption | decide | (simp; done) | (simp; omega) | (simp [*]; done)) rfl ?_
        refine Ops.skU rfl rfl ?_
        refine Ops.skU rfl rfl ?_
        refine Ops.skU rfl rfl ?_
        refine Ops.skU rfl rfl ?_
        refine Ops.skU rfl rfl ?_
        refine Ops.skU rfl rfl ?_
        refine Ops.skU rfl rfl ?_
        refine Ops.sk rfl (by first | rfl | assumption | decide | (simp; done) | (simp; omega) | (simp [*]; done)) rfl ?_
        refine Ops.rg rfl (by first | rfl | assumption | decide | (simp; done) | (simp; omega) | (simp [*]; done)) (Run.pickT rfl rfl (by first | rfl | assumption | decide | (simp; done) | (simp; omega) | (simp [*]; done))) rfl ?_
        refine Ops.r (Run.pickT rfl rfl (by first | rfl | assumption | decide | (simp; done) | (simp; omega) | (simp [*]; done))) rfl ?_
        refine Ops.nil ?_
        refine thenQ_n ⟨(.cons (congrArg (fun b => some (Value.bool b)) (by simp [*])) (.cons rfl .nil)), rfl⟩
      · skip
        refine Ops.rg rfl (by first | rfl | assumption | decide | (simp; done) | (simp; omega) | (simp [*]; done)) (Run.mv rfl) rfl ?_
        refine Ops.rg rfl (by first | rfl | assumption | decide | (simp; done) | (simp; omega) | (simp [*]; done)) (Run.mv rfl) rfl ?_
        refine Ops.rg rfl (by first | rfl | assumption | decide | (simp; done) | (simp; omega) | (simp [*]; done)) (Run.lenS rfl Try.underlying37) rfl ?_
        refine Ops.rg rfl (by first | rfl | assumption | decide | (simp; done) | (simp; omega) | (simp [*]; done)) (Run.bin rfl rfl (Bin.eqlN _ 1)) rfl ?_
        by_cases hs18 : (order l).length = 1
        · skip
          obtain ⟨j, hoj, hjl, hj1⟩ := hone hs18
          obtain ⟨ad, rfl, hcell⟩ := NI_at (k := 0) hord.rd (by omega)
          have hoj2 : (order l)[0] = j := by rw [List.getElem?_eq_getElem (by omega)] at hoj; simpa using hoj
          rw [hoj2] at hcell
          obtain ⟨ad2, rfl, hcell2⟩ := IB_at (hr.belowW hf1.below) hjl
          rw [getD_at l j hjl] at hj1
          refine Ops.rg rfl (by first | rfl | assumption | decide | (simp; done) | (simp; omega) | (simp [*]; done)) (Run.mv rfl) rfl ?_
          refine Ops.rg rfl (by first | rfl | assumption | decide | (simp; done) | (simp; omega) | (simp [*]; done)) (Run.mv rfl) rfl ?_
          refine Ops.rg rfl (by first | rfl | assumption | decide | (simp; done) | (simp; omega) | (simp [*]; done)) (Run.mv rfl) rfl ?_
          refine Ops.rg rfl (by first | rfl | assumption | decide | (simp; done) | (simp; omega) | (simp [*]; done)) (Run.index1 0 rfl rfl Try.underlying37 Try.sizeOf3 (by omega)) rfl ?_
          refine Ops.rg rfl (by first | rfl | assumption | decide | (simp; done) | (simp; omega) | (simp [*]; done)) (Run.load rfl Try.isAgg3 hcell) rfl ?_
          refine Ops.rg rfl (by first | rfl | assumption | decide | (simp; done) | (simp; omega) | (simp [*]; done)) (Run.index1 _ rfl rfl Try.underlying37 Try.sizeOf3 (by omega)) rfl ?_
          refine Ops.rg rfl (by first | rfl | assumption | decide | (simp; done) | (simp; omega) | (simp [*]; done)) (Run.load rfl Try.isAgg3 hcell2) rfl ?_
          refine Ops.rg rfl (by first | rfl | assumption | decide | (simp; done) | (simp; omega) | (simp [*]; done)) (Run.bin rfl rfl (Bin.eql _ 1)) rfl ?_
          by_cases hs26 : cn l 1 = 1
          · skip
            refine Ops.rg rfl (by first | rfl | assumption | decide | (simp; done) | (simp; omega) | (simp [*]; done)) (Run.pickT rfl rfl (by first | rfl | assumption | decide | (simp; done) | (simp; omega) | (simp [*]; done))) rfl ?_
            refine Ops.rg rfl (by first | rfl | assumption | decide | (simp; done) | (simp; omega) | (simp [*]; done)) (Run.pickF rfl rfl (by first | rfl | assumption | decide | (simp; done) | (simp; omega) | (simp [*]; done))) rfl ?_
            refine Ops.r (Run.pickT rfl rfl (by first | rfl | assumption | decide | (simp; done) | (simp; omega) | (simp [*]; done))) rfl ?_
            refine Ops.nil ?_
            refine thenQ_n ⟨(.cons (congrArg (fun b => some (Value.bool b)) (by simp [*])) (.cons rfl .nil)), rfl⟩
          · skip
            refine Ops.rg rfl (by first | rfl | assumption | decide | (simp; done) | (simp; omega) | (simp [*]; done)) (Run.pickT rfl rfl (by first | rfl | assumption | decide | (simp; done) | (simp; omega) | (simp [*]; done))) rfl ?_
            refine Ops.rg rfl (by first | rfl | assumption | decide | (simp; done) | (simp; omega) | (simp [*]; done)) (Run.pickF rfl rfl (by first | rfl | assumption | decide | (simp; done) | (simp; omega) | (simp [*]; done))) rfl ?_
            refine Ops.r (Run.pickT rfl rfl (by first | rfl | assumption | decide | (simp; done) | (simp; omega) | (simp [*]; done))) rfl ?_
            refine Ops.nil ?_
            refine thenQ_n ⟨(.cons (congrArg (fun b => some (Value.bool b)) (by simp [*])) (.cons rfl .nil)), rfl⟩
        · skip
          refine Ops.rg rfl (by first | rfl | assumption | decide | (simp; done) | (simp; omega) | (simp [*]; done)) (Run.mv rfl) rfl ?_
          refine Ops.sk rfl (by first | rfl | assumption | decide | (simp; done) | (simp; omega) | (simp [*]; done)) rfl ?_
          refine Ops.sk rfl (by first | rfl | assumption | decide | (simp; done) | (simp; omega) | (simp [*]; done)) rfl ?_
          refine Ops.sk rfl (by first | rfl | assumption | decide | (simp; done) | (simp; omega) | (simp [*]; done)) rfl ?_
          refine Ops.sk rfl (by first | rfl | assumption | decide | (simp; done) | (simp; omega) | (simp [*]; done)) rfl ?_
          refine Ops.sk rfl (by first | rfl | assumption | decide | (simp; done) | (simp; omega) | (simp [*]; done)) rfl ?_
          refine Ops.sk rfl (by first | rfl | assumption | decide | (simp; done) | (simp; omega) | (simp [*]; done)) rfl ?_
          refine Ops.sk rfl (by first | rfl | assumption | decide | (simp; done) | (simp; omega) | (simp [*]; done)) rfl ?_
          refine Ops.rg rfl (by first | rfl | assumption | decide | (simp; done) | (simp; omega) | (simp [*]; done)) (Run.pickF rfl rfl (by first | rfl | assumption | decide | (simp; done) | (simp; omega) | (simp [*]; done))) rfl ?_
          refine Ops.rg rfl (by first | rfl | assumption | decide | (simp; done) | (simp; omega) | (simp [*]; done)) (Run.pickF rfl rfl (by first | rfl | assumption | decide | (simp; done) | (simp; omega) | (simp [*]; done))) rfl ?_
          refine Ops.r (Run.pickT rfl rfl (by first | rfl | assumption | decide | (simp; done) | (simp; omega) | (simp [*]; done))) rfl ?_
          refine Ops.nil ?_
          refine thenQ_n ⟨(.cons (congrArg (fun b => some (Value.bool b)) (by simp [*])) (.cons rfl .nil)), rfl⟩
    · skip
      refine Ops.r (Run.mv rfl) rfl ?_
      refine Ops.sk rfl (by first | rfl | assumption | decide | (simp; done) | (simp; omega) | (simp [*]; done)) rfl ?_
      refine Ops.sk rfl (by first | rfl | assumption | decide | (simp; done) | (simp; omega) | (simp [*]; done)) rfl ?_
      refine Ops.sk rfl (by first | rfl | assumption | decide | (simp; done) | (simp; omega) | (simp [*]; done)) rfl ?_
      refine Ops.sk rfl (by first | rfl | assumption | decide | (simp; done) | (simp; omega) | (simp [*]; done)) rfl ?_
      refine Ops.skU rfl rfl ?_
      refine Ops.skU rfl rfl ?_
      refine Ops.skU rfl rfl ?_
      refine Ops.skU rfl rfl ?_
      refine Ops.skU rfl rfl ?_
      refine Ops.skU rfl rfl ?_
      refine Ops.skU rfl rfl ?_
      refine Ops.skU rfl rfl ?_
      refine Ops.skU rfl rfl ?_
      refine Ops.skU rfl rfl ?_
      refine Ops.skU rfl rfl ?_
      refine Ops.skU rfl rfl ?_
      refine Ops.sk rfl (by first | rfl | assumption | decide | (simp; done) | (simp; omega) | (simp [*]; done)) rfl ?_
      refine Ops.r (Run.pickF rfl rfl (by first | rfl | assumption | decide | (simp; done) | (simp; omega) | (simp [*]; done))) rfl ?_
      refine Ops.nil ?_
      refine thenQ_n ⟨(.cons (congrArg (fun b => some (Value.bool b)) (by simp [*])) (.cons rfl .nil)), rfl⟩
  · intro Γ hΓ
    refine thenQ_n (VC.sub _ hΓ ?_)
    refine VC.condD rfl (fun hc1 => ?_) (fun hc1 => ?_)
    · skip
      refine VC.seq ?_
      refine VC.region ?_
      refine Ops.r (v := .int .i64 ((0 : Nat) : Int)) (Run.asg rfl) rfl ?_
      refine Ops.nil ?_
      refine thenQ_n ?_
      refine VC.sub [(2, _)] (.cons rfl .nil) ?_
      refine VC.ret ?_
      refine thenQ_r (end1 rfl ?_)
      refine ⟨?_, hf1⟩
      unfold newE
      rw [if_pos hc1]
    · skip
      refine VC.skip ?_
      refine thenQ_n ?_
      refine VC.sub [(3, _)] (.cons rfl .nil) ?_
      refine VC.seq ?_
      refine VC.region ?_
      refine Ops.r (Run.mv rfl) rfl ?_
      refine Ops.r (Run.asg rfl) rfl ?_
      refine Ops.nil ?_
      refine thenQ_n ?_
      refine VC.sub [(2, _)] (.cons rfl .nil) ?_
      refine VC.ret ?_
      refine end1 rfl ?_
      refine ⟨?_, hf1⟩
      unfold newE
      rw [if_neg hc1]

def mostL (l : List Int) : Nat := if (order l).length < 2 then (order l).length else 15
theorem codesL_get (l : List Int) (i : Nat) (h : i < l.length) : (codesL l)[i]? = some (codeC l i) := by simp [codesL, h]

set_option maxRecDepth 100000 in
theorem refTake_spec (A B : Option Addr) (c0 c1 : Nat) (l : List Int) (L : List Bool) (p : Nat) (w : World) (hg : good l) (hL : L.length ≤ 1000000000) (hp : p ≤ L.length) (hr : Rd w 1 A l.length (IB l)) (hrb : Rd w 1 B L.length (BL L)) :
    Calls Try.prog 53 #[.slice A l.length c0, .slice B L.length c1, .int .i64 ((p : Nat) : Int)] w fun e w' => e = .returned (.tuple #[.int .i64 (((tk l L (mostL l) 1 0 p).1 : Nat) : Int), .int .i64 (((tk l L (mostL l) 1 0 p).2.1 : Nat) : Int), .int .i64 (((tk l L (mostL l) 1 0 p).2.2 : Nat) : Int)]) ∧ Frm [] w w' := by
  have hl := hg.1
  generalize hT : tk l L (mostL l) 1 0 p = R
  have hm15 : mostL l ≤ 15 := by unfold mostL; split <;> omega
  refine VC.calls (nt := 69) (res := #[.tmp 6, .tmp 7, .tmp 8]) Try.func53 rfl Try.ntmps53 Try.results53 rfl ?_
  refine VC.seq ?_
  refine VC.region ?_
  refine Ops.r (v := .int .i64 ((0 : Nat) : Int)) (Run.asg rfl) rfl ?_
  refine Ops.r (v := .int .i64 ((0 : Nat) : Int)) (Run.asg rfl) rfl ?_
  refine Ops.r (v := .int .i64 ((0 : Nat) : Int)) (Run.asg rfl) rfl ?_
  refine Ops.nil ?_
  refine thenQ_n ?_
  refine VC.sub [(0, _), (1, _), (2, _)] (.cons rfl (.cons rfl (.cons rfl .nil))) ?_
  refine VC.seq ?_
  refine VC.region ?_
  refine Ops.r (Run.mv rfl) rfl ?_
  refine Ops.cl (Enters.fn (evs.cons rfl evs.nil) Try.call61) (refCodes_spec A c0 l _ hg hr) rfl ?_
  rintro e w1 ⟨Bc, cc, rfl, hcod, hf1, huc⟩
  refine ⟨_, rfl, ?_⟩
  refine Ops.r (Run.asg rfl) rfl ?_
  refine Ops.nil ?_
  refine thenQ_n ?_
  refine VC.sub [(0, _), (1, _), (2, _), (9, _)] (.cons rfl (.cons rfl (.cons rfl (.cons rfl .nil)))) ?_
  refine VC.seq ?_
  refine VC.region ?_
  refine Ops.r (v := .int .i64 ((15 : Nat) : Int)) (Run.asg rfl) rfl ?_
  refine Ops.nil ?_
  refine thenQ_n ?_
  refine VC.seq ?_
  refine VC.region ?_
  refine Ops.r (Run.mv rfl) rfl ?_
  refine Ops.cl (Enters.fn (evs.cons rfl evs.nil) Try.call55) (refOrder_spec A c0 l _ (by omega) (hr.belowW hf1.below)) rfl ?_
  rintro e w2 ⟨Bo, co, rfl, hord, hf2, huo⟩
  refine ⟨_, rfl, ?_⟩
  have hcod2 := hcod.frm hf2 (by simp)
  have hfr2 := hf1.own hf2 (by simp)
  refine Ops.r (Run.asg rfl) rfl ?_
  refine Ops.nil ?_
  refine thenQ_n ?_
  refine VC.sub [(1, _), (2, _), (9, _), (10, _), (11, _)] (.cons rfl (.cons rfl (.cons rfl (.cons rfl (.cons rfl .nil))))) ?_
  refine VC.seq ?_
  refine VC.seq ?_
  refine VC.region ?_
  refine Ops.r (Run.mv rfl) rfl ?_
  refine Ops.r (Run.lenS rfl Try.underlying37) rfl ?_
  refine Ops.r (Run.bin rfl rfl (Bin.lssN _ 2)) rfl ?_
  refine Ops.nil ?_
  refine thenQ_n ?_
  refine VC.sub [(1, _), (2, _), (9, _), (10, _), (11, _), (21, _)] (.cons rfl (.cons rfl (.cons rfl (.cons rfl (.cons rfl (.cons rfl .nil)))))) ?_
  refine VC.meet (σ := Unit) (fun s => [(1, .slice B L.length c1), (2, .int .i64 ((p : Nat) : Int)), (9, .slice Bc l.length cc), (10, .int .i64 ((mostL l : Nat) : Int))]) (fun s w9 => w2 = w9) ?_ ?_
  · skip
    refine VC.condD rfl (fun hc1 => ?_) (fun hc1 => ?_)
    · skip
      refine VC.region ?_
      refine Ops.r (Run.mv rfl) rfl ?_
      refine Ops.r (Run.lenS rfl Try.underlying37) rfl ?_
      refine Ops.r (Run.asg rfl) rfl ?_
      refine Ops.nil ?_
      refine thenQ_n ⟨(), (.cons rfl (.cons rfl (.cons rfl (.cons (by rw [show mostL l = (order l).length by unfold mostL; rw [if_pos hc1]]; rfl) .nil)))), ?_⟩
      rfl
    · skip
      refine VC.skip ?_
      refine thenQ_n ⟨(), (.cons rfl (.cons rfl (.cons rfl (.cons (by rw [show mostL l = 15 by unfold mostL; rw [if_neg hc1]]; rfl) .nil)))), ?_⟩
      rfl
  · skip
    rintro _ _ rfl Γ hΓ
    refine thenQ_n (VC.sub _ hΓ ?_)
    refine VC.seq ?_
    refine VC.region ?_
    refine Ops.r (v := .int .u64 ((0 : Nat) : Int)) (Run.asg rfl) rfl ?_
    refine Ops.nil ?_
    refine thenQ_n ?_
    refine VC.seq ?_
    refine VC.seq ?_
    refine VC.region ?_
    refine Ops.r (v := .int .i64 ((1 : Nat) : Int)) (Run.asg rfl) rfl ?_
    refine Ops.nil ?_
    refine thenQ_n ?_
    refine VC.block ?_
    refine VC.loop (σ := Nat × Nat × Nat × Nat) (fun s => [(1, .slice B L.length c1), (2, .int .i64 ((s.2.2.2 : Nat) : Int)), (9, .slice Bc l.length cc), (10, .int .i64 ((mostL l : Nat) : Int)), (12, .int .u64 ((s.2.2.1 : Nat) : Int)), (13, .int .i64 ((s.2.1 : Nat) : Int))]) (fun s wr => s.1 + s.2.1 = mostL l + 1 ∧ 1 ≤ s.2.1 ∧ s.2.2.1 < 2 ^ (s.2.1 - 1) ∧ s.2.2.2 ≤ L.length ∧ tk l L s.1 s.2.1 s.2.2.1 s.2.2.2 = R ∧ w2 = wr) (fun s => s.1) (mostL l, 1, 0, p) (.cons rfl (.cons rfl (.cons rfl (.cons rfl (.cons rfl (.cons rfl .nil)))))) ⟨rfl, Nat.le_refl 1, by simp, hp, hT, rfl⟩ ?_
    clear hT hp
    rintro ⟨m, n, v, q⟩ _ ⟨hmn, hn1, hv, hq, hT, rfl⟩
    dsimp only at hmn hn1 hv hq hT ⊢
    refine VC.seq ?_
    refine VC.seq ?_
    refine VC.region ?_
    refine Ops.r (Run.mv rfl) rfl ?_
    refine Ops.r (Run.mv rfl) rfl ?_
    refine Ops.r (Run.bin rfl rfl (Bin.leqN _ _)) rfl ?_
    refine Ops.nil ?_
    refine thenQ_n ?_
    refine VC.sub [(1, _), (2, _), (9, _), (10, _), (12, _), (13, _), (26, _)] (.cons rfl (.cons rfl (.cons rfl (.cons rfl (.cons rfl (.cons rfl (.cons rfl .nil))))))) ?_
    refine VC.condD rfl (fun hc2 => ?_) (fun hc2 => ?_)
    · skip
      obtain ⟨m, rfl⟩ : ∃ k, m = k + 1 := ⟨m - 1, by omega⟩
      have hpw : 2 ^ (n - 1) ≤ 2 ^ 14 := Nat.pow_le_pow_right (by omega) (by omega)
      have hpn : 2 ^ n = 2 ^ (n - 1) * 2 := by rw [← Nat.pow_succ]; congr 1; omega
      refine VC.skip ?_
      refine thenQ_n ?_
      refine VC.sub [(1, _), (2, _), (9, _), (10, _), (12, _), (13, _)] (.cons rfl (.cons rfl (.cons rfl (.cons rfl (.cons rfl (.cons rfl .nil)))))) ?_
      refine VC.seq ?_
      refine VC.block ?_
      refine VC.seq ?_
      refine VC.seq ?_
      refine VC.region ?_
      refine Ops.r (Run.mv rfl) rfl ?_
      refine Ops.r (Run.mv rfl) rfl ?_
      refine Ops.r (Run.lenS rfl Try.underlying53) rfl ?_
      refine Ops.r (Run.bin rfl rfl (Bin.geqN _ _)) rfl ?_
      refine Ops.nil ?_
      refine thenQ_n ?_
      refine VC.sub [(1, _), (2, _), (9, _), (10, _), (12, _), (13, _), (32, _)] (.cons rfl (.cons rfl (.cons rfl (.cons rfl (.cons rfl (.cons rfl (.cons rfl .nil))))))) ?_
      refine VC.condD rfl (fun hc3 => ?_) (fun hc3 => ?_)
      · skip
        have hnone : L[q]? = none := List.getElem?_eq_none (by omega)
        rw [tk, hnone] at hT
        dsimp only at hT
        subst hT
        refine VC.seq ?_
        refine VC.region ?_
        refine Ops.r (Run.mv rfl) rfl ?_
        refine Ops.r (v := .int .i64 ((0 : Nat) : Int)) (Run.asg rfl) rfl ?_
        refine Ops.r (Run.asg rfl) rfl ?_
        refine Ops.r (v := .int .i64 ((2 : Nat) : Int)) (Run.asg rfl) rfl ?_
        refine Ops.nil ?_
        refine thenQ_n ?_
        refine VC.sub [(6, _), (7, _), (8, _)] (.cons rfl (.cons rfl (.cons rfl .nil))) ?_
        refine VC.ret ?_
        refine thenQ_r (blockQ_r (thenQ_r (thenQ_r (blockQ_r (thenQ_r (end3 rfl rfl rfl ?_))))))
        exact ⟨rfl, hfr2⟩
      · skip
        have hql : q < L.length := by omega
        obtain ⟨ad, u, rfl, hu, hcell⟩ := hrb.belowW hfr2.below |>.at1 hql
        have hb := List.getElem?_eq_getElem hql
        rw [BL_get L q _ hb] at hu
        simp only [Option.some.injEq] at hu
        subst hu
        generalize hbb : L[q] = b at *
        have hb1 : b.toNat ≤ 1 := Bool.toNat_le _
        rw [tk, hb] at hT
        dsimp only at hT
        refine VC.skip ?_
        refine thenQ_n ?_
        refine VC.sub [(1, _), (2, _), (9, _), (10, _), (12, _), (13, _)] (.cons rfl (.cons rfl (.cons rfl (.cons rfl (.cons rfl (.cons rfl .nil)))))) ?_
        refine VC.seq ?_
        refine VC.region ?_
        refine Ops.r (Run.mv rfl) rfl ?_
        refine Ops.r (Run.bin rfl rfl (Bin.mul_u64 _ 2 (by omega))) rfl ?_
        refine Ops.r (Run.asg rfl) rfl ?_
        refine Ops.nil ?_
        refine thenQ_n ?_
        refine VC.sub [(1, _), (2, _), (9, _), (10, _), (12, _), (13, _)] (.cons rfl (.cons rfl (.cons rfl (.cons rfl (.cons rfl (.cons rfl .nil)))))) ?_
        refine VC.seq ?_
        refine VC.seq ?_
        refine VC.region ?_
        refine Ops.r (Run.mv rfl) rfl ?_
        refine Ops.r (Run.mv rfl) rfl ?_
        refine Ops.r (Run.index1 _ rfl rfl Try.underlying53 Try.sizeOf4 (by omega)) rfl ?_
        refine Ops.r (Run.load rfl Try.isAgg4 hcell) rfl ?_
        refine Ops.nil ?_
        refine thenQ_n ?_
        refine VC.sub [(1, _), (2, _), (9, _), (10, _), (12, _), (13, _), (39, _)] (.cons rfl (.cons rfl (.cons rfl (.cons rfl (.cons rfl (.cons rfl (.cons rfl .nil))))))) ?_
        refine VC.meet (σ := Unit) (fun s => [(1, .slice (some ad) L.length c1), (2, .int .i64 ((q : Nat) : Int)), (9, .slice Bc l.length cc), (10, .int .i64 ((mostL l : Nat) : Int)), (12, .int .u64 ((2 * v + b.toNat : Nat) : Int)), (13, .int .i64 ((n : Nat) : Int))]) (fun s w9 => w2 = w9) ?_ ?_
        · skip
          refine VC.condB rfl (fun hc4 => ?_) (fun hc4 => ?_)
          · skip
            refine VC.region ?_
            refine Ops.r (Run.mv rfl) rfl ?_
            refine Ops.r (Run.bin rfl rfl (Bin.add_u64 _ 1 (by omega))) rfl ?_
            refine Ops.r (Run.asg rfl) rfl ?_
            refine Ops.nil ?_
            refine thenQ_n ⟨(), (.cons rfl (.cons rfl (.cons rfl (.cons rfl (.cons (congrArg (fun z : Nat => some (Value.int .u64 (z : Int))) (by simp [hc4]; omega)) (.cons rfl .nil)))))), ?_⟩
            rfl
          · skip
            refine VC.skip ?_
            refine thenQ_n ⟨(), (.cons rfl (.cons rfl (.cons rfl (.cons rfl (.cons (congrArg (fun z : Nat => some (Value.int .u64 (z : Int))) (by simp [hc4]; omega)) (.cons rfl .nil)))))), ?_⟩
            rfl
        · skip
          rintro _ _ rfl Γ hΓ
          generalize hvv : 2 * v + b.toNat = v2 at *
          refine thenQ_n (VC.sub _ hΓ ?_)
          refine VC.seq ?_
          refine VC.region ?_
          refine Ops.r (Run.mv rfl) rfl ?_
          refine Ops.r (Run.bin rfl rfl (Bin.add_i64 _ 1 (by omega))) rfl ?_
          refine Ops.r (Run.asg rfl) rfl ?_
          refine Ops.nil ?_
          refine thenQ_n ?_
          refine VC.sub [(1, _), (2, _), (9, _), (10, _), (12, _), (13, _)] (.cons rfl (.cons rfl (.cons rfl (.cons rfl (.cons rfl (.cons rfl .nil)))))) ?_
          refine VC.seq ?_
          refine VC.region ?_
          refine Ops.r (v := .int .i64 ((0 : Nat) : Int)) (Run.asg rfl) rfl ?_
          refine Ops.nil ?_
          refine thenQ_n ?_
          refine VC.block ?_
          refine VC.loop (σ := Nat) (fun s => [(1, .slice (some ad) L.length c1), (2, .int .i64 ((q + 1 : Nat) : Int)), (9, .slice Bc l.length cc), (10, .int .i64 ((mostL l : Nat) : Int)), (12, .int .u64 ((v2 : Nat) : Int)), (13, .int .i64 ((n : Nat) : Int)), (14, .int .i64 ((s : Nat) : Int))]) (fun s wr => s ≤ l.length ∧ (∀ j, j < s → codeC l j ≠ (v2, (n : Int))) ∧ w2 = wr) (fun s => l.length - s) 0 (.cons rfl (.cons rfl (.cons rfl (.cons rfl (.cons rfl (.cons rfl (.cons rfl .nil))))))) ⟨by omega, fun j hj => absurd hj (by omega), rfl⟩ ?_
          rintro i _ ⟨hi, hnot, rfl⟩
          refine VC.seq ?_
          refine VC.seq ?_
          refine VC.region ?_
          refine Ops.r (Run.mv rfl) rfl ?_
          refine Ops.r (Run.mv rfl) rfl ?_
          refine Ops.r (Run.lenS rfl Try.underlying101) rfl ?_
          refine Ops.r (Run.bin rfl rfl (Bin.lssN _ _)) rfl ?_
          refine Ops.nil ?_
          refine thenQ_n ?_
          refine VC.sub [(1, _), (2, _), (9, _), (10, _), (12, _), (13, _), (14, _), (47, _)] (.cons rfl (.cons rfl (.cons rfl (.cons rfl (.cons rfl (.cons rfl (.cons rfl (.cons rfl .nil)))))))) ?_
          refine VC.condD rfl (fun hc5 => ?_) (fun hc5 => ?_)
          · skip
            obtain ⟨ad3, rfl, hel⟩ := hcod2.rd.elem hc5
            have hcl : (codesL l).length = l.length := by simp [codesL]
            rw [flat_get CB 2 CB_len (codesL l) i (by omega)] at hel
            have hci : (codesL l)[i]'(by omega) = codeC l i := by have := codesL_get l i hc5; rw [List.getElem?_eq_getElem (by omega)] at this; simpa using this
            rw [hci] at hel
            generalize hcc : codeC l i = cd at *
            obtain ⟨cv, cl⟩ := cd
            refine VC.skip ?_
            refine thenQ_n ?_
            refine VC.sub [(1, _), (2, _), (9, _), (10, _), (12, _), (13, _), (14, _)] (.cons rfl (.cons rfl (.cons rfl (.cons rfl (.cons rfl (.cons rfl (.cons rfl .nil))))))) ?_
            refine VC.seq ?_
            refine VC.block ?_
            refine VC.seq ?_
            refine VC.split1 [(1, _), (2, _), (9, _), (10, _), (12, _), (13, _), (14, _)] (.cons rfl (.cons rfl (.cons rfl (.cons rfl (.cons rfl (.cons rfl (.cons rfl .nil))))))) 65 (.bool (decide (cl = (n : Int) ∧ cv = v2))) ?_ ?_
            · by_cases hs0 : cl = (n : Int)
              · skip
                refine VC.region ?_
                refine Ops.r (Run.mv rfl) rfl ?_
                refine Ops.r (Run.mv rfl) rfl ?_
                refine Ops.r (Run.indexS _ rfl rfl Try.underlying101 Try.sizeOf104 (by omega)) rfl ?_
                refine Ops.r (Run.fieldAddr rfl Try.underlying104 rfl Try.sizeOf3 (by decide)) rfl ?_
                refine Ops.r (Run.load rfl Try.isAgg3 (hel 1 _ rfl)) rfl ?_
                refine Ops.r (Run.mv rfl) rfl ?_
                refine Ops.r (Run.bin rfl rfl (Bin.eql _ _)) rfl ?_
                refine Ops.r (Run.mv rfl) rfl ?_
                refine Ops.rg rfl (by first | rfl | assumption | decide | (simp; done) | (simp; omega) | (simp [*]; done)) (Run.mv rfl) rfl ?_
                refine Ops.rg rfl (by first | rfl | assumption | decide | (simp; done) | (simp; omega) | (simp [*]; done)) (Run.mv rfl) rfl ?_
                refine Ops.rg rfl (by first | rfl | assumption | decide | (simp; done) | (simp; omega) | (simp [*]; done)) (Run.indexS _ rfl rfl Try.underlying101 Try.sizeOf104 (by omega)) rfl ?_
                refine Ops.rg rfl (by first | rfl | assumption | decide | (simp; done) | (simp; omega) | (simp [*]; done)) (Run.fieldAddr rfl Try.underlying104 rfl Try.sizeOf74 (by decide)) rfl ?_
                refine Ops.rg rfl (by first | rfl | assumption | decide | (simp; done) | (simp; omega) | (simp [*]; done)) (Run.load rfl Try.isAgg74 (hel 0 _ rfl)) rfl ?_
                refine Ops.rg rfl (by first | rfl | assumption | decide | (simp; done) | (simp; omega) | (simp [*]; done)) (Run.mv rfl) rfl ?_
                refine Ops.rg rfl (by first | rfl | assumption | decide | (simp; done) | (simp; omega) | (simp [*]; done)) (Run.bin rfl rfl (Bin.eqlN _ _)) rfl ?_
                refine Ops.r (Run.pickT rfl rfl (by first | rfl | assumption | decide | (simp; done) | (simp; omega) | (simp [*]; done))) rfl ?_
                refine Ops.nil ?_
                refine thenQ_n ⟨(.cons (by rw [dand1 hs0]; rfl) (.cons rfl (.cons rfl (.cons rfl (.cons rfl (.cons rfl (.cons rfl (.cons rfl .nil)))))))), rfl⟩
              · skip
                refine VC.region ?_
                refine Ops.r (Run.mv rfl) rfl ?_
                refine Ops.r (Run.mv rfl) rfl ?_
                refine Ops.r (Run.indexS _ rfl rfl Try.underlying101 Try.sizeOf104 (by omega)) rfl ?_
                refine Ops.r (Run.fieldAddr rfl Try.underlying104 rfl Try.sizeOf3 (by decide)) rfl ?_
                refine Ops.r (Run.load rfl Try.isAgg3 (hel 1 _ rfl)) rfl ?_
                refine Ops.r (Run.mv rfl) rfl ?_
                refine Ops.r (Run.bin rfl rfl (Bin.eql _ _)) rfl ?_
                refine Ops.r (Run.mv rfl) rfl ?_
                refine Ops.sk rfl (by first | rfl | assumption | decide | (simp; done) | (simp; omega) | (simp [*]; done)) rfl ?_
                refine Ops.sk rfl (by first | rfl | assumption | decide | (simp; done) | (simp; omega) | (simp [*]; done)) rfl ?_
                refine Ops.sk rfl (by first | rfl | assumption | decide | (simp; done) | (simp; omega) | (simp [*]; done)) rfl ?_
                refine Ops.sk rfl (by first | rfl | assumption | decide | (simp; done) | (simp; omega) | (simp [*]; done)) rfl ?_
                refine Ops.sk rfl (by first | rfl | assumption | decide | (simp; done) | (simp; omega) | (simp [*]; done)) rfl ?_
                refine Ops.sk rfl (by first | rfl | assumption | decide | (simp; done) | (simp; omega) | (simp [*]; done)) rfl ?_
                refine Ops.sk rfl (by first | rfl | assumption | decide | (simp; done) | (simp; omega) | (simp [*]; done)) rfl ?_
                refine Ops.r (Run.pickF rfl rfl (by first | rfl | assumption | decide | (simp; done) | (simp; omega) | (simp [*]; done))) rfl ?_
                refine Ops.nil ?_
                refine thenQ_n ⟨(.cons (by rw [dand0 hs0]; rfl) (.cons rfl (.cons rfl (.cons rfl (.cons rfl (.cons rfl (.cons rfl (.cons rfl .nil)))))))), rfl⟩
            · intro Γ hΓ
              refine thenQ_n (VC.sub _ hΓ ?_)
              refine VC.condD rfl (fun hc6 => ?_) (fun hc6 => ?_)
              · skip
                have hsome : hit l n v2 = some i := (hit_iff l n v2 i hn1 (by omega)).2 ⟨hc5, by rw [hcc, hc6.1, hc6.2]⟩
                rw [hsome] at hT
                dsimp only at hT
                subst hT
                refine VC.seq ?_
                refine VC.region ?_
                refine Ops.r (Run.mv rfl) rfl ?_
                refine Ops.r (Run.mv rfl) rfl ?_
                refine Ops.r (Run.asg rfl) rfl ?_
                refine Ops.r (Run.asg rfl) rfl ?_
                refine Ops.r (v := .int .i64 ((0 : Nat) : Int)) (Run.asg rfl) rfl ?_
                refine Ops.nil ?_
                refine thenQ_n ?_
                refine VC.sub [(6, _), (7, _), (8, _)] (.cons rfl (.cons rfl (.cons rfl .nil))) ?_
                refine VC.ret ?_
                refine blockQ_r (thenQ_r (thenQ_r (blockQ_r (blockQ_r (thenQ_r (thenQ_r (blockQ_r (thenQ_r (end3 rfl rfl rfl ?_)))))))))
                exact ⟨rfl, hfr2⟩
              · skip
                refine VC.skip ?_
                refine blockQ_n (thenQ_n ?_)
                refine VC.sub [(1, _), (2, _), (9, _), (10, _), (12, _), (13, _), (14, _)] (.cons rfl (.cons rfl (.cons rfl (.cons rfl (.cons rfl (.cons rfl (.cons rfl .nil))))))) ?_
                refine VC.region ?_
                refine Ops.r (Run.mv rfl) rfl ?_
                refine Ops.r (Run.bin rfl rfl (Bin.add_i64 _ 1 (by omega))) rfl ?_
                refine Ops.r (Run.asg rfl) rfl ?_
                refine Ops.nil ?_
                refine thenQ_n ⟨(i + 1), (.cons rfl (.cons rfl (.cons rfl (.cons rfl (.cons rfl (.cons rfl (.cons rfl .nil))))))), ?_, ?_⟩
                · skip
                  refine ⟨hc5, ?_, rfl⟩
                  intro j hj
                  by_cases hji : j = i
                  · subst hji
                    rw [hcc]
                    intro h
                    simp only [Prod.mk.injEq] at h
                    exact hc6 ⟨h.2, h.1⟩
                  · exact hnot j (by omega)
                · skip
                  first | omega | (dsimp only; omega)
          · skip
            have hnone : hit l n v2 = none := by
              rcases hh : hit l n v2 with _ | i'
              · rfl
              · obtain ⟨h1, h2⟩ := (hit_iff l n v2 i' hn1 (by omega)).1 hh
                exact absurd h2 (hnot i' (by omega))
            rw [hnone] at hT
            dsimp only at hT
            refine VC.exit ?_
            refine thenQ_x (thenQ_x (blockQ_x ?_))
            refine blockQ_n (thenQ_n ?_)
            refine VC.sub [(1, _), (2, _), (9, _), (10, _), (12, _), (13, _)] (.cons rfl (.cons rfl (.cons rfl (.cons rfl (.cons rfl (.cons rfl .nil)))))) ?_
            refine VC.region ?_
            refine Ops.r (Run.mv rfl) rfl ?_
            refine Ops.r (Run.bin rfl rfl (Bin.add_i64 _ 1 (by omega))) rfl ?_
            refine Ops.r (Run.asg rfl) rfl ?_
            refine Ops.nil ?_
            refine thenQ_n ⟨(m, n + 1, v2, q + 1), (.cons rfl (.cons rfl (.cons rfl (.cons rfl (.cons rfl (.cons rfl .nil)))))), ?_, ?_⟩
            · skip
              exact ⟨by dsimp only; omega, by dsimp only; omega, by dsimp only; rw [Nat.add_sub_cancel]; omega, by dsimp only; omega, hT, rfl⟩
            · skip
              first | omega | (dsimp only; omega)
    · skip
      have hm0 : m = 0 := by omega
      subst hm0
      rw [tk] at hT
      subst hT
      refine VC.exit ?_
      refine thenQ_x (thenQ_x (blockQ_x ?_))
      refine thenQ_n ?_
      refine VC.sub [(2, _)] (.cons rfl .nil) ?_
      refine VC.seq ?_
      refine VC.region ?_
      refine Ops.r (Run.mv rfl) rfl ?_
      refine Ops.r (v := .int .i64 ((0 : Nat) : Int)) (Run.asg rfl) rfl ?_
      refine Ops.r (Run.asg rfl) rfl ?_
      refine Ops.r (v := .int .i64 ((11 : Nat) : Int)) (Run.asg rfl) rfl ?_
      refine Ops.nil ?_
      refine thenQ_n ?_
      refine VC.sub [(6, _), (7, _), (8, _)] (.cons rfl (.cons rfl (.cons rfl .nil))) ?_
      refine VC.ret ?_
      refine end3 rfl rfl rfl ?_
      exact ⟨rfl, hfr2⟩

end Go.Proofs.Ytfjhmbgckmhdaaa
