/-
  The walks of the answers of layer 25, and of what the laws of layer 25 say it with.
-/
import Derived.Test.YtnllhddbgkeboaaDoorSeqK
namespace Go.Proofs.YtnllhddbgkeboaaDoor
open Go.RowKit Go.Sort

set_option maxRecDepth 100000 in
theorem rends_spec (x : Sp) (gr : Int) (w : World) : Calls Tryd.prog 69 #[.agg (SC1 x).toArray, .int .i64 gr] w fun e w' => e = .returned (.tuple #[.int .i64 (endsQ x gr).1, .int .i64 (endsQ x gr).2]) ∧ Frm [] w w' := by
  refine VC.calls (nt := 25) (res := #[.tmp 4, .tmp 5]) Tryd.func69 rfl Tryd.ntmps69 Tryd.results69 rfl ?_
  refine VC.seq ?_
  refine VC.region ?_
  refine Ops.m (Does.box rfl) rfl ?_
  rintro _ w1 ⟨rfl, hF2⟩
  have hb2 : Blk w1 w.heap.size 46 (SC1 x).toArray := hF2.blk
  have hf2 := hF2.frm
  generalize hg2 : w.heap.size = g2 at hb2 ⊢
  obtain ⟨xa, xb⟩ := x
  refine Ops.r (v := .int .i64 ((0 : Nat) : Int)) (Run.asg rfl) rfl ?_
  refine Ops.r (v := .int .i64 ((0 : Nat) : Int)) (Run.asg rfl) rfl ?_
  refine Ops.nil ?_
  refine thenQ_n ?_
  refine VC.sub [(1, _), (2, _)] (.cons rfl (.cons rfl .nil)) ?_
  refine VC.seq ?_
  refine VC.held (fun W => Frm [] w1 W) (by kernel_rfl) ?_
  have hS : Frm [] w1 w1.drew := (Frm.refl _ _).drew
  refine HOps.take 0 rfl (by kernel_rfl) (by kernel_rfl) (by kernel_rfl) hS (fun w0 hw0 => Run.fieldAddr rfl Tryd.underlying46 rfl Tryd.sizeOf3 (by decide)) trivial rfl rfl ?_
  refine HOps.take 1 rfl (by kernel_rfl) (by kernel_rfl) (by kernel_rfl) hS (fun w0 hw0 => Run.load rfl Tryd.isAgg3 ((hb2.frm hw0 (by simp)).cell 0)) trivial rfl rfl ?_
  refine HOps.take 2 rfl (by kernel_rfl) (by kernel_rfl) (by kernel_rfl) hS (fun w0 hw0 => Run.fieldAddr rfl Tryd.underlying46 rfl Tryd.sizeOf3 (by decide)) trivial rfl rfl ?_
  refine HOps.take 3 rfl (by kernel_rfl) (by kernel_rfl) (by kernel_rfl) hS (fun w0 hw0 => Run.load rfl Tryd.isAgg3 ((hb2.frm hw0 (by simp)).cell 1)) trivial rfl rfl ?_
  refine HOps.take 4 rfl (by kernel_rfl) (by kernel_rfl) (by kernel_rfl) hS (fun w0 hw0 => Run.asg rfl) trivial rfl rfl ?_
  refine HOps.take 5 rfl (by kernel_rfl) (by kernel_rfl) (by kernel_rfl) hS (fun w0 hw0 => Run.asg rfl) trivial rfl rfl ?_
  refine HOps.done (by kernel_rfl) ?_
  refine thenQ_n ?_
  refine VC.sub [(1, _), (6, _), (7, _)] (.cons rfl (.cons rfl (.cons rfl .nil))) ?_
  refine VC.seq ?_
  refine VC.seq ?_
  refine VC.region ?_
  refine Ops.r (Run.mv rfl) rfl ?_
  refine Ops.r (Run.bin rfl rfl (Bin.eql _ 0)) rfl ?_
  refine Ops.nil ?_
  refine thenQ_n ?_
  refine VC.sub [(1, _), (6, _), (7, _), (13, _)] (.cons rfl (.cons rfl (.cons rfl (.cons rfl .nil)))) ?_
  refine VC.meet (σ := Unit) (fun s => [(1, .int .i64 gr), (6, .int .i64 (if xa = 0 then gr else xa)), (7, .int .i64 xb)]) (fun s wr => Frm [] w wr) ?_ ?_
  · skip
    refine VC.condD rfl (fun hc1 => ?_) (fun hc1 => ?_)
    · skip
      refine VC.region ?_
      refine Ops.r (Run.mv rfl) rfl ?_
      refine Ops.r (Run.asg rfl) rfl ?_
      refine Ops.nil ?_
      refine thenQ_n ⟨(), (.cons rfl (.cons (by rw [if_pos hc1]; rfl) (.cons rfl .nil))), ?_⟩
      exact hf2.trans hS (by simp)
    · skip
      refine VC.skip ?_
      refine thenQ_n ⟨(), (.cons rfl (.cons (by rw [if_neg hc1]; rfl) (.cons rfl .nil))), ?_⟩
      exact hf2.trans hS (by simp)
  · skip
    rintro _ w2 hf2 Γ hΓ
    refine thenQ_n (VC.sub _ hΓ ?_)
    refine VC.seq ?_
    refine VC.seq ?_
    refine VC.region ?_
    refine Ops.r (Run.mv rfl) rfl ?_
    refine Ops.r (Run.bin rfl rfl (Bin.eql _ 0)) rfl ?_
    refine Ops.nil ?_
    refine thenQ_n ?_
    refine VC.sub [(1, _), (6, _), (7, _), (16, _)] (.cons rfl (.cons rfl (.cons rfl (.cons rfl .nil)))) ?_
    refine VC.meet (σ := Unit) (fun s => [(6, .int .i64 (if xa = 0 then gr else xa)), (7, .int .i64 (if xb = 0 then gr else xb))]) (fun s wr => Frm [] w wr) ?_ ?_
    · skip
      refine VC.condD rfl (fun hc2 => ?_) (fun hc2 => ?_)
      · skip
        refine VC.region ?_
        refine Ops.r (Run.mv rfl) rfl ?_
        refine Ops.r (Run.asg rfl) rfl ?_
        refine Ops.nil ?_
        refine thenQ_n ⟨(), (.cons rfl (.cons (by rw [if_pos hc2]; rfl) .nil)), ?_⟩
        exact hf2
      · skip
        refine VC.skip ?_
        refine thenQ_n ⟨(), (.cons rfl (.cons (by rw [if_neg hc2]; rfl) .nil)), ?_⟩
        exact hf2
    · skip
      rintro _ w3 hf3 Γ hΓ
      have he : endsQ (xa, xb) gr = (if (if xb = 0 then gr else xb) < (if xa = 0 then gr else xa) then (if xb = 0 then gr else xb) else (if xa = 0 then gr else xa), if (if xa = 0 then gr else xa) < (if xb = 0 then gr else xb) then (if xb = 0 then gr else xb) else (if xa = 0 then gr else xa)) := rfl
      generalize (if xa = 0 then gr else xa) = a at *
      generalize (if xb = 0 then gr else xb) = b at *
      refine thenQ_n (VC.sub _ hΓ ?_)
      refine VC.seq ?_
      refine VC.seq ?_
      refine VC.region ?_
      refine Ops.r (Run.mv rfl) rfl ?_
      refine Ops.r (Run.mv rfl) rfl ?_
      refine Ops.r (Run.bin rfl rfl (Bin.gtr _ _)) rfl ?_
      refine Ops.nil ?_
      refine thenQ_n ?_
      refine VC.sub [(6, _), (7, _), (20, _)] (.cons rfl (.cons rfl (.cons rfl .nil))) ?_
      refine VC.condD rfl (fun hc3 => ?_) (fun hc3 => ?_)
      · skip
        refine VC.seq ?_
        refine VC.region ?_
        refine Ops.r (Run.mv rfl) rfl ?_
        refine Ops.r (Run.mv rfl) rfl ?_
        refine Ops.r (Run.asg rfl) rfl ?_
        refine Ops.r (Run.asg rfl) rfl ?_
        refine Ops.nil ?_
        refine thenQ_n ?_
        refine VC.sub [(4, _), (5, _)] (.cons rfl (.cons rfl .nil)) ?_
        refine VC.ret ?_
        refine thenQ_r (end2 rfl rfl ?_)
        refine ⟨?_, hf3⟩
        rw [he, if_pos hc3, if_neg (by omega)]
      · skip
        refine VC.skip ?_
        refine thenQ_n ?_
        refine VC.sub [(6, _), (7, _)] (.cons rfl (.cons rfl .nil)) ?_
        refine VC.seq ?_
        refine VC.region ?_
        refine Ops.r (Run.mv rfl) rfl ?_
        refine Ops.r (Run.mv rfl) rfl ?_
        refine Ops.r (Run.asg rfl) rfl ?_
        refine Ops.r (Run.asg rfl) rfl ?_
        refine Ops.nil ?_
        refine thenQ_n ?_
        refine VC.sub [(4, _), (5, _)] (.cons rfl (.cons rfl .nil)) ?_
        refine VC.ret ?_
        refine end2 rfl rfl ?_
        refine ⟨?_, hf3⟩
        rw [he, if_neg hc3]
        by_cases h : a < b
        · rw [if_pos h]
        · rw [if_neg h, show a = b by omega]

set_option maxRecDepth 100000 in
theorem rhas_spec (A : Option Addr) (c : Nat) (l : List Sp) (n gr : Int) (w : World) (hl : Rd w 2 A l.length (SC l)) (hn : l.length ≤ 1000000) :
    Calls Tryd.prog 47 #[.slice A l.length c, .int .i64 n, .int .i64 gr] w fun e w' => e = .returned (.bool (decide (hasQ l n gr))) ∧ Frm [] w w' := by
  refine VC.calls (nt := 41) (res := #[.tmp 6]) Tryd.func47 rfl Tryd.ntmps47 Tryd.results47 rfl ?_
  refine VC.seq ?_
  refine VC.region ?_
  refine Ops.r (Run.asg rfl) rfl ?_
  refine Ops.nil ?_
  refine thenQ_n ?_
  refine VC.sub [(0, _), (1, _), (2, _)] (.cons rfl (.cons rfl (.cons rfl .nil))) ?_
  refine VC.seq ?_
  refine VC.seq ?_
  refine VC.region ?_
  refine Ops.r (v := .int .i64 ((0 : Nat) : Int)) (Run.asg rfl) rfl ?_
  refine Ops.nil ?_
  refine thenQ_n ?_
  refine VC.block ?_
  refine VC.loop (σ := Nat) (fun s => [(0, .slice A l.length c), (1, .int .i64 n), (2, .int .i64 gr), (7, .int .i64 ((s : Nat) : Int))]) (fun s wr => s ≤ l.length ∧ Frm [] w wr ∧ ∀ x ∈ l.take s, ¬ (InQ x gr n ∧ 1 ≤ n ∧ 1 ≤ gr)) (fun s => l.length - s) 0 (.cons rfl (.cons rfl (.cons rfl (.cons rfl .nil)))) ⟨by omega, Frm.refl _ _, by simp⟩ ?_
  rintro i wr ⟨hi, hfr, hno⟩
  refine VC.seq ?_
  refine VC.seq ?_
  refine VC.region ?_
  refine Ops.r (Run.mv rfl) rfl ?_
  refine Ops.r (Run.mv rfl) rfl ?_
  refine Ops.r (Run.lenS rfl Tryd.underlying37) rfl ?_
  refine Ops.r (Run.bin rfl rfl (Bin.lssN _ _)) rfl ?_
  refine Ops.nil ?_
  refine thenQ_n ?_
  refine VC.sub [(0, _), (1, _), (2, _), (7, _), (13, _)] (.cons rfl (.cons rfl (.cons rfl (.cons rfl (.cons rfl .nil))))) ?_
  refine VC.condD rfl (fun hc1 => ?_) (fun hc1 => ?_)
  · skip
    obtain ⟨ad, rfl, hcell⟩ := SC_at (hl.frm hfr (by simp)) hc1
    have hts := take_snoc hc1
    have hxm := List.getElem_mem hc1
    generalize hx : l[i] = x at *
    refine VC.skip ?_
    refine thenQ_n ?_
    refine VC.sub [(0, _), (1, _), (2, _), (7, _)] (.cons rfl (.cons rfl (.cons rfl (.cons rfl .nil)))) ?_
    refine VC.seq ?_
    refine VC.block ?_
    refine VC.seq ?_
    refine VC.region ?_
    refine Ops.r (Run.mv rfl) rfl ?_
    refine Ops.r (Run.mv rfl) rfl ?_
    refine Ops.r (Run.indexS i rfl rfl Tryd.underlying37 Tryd.sizeOf46 hc1) rfl ?_
    refine Ops.r (Run.loadA rfl Tryd.isAgg46 Tryd.sizeOf46 hcell (by first | rfl | (simp; done))) rfl ?_
    refine Ops.r (Run.mv rfl) rfl ?_
    refine Ops.cl (Enters.fn (evs.cons rfl (evs.cons rfl evs.nil)) Tryd.call69) (rends_spec x gr _) rfl ?_
    rintro e w1 ⟨rfl, hf1⟩
    have hfr1 := hfr.trans hf1 (by simp)
    have hin : InQ x gr n ↔ ((endsQ x gr).1 ≤ n ∧ n ≤ (endsQ x gr).2) := Iff.rfl
    generalize he1 : (endsQ x gr).1 = a at *
    generalize he2 : (endsQ x gr).2 = b at *
    refine ⟨_, rfl, ?_⟩
    refine Ops.r (Run.mv rfl) rfl ?_
    refine Ops.r (Run.extract rfl rfl) rfl ?_
    refine Ops.r (Run.extract rfl rfl) rfl ?_
    refine Ops.r (Run.asg rfl) rfl ?_
    refine Ops.r (Run.asg rfl) rfl ?_
    refine Ops.nil ?_
    refine thenQ_n ?_
    refine VC.sub [(0, _), (1, _), (2, _), (7, _), (8, _), (9, _)] (.cons rfl (.cons rfl (.cons rfl (.cons rfl (.cons rfl (.cons rfl .nil)))))) ?_
    refine VC.seq ?_
    refine VC.split1 [(0, _), (1, _), (2, _), (7, _)] (.cons rfl (.cons rfl (.cons rfl (.cons rfl .nil)))) 40 (.bool (decide (InQ x gr n ∧ 1 ≤ n ∧ 1 ≤ gr))) ?_ ?_
    · refine VC.region ?_
      refine Ops.r (Run.mv rfl) rfl ?_
      refine Ops.r (Run.mv rfl) rfl ?_
      refine Ops.r (Run.bin rfl rfl (Bin.leq _ _)) rfl ?_
      by_cases hs27 : a ≤ n
      · skip
        refine Ops.r (Run.mv rfl) rfl ?_
        refine Ops.rg rfl (by first | rfl | assumption | exact decide_eq_true (by assumption) | exact decide_eq_false (by assumption) | decide | (simp; done) | (simp; omega) | (simp [*]; done)) (Run.mv rfl) rfl ?_
        refine Ops.rg rfl (by first | rfl | assumption | exact decide_eq_true (by assumption) | exact decide_eq_false (by assumption) | decide | (simp; done) | (simp; omega) | (simp [*]; done)) (Run.mv rfl) rfl ?_
        refine Ops.rg rfl (by first | rfl | assumption | exact decide_eq_true (by assumption) | exact decide_eq_false (by assumption) | decide | (simp; done) | (simp; omega) | (simp [*]; done)) (Run.bin rfl rfl (Bin.leq _ _)) rfl ?_
        by_cases hs31 : n ≤ b
        · skip
          refine Ops.r (Run.pickT rfl rfl (by first | rfl | assumption | exact decide_eq_true (by assumption) | exact decide_eq_false (by assumption) | decide | (simp; done) | (simp; omega) | (simp [*]; done))) rfl ?_
          refine Ops.r (Run.mv rfl) rfl ?_
          refine Ops.rg rfl (by first | rfl | assumption | exact decide_eq_true (by assumption) | exact decide_eq_false (by assumption) | decide | (simp; done) | (simp; omega) | (simp [*]; done)) (Run.mv rfl) rfl ?_
          refine Ops.rg rfl (by first | rfl | assumption | exact decide_eq_true (by assumption) | exact decide_eq_false (by assumption) | decide | (simp; done) | (simp; omega) | (simp [*]; done)) (Run.bin rfl rfl (Bin.geq _ 1)) rfl ?_
          by_cases hs35 : n ≥ 1
          · skip
            refine Ops.r (Run.pickT rfl rfl (by first | rfl | assumption | exact decide_eq_true (by assumption) | exact decide_eq_false (by assumption) | decide | (simp; done) | (simp; omega) | (simp [*]; done))) rfl ?_
            refine Ops.r (Run.mv rfl) rfl ?_
            refine Ops.rg rfl (by first | rfl | assumption | exact decide_eq_true (by assumption) | exact decide_eq_false (by assumption) | decide | (simp; done) | (simp; omega) | (simp [*]; done)) (Run.mv rfl) rfl ?_
            refine Ops.rg rfl (by first | rfl | assumption | exact decide_eq_true (by assumption) | exact decide_eq_false (by assumption) | decide | (simp; done) | (simp; omega) | (simp [*]; done)) (Run.bin rfl rfl (Bin.geq _ 1)) rfl ?_
            by_cases hs39 : gr ≥ 1
            · skip
              refine Ops.r (Run.pickT rfl rfl (by first | rfl | assumption | exact decide_eq_true (by assumption) | exact decide_eq_false (by assumption) | decide | (simp; done) | (simp; omega) | (simp [*]; done))) rfl ?_
              refine Ops.nil ?_
              refine thenQ_n ⟨(.cons (congrArg (fun b => some (Value.bool b)) (Eq.symm (by first | exact decide_eq_false (fun h => absurd (hin.1 h.1).1 ‹_›) | exact decide_eq_false (fun h => absurd (hin.1 h.1).2 ‹_›) | exact decide_eq_false (fun h => absurd h.2.1 ‹_›) | exact decide_eq_decide.2 ⟨fun h => h.2.2, fun h => ⟨hin.2 ⟨‹_›, ‹_›⟩, ‹_›, h⟩⟩))) (.cons rfl (.cons rfl (.cons rfl (.cons rfl .nil))))), rfl⟩
            · skip
              refine Ops.r (Run.pickT rfl rfl (by first | rfl | assumption | exact decide_eq_true (by assumption) | exact decide_eq_false (by assumption) | decide | (simp; done) | (simp; omega) | (simp [*]; done))) rfl ?_
              refine Ops.nil ?_
              refine thenQ_n ⟨(.cons (congrArg (fun b => some (Value.bool b)) (Eq.symm (by first | exact decide_eq_false (fun h => absurd (hin.1 h.1).1 ‹_›) | exact decide_eq_false (fun h => absurd (hin.1 h.1).2 ‹_›) | exact decide_eq_false (fun h => absurd h.2.1 ‹_›) | exact decide_eq_decide.2 ⟨fun h => h.2.2, fun h => ⟨hin.2 ⟨‹_›, ‹_›⟩, ‹_›, h⟩⟩))) (.cons rfl (.cons rfl (.cons rfl (.cons rfl .nil))))), rfl⟩
          · skip
            refine Ops.r (Run.pickT rfl rfl (by first | rfl | assumption | exact decide_eq_true (by assumption) | exact decide_eq_false (by assumption) | decide | (simp; done) | (simp; omega) | (simp [*]; done))) rfl ?_
            refine Ops.r (Run.mv rfl) rfl ?_
            refine Ops.sk rfl (by first | rfl | assumption | exact decide_eq_true (by assumption) | exact decide_eq_false (by assumption) | decide | (simp; done) | (simp; omega) | (simp [*]; done)) rfl ?_
            refine Ops.sk rfl (by first | rfl | assumption | exact decide_eq_true (by assumption) | exact decide_eq_false (by assumption) | decide | (simp; done) | (simp; omega) | (simp [*]; done)) rfl ?_
            refine Ops.r (Run.pickF rfl rfl (by first | rfl | assumption | exact decide_eq_true (by assumption) | exact decide_eq_false (by assumption) | decide | (simp; done) | (simp; omega) | (simp [*]; done))) rfl ?_
            refine Ops.nil ?_
            refine thenQ_n ⟨(.cons (congrArg (fun b => some (Value.bool b)) (Eq.symm (by first | exact decide_eq_false (fun h => absurd (hin.1 h.1).1 ‹_›) | exact decide_eq_false (fun h => absurd (hin.1 h.1).2 ‹_›) | exact decide_eq_false (fun h => absurd h.2.1 ‹_›) | exact decide_eq_decide.2 ⟨fun h => h.2.2, fun h => ⟨hin.2 ⟨‹_›, ‹_›⟩, ‹_›, h⟩⟩))) (.cons rfl (.cons rfl (.cons rfl (.cons rfl .nil))))), rfl⟩
        · skip
          refine Ops.r (Run.pickT rfl rfl (by first | rfl | assumption | exact decide_eq_true (by assumption) | exact decide_eq_false (by assumption) | decide | (simp; done) | (simp; omega) | (simp [*]; done))) rfl ?_
          refine Ops.r (Run.mv rfl) rfl ?_
          refine Ops.sk rfl (by first | rfl | assumption | exact decide_eq_true (by assumption) | exact decide_eq_false (by assumption) | decide | (simp; done) | (simp; omega) | (simp [*]; done)) rfl ?_
          refine Ops.sk rfl (by first | rfl | assumption | exact decide_eq_true (by assumption) | exact decide_eq_false (by assumption) | decide | (simp; done) | (simp; omega) | (simp [*]; done)) rfl ?_
          refine Ops.r (Run.pickF rfl rfl (by first | rfl | assumption | exact decide_eq_true (by assumption) | exact decide_eq_false (by assumption) | decide | (simp; done) | (simp; omega) | (simp [*]; done))) rfl ?_
          refine Ops.r (Run.mv rfl) rfl ?_
          refine Ops.sk rfl (by first | rfl | assumption | exact decide_eq_true (by assumption) | exact decide_eq_false (by assumption) | decide | (simp; done) | (simp; omega) | (simp [*]; done)) rfl ?_
          refine Ops.sk rfl (by first | rfl | assumption | exact decide_eq_true (by assumption) | exact decide_eq_false (by assumption) | decide | (simp; done) | (simp; omega) | (simp [*]; done)) rfl ?_
          refine Ops.r (Run.pickF rfl rfl (by first | rfl | assumption | exact decide_eq_true (by assumption) | exact decide_eq_false (by assumption) | decide | (simp; done) | (simp; omega) | (simp [*]; done))) rfl ?_
          refine Ops.nil ?_
          refine thenQ_n ⟨(.cons (congrArg (fun b => some (Value.bool b)) (Eq.symm (by first | exact decide_eq_false (fun h => absurd (hin.1 h.1).1 ‹_›) | exact decide_eq_false (fun h => absurd (hin.1 h.1).2 ‹_›) | exact decide_eq_false (fun h => absurd h.2.1 ‹_›) | exact decide_eq_decide.2 ⟨fun h => h.2.2, fun h => ⟨hin.2 ⟨‹_›, ‹_›⟩, ‹_›, h⟩⟩))) (.cons rfl (.cons rfl (.cons rfl (.cons rfl .nil))))), rfl⟩
      · skip
        refine Ops.r (Run.mv rfl) rfl ?_
        refine Ops.sk rfl (by first | rfl | assumption | exact decide_eq_true (by assumption) | exact decide_eq_false (by assumption) | decide | (simp; done) | (simp; omega) | (simp [*]; done)) rfl ?_
        refine Ops.sk rfl (by first | rfl | assumption | exact decide_eq_true (by assumption) | exact decide_eq_false (by assumption) | decide | (simp; done) | (simp; omega) | (simp [*]; done)) rfl ?_
        refine Ops.sk rfl (by first | rfl | assumption | exact decide_eq_true (by assumption) | exact decide_eq_false (by assumption) | decide | (simp; done) | (simp; omega) | (simp [*]; done)) rfl ?_
        refine Ops.r (Run.pickF rfl rfl (by first | rfl | assumption | exact decide_eq_true (by assumption) | exact decide_eq_false (by assumption) | decide | (simp; done) | (simp; omega) | (simp [*]; done))) rfl ?_
        refine Ops.r (Run.mv rfl) rfl ?_
        refine Ops.sk rfl (by first | rfl | assumption | exact decide_eq_true (by assumption) | exact decide_eq_false (by assumption) | decide | (simp; done) | (simp; omega) | (simp [*]; done)) rfl ?_
        refine Ops.sk rfl (by first | rfl | assumption | exact decide_eq_true (by assumption) | exact decide_eq_false (by assumption) | decide | (simp; done) | (simp; omega) | (simp [*]; done)) rfl ?_
        refine Ops.r (Run.pickF rfl rfl (by first | rfl | assumption | exact decide_eq_true (by assumption) | exact decide_eq_false (by assumption) | decide | (simp; done) | (simp; omega) | (simp [*]; done))) rfl ?_
        refine Ops.r (Run.mv rfl) rfl ?_
        refine Ops.sk rfl (by first | rfl | assumption | exact decide_eq_true (by assumption) | exact decide_eq_false (by assumption) | decide | (simp; done) | (simp; omega) | (simp [*]; done)) rfl ?_
        refine Ops.sk rfl (by first | rfl | assumption | exact decide_eq_true (by assumption) | exact decide_eq_false (by assumption) | decide | (simp; done) | (simp; omega) | (simp [*]; done)) rfl ?_
        refine Ops.r (Run.pickF rfl rfl (by first | rfl | assumption | exact decide_eq_true (by assumption) | exact decide_eq_false (by assumption) | decide | (simp; done) | (simp; omega) | (simp [*]; done))) rfl ?_
        refine Ops.nil ?_
        refine thenQ_n ⟨(.cons (congrArg (fun b => some (Value.bool b)) (Eq.symm (by first | exact decide_eq_false (fun h => absurd (hin.1 h.1).1 ‹_›) | exact decide_eq_false (fun h => absurd (hin.1 h.1).2 ‹_›) | exact decide_eq_false (fun h => absurd h.2.1 ‹_›) | exact decide_eq_decide.2 ⟨fun h => h.2.2, fun h => ⟨hin.2 ⟨‹_›, ‹_›⟩, ‹_›, h⟩⟩))) (.cons rfl (.cons rfl (.cons rfl (.cons rfl .nil))))), rfl⟩
    · intro Γ hΓ
      refine thenQ_n (VC.sub _ hΓ ?_)
      refine VC.condD rfl (fun hc2 => ?_) (fun hc2 => ?_)
      · skip
        refine VC.seq ?_
        refine VC.region ?_
        refine Ops.r (Run.asg rfl) rfl ?_
        refine Ops.nil ?_
        refine thenQ_n ?_
        refine VC.sub [(6, _)] (.cons rfl .nil) ?_
        refine VC.ret ?_
        refine blockQ_r (thenQ_r (thenQ_r (blockQ_r (thenQ_r (end1 rfl ?_)))))
        refine ⟨?_, hfr1⟩
        rw [decide_eq_true (show hasQ l n gr from ⟨by omega, by omega, x, hxm, hc2.1⟩)]
      · skip
        refine VC.skip ?_
        refine blockQ_n (thenQ_n ?_)
        refine VC.sub [(0, _), (1, _), (2, _), (7, _)] (.cons rfl (.cons rfl (.cons rfl (.cons rfl .nil)))) ?_
        refine VC.region ?_
        refine Ops.r (Run.mv rfl) rfl ?_
        refine Ops.r (Run.bin rfl rfl (Bin.add_i64 _ 1 (by omega))) rfl ?_
        refine Ops.r (Run.asg rfl) rfl ?_
        refine Ops.nil ?_
        refine thenQ_n ⟨(i + 1), (.cons rfl (.cons rfl (.cons rfl (.cons rfl .nil)))), ?_, ?_⟩
        · skip
          refine ⟨hc1, hfr1, fun y hy => ?_⟩
          rw [hts] at hy
          rcases List.mem_append.1 hy with h | h
          · exact hno y h
          · simp only [List.mem_singleton] at h; subst h; exact hc2
        · skip
          first | omega | (dsimp only; omega)
  · skip
    refine VC.exit ?_
    refine thenQ_x (thenQ_x (blockQ_x ?_))
    refine thenQ_n ?_
    refine VC.sub [] .nil ?_
    refine VC.seq ?_
    refine VC.region ?_
    refine Ops.r (Run.asg rfl) rfl ?_
    refine Ops.nil ?_
    refine thenQ_n ?_
    refine VC.ret ?_
    refine end1 rfl ?_
    refine ⟨?_, hfr⟩
    have hil : i = l.length := by omega
    subst hil
    rw [List.take_length] at hno
    rw [decide_eq_false (show ¬ hasQ l n gr from fun ⟨h1, h2, x, h3, h4⟩ => hno x h3 ⟨h4, by omega, by omega⟩)]

end Go.Proofs.YtnllhddbgkeboaaDoor
