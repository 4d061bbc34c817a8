/-
  The chapter's examples of layer 10 hold.
-/
import Derived.Test.YtebaojedpnnliaaLimC
namespace Go.Proofs.Ytebaojedpnnliaa
open Go.RowKit

set_option maxRecDepth 100000 in
theorem awake10_spec (w : World) : Calls Try.prog 47 #[] w fun e w' => e = .returned (.bool true) ∧ Frm [] w w' := by
  refine VC.calls (nt := 63) (res := #[.tmp 0]) Try.func47 rfl Try.ntmps47 Try.results47 rfl ?_
  refine VC.seq ?_
  refine VC.region ?_
  refine Ops.r (Run.asg rfl) rfl ?_
  refine Ops.nil ?_
  refine thenQ_n ?_
  refine VC.sub [] .nil ?_
  refine VC.seq ?_
  refine VC.region ?_
  refine Ops.m (Does.buildN (cells := #[.int .i64 5, .int .i64 1, .int .i64 1]) (evs.cons rfl (evs.cons rfl (evs.cons rfl evs.nil))) Try.underlying54 Try.sizeOf3 zero3 rfl rfl (by kernel_rfl)) rfl ?_
  rintro _ w1 ⟨rfl, hF1⟩
  have hr1 : Rd w1 1 (some ⟨_, 0, none⟩) ([5, 1, 1] : List Int).length (IB [5, 1, 1]) := Rd.of_blk hF1.blk rfl
  have hfr1a : Frm [] w w1 := hF1.frm
  refine Ops.cl (Enters.fn (evs.cons rfl (evs.cons rfl evs.nil)) Try.call44) (lengths_spec _ 3 [5, 1, 1] 15 _ (by decide) hr1) rfl ?_
  rintro e w2 ⟨hf1, he⟩
  rw [if_neg (by decide +kernel)] at he
  obtain ⟨own, hco, he⟩ := he
  obtain rfl := coins_unique hco ex1
  rw [if_neg (by decide +kernel)] at he
  obtain ⟨B1, c1, rfl, ho1, hB1⟩ := he
  rw [show lenP ([5, 1, 1] : List Int).length ((15 : Int).toNat) _ = [1, 2, 2] from ex1b] at ho1
  refine ⟨_, rfl, ?_⟩
  have hfr1 : Frm [] w w2 := hfr1a.own hf1 (by simp)
  have hq1 : Rd w2 1 B1 ([1, 2, 2] : List Int).length (IB [1, 2, 2]) := ho1.rd
  refine Ops.r (Run.mv rfl) rfl ?_
  refine Ops.r (Run.extract rfl rfl) rfl ?_
  refine Ops.r (Run.extract rfl rfl) rfl ?_
  refine Ops.r (Run.asg rfl) rfl ?_
  refine Ops.r (Run.asg rfl) rfl ?_
  refine Ops.nil ?_
  refine thenQ_n ?_
  refine VC.sub [(1, _), (2, _)] (.cons rfl (.cons rfl .nil)) ?_
  refine VC.seq ?_
  refine VC.region ?_
  refine Ops.m (Does.buildN (cells := #[.int .i64 5, .int .i64 1, .int .i64 1]) (evs.cons rfl (evs.cons rfl (evs.cons rfl evs.nil))) Try.underlying54 Try.sizeOf3 zero3 rfl rfl (by kernel_rfl)) rfl ?_
  rintro _ w3 ⟨rfl, hF3⟩
  have hr3 : Rd w3 1 (some ⟨_, 0, none⟩) ([5, 1, 1] : List Int).length (IB [5, 1, 1]) := Rd.of_blk hF3.blk rfl
  have hfr3 : Frm [] w w3 := hfr1.own hF3.frm (by simp)
  have hq13 := hq1.frm hF3.frm (by simp)
  have hfrA3 : Frm [] w2 w3 := hF3.frm
  refine Ops.r (Run.mv rfl) rfl ?_
  refine Ops.cl (Enters.fn (evs.cons rfl (evs.cons rfl evs.nil)) Try.call48) (cost_spec _ B1 3 c1 [5, 1, 1] [1, 2, 2] _ (by decide) (by decide) hr3 hq13) rfl ?_
  rintro e _ ⟨rfl, rfl⟩
  rw [if_pos (by decide +kernel), show dotT [5, 1, 1] [1, 2, 2] ([1, 2, 2] : List Int).length = 9 by decide +kernel]
  refine ⟨_, rfl, ?_⟩
  refine Ops.r (Run.mv rfl) rfl ?_
  refine Ops.r (Run.extract rfl rfl) rfl ?_
  refine Ops.r (Run.extract rfl rfl) rfl ?_
  refine Ops.r (Run.asg rfl) rfl ?_
  refine Ops.r (Run.asg rfl) rfl ?_
  refine Ops.nil ?_
  refine thenQ_n ?_
  refine VC.sub [(1, _), (2, _), (3, _), (4, _)] (.cons rfl (.cons rfl (.cons rfl (.cons rfl .nil)))) ?_
  refine VC.seq ?_
  refine VC.region ?_
  refine Ops.m (Does.buildN (cells := #[.int .i64 8, .int .i64 4, .int .i64 2, .int .i64 1]) (evs.cons rfl (evs.cons rfl (evs.cons rfl (evs.cons rfl evs.nil)))) Try.underlying54 Try.sizeOf3 zero3 rfl rfl (by kernel_rfl)) rfl ?_
  rintro _ w4 ⟨rfl, hF4⟩
  have hr4 : Rd w4 1 (some ⟨_, 0, none⟩) ([8, 4, 2, 1] : List Int).length (IB [8, 4, 2, 1]) := Rd.of_blk hF4.blk rfl
  have hfr4a : Frm [] w w4 := hfr3.own hF4.frm (by simp)
  refine Ops.cl (Enters.fn (evs.cons rfl (evs.cons rfl evs.nil)) Try.call44) (lengths_spec _ 4 [8, 4, 2, 1] 2 _ (by decide) hr4) rfl ?_
  rintro e w5 ⟨hf4, he⟩
  rw [if_neg (by decide +kernel)] at he
  obtain ⟨own, hco, he⟩ := he
  obtain rfl := coins_unique hco ex2
  rw [if_neg (by decide +kernel)] at he
  obtain ⟨B4, c4, rfl, ho4, hB4⟩ := he
  rw [show lenP ([8, 4, 2, 1] : List Int).length ((2 : Int).toNat) _ = [2, 2, 2, 2] from ex2b] at ho4
  refine ⟨_, rfl, ?_⟩
  have hfr4 : Frm [] w w5 := hfr4a.own hf4 (by simp)
  have hq4 : Rd w5 1 B4 ([2, 2, 2, 2] : List Int).length (IB [2, 2, 2, 2]) := ho4.rd
  have hfrA5 : Frm [] w2 w5 := (hfrA3.own hF4.frm (by simp)).own hf4 (by simp)
  refine Ops.r (Run.mv rfl) rfl ?_
  refine Ops.r (Run.extract rfl rfl) rfl ?_
  refine Ops.r (Run.extract rfl rfl) rfl ?_
  refine Ops.r (Run.asg rfl) rfl ?_
  refine Ops.r (Run.asg rfl) rfl ?_
  refine Ops.nil ?_
  refine thenQ_n ?_
  refine VC.sub [(1, _), (2, _), (3, _), (4, _), (5, _), (6, _)] (.cons rfl (.cons rfl (.cons rfl (.cons rfl (.cons rfl (.cons rfl .nil)))))) ?_
  refine VC.seq ?_
  refine VC.region ?_
  refine Ops.m (Does.buildN (cells := #[.int .i64 0, .int .i64 3]) (evs.cons rfl (evs.cons rfl evs.nil)) Try.underlying54 Try.sizeOf3 zero3 rfl rfl (by kernel_rfl)) rfl ?_
  rintro _ w6 ⟨rfl, hF6⟩
  have hr6 : Rd w6 1 (some ⟨_, 0, none⟩) ([0, 3] : List Int).length (IB [0, 3]) := Rd.of_blk hF6.blk rfl
  have hfr6a : Frm [] w w6 := hfr4.own hF6.frm (by simp)
  refine Ops.cl (Enters.fn (evs.cons rfl (evs.cons rfl evs.nil)) Try.call44) (lengths_spec _ 2 [0, 3] 15 _ (by decide) hr6) rfl ?_
  rintro e w7 ⟨hf6, he⟩
  rw [if_neg (by decide +kernel)] at he
  obtain ⟨own, hco, he⟩ := he
  obtain rfl := coins_unique hco ex3
  rw [if_neg (by decide +kernel)] at he
  obtain ⟨B6, c6, rfl, ho6, hB6⟩ := he
  rw [show lenP ([0, 3] : List Int).length ((15 : Int).toNat) _ = [0, 1] from ex3b] at ho6
  refine ⟨_, rfl, ?_⟩
  have hfr6 : Frm [] w w7 := hfr6a.own hf6 (by simp)
  have hq6 : Rd w7 1 B6 ([0, 1] : List Int).length (IB [0, 1]) := ho6.rd
  have hfrA7 : Frm [] w2 w7 := (hfrA5.own hF6.frm (by simp)).own hf6 (by simp)
  have hfr3b := hfrA7
  have hfrB7 : Frm [] w5 w7 := hF6.frm.own hf6 (by simp)
  refine Ops.r (Run.mv rfl) rfl ?_
  refine Ops.r (Run.extract rfl rfl) rfl ?_
  refine Ops.r (Run.extract rfl rfl) rfl ?_
  refine Ops.r (Run.asg rfl) rfl ?_
  refine Ops.r (Run.asg rfl) rfl ?_
  refine Ops.nil ?_
  refine thenQ_n ?_
  refine VC.sub [(1, _), (2, _), (3, _), (4, _), (5, _), (6, _), (7, _), (8, _)] (.cons rfl (.cons rfl (.cons rfl (.cons rfl (.cons rfl (.cons rfl (.cons rfl (.cons rfl .nil)))))))) ?_
  refine VC.seq ?_
  refine VC.region ?_
  refine Ops.r (Run.mv rfl) rfl ?_
  refine Ops.m (Does.buildN (cells := #[.int .i64 1, .int .i64 2, .int .i64 2]) (evs.cons rfl (evs.cons rfl (evs.cons rfl evs.nil))) Try.underlying54 Try.sizeOf3 zero3 rfl rfl (by kernel_rfl)) rfl ?_
  rintro _ w8 ⟨rfl, hF8⟩
  have hr8 : Rd w8 1 (some ⟨_, 0, none⟩) ([1, 2, 2] : List Int).length (IB [1, 2, 2]) := Rd.of_blk hF8.blk rfl
  have hfr8 : Frm [] w w8 := hfr6.own hF8.frm (by simp)
  refine Ops.cl (Enters.fn (evs.cons rfl (evs.cons rfl evs.nil)) Try.call46) (same10_spec _ _ _ _ [1, 2, 2] [1, 2, 2] _ (by decide) (by decide) (hq1.belowW ((hfr3b.own hF8.frm (by simp)).below)) hr8) rfl ?_
  rintro e w9 ⟨rfl, hd8⟩
  refine ⟨_, rfl, ?_⟩
  have hfr8b : Frm [] w w9 := hfr8.drawn hd8
  have hfr5b : Frm [] w5 w9 := (hfrB7.own hF8.frm (by simp)).drawn hd8
  have hfrC9 : Frm [] w7 w9 := hF8.frm.drawn hd8
  refine Ops.r (Run.mv rfl) rfl ?_
  refine Ops.rg rfl (by first | rfl | assumption | decide | (simp; done) | (simp; omega) | (simp [*]; done)) (Run.mv rfl) rfl ?_
  refine Ops.rg rfl (by first | rfl | assumption | decide | (simp; done) | (simp; omega) | (simp [*]; done)) (Run.bin rfl rfl (Bin.eqlN _ 0)) rfl ?_
  refine Ops.r (Run.pickT rfl rfl (by first | rfl | assumption | decide | (simp; done) | (simp; omega) | (simp [*]; done))) rfl ?_
  refine Ops.r (Run.mv rfl) rfl ?_
  refine Ops.rg rfl (by first | rfl | assumption | decide | (simp; done) | (simp; omega) | (simp [*]; done)) (Run.mv rfl) rfl ?_
  refine Ops.rg rfl (by first | rfl | assumption | decide | (simp; done) | (simp; omega) | (simp [*]; done)) (Run.bin rfl rfl (Bin.eqlN _ 9)) rfl ?_
  refine Ops.r (Run.pickT rfl rfl (by first | rfl | assumption | decide | (simp; done) | (simp; omega) | (simp [*]; done))) rfl ?_
  refine Ops.r (Run.mv rfl) rfl ?_
  refine Ops.rg rfl (by first | rfl | assumption | decide | (simp; done) | (simp; omega) | (simp [*]; done)) (Run.mv rfl) rfl ?_
  refine Ops.rg rfl (by first | rfl | assumption | decide | (simp; done) | (simp; omega) | (simp [*]; done)) (Run.bin rfl rfl (Bin.eqlN _ 0)) rfl ?_
  refine Ops.r (Run.pickT rfl rfl (by first | rfl | assumption | decide | (simp; done) | (simp; omega) | (simp [*]; done))) rfl ?_
  refine Ops.r (Run.mv rfl) rfl ?_
  refine Ops.rg rfl (by first | rfl | assumption | decide | (simp; done) | (simp; omega) | (simp [*]; done)) (Run.mv rfl) rfl ?_
  refine Ops.mg rfl (by first | rfl | assumption | decide | (simp; done) | (simp; omega) | (simp [*]; done)) (Does.buildN (cells := #[.int .i64 2, .int .i64 2, .int .i64 2, .int .i64 2]) (evs.cons rfl (evs.cons rfl (evs.cons rfl (evs.cons rfl evs.nil)))) Try.underlying54 Try.sizeOf3 zero3 rfl rfl (by kernel_rfl)) rfl ?_
  rintro _ w10 ⟨rfl, hF10⟩
  have hr10 : Rd w10 1 (some ⟨_, 0, none⟩) ([2, 2, 2, 2] : List Int).length (IB [2, 2, 2, 2]) := Rd.of_blk hF10.blk rfl
  have hfr10 : Frm [] w w10 := hfr8b.own hF10.frm (by simp)
  refine Ops.clg rfl (by first | rfl | assumption | decide | (simp; done) | (simp; omega) | (simp [*]; done)) (Enters.fn (evs.cons rfl (evs.cons rfl evs.nil)) Try.call46) (same10_spec _ _ _ _ [2, 2, 2, 2] [2, 2, 2, 2] _ (by decide) (by decide) (hq4.belowW ((hfr5b.own hF10.frm (by simp)).below)) hr10) rfl ?_
  rintro e w11 ⟨rfl, hd10⟩
  refine ⟨_, rfl, ?_⟩
  have hfr10b : Frm [] w w11 := hfr10.drawn hd10
  have hfr7b : Frm [] w7 w11 := (hfrC9.own hF10.frm (by simp)).drawn hd10
  refine Ops.r (Run.pickT rfl rfl (by first | rfl | assumption | decide | (simp; done) | (simp; omega) | (simp [*]; done))) rfl ?_
  refine Ops.r (Run.mv rfl) rfl ?_
  refine Ops.rg rfl (by first | rfl | assumption | decide | (simp; done) | (simp; omega) | (simp [*]; done)) (Run.mv rfl) rfl ?_
  refine Ops.rg rfl (by first | rfl | assumption | decide | (simp; done) | (simp; omega) | (simp [*]; done)) (Run.bin rfl rfl (Bin.eqlN _ 0)) rfl ?_
  refine Ops.r (Run.pickT rfl rfl (by first | rfl | assumption | decide | (simp; done) | (simp; omega) | (simp [*]; done))) rfl ?_
  refine Ops.r (Run.mv rfl) rfl ?_
  refine Ops.rg rfl (by first | rfl | assumption | decide | (simp; done) | (simp; omega) | (simp [*]; done)) (Run.mv rfl) rfl ?_
  refine Ops.mg rfl (by first | rfl | assumption | decide | (simp; done) | (simp; omega) | (simp [*]; done)) (Does.buildN (cells := #[.int .i64 0, .int .i64 1]) (evs.cons rfl (evs.cons rfl evs.nil)) Try.underlying54 Try.sizeOf3 zero3 rfl rfl (by kernel_rfl)) rfl ?_
  rintro _ w12 ⟨rfl, hF12⟩
  have hr12 : Rd w12 1 (some ⟨_, 0, none⟩) ([0, 1] : List Int).length (IB [0, 1]) := Rd.of_blk hF12.blk rfl
  have hfr12 : Frm [] w w12 := hfr10b.own hF12.frm (by simp)
  refine Ops.clg rfl (by first | rfl | assumption | decide | (simp; done) | (simp; omega) | (simp [*]; done)) (Enters.fn (evs.cons rfl (evs.cons rfl evs.nil)) Try.call46) (same10_spec _ _ _ _ [0, 1] [0, 1] _ (by decide) (by decide) (hq6.belowW ((hfr7b.own hF12.frm (by simp)).below)) hr12) rfl ?_
  rintro e w13 ⟨rfl, hd12⟩
  refine ⟨_, rfl, ?_⟩
  have hfr12b : Frm [] w w13 := hfr12.drawn hd12
  refine Ops.r (Run.pickT rfl rfl (by first | rfl | assumption | decide | (simp; done) | (simp; omega) | (simp [*]; done))) rfl ?_
  refine Ops.r (Run.mv rfl) rfl ?_
  refine Ops.rg rfl (by first | rfl | assumption | decide | (simp; done) | (simp; omega) | (simp [*]; done)) (Run.mv rfl) rfl ?_
  refine Ops.rg rfl (by first | rfl | assumption | decide | (simp; done) | (simp; omega) | (simp [*]; done)) (Run.bin rfl rfl (Bin.eqlN _ 0)) rfl ?_
  refine Ops.r (Run.pickT rfl rfl (by first | rfl | assumption | decide | (simp; done) | (simp; omega) | (simp [*]; done))) rfl ?_
  refine Ops.r (Run.asg rfl) rfl ?_
  refine Ops.nil ?_
  refine thenQ_n ?_
  refine VC.sub [(0, _)] (.cons rfl .nil) ?_
  refine VC.ret ?_
  refine end1 rfl ?_
  exact ⟨rfl, hfr12b⟩

end Go.Proofs.Ytebaojedpnnliaa
