/-
  The chapter's examples of layer 26 hold.
-/
import Derived.Test.YtmfglifjnoilnaaBoxX
namespace Go.Proofs.Ytmfglifjnoilnaa
open Go.RowKit Go.Sort

set_option maxRecDepth 100000 in
theorem awake26_spec (w : World) : Calls Try.prog 13 #[] w fun e w' => e = .returned (.bool true) ∧ Frm [] w w' := by
  refine VC.calls (nt := 119) (res := #[.tmp 0]) Try.func13 rfl Try.ntmps13 Try.results13 rfl ?_
  refine VC.seq ?_
  refine VC.region ?_
  refine Ops.r (Run.asg rfl) rfl ?_
  refine Ops.nil ?_
  refine thenQ_n ?_
  refine VC.sub [] .nil ?_
  refine VC.seq ?_
  refine VC.region ?_
  refine Ops.cl (Enters.fn (evs.cons rfl evs.nil) Try.call24) (new_spec 7 _) rfl ?_
  rintro e w1 ⟨hf1, he⟩
  obtain rfl : e = .returned (.tuple #[.agg #[.int .i64 7, .int .i64 1, .slice none 0 0], .int .i64 0]) := by
    rcases he with ⟨_, h⟩ | ⟨h, _⟩
    · exact h
    · exact absurd may0 h
  refine ⟨_, rfl, ?_⟩
  refine Ops.r (Run.mv rfl) rfl ?_
  refine Ops.r (Run.extract rfl rfl) rfl ?_
  refine Ops.r (Run.extract rfl rfl) rfl ?_
  refine Ops.m (Does.alloc zero24) rfl ?_
  rintro _ w2 ⟨rfl, hF2⟩
  have hb2 := hF2.blk
  have hs2 : w.heap.size ≤ w1.heap.size := hf1.size
  have hfr2 := hf1.trans hF2.frm (by simp)
  generalize hg1 : w1.heap.size = g1 at hb2 hs2 ⊢
  refine Ops.st (Acts.storeA rfl rfl Try.sizeOf24 hb2 rfl (BVc_one 7 1 none 0 0)) ?_
  rintro w3 ⟨hb3, hf3, hs3⟩
  have hfr3 := hfr2.own hf3 (fun y hy => by simp at hy; omega)
  refine Ops.r (Run.asg rfl) rfl ?_
  refine Ops.nil ?_
  refine thenQ_n ?_
  refine VC.sub [(1, _), (2, _)] (.cons rfl (.cons rfl .nil)) ?_
  refine VC.seq ?_
  refine VC.region ?_
  refine Ops.r (Run.loadA rfl Try.isAgg24 Try.sizeOf24 (fun j v hj => hb3.cells j v hj) (by first | rfl | (simp; done))) rfl ?_
  refine Ops.r (Run.build (evs.cons rfl evs.nil) zero45 (places45).choose_spec.1 (places45).choose_spec.2 rfl) rfl ?_
  refine Ops.cl (Enters.fn (evs.cons rfl (evs.cons rfl evs.nil)) Try.call18) (append_spec 7 1 none 0 [] ⟨m0 1, none, 0⟩ _ (RdM.nil _ _) (by decide) ⟨Rd.nil _ _ _, by decide, by simp [m0]⟩) rfl ?_
  rintro e w4 ⟨hf4, v4, n4, B4, d4, l4, k4, rfl, hI4, hO4⟩
  obtain ⟨rfl, rfl, rfl, hl4, _⟩ := hI4.is app1
  rw [if_pos rfl]
  refine ⟨_, rfl, ?_⟩
  have hb4 := hb3.frm hf4 (by simp)
  have hfr4 := hfr3.trans hf4 (by simp)
  refine Ops.r (Run.mv rfl) rfl ?_
  refine Ops.r (Run.extract rfl rfl) rfl ?_
  refine Ops.r (Run.extract rfl rfl) rfl ?_
  refine Ops.r (Run.extract rfl rfl) rfl ?_
  refine Ops.st (Acts.storeA rfl rfl Try.sizeOf24 hb4 rfl (BVc_one 7 2 B4 l4.length d4)) ?_
  rintro w5 ⟨hb5, hf5, hs5⟩
  have hO5 := hO4.blk hf5 hb4 (by decide) (by decide)
  have hfr5 := hfr4.own hf5 (fun y hy => by simp at hy; omega)
  have hll4 : l4.length = 1 := by have := congrArg List.length hl4; simpa [Ms] using this
  refine Ops.r (Run.asg rfl) rfl ?_
  refine Ops.r (Run.asg rfl) rfl ?_
  refine Ops.nil ?_
  refine thenQ_n ?_
  refine VC.sub [(1, _), (2, _), (3, _), (4, _)] (.cons rfl (.cons rfl (.cons rfl (.cons rfl .nil)))) ?_
  refine VC.seq ?_
  refine VC.region ?_
  refine Ops.r (Run.loadA rfl Try.isAgg24 Try.sizeOf24 (fun j v hj => hb5.cells j v hj) (by first | rfl | (simp; done))) rfl ?_
  refine Ops.r (Run.build (evs.cons rfl evs.nil) zero45 (places45).choose_spec.1 (places45).choose_spec.2 rfl) rfl ?_
  refine Ops.cl (Enters.fn (evs.cons rfl (evs.cons rfl evs.nil)) Try.call18) (append_spec 7 2 B4 d4 l4 ⟨m0 2, none, 0⟩ _ hO5.rdm (by omega) ⟨Rd.nil _ _ _, by decide, by simp [m0]⟩) rfl ?_
  rintro e w6 ⟨hf6, v6, n6, B6, d6, l6, k6, rfl, hI6, hO6⟩
  obtain ⟨rfl, rfl, rfl, hl6, _⟩ := hI6.is (show appendB ⟨7, 2, Ms l4⟩ (m0 2) = _ by rw [hl4]; exact app2)
  rw [if_pos rfl]
  refine ⟨_, rfl, ?_⟩
  have hb6 := hb5.frm hf6 (by simp)
  have hfr6 := hfr5.trans hf6 (by simp)
  refine Ops.r (Run.mv rfl) rfl ?_
  refine Ops.r (Run.extract rfl rfl) rfl ?_
  refine Ops.r (Run.extract rfl rfl) rfl ?_
  refine Ops.r (Run.extract rfl rfl) rfl ?_
  refine Ops.st (Acts.storeA rfl rfl Try.sizeOf24 hb6 rfl (BVc_one 7 3 B6 l6.length d6)) ?_
  rintro w7 ⟨hb7, hf7, hs7⟩
  have hO7 := hO6.blk hf7 hb6 (by decide) (by decide)
  have hfr7 := hfr6.own hf7 (fun y hy => by simp at hy; omega)
  have hll6 : l6.length = 2 := by have := congrArg List.length hl6; simpa [Ms] using this
  refine Ops.r (Run.asg rfl) rfl ?_
  refine Ops.r (Run.asg rfl) rfl ?_
  refine Ops.nil ?_
  refine thenQ_n ?_
  refine VC.sub [(1, _), (2, _), (3, _), (4, _), (5, _), (6, _)] (.cons rfl (.cons rfl (.cons rfl (.cons rfl (.cons rfl (.cons rfl .nil)))))) ?_
  refine VC.seq ?_
  refine VC.region ?_
  refine Ops.r (Run.loadA rfl Try.isAgg24 Try.sizeOf24 (fun j v hj => hb7.cells j v hj) (by first | rfl | (simp; done))) rfl ?_
  refine Ops.m (Does.buildS1 rfl Try.underlying43 Try.sizeOf9 zero9 (by decide) (by decide) rfl rfl) rfl ?_
  rintro _ w8 ⟨rfl, hF8⟩
  have hb8 := hb7.frm hF8.frm (by simp)
  have hO8 := hO7.frm hF8.frm
  have hfr8 := hfr7.trans hF8.frm (by simp)
  refine Ops.cl (Enters.fn (evs.cons rfl (evs.cons rfl (evs.cons rfl (evs.cons rfl evs.nil)))) Try.call19) (change_spec 7 3 B6 d6 l6 1 1 _ _ [smallDel] _ hO8.rdm (by decide) (by decide) (hrd1 hF8)) rfl ?_
  rintro e w9 ⟨hf9, v9, n9, B9, d9, l9, k9, rfl, hI9, hO9⟩
  obtain ⟨rfl, rfl, rfl, hl9, _⟩ := hI9.is (show changeB ⟨7, 3, Ms l6⟩ 1 1 [smallDel] = _ by rw [hl6]; exact chg1)
  refine ⟨_, rfl, ?_⟩
  have hb9 := hb8.frm hf9 (by simp)
  have hfr9 := hfr8.trans hf9 (by simp)
  refine Ops.r (Run.mv rfl) rfl ?_
  refine Ops.r (Run.extract rfl rfl) rfl ?_
  refine Ops.r (Run.extract rfl rfl) rfl ?_
  refine Ops.st (Acts.storeA rfl rfl Try.sizeOf24 hb9 rfl (BVc_one 7 3 B9 l9.length d9)) ?_
  rintro w10 ⟨hb10, hf10, hs10⟩
  have hO10 := hO9.blk hf10 hb9 (by decide) (by decide)
  have hfr10 := hfr9.own hf10 (fun y hy => by simp at hy; omega)
  refine Ops.r (Run.asg rfl) rfl ?_
  refine Ops.nil ?_
  refine thenQ_n ?_
  refine VC.sub [(1, _), (2, _), (3, _), (4, _), (5, _), (6, _), (7, _)] (.cons rfl (.cons rfl (.cons rfl (.cons rfl (.cons rfl (.cons rfl (.cons rfl .nil))))))) ?_
  refine VC.seq ?_
  refine VC.region ?_
  refine Ops.r (Run.loadA rfl Try.isAgg24 Try.sizeOf24 (fun j v hj => hb10.cells j v hj) (by first | rfl | (simp; done))) rfl ?_
  refine Ops.cl (Enters.fn (evs.cons rfl (evs.cons rfl (evs.cons rfl evs.nil))) Try.call9) (expunge_spec 7 3 B9 d9 l9 true none 0 [] _ hO10.rdm (Rd.nil _ _ _) (by decide)) rfl ?_
  rintro e w11 ⟨hf11, v11, n11, B11, d11, l11, P, dP, ps, D, dD, bs, k11, rfl, hO11, hP, hD, hE⟩
  rw [hl9] at hE
  obtain ⟨rfl, rfl, rfl, hl11, rfl, rfl⟩ : k11 = 0 ∧ v11 = 7 ∧ n11 = 3 ∧ Ms l11 = [m1 2 2 []] ∧ ps = [1] ∧ bs = [1] := by
    rcases hE with ⟨h, _⟩ | ⟨_, h1, h2, h3, h4, h5, h6⟩
    · exact absurd may3 h
    · rw [go1] at h5 h6
      rw [go2] at h4
      exact ⟨h1, h2, h3, h4, h5, h6⟩
  refine ⟨_, rfl, ?_⟩
  have hb11 := hb10.frm hf11 (by simp)
  have hfr11 := hfr10.trans hf11 (by simp)
  refine Ops.r (Run.mv rfl) rfl ?_
  refine Ops.r (Run.extract rfl rfl) rfl ?_
  refine Ops.r (Run.extract rfl rfl) rfl ?_
  refine Ops.r (Run.extract rfl rfl) rfl ?_
  refine Ops.r (Run.extract rfl rfl) rfl ?_
  refine Ops.st (Acts.storeA rfl rfl Try.sizeOf24 hb11 rfl (BVc_one 7 3 B11 l11.length d11)) ?_
  rintro w12 ⟨hb12, hf12, hs12⟩
  have hO12 := hO11.blk hf12 hb11 (by decide) (by decide)
  have hP12 := hP.frm hf12 (fun y hy => by have := hP.ne_blk hb11 (by decide); simp; rintro rfl; exact this hy)
  have hD12 := hD.frm hf12 (fun y hy => by have := hD.ne_blk hb11 (by decide); simp; rintro rfl; exact this hy)
  have hfr12 := hfr11.own hf12 (fun y hy => by simp at hy; omega)
  have hll11 : l11.length = 1 := by have := congrArg List.length hl11; simpa [Ms] using this
  refine Ops.r (Run.asg rfl) rfl ?_
  refine Ops.r (Run.asg rfl) rfl ?_
  refine Ops.r (Run.asg rfl) rfl ?_
  refine Ops.nil ?_
  refine thenQ_n ?_
  refine VC.sub [(1, _), (2, _), (3, _), (4, _), (5, _), (6, _), (7, _), (8, _), (9, _), (10, _)] (.cons rfl (.cons rfl (.cons rfl (.cons rfl (.cons rfl (.cons rfl (.cons rfl (.cons rfl (.cons rfl (.cons rfl .nil)))))))))) ?_
  refine VC.seq ?_
  refine VC.region ?_
  refine Ops.r (Run.loadA rfl Try.isAgg24 Try.sizeOf24 (fun j v hj => hb12.cells j v hj) (by first | rfl | (simp; done))) rfl ?_
  refine Ops.cl (Enters.fn (evs.cons rfl (evs.cons rfl evs.nil)) Try.call27) (place_spec 7 3 B11 d11 l11 2 _ hO12.rdm) rfl ?_
  rintro e w13 ⟨hf13, p, rfl, hp⟩
  obtain rfl : p = 1 := by
    have hN : nidsB ⟨7, 3, Ms l11⟩ = [2] := by rw [hl11]; exact if_pos may4
    rw [hN] at hp
    rcases hp with ⟨_, h⟩ | ⟨h1, h2⟩
    · exact absurd (List.mem_singleton.2 rfl) h
    · have := (List.getElem?_eq_some_iff.1 h2).1
      simp at this
      omega
  refine ⟨_, rfl, ?_⟩
  have hb13 := hb12.frm hf13 (by simp)
  have hO13 := hO12.frm hf13
  have hfr13 := hfr12.trans hf13 (by simp)
  refine Ops.r (Run.asg rfl) rfl ?_
  refine Ops.nil ?_
  refine thenQ_n ?_
  refine VC.sub [(1, _), (2, _), (3, _), (4, _), (5, _), (6, _), (7, _), (8, _), (9, _), (10, _), (11, _)] (.cons rfl (.cons rfl (.cons rfl (.cons rfl (.cons rfl (.cons rfl (.cons rfl (.cons rfl (.cons rfl (.cons rfl (.cons rfl .nil))))))))))) ?_
  refine VC.seq ?_
  refine VC.region ?_
  refine Ops.r (Run.loadA rfl Try.isAgg24 Try.sizeOf24 (fun j v hj => hb13.cells j v hj) (by first | rfl | (simp; done))) rfl ?_
  refine Ops.r (Run.build (evs.cons rfl evs.nil) zero45 (places45).choose_spec.1 (places45).choose_spec.2 rfl) rfl ?_
  refine Ops.cl (Enters.fn (evs.cons rfl (evs.cons rfl evs.nil)) Try.call18) (append_spec 7 3 B11 d11 l11 ⟨m0 3, none, 0⟩ _ hO13.rdm (by omega) ⟨Rd.nil _ _ _, by decide, by simp [m0]⟩) rfl ?_
  rintro e w14 ⟨hf14, v14, n14, B14, d14, l14, k14, rfl, hI14, hO14⟩
  obtain ⟨rfl, rfl, rfl, hl14, _⟩ := hI14.is (show appendB ⟨7, 3, Ms l11⟩ (m0 3) = _ by rw [hl11]; exact app3)
  rw [if_pos rfl]
  refine ⟨_, rfl, ?_⟩
  have hfr14 := hfr13.trans hf14 (by simp)
  have hP14 := (hP12.frm hf13 (by simp)).frm hf14 (by simp)
  have hD14 := (hD12.frm hf13 (by simp)).frm hf14 (by simp)
  refine Ops.r (Run.mv rfl) rfl ?_
  refine Ops.r (Run.extract rfl rfl) rfl ?_
  refine Ops.r (Run.extract rfl rfl) rfl ?_
  refine Ops.r (Run.extract rfl rfl) rfl ?_
  refine Ops.m (Does.alloc zero24) rfl ?_
  rintro _ w15 ⟨rfl, hF15⟩
  have hb15 := hF15.blk
  have hP15 := hP14.frm hF15.frm (by simp)
  have hD15 := hD14.frm hF15.frm (by simp)
  have hfr15 := hfr14.trans hF15.frm (by simp)
  have hs15 : w.heap.size ≤ w14.heap.size := hfr14.size
  generalize hg2 : w14.heap.size = g2 at hb15 hs15 ⊢
  refine Ops.st (Acts.storeA rfl rfl Try.sizeOf24 hb15 rfl (BVc_one 7 4 B14 l14.length d14)) ?_
  rintro w16 ⟨hb16, hf16, hs16⟩
  have hP16 := hP15.frm hf16 (fun y hy => by have := hP15.ne_blk hb15 (by decide); simp; rintro rfl; exact this hy)
  have hD16 := hD15.frm hf16 (fun y hy => by have := hD15.ne_blk hb15 (by decide); simp; rintro rfl; exact this hy)
  have hfr16 := hfr15.own hf16 (fun y hy => by simp at hy; omega)
  obtain ⟨adP, uP, rfl, hu, hcP⟩ := hP16.rd.at1 (k := 0) (by decide)
  obtain rfl : uP = .int .i64 ((1 : Nat) : Int) := by simpa [IB] using hu.symm
  obtain ⟨adD, uD, rfl, hv, hcD⟩ := hD16.rd.at1 (k := 0) (by decide)
  obtain rfl : uD = .int .u64 ((1 : Nat) : Int) := by simpa [UBl] using hv.symm
  refine Ops.r (Run.asg rfl) rfl ?_
  refine Ops.r (Run.asg rfl) rfl ?_
  refine Ops.nil ?_
  refine thenQ_n ?_
  refine VC.sub [(2, _), (3, _), (4, _), (5, _), (6, _), (7, _), (8, _), (9, _), (10, _), (11, _), (13, _), (14, _)] (.cons rfl (.cons rfl (.cons rfl (.cons rfl (.cons rfl (.cons rfl (.cons rfl (.cons rfl (.cons rfl (.cons rfl (.cons rfl (.cons rfl .nil)))))))))))) ?_
  refine VC.seq ?_
  refine VC.region ?_
  refine Ops.r (Run.mv rfl) rfl ?_
  refine Ops.r (Run.bin rfl rfl (Bin.eqlN _ 0)) rfl ?_
  refine Ops.r (Run.mv rfl) rfl ?_
  refine Ops.rg rfl (by first | rfl | assumption | exact decide_eq_true (by assumption) | exact decide_eq_false (by assumption) | decide | (simp; done) | (simp; omega) | (simp [*]; done)) (Run.mv rfl) rfl ?_
  refine Ops.rg rfl (by first | rfl | assumption | exact decide_eq_true (by assumption) | exact decide_eq_false (by assumption) | decide | (simp; done) | (simp; omega) | (simp [*]; done)) (Run.bin rfl rfl (Bin.eqlN _ 1)) rfl ?_
  refine Ops.r (Run.pickT rfl rfl (by first | rfl | assumption | exact decide_eq_true (by assumption) | exact decide_eq_false (by assumption) | decide | (simp; done) | (simp; omega) | (simp [*]; done))) rfl ?_
  refine Ops.r (Run.mv rfl) rfl ?_
  refine Ops.rg rfl (by first | rfl | assumption | exact decide_eq_true (by assumption) | exact decide_eq_false (by assumption) | decide | (simp; done) | (simp; omega) | (simp [*]; done)) (Run.mv rfl) rfl ?_
  refine Ops.rg rfl (by first | rfl | assumption | exact decide_eq_true (by assumption) | exact decide_eq_false (by assumption) | decide | (simp; done) | (simp; omega) | (simp [*]; done)) (Run.bin rfl rfl (Bin.eqlN _ 0)) rfl ?_
  refine Ops.r (Run.pickT rfl rfl (by first | rfl | assumption | exact decide_eq_true (by assumption) | exact decide_eq_false (by assumption) | decide | (simp; done) | (simp; omega) | (simp [*]; done))) rfl ?_
  refine Ops.r (Run.mv rfl) rfl ?_
  refine Ops.rg rfl (by first | rfl | assumption | exact decide_eq_true (by assumption) | exact decide_eq_false (by assumption) | decide | (simp; done) | (simp; omega) | (simp [*]; done)) (Run.mv rfl) rfl ?_
  refine Ops.rg rfl (by first | rfl | assumption | exact decide_eq_true (by assumption) | exact decide_eq_false (by assumption) | decide | (simp; done) | (simp; omega) | (simp [*]; done)) (Run.bin rfl rfl (Bin.eqlN _ 2)) rfl ?_
  refine Ops.r (Run.pickT rfl rfl (by first | rfl | assumption | exact decide_eq_true (by assumption) | exact decide_eq_false (by assumption) | decide | (simp; done) | (simp; omega) | (simp [*]; done))) rfl ?_
  refine Ops.r (Run.mv rfl) rfl ?_
  refine Ops.rg rfl (by first | rfl | assumption | exact decide_eq_true (by assumption) | exact decide_eq_false (by assumption) | decide | (simp; done) | (simp; omega) | (simp [*]; done)) (Run.mv rfl) rfl ?_
  refine Ops.rg rfl (by first | rfl | assumption | exact decide_eq_true (by assumption) | exact decide_eq_false (by assumption) | decide | (simp; done) | (simp; omega) | (simp [*]; done)) (Run.bin rfl rfl (Bin.eqlN _ 0)) rfl ?_
  refine Ops.r (Run.pickT rfl rfl (by first | rfl | assumption | exact decide_eq_true (by assumption) | exact decide_eq_false (by assumption) | decide | (simp; done) | (simp; omega) | (simp [*]; done))) rfl ?_
  refine Ops.r (Run.mv rfl) rfl ?_
  refine Ops.rg rfl (by first | rfl | assumption | exact decide_eq_true (by assumption) | exact decide_eq_false (by assumption) | decide | (simp; done) | (simp; omega) | (simp [*]; done)) (Run.mv rfl) rfl ?_
  refine Ops.rg rfl (by first | rfl | assumption | exact decide_eq_true (by assumption) | exact decide_eq_false (by assumption) | decide | (simp; done) | (simp; omega) | (simp [*]; done)) (Run.bin rfl rfl (Bin.eqlN _ 0)) rfl ?_
  refine Ops.r (Run.pickT rfl rfl (by first | rfl | assumption | exact decide_eq_true (by assumption) | exact decide_eq_false (by assumption) | decide | (simp; done) | (simp; omega) | (simp [*]; done))) rfl ?_
  refine Ops.r (Run.mv rfl) rfl ?_
  refine Ops.rg rfl (by first | rfl | assumption | exact decide_eq_true (by assumption) | exact decide_eq_false (by assumption) | decide | (simp; done) | (simp; omega) | (simp [*]; done)) (Run.mv rfl) rfl ?_
  refine Ops.rg rfl (by first | rfl | assumption | exact decide_eq_true (by assumption) | exact decide_eq_false (by assumption) | decide | (simp; done) | (simp; omega) | (simp [*]; done)) (Run.lenS rfl Try.underlying25) rfl ?_
  refine Ops.rg rfl (by first | rfl | assumption | exact decide_eq_true (by assumption) | exact decide_eq_false (by assumption) | decide | (simp; done) | (simp; omega) | (simp [*]; done)) (Run.bin rfl rfl (Bin.eqlN _ 1)) rfl ?_
  refine Ops.r (Run.pickT rfl rfl (by first | rfl | assumption | exact decide_eq_true (by assumption) | exact decide_eq_false (by assumption) | decide | (simp; done) | (simp; omega) | (simp [*]; done))) rfl ?_
  refine Ops.r (Run.mv rfl) rfl ?_
  refine Ops.rg rfl (by first | rfl | assumption | exact decide_eq_true (by assumption) | exact decide_eq_false (by assumption) | decide | (simp; done) | (simp; omega) | (simp [*]; done)) (Run.mv rfl) rfl ?_
  refine Ops.rg rfl (by first | rfl | assumption | exact decide_eq_true (by assumption) | exact decide_eq_false (by assumption) | decide | (simp; done) | (simp; omega) | (simp [*]; done)) (Run.index1 0 rfl rfl Try.underlying25 Try.sizeOf3 (by decide)) rfl ?_
  refine Ops.rg rfl (by first | rfl | assumption | exact decide_eq_true (by assumption) | exact decide_eq_false (by assumption) | decide | (simp; done) | (simp; omega) | (simp [*]; done)) (Run.load rfl Try.isAgg3 hcP) rfl ?_
  refine Ops.rg rfl (by first | rfl | assumption | exact decide_eq_true (by assumption) | exact decide_eq_false (by assumption) | decide | (simp; done) | (simp; omega) | (simp [*]; done)) (Run.bin rfl rfl (Bin.eqlN _ 1)) rfl ?_
  refine Ops.r (Run.pickT rfl rfl (by first | rfl | assumption | exact decide_eq_true (by assumption) | exact decide_eq_false (by assumption) | decide | (simp; done) | (simp; omega) | (simp [*]; done))) rfl ?_
  refine Ops.r (Run.mv rfl) rfl ?_
  refine Ops.rg rfl (by first | rfl | assumption | exact decide_eq_true (by assumption) | exact decide_eq_false (by assumption) | decide | (simp; done) | (simp; omega) | (simp [*]; done)) (Run.mv rfl) rfl ?_
  refine Ops.rg rfl (by first | rfl | assumption | exact decide_eq_true (by assumption) | exact decide_eq_false (by assumption) | decide | (simp; done) | (simp; omega) | (simp [*]; done)) (Run.lenS rfl Try.underlying27) rfl ?_
  refine Ops.rg rfl (by first | rfl | assumption | exact decide_eq_true (by assumption) | exact decide_eq_false (by assumption) | decide | (simp; done) | (simp; omega) | (simp [*]; done)) (Run.bin rfl rfl (Bin.eqlN _ 1)) rfl ?_
  refine Ops.r (Run.pickT rfl rfl (by first | rfl | assumption | exact decide_eq_true (by assumption) | exact decide_eq_false (by assumption) | decide | (simp; done) | (simp; omega) | (simp [*]; done))) rfl ?_
  refine Ops.r (Run.mv rfl) rfl ?_
  refine Ops.rg rfl (by first | rfl | assumption | exact decide_eq_true (by assumption) | exact decide_eq_false (by assumption) | decide | (simp; done) | (simp; omega) | (simp [*]; done)) (Run.mv rfl) rfl ?_
  refine Ops.rg rfl (by first | rfl | assumption | exact decide_eq_true (by assumption) | exact decide_eq_false (by assumption) | decide | (simp; done) | (simp; omega) | (simp [*]; done)) (Run.index1 0 rfl rfl Try.underlying27 Try.sizeOf38 (by decide)) rfl ?_
  refine Ops.rg rfl (by first | rfl | assumption | exact decide_eq_true (by assumption) | exact decide_eq_false (by assumption) | decide | (simp; done) | (simp; omega) | (simp [*]; done)) (Run.load rfl Try.isAgg38 hcD) rfl ?_
  refine Ops.rg rfl (by first | rfl | assumption | exact decide_eq_true (by assumption) | exact decide_eq_false (by assumption) | decide | (simp; done) | (simp; omega) | (simp [*]; done)) (Run.bin rfl rfl (Bin.eqlN _ 1)) rfl ?_
  refine Ops.r (Run.pickT rfl rfl (by first | rfl | assumption | exact decide_eq_true (by assumption) | exact decide_eq_false (by assumption) | decide | (simp; done) | (simp; omega) | (simp [*]; done))) rfl ?_
  refine Ops.r (Run.mv rfl) rfl ?_
  refine Ops.rg rfl (by first | rfl | assumption | exact decide_eq_true (by assumption) | exact decide_eq_false (by assumption) | decide | (simp; done) | (simp; omega) | (simp [*]; done)) (Run.mv rfl) rfl ?_
  refine Ops.rg rfl (by first | rfl | assumption | exact decide_eq_true (by assumption) | exact decide_eq_false (by assumption) | decide | (simp; done) | (simp; omega) | (simp [*]; done)) (Run.bin rfl rfl (Bin.eqlN _ 0)) rfl ?_
  refine Ops.r (Run.pickT rfl rfl (by first | rfl | assumption | exact decide_eq_true (by assumption) | exact decide_eq_false (by assumption) | decide | (simp; done) | (simp; omega) | (simp [*]; done))) rfl ?_
  refine Ops.r (Run.mv rfl) rfl ?_
  refine Ops.rg rfl (by first | rfl | assumption | exact decide_eq_true (by assumption) | exact decide_eq_false (by assumption) | decide | (simp; done) | (simp; omega) | (simp [*]; done)) (Run.mv rfl) rfl ?_
  refine Ops.rg rfl (by first | rfl | assumption | exact decide_eq_true (by assumption) | exact decide_eq_false (by assumption) | decide | (simp; done) | (simp; omega) | (simp [*]; done)) (Run.bin rfl rfl (Bin.eqlN _ 1)) rfl ?_
  refine Ops.r (Run.pickT rfl rfl (by first | rfl | assumption | exact decide_eq_true (by assumption) | exact decide_eq_false (by assumption) | decide | (simp; done) | (simp; omega) | (simp [*]; done))) rfl ?_
  refine Ops.r (Run.mv rfl) rfl ?_
  refine Ops.rg rfl (by first | rfl | assumption | exact decide_eq_true (by assumption) | exact decide_eq_false (by assumption) | decide | (simp; done) | (simp; omega) | (simp [*]; done)) (Run.mv rfl) rfl ?_
  refine Ops.rg rfl (by first | rfl | assumption | exact decide_eq_true (by assumption) | exact decide_eq_false (by assumption) | decide | (simp; done) | (simp; omega) | (simp [*]; done)) (Run.bin rfl rfl (Bin.eqlN _ 3)) rfl ?_
  refine Ops.r (Run.pickT rfl rfl (by first | rfl | assumption | exact decide_eq_true (by assumption) | exact decide_eq_false (by assumption) | decide | (simp; done) | (simp; omega) | (simp [*]; done))) rfl ?_
  refine Ops.r (Run.mv rfl) rfl ?_
  refine Ops.rg rfl (by first | rfl | assumption | exact decide_eq_true (by assumption) | exact decide_eq_false (by assumption) | decide | (simp; done) | (simp; omega) | (simp [*]; done)) (Run.mv rfl) rfl ?_
  refine Ops.rg rfl (by first | rfl | assumption | exact decide_eq_true (by assumption) | exact decide_eq_false (by assumption) | decide | (simp; done) | (simp; omega) | (simp [*]; done)) (Run.bin rfl rfl (Bin.eqlN _ 0)) rfl ?_
  refine Ops.r (Run.pickT rfl rfl (by first | rfl | assumption | exact decide_eq_true (by assumption) | exact decide_eq_false (by assumption) | decide | (simp; done) | (simp; omega) | (simp [*]; done))) rfl ?_
  refine Ops.r (Run.mv rfl) rfl ?_
  refine Ops.r (Run.pickT rfl rfl (by first | rfl | assumption | exact decide_eq_true (by assumption) | exact decide_eq_false (by assumption) | decide | (simp; done) | (simp; omega) | (simp [*]; done))) rfl ?_
  refine Ops.r (Run.mv rfl) rfl ?_
  refine Ops.r (Run.pickT rfl rfl (by first | rfl | assumption | exact decide_eq_true (by assumption) | exact decide_eq_false (by assumption) | decide | (simp; done) | (simp; omega) | (simp [*]; done))) rfl ?_
  refine Ops.r (Run.asg rfl) rfl ?_
  refine Ops.nil ?_
  refine thenQ_n ?_
  refine VC.sub [(0, _)] (.cons rfl .nil) ?_
  refine VC.ret ?_
  refine end1 rfl ?_
  exact ⟨rfl, hfr16⟩

end Go.Proofs.Ytmfglifjnoilnaa
