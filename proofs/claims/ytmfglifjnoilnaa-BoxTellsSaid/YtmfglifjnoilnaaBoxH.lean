/-
  The laws of box: what they ask of answers; the chapter's examples.
-/
import Derived.Test.YtmfglifjnoilnaaBoxF
namespace Go.Proofs.Ytmfglifjnoilnaa
open Go.RowKit Go.Sort

set_option maxRecDepth 100000 in
theorem sameI_spec (A B : Option Addr) (c d : Nat) (xs ys : List Int) (w : World) (hx : Rd w 1 A xs.length (IB xs)) (hy : Rd w 1 B ys.length (IB ys)) (h1 : xs.length ≤ 1000000) (h2 : ys.length ≤ 1000000) :
    Calls Try.prog 16 #[.slice A xs.length c, .slice B ys.length d] w fun e w' => e = .returned (.bool (decide (xs = ys))) ∧ Frm [] w w' := by
  refine VC.calls (nt := 26) (res := #[.tmp 4]) Try.func16 rfl Try.ntmps16 Try.results16 rfl ?_
  refine VC.seq ?_
  refine VC.region ?_
  refine Ops.r (Run.asg rfl) rfl ?_
  refine Ops.nil ?_
  refine thenQ_n ?_
  refine VC.sub [(0, _), (1, _)] (.cons rfl (.cons rfl .nil)) ?_
  refine VC.seq ?_
  refine VC.seq ?_
  refine VC.region ?_
  refine Ops.r (Run.mv rfl) rfl ?_
  refine Ops.r (Run.lenS rfl Try.underlying25) rfl ?_
  refine Ops.r (Run.mv rfl) rfl ?_
  refine Ops.r (Run.lenS rfl Try.underlying25) rfl ?_
  refine Ops.r (Run.bin rfl rfl (Bin.neqN _ _)) rfl ?_
  refine Ops.nil ?_
  refine thenQ_n ?_
  refine VC.sub [(0, _), (1, _), (10, _)] (.cons rfl (.cons rfl (.cons rfl .nil))) ?_
  refine VC.condD rfl (fun hc1 => ?_) (fun hc1 => ?_)
  · skip
    refine VC.seq ?_
    refine VC.region ?_
    refine Ops.r (Run.asg rfl) rfl ?_
    refine Ops.nil ?_
    refine thenQ_n ?_
    refine VC.sub [(4, _)] (.cons rfl .nil) ?_
    refine VC.ret ?_
    refine thenQ_r (end1 rfl ?_)
    exact ⟨by rw [decide_eq_false (fun h => hc1 (congrArg List.length h))], Frm.refl _ _⟩
  · skip
    have hll : xs.length = ys.length := Classical.not_not.1 hc1
    refine VC.skip ?_
    refine thenQ_n ?_
    refine VC.sub [(0, _), (1, _)] (.cons rfl (.cons rfl .nil)) ?_
    refine VC.seq ?_
    refine VC.seq ?_
    refine VC.region ?_
    refine Ops.r (v := .int .i64 ((0 : Nat) : Int)) (Run.asg rfl) rfl ?_
    refine Ops.nil ?_
    refine thenQ_n ?_
    refine VC.block ?_
    refine VC.loop (σ := Nat) (fun s => [(0, .slice A xs.length c), (1, .slice B ys.length d), (5, .int .i64 ((s : Nat) : Int))]) (fun s wr => s ≤ xs.length ∧ Frm [] w wr ∧ xs.take s = ys.take s) (fun s => xs.length - s) 0 (.cons rfl (.cons rfl (.cons rfl .nil))) ⟨by omega, Frm.refl _ _, by simp⟩ ?_
    rintro i wr ⟨hi, hfr, hs⟩
    refine VC.seq ?_
    refine VC.seq ?_
    refine VC.region ?_
    refine Ops.r (Run.mv rfl) rfl ?_
    refine Ops.r (Run.mv rfl) rfl ?_
    refine Ops.r (Run.lenS rfl Try.underlying25) rfl ?_
    refine Ops.r (Run.bin rfl rfl (Bin.lssN _ _)) rfl ?_
    refine Ops.nil ?_
    refine thenQ_n ?_
    refine VC.sub [(0, _), (1, _), (5, _), (14, _)] (.cons rfl (.cons rfl (.cons rfl (.cons rfl .nil)))) ?_
    refine VC.condD rfl (fun hc2 => ?_) (fun hc2 => ?_)
    · skip
      have hc2' : i < ys.length := by omega
      obtain ⟨ad, u, rfl, hu, hcell⟩ := (hx.frm hfr (by simp)).at1 hc2
      have hu2 : u = .int .i64 xs[i] := by simpa [IB, List.getElem?_eq_getElem hc2] using hu.symm
      subst hu2
      obtain ⟨ad2, u2, rfl, hv, hcell2⟩ := (hy.frm hfr (by simp)).at1 hc2'
      have hv2 : u2 = .int .i64 ys[i] := by simpa [IB, List.getElem?_eq_getElem hc2'] using hv.symm
      subst hv2
      refine VC.skip ?_
      refine thenQ_n ?_
      refine VC.sub [(0, _), (1, _), (5, _)] (.cons rfl (.cons rfl (.cons rfl .nil))) ?_
      refine VC.seq ?_
      refine VC.block ?_
      refine VC.seq ?_
      refine VC.still (by kernel_rfl) (by kernel_rfl) ?_
      refine SOps.r (Run.mv rfl) rfl ?_
      refine SOps.r (Run.mv rfl) rfl ?_
      refine SOps.r (Run.index1 i rfl rfl Try.underlying25 Try.sizeOf3 hc2) rfl ?_
      refine SOps.r (Run.load rfl Try.isAgg3 hcell) rfl ?_
      refine SOps.r (Run.mv rfl) rfl ?_
      refine SOps.r (Run.mv rfl) rfl ?_
      refine SOps.r (Run.index1 i rfl rfl Try.underlying25 Try.sizeOf3 hc2') rfl ?_
      refine SOps.r (Run.load rfl Try.isAgg3 hcell2) rfl ?_
      refine SOps.r (Run.bin rfl rfl (Bin.neq _ _)) rfl ?_
      refine SOps.nil ?_
      refine thenQ_n ?_
      refine VC.sub [(0, _), (1, _), (5, _), (25, _)] (.cons rfl (.cons rfl (.cons rfl (.cons rfl .nil)))) ?_
      refine VC.condD rfl (fun hc3 => ?_) (fun hc3 => ?_)
      · skip
        refine VC.seq ?_
        refine VC.region ?_
        refine Ops.r (Run.asg rfl) rfl ?_
        refine Ops.nil ?_
        refine thenQ_n ?_
        refine VC.sub [(4, _)] (.cons rfl .nil) ?_
        refine VC.ret ?_
        refine blockQ_r (thenQ_r (thenQ_r (blockQ_r (thenQ_r (end1 rfl ?_)))))
        refine ⟨?_, hfr.drew⟩
        rw [decide_eq_false]
        intro h
        exact hc3 (by simp only [h])
      · skip
        refine VC.skip ?_
        refine blockQ_n (thenQ_n ?_)
        refine VC.sub [(0, _), (1, _), (5, _)] (.cons rfl (.cons rfl (.cons rfl .nil))) ?_
        refine VC.region ?_
        refine Ops.r (Run.mv rfl) rfl ?_
        refine Ops.r (Run.bin rfl rfl (Bin.add_i64 _ 1 (by omega))) rfl ?_
        refine Ops.r (Run.asg rfl) rfl ?_
        refine Ops.nil ?_
        refine thenQ_n ⟨(i + 1), (.cons rfl (.cons rfl (.cons rfl .nil))), ?_, ?_⟩
        · skip
          have hxy : xs[i] = ys[i] := Classical.not_not.1 hc3
          refine ⟨hc2, hfr.drew, ?_⟩
          rw [List.take_add_one, List.take_add_one, hs, List.getElem?_eq_getElem hc2, List.getElem?_eq_getElem hc2', hxy]
        · skip
          first | omega | (dsimp only; omega)
    · skip
      refine VC.exit ?_
      refine thenQ_x (thenQ_x (blockQ_x ?_))
      refine thenQ_n ?_
      refine VC.sub [] .nil ?_
      refine VC.seq ?_
      refine VC.region ?_
      refine Ops.r (Run.asg rfl) rfl ?_
      refine Ops.nil ?_
      refine thenQ_n ?_
      refine VC.ret ?_
      refine end1 rfl ?_
      refine ⟨?_, hfr⟩
      have hil : i = xs.length := by omega
      subst hil
      rw [List.take_length, hll, List.take_length] at hs
      rw [decide_eq_true hs]

set_option maxRecDepth 100000 in
theorem none_spec (v n : Int) (A : Option Addr) (c : Nat) (l : List Mc) (w : World) (hl : RdM w A l) (hn : l.length ≤ 1000000) : Calls Try.prog 12 #[.agg #[.int .i64 v, .int .i64 n, .slice A l.length c]] w fun e w' => e = .returned (.bool (decide (v = 0 ∧ n = 0 ∧ Ms l = []))) ∧ Frm [] w w' := by
  refine VC.calls (nt := 6) (res := #[.tmp 2]) Try.func12 rfl Try.ntmps12 Try.results12 rfl ?_
  refine VC.seq ?_
  refine VC.region ?_
  refine Ops.m (Does.box rfl) rfl ?_
  rintro _ w1 ⟨rfl, hF1⟩
  have hb1 := hF1.blk
  have hf1 := hF1.frm
  have hs1 : w.heap.size ≤ w.heap.size := Nat.le_refl _
  generalize hg1 : w.heap.size = g1 at hb1 ⊢
  refine Ops.r (Run.asg rfl) rfl ?_
  refine Ops.nil ?_
  refine thenQ_n ?_
  refine VC.sub [(1, _)] (.cons rfl .nil) ?_
  refine VC.seq ?_
  refine VC.region ?_
  refine Ops.r (Run.loadA rfl Try.isAgg24 Try.sizeOf24 (fun j v hj => hb1.cells j v hj) (by first | rfl | (simp; done))) rfl ?_
  refine Ops.r (Run.build evs.nil zero24 (places24).choose_spec.1 (places24).choose_spec.2 rfl) rfl ?_
  refine Ops.cl (Enters.fn (evs.cons rfl (evs.cons rfl evs.nil)) Try.call15) (rsameB_spec v n 0 0 A none c 0 l [] _ (hl.frm hf1) (RdM.nil _ _) hn (by decide)) rfl ?_
  rintro e w2 ⟨rfl, hf2⟩
  refine ⟨_, rfl, ?_⟩
  refine Ops.r (Run.asg rfl) rfl ?_
  refine Ops.nil ?_
  refine thenQ_n ?_
  refine VC.sub [(2, _)] (.cons rfl .nil) ?_
  refine VC.ret ?_
  refine end1 rfl ?_
  exact ⟨rfl, hf1.trans hf2 (by simp)⟩

theorem checkF_nil : checkF [] := checkF_iff.2 ⟨List.Pairwise.nil, by simp, by simp⟩
theorem IsBx.is {w' : World} {F : Except Nat BoxV} {v n : Int} {B : Option Addr} {d : Nat} {l : List Mc} {k : Nat} {b : BoxV} (h : IsBx w' F v n B d l k) (hF : F = .ok b) : k = 0 ∧ v = b.valid ∧ n = b.next ∧ Ms l = b.l ∧ RdM w' B l := by
  rcases h with ⟨h0, ⟨h1, h2⟩ | ⟨_, h2, _⟩⟩
  · rw [hF] at h2
    injection h2 with h2
    subst h2
    exact ⟨h1, rfl, rfl, rfl, h0⟩
  · rw [hF] at h2
    cases h2

end Go.Proofs.Ytmfglifjnoilnaa
