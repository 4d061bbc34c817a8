/-
  The walks of limit: whether counts may be, what two packages are together.
-/
import Derived.Test.YtebaojedpnnliaaLimS
namespace Go.Proofs.Ytebaojedpnnliaa
open Go.RowKit

/-- Counts that may be. -/
def mayB (l : List Int) : Prop := l.length ≤ 320 ∧ ∀ x ∈ l, 0 ≤ x ∧ x ≤ 2147483647
instance (l : List Int) : Decidable (mayB l) := inferInstanceAs (Decidable (_ ∧ _))

set_option maxRecDepth 100000 in
theorem may_spec (A : Option Addr) (c0 : Nat) (l : List Int) (w : World) (hl : l.length ≤ 1000000000) (hr : Rd w 1 A l.length (IB l)) :
    Calls Try.prog 57 #[.slice A l.length c0] w fun e w' => e = .returned (.bool (decide (mayB l))) ∧ w = w' := by
  refine VC.calls (nt := 21) (res := #[.tmp 2]) Try.func57 rfl Try.ntmps57 Try.results57 rfl ?_
  refine VC.seq ?_
  refine VC.region ?_
  refine Ops.r (Run.asg rfl) rfl ?_
  refine Ops.nil ?_
  refine thenQ_n ?_
  refine VC.sub [(0, _)] (.cons rfl .nil) ?_
  refine VC.seq ?_
  refine VC.seq ?_
  refine VC.region ?_
  refine Ops.r (Run.mv rfl) rfl ?_
  refine Ops.r (Run.lenS rfl Try.underlying54) rfl ?_
  refine Ops.r (v := .int .i64 ((0 : Nat) : Int)) (Run.mv rfl) rfl ?_
  refine Ops.nil ?_
  refine thenQ_n ?_
  refine VC.block ?_
  refine VC.loop (σ := Nat) (fun s => [(0, .slice A l.length c0), (5, .slice A l.length c0), (6, .int .i64 ((l.length : Nat) : Int)), (7, .int .i64 s)]) (fun s wr => s ≤ l.length ∧ (∀ x ∈ l.take s, 0 ≤ x ∧ x ≤ 2147483647) ∧ w = wr) (fun s => l.length - s) 0 (.cons rfl (.cons rfl (.cons rfl (.cons rfl .nil)))) ⟨by omega, by simp, rfl⟩ ?_
  rintro i _ ⟨hi, hpre, rfl⟩
  refine VC.seq ?_
  refine VC.region ?_
  refine Ops.r (Run.bin rfl rfl (Bin.lssN _ _)) rfl ?_
  refine Ops.nil ?_
  refine thenQ_n ?_
  refine VC.seq ?_
  refine VC.condD rfl (fun hc1 => ?_) (fun hc1 => ?_)
  · skip
    obtain ⟨ad, rfl, hcell⟩ := IB_at hr hc1
    have htk : l.take (i + 1) = l.take i ++ [l[i]] := by rw [List.take_add_one, List.getElem?_eq_getElem hc1]; rfl
    generalize hx : l[i] = x at *
    refine VC.skip ?_
    refine thenQ_n ?_
    refine VC.sub [(0, _), (5, _), (6, _), (7, _)] (.cons rfl (.cons rfl (.cons rfl (.cons rfl .nil)))) ?_
    refine VC.seq ?_
    refine VC.block ?_
    refine VC.seq ?_
    refine VC.region ?_
    refine Ops.r (Run.index1 _ rfl rfl Try.underlying54 Try.sizeOf3 (by omega)) rfl ?_
    refine Ops.r (Run.load rfl Try.isAgg3 hcell) rfl ?_
    refine Ops.r (Run.asg rfl) rfl ?_
    refine Ops.nil ?_
    refine thenQ_n ?_
    refine VC.sub [(0, _), (4, _), (5, _), (6, _), (7, _)] (.cons rfl (.cons rfl (.cons rfl (.cons rfl (.cons rfl .nil))))) ?_
    refine VC.seq ?_
    refine VC.split1 [(0, _), (5, _), (6, _), (7, _)] (.cons rfl (.cons rfl (.cons rfl (.cons rfl .nil)))) 16 (.bool (decide (x < 0 ∨ 2147483647 < x))) ?_ ?_
    · by_cases hs0 : x < 0
      · skip
        refine VC.region ?_
        refine Ops.r (Run.mv rfl) rfl ?_
        refine Ops.r (Run.bin rfl rfl (Bin.lss _ 0)) rfl ?_
        refine Ops.r (Run.mv rfl) rfl ?_
        refine Ops.sk rfl (by first | rfl | assumption | decide | (simp; done) | (simp; omega) | (simp [*]; done)) rfl ?_
        refine Ops.sk rfl (by first | rfl | assumption | decide | (simp; done) | (simp; omega) | (simp [*]; done)) rfl ?_
        refine Ops.r (Run.pickT rfl rfl (by first | rfl | assumption | decide | (simp; done) | (simp; omega) | (simp [*]; done))) rfl ?_
        refine Ops.nil ?_
        refine thenQ_n ⟨(.cons (by rw [dor1 hs0]; rfl) (.cons rfl (.cons rfl (.cons rfl (.cons rfl .nil))))), rfl⟩
      · skip
        refine VC.region ?_
        refine Ops.r (Run.mv rfl) rfl ?_
        refine Ops.r (Run.bin rfl rfl (Bin.lss _ 0)) rfl ?_
        refine Ops.r (Run.mv rfl) rfl ?_
        refine Ops.rg rfl (by first | rfl | assumption | decide | (simp; done) | (simp; omega) | (simp [*]; done)) (Run.mv rfl) rfl ?_
        refine Ops.rg rfl (by first | rfl | assumption | decide | (simp; done) | (simp; omega) | (simp [*]; done)) (Run.bin rfl rfl (Bin.gtr _ 2147483647)) rfl ?_
        refine Ops.r (Run.pickF rfl rfl (by first | rfl | assumption | decide | (simp; done) | (simp; omega) | (simp [*]; done))) rfl ?_
        refine Ops.nil ?_
        refine thenQ_n ⟨(.cons (by rw [dor0 hs0]; rfl) (.cons rfl (.cons rfl (.cons rfl (.cons rfl .nil))))), rfl⟩
    · intro Γ hΓ
      refine thenQ_n (VC.sub _ hΓ ?_)
      refine VC.condD rfl (fun hc2 => ?_) (fun hc2 => ?_)
      · skip
        refine VC.seq ?_
        refine VC.region ?_
        refine Ops.r (Run.asg rfl) rfl ?_
        refine Ops.nil ?_
        refine thenQ_n ?_
        refine VC.sub [(2, _)] (.cons rfl .nil) ?_
        refine VC.ret ?_
        refine blockQ_r (thenQ_r (thenQ_r (blockQ_r (thenQ_r (end1 rfl ?_)))))
        refine ⟨?_, rfl⟩
        rw [decide_eq_false]
        intro h
        have := h.2 x (by rw [← hx]; exact List.getElem_mem hc1)
        omega
      · skip
        refine VC.skip ?_
        refine blockQ_n (thenQ_n ?_)
        refine VC.sub [(0, _), (5, _), (6, _), (7, _)] (.cons rfl (.cons rfl (.cons rfl (.cons rfl .nil)))) ?_
        refine VC.region ?_
        refine Ops.r (Run.bin rfl rfl (Bin.add_i64 _ 1 (by omega))) rfl ?_
        refine Ops.r (Run.mv rfl) rfl ?_
        refine Ops.nil ?_
        refine thenQ_n ⟨(i + 1), (.cons rfl (.cons rfl (.cons rfl (.cons rfl .nil)))), ?_, ?_⟩
        · skip
          refine ⟨hc1, ?_, rfl⟩
          rw [htk]
          intro y hy
          rcases List.mem_append.1 hy with h | h
          · exact hpre y h
          · simp at h; subst h; omega
        · skip
          first | omega | (dsimp only; omega)
  · skip
    have hil : i = l.length := by omega
    subst hil
    rw [List.take_length] at hpre
    refine VC.exit ?_
    refine thenQ_x (thenQ_x (blockQ_x ?_))
    refine thenQ_n ?_
    refine VC.sub [(0, _)] (.cons rfl .nil) ?_
    refine VC.seq ?_
    refine VC.region ?_
    refine Ops.r (Run.mv rfl) rfl ?_
    refine Ops.r (Run.lenS rfl Try.underlying54) rfl ?_
    refine Ops.r (Run.bin rfl rfl (Bin.leqN _ 320)) rfl ?_
    refine Ops.r (Run.asg rfl) rfl ?_
    refine Ops.nil ?_
    refine thenQ_n ?_
    refine VC.sub [(2, _)] (.cons rfl .nil) ?_
    refine VC.ret ?_
    refine end1 rfl ?_
    refine ⟨?_, rfl⟩
    congr 2
    rw [decide_eq_decide]
    exact ⟨fun h => ⟨h, hpre⟩, fun h => h.1⟩

set_option maxRecDepth 100000 in
theorem refMay_spec (A : Option Addr) (c0 : Nat) (l : List Int) (w : World) (hl : l.length ≤ 1000000000) (hr : Rd w 1 A l.length (IB l)) :
    Calls Try.prog 49 #[.slice A l.length c0] w fun e w' => e = .returned (.bool (decide (mayB l))) ∧ w = w' := by
  refine VC.calls (nt := 25) (res := #[.tmp 2]) Try.func49 rfl Try.ntmps49 Try.results49 rfl ?_
  refine VC.seq ?_
  refine VC.region ?_
  refine Ops.r (Run.asg rfl) rfl ?_
  refine Ops.nil ?_
  refine thenQ_n ?_
  refine VC.sub [(0, _)] (.cons rfl .nil) ?_
  refine VC.seq ?_
  refine VC.seq ?_
  refine VC.region ?_
  refine Ops.r (v := .int .i64 ((0 : Nat) : Int)) (Run.asg rfl) rfl ?_
  refine Ops.nil ?_
  refine thenQ_n ?_
  refine VC.block ?_
  refine VC.loop (σ := Nat) (fun s => [(0, .slice A l.length c0), (3, .int .i64 s)]) (fun s wr => s ≤ l.length ∧ (∀ x ∈ l.take s, 0 ≤ x ∧ x ≤ 2147483647) ∧ w = wr) (fun s => l.length - s) 0 (.cons rfl (.cons rfl .nil)) ⟨by omega, by simp, rfl⟩ ?_
  rintro i _ ⟨hi, hpre, rfl⟩
  refine VC.seq ?_
  refine VC.seq ?_
  refine VC.region ?_
  refine Ops.r (Run.mv rfl) rfl ?_
  refine Ops.r (Run.mv rfl) rfl ?_
  refine Ops.r (Run.lenS rfl Try.underlying54) rfl ?_
  refine Ops.r (Run.bin rfl rfl (Bin.lssN _ _)) rfl ?_
  refine Ops.nil ?_
  refine thenQ_n ?_
  refine VC.sub [(0, _), (3, _), (7, _)] (.cons rfl (.cons rfl (.cons rfl .nil))) ?_
  refine VC.condD rfl (fun hc1 => ?_) (fun hc1 => ?_)
  · skip
    obtain ⟨ad, rfl, hcell⟩ := IB_at hr hc1
    have htk : l.take (i + 1) = l.take i ++ [l[i]] := by rw [List.take_add_one, List.getElem?_eq_getElem hc1]; rfl
    generalize hx : l[i] = x at *
    refine VC.skip ?_
    refine thenQ_n ?_
    refine VC.sub [(0, _), (3, _)] (.cons rfl (.cons rfl .nil)) ?_
    refine VC.seq ?_
    refine VC.block ?_
    refine VC.seq ?_
    refine VC.split1 [(0, _), (3, _)] (.cons rfl (.cons rfl .nil)) 21 (.bool (decide (x < 0 ∨ 2147483647 < x))) ?_ ?_
    · by_cases hs0 : x < 0
      · skip
        refine VC.region ?_
        refine Ops.r (Run.mv rfl) rfl ?_
        refine Ops.r (Run.mv rfl) rfl ?_
        refine Ops.r (Run.index1 _ rfl rfl Try.underlying54 Try.sizeOf3 (by omega)) rfl ?_
        refine Ops.r (Run.load rfl Try.isAgg3 hcell) rfl ?_
        refine Ops.r (Run.bin rfl rfl (Bin.lss _ 0)) rfl ?_
        refine Ops.r (Run.mv rfl) rfl ?_
        refine Ops.sk rfl (by first | rfl | assumption | decide | (simp; done) | (simp; omega) | (simp [*]; done)) rfl ?_
        refine Ops.sk rfl (by first | rfl | assumption | decide | (simp; done) | (simp; omega) | (simp [*]; done)) rfl ?_
        refine Ops.sk rfl (by first | rfl | assumption | decide | (simp; done) | (simp; omega) | (simp [*]; done)) rfl ?_
        refine Ops.sk rfl (by first | rfl | assumption | decide | (simp; done) | (simp; omega) | (simp [*]; done)) rfl ?_
        refine Ops.sk rfl (by first | rfl | assumption | decide | (simp; done) | (simp; omega) | (simp [*]; done)) rfl ?_
        refine Ops.r (Run.pickT rfl rfl (by first | rfl | assumption | decide | (simp; done) | (simp; omega) | (simp [*]; done))) rfl ?_
        refine Ops.nil ?_
        refine thenQ_n ⟨(.cons (by rw [dor1 hs0]; rfl) (.cons rfl (.cons rfl .nil))), rfl⟩
      · skip
        refine VC.region ?_
        refine Ops.r (Run.mv rfl) rfl ?_
        refine Ops.r (Run.mv rfl) rfl ?_
        refine Ops.r (Run.index1 _ rfl rfl Try.underlying54 Try.sizeOf3 (by omega)) rfl ?_
        refine Ops.r (Run.load rfl Try.isAgg3 hcell) rfl ?_
        refine Ops.r (Run.bin rfl rfl (Bin.lss _ 0)) rfl ?_
        refine Ops.r (Run.mv rfl) rfl ?_
        refine Ops.rg rfl (by first | rfl | assumption | decide | (simp; done) | (simp; omega) | (simp [*]; done)) (Run.mv rfl) rfl ?_
        refine Ops.rg rfl (by first | rfl | assumption | decide | (simp; done) | (simp; omega) | (simp [*]; done)) (Run.mv rfl) rfl ?_
        refine Ops.rg rfl (by first | rfl | assumption | decide | (simp; done) | (simp; omega) | (simp [*]; done)) (Run.index1 _ rfl rfl Try.underlying54 Try.sizeOf3 (by omega)) rfl ?_
        refine Ops.rg rfl (by first | rfl | assumption | decide | (simp; done) | (simp; omega) | (simp [*]; done)) (Run.load rfl Try.isAgg3 hcell) rfl ?_
        refine Ops.rg rfl (by first | rfl | assumption | decide | (simp; done) | (simp; omega) | (simp [*]; done)) (Run.bin rfl rfl (Bin.gtr _ 2147483647)) rfl ?_
        refine Ops.r (Run.pickF rfl rfl (by first | rfl | assumption | decide | (simp; done) | (simp; omega) | (simp [*]; done))) rfl ?_
        refine Ops.nil ?_
        refine thenQ_n ⟨(.cons (by rw [dor0 hs0]; rfl) (.cons rfl (.cons rfl .nil))), rfl⟩
    · intro Γ hΓ
      refine thenQ_n (VC.sub _ hΓ ?_)
      refine VC.condD rfl (fun hc2 => ?_) (fun hc2 => ?_)
      · skip
        refine VC.seq ?_
        refine VC.region ?_
        refine Ops.r (Run.asg rfl) rfl ?_
        refine Ops.nil ?_
        refine thenQ_n ?_
        refine VC.sub [(2, _)] (.cons rfl .nil) ?_
        refine VC.ret ?_
        refine blockQ_r (thenQ_r (thenQ_r (blockQ_r (thenQ_r (end1 rfl ?_)))))
        refine ⟨?_, rfl⟩
        rw [decide_eq_false]
        intro h
        have := h.2 x (by rw [← hx]; exact List.getElem_mem hc1)
        omega
      · skip
        refine VC.skip ?_
        refine blockQ_n (thenQ_n ?_)
        refine VC.sub [(0, _), (3, _)] (.cons rfl (.cons rfl .nil)) ?_
        refine VC.region ?_
        refine Ops.r (Run.mv rfl) rfl ?_
        refine Ops.r (Run.bin rfl rfl (Bin.add_i64 _ 1 (by omega))) rfl ?_
        refine Ops.r (Run.asg rfl) rfl ?_
        refine Ops.nil ?_
        refine thenQ_n ⟨(i + 1), (.cons rfl (.cons rfl .nil)), ?_, ?_⟩
        · skip
          refine ⟨hc1, ?_, rfl⟩
          rw [htk]
          intro y hy
          rcases List.mem_append.1 hy with h | h
          · exact hpre y h
          · simp at h; subst h; omega
        · skip
          first | omega | (dsimp only; omega)
  · skip
    have hil : i = l.length := by omega
    subst hil
    rw [List.take_length] at hpre
    refine VC.exit ?_
    refine thenQ_x (thenQ_x (blockQ_x ?_))
    refine thenQ_n ?_
    refine VC.sub [(0, _)] (.cons rfl .nil) ?_
    refine VC.seq ?_
    refine VC.region ?_
    refine Ops.r (Run.mv rfl) rfl ?_
    refine Ops.r (Run.lenS rfl Try.underlying54) rfl ?_
    refine Ops.r (Run.bin rfl rfl (Bin.leqN _ 320)) rfl ?_
    refine Ops.r (Run.asg rfl) rfl ?_
    refine Ops.nil ?_
    refine thenQ_n ?_
    refine VC.sub [(2, _)] (.cons rfl .nil) ?_
    refine VC.ret ?_
    refine end1 rfl ?_
    refine ⟨?_, rfl⟩
    congr 2
    rw [decide_eq_decide]
    exact ⟨fun h => ⟨h, hpre⟩, fun h => h.1⟩

set_option maxRecDepth 100000 in
theorem both_spec (a b : PkC) (w : World) (ha : PkOk w a) (hb : PkOk w b) (hc : a.count + b.count ≤ 9223372036854775807) (hl : a.sy.length + b.sy.length ≤ 1000000) :
    Calls Try.prog 66 #[.agg a.cells.toArray, .agg b.cells.toArray] w fun e w' => ∃ A c, e = .returned (.agg (PkC.cells ⟨a.count + b.count, A, c, a.sy ++ b.sy⟩).toArray) ∧ PkOk w' ⟨a.count + b.count, A, c, a.sy ++ b.sy⟩ ∧ Frm [] w w' ∧ ∀ x ∈ ob A, w.heap.size ≤ x := by
  refine VC.calls (nt := 17) (res := #[.cell 4 100]) Try.func66 rfl Try.ntmps66 Try.results66 rfl ?_
  refine VC.seq ?_
  refine VC.region ?_
  refine Ops.m (Does.box rfl) rfl ?_
  rintro _ w1 ⟨rfl, hF1⟩
  have hb1 : Blk w1 w.heap.size 100 a.cells.toArray := hF1.blk
  refine Ops.m (Does.box rfl) rfl ?_
  rintro _ w2 ⟨rfl, hF2⟩
  have hb2 : Blk w2 w1.heap.size 100 b.cells.toArray := hF2.blk
  have hb12 := hb1.frm hF2.frm (by simp)
  refine Ops.m (Does.alloc zero100) rfl ?_
  rintro _ w3 ⟨rfl, hF3⟩
  have hb3 : Blk w3 w2.heap.size 100 PkC.zero.cells.toArray := hF3.blk
  have hb13 := hb12.frm hF3.frm (by simp)
  have hb23 := hb2.frm hF3.frm (by simp)
  have hfr3 := (hF1.frm.own hF2.frm (by simp)).own hF3.frm (by simp)
  have l1 := hb1.lt
  have l2 := hb2.lt
  have l3 := hF1.frm.size
  generalize hg1 : w.heap.size = g1 at hb13 l1 l3 ⊢
  generalize hg2 : w1.heap.size = g2 at *
  generalize hg3 : w2.heap.size = g3 at *
  refine Ops.nil ?_
  refine thenQ_n ?_
  refine VC.sub [(2, _), (3, _), (4, _)] (.cons rfl (.cons rfl (.cons rfl .nil))) ?_
  refine VC.seq ?_
  refine VC.held (fun v => Blk v g1 100 a.cells.toArray ∧ Blk v g2 100 b.cells.toArray) (by kernel_rfl) ?_
  have hS : (fun v => Blk v g1 100 a.cells.toArray ∧ Blk v g2 100 b.cells.toArray) w3.drew := ⟨hb13.drawn (Drawn.drew _), hb23.drawn (Drawn.drew _)⟩
  have hb3 := hb3.drawn (Drawn.drew _)
  have hfr3 := hfr3.drawn (Drawn.drew _)
  have ha3 := ha.frm hfr3 (by simp)
  have hbb3 := hb.frm hfr3 (by simp)
  refine HOps.take 0 rfl (by kernel_rfl) (by kernel_rfl) (by kernel_rfl) hS (fun w0 hw0 => Run.fieldAddr rfl Try.underlying100 rfl Try.sizeOf3 (by decide)) trivial rfl rfl ?_
  refine HOps.take 1 rfl (by kernel_rfl) (by kernel_rfl) (by kernel_rfl) hS (fun w0 hw0 => Run.load rfl Try.isAgg3 (hw0.1.cell 0)) trivial rfl rfl ?_
  refine HOps.take 2 rfl (by kernel_rfl) (by kernel_rfl) (by kernel_rfl) hS (fun w0 hw0 => Run.fieldAddr rfl Try.underlying100 rfl Try.sizeOf3 (by decide)) trivial rfl rfl ?_
  refine HOps.take 3 rfl (by kernel_rfl) (by kernel_rfl) (by kernel_rfl) hS (fun w0 hw0 => Run.load rfl Try.isAgg3 (hw0.2.cell 0)) trivial rfl rfl ?_
  refine HOps.take 4 rfl (by kernel_rfl) (by kernel_rfl) (by kernel_rfl) hS (fun w0 hw0 => Run.bin rfl rfl (Bin.add_i64 _ _ (by omega))) trivial rfl rfl ?_
  refine HOps.take 5 rfl (by kernel_rfl) (by kernel_rfl) (by kernel_rfl) hS (fun w0 hw0 => Run.fieldAddr rfl Try.underlying100 rfl Try.sizeOf54 (by decide)) trivial rfl rfl ?_
  refine HOps.take 6 rfl (by kernel_rfl) (by kernel_rfl) (by kernel_rfl) hS (fun w0 hw0 => Run.load rfl Try.isAgg54 (hw0.1.cell 1)) trivial rfl rfl ?_
  refine HOps.take 8 rfl (by kernel_rfl) (by kernel_rfl) (by kernel_rfl) hS (fun w0 hw0 => Run.fieldAddr rfl Try.underlying100 rfl Try.sizeOf54 (by decide)) trivial rfl rfl ?_
  refine HOps.take 9 rfl (by kernel_rfl) (by kernel_rfl) (by kernel_rfl) hS (fun w0 hw0 => Run.load rfl Try.isAgg54 (hw0.2.cell 1)) trivial rfl rfl ?_
  refine HOps.m 7 rfl (by kernel_rfl) (Does.app rfl rfl Try.underlying54 (info3) rfl (by decide) (Own.nil _ _ _) ha3.rd (NI_one _) (by omega) (by omega)) trivial rfl rfl ?_
  rintro _ w4 ⟨A4, c4, rfl, ho4, hf4, hob4⟩
  have hS : (fun v => Blk v g1 100 a.cells.toArray ∧ Blk v g2 100 b.cells.toArray) w4 := ⟨hS.1.frm hf4 (by simp [ob]), hS.2.frm hf4 (by simp [ob])⟩
  refine ⟨hS, ?_⟩
  have hb4 := hb3.frm hf4 (by simp [ob])
  have hbb4 : Own w4 3 1 b.A b.sy.length b.c (NI b.sy) := hbb3.frm hf4 (by simp [ob])
  have hfr4 := hfr3.own hf4 (by simp [ob])
  have hu4 : ∀ x ∈ ob A4, w.heap.size ≤ x := up_app up_nil hob4 hfr3.size
  refine HOps.m 10 rfl (by kernel_rfl) (Does.app rfl rfl Try.underlying54 (info3) rfl (by decide) ho4 hbb4.rd (NI_one _) (by omega) (by omega)) trivial rfl rfl ?_
  rintro _ w5 ⟨A5, c5, rfl, ho5, hf5, hob5⟩
  have hS : (fun v => Blk v g1 100 a.cells.toArray ∧ Blk v g2 100 b.cells.toArray) w5 := ⟨hS.1.frm hf5 (ho4.ne_blk hS.1 (by decide)), hS.2.frm hf5 (ho4.ne_blk hS.2 (by decide))⟩
  refine ⟨hS, ?_⟩
  have hb5 := hb4.frm hf5 (ho4.ne_blk hb4 (by decide))
  have hfr5 := hfr4.own hf5 hu4
  have hu5 := up_app hu4 hob5 hfr4.size
  have hl5 : 0 + a.sy.length + b.sy.length = (a.sy ++ b.sy).length := by rw [List.length_append]; omega
  rw [hl5] at ho5 ⊢
  rw [List.nil_append, ← NI_append] at ho5
  refine HOps.take 11 rfl (by kernel_rfl) (by kernel_rfl) (by kernel_rfl) hS (fun w0 hw0 => Run.build (evs.cons rfl (evs.cons rfl evs.nil)) zero100 (places100).choose_spec.1 (places100).choose_spec.2 (cells := (PkC.cells ⟨a.count + b.count, A5, c5, a.sy ++ b.sy⟩).toArray) rfl) trivial rfl rfl ?_
  refine HOps.st 12 rfl (by kernel_rfl) (Acts.storeA rfl rfl Try.sizeOf100 hb5 rfl (PkC.one _)) trivial rfl ?_
  rintro w6 ⟨hb6, hf6, hs6⟩
  refine ⟨⟨hS.1.frm hf6 (by simp; omega), hS.2.frm hf6 (by simp; omega)⟩, ?_⟩
  refine HOps.done (by kernel_rfl) ?_
  refine thenQ_n ?_
  refine VC.sub [(4, _)] (.cons rfl .nil) ?_
  refine VC.ret ?_
  refine endR ?_
  refine res_cellA rfl Try.isAgg100 Try.sizeOf100 (hb6.cells) (by first | rfl | (simp; done)) ?_
  refine res_nil ?_
  exact ⟨A5, c5, rfl, PkOk.frm (p := ⟨a.count + b.count, A5, c5, a.sy ++ b.sy⟩) ho5 hf6 (fun x hx hx2 => by simp at hx2; subst hx2; exact ho5.ne_blk hb5 (by decide) hx), by subst hg1; exact hfr5.own hf6 (by simp; omega), by rw [← hg1]; exact hu5⟩

end Go.Proofs.Ytebaojedpnnliaa
