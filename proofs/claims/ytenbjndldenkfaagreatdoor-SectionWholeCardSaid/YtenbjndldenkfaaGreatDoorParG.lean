/-
  The answers of layer 19: Find, Same.
-/
import Derived.Test.YtenbjndldenkfaaGreatDoorParF
namespace Go.Proofs.YtenbjndldenkfaaGreatDoor
open Go.RowKit Go.Sort

set_option maxRecDepth 100000 in
theorem rfind_spec (m : Med) (A : Option Addr) (c : Nat) (n : Tx) (w : World) (hl : Rd w 2 A m.ps.length (PC m.ps)) (hn : m.ps.length ≤ 1000000) :
    Calls Tryz.prog 109 #[.agg (MdC m A c), encStr n] w fun e w' => Frm [] w w' ∧ e = .returned (.tuple #[encStr (findQ m.ps n).1, .bool (findQ m.ps n).2]) := by
  refine VC.calls (nt := 28) (res := #[.tmp 4, .tmp 5]) Tryz.func109 rfl Tryz.ntmps109 Tryz.results109 rfl ?_
  refine VC.seq ?_
  refine VC.region ?_
  refine Ops.m (Does.box rfl) rfl ?_
  rintro _ w1 ⟨rfl, hF2⟩
  have hb2 : Blk w1 w.heap.size 67 (MdC m A c) := hF2.blk
  have hf2 := hF2.frm
  have hl := hl.frm hf2 (by simp)
  generalize hg2 : w.heap.size = g2 at hb2 ⊢
  refine Ops.r (Run.asg rfl) rfl ?_
  refine Ops.r (Run.asg rfl) rfl ?_
  refine Ops.nil ?_
  refine thenQ_n ?_
  refine VC.sub [(1, _), (2, _)] (.cons rfl (.cons rfl .nil)) ?_
  refine VC.seq ?_
  refine VC.seq ?_
  refine VC.region ?_
  refine Ops.r (v := .int .i64 ((0 : Nat) : Int)) (Run.asg rfl) rfl ?_
  refine Ops.nil ?_
  refine thenQ_n ?_
  refine VC.block ?_
  refine VC.loop (σ := Nat) (fun s => [(1, encStr n), (2, .pointer (some ⟨g2, 0, none⟩)), (6, .int .i64 ((s : Nat) : Int))]) (fun s wr => s ≤ m.ps.length ∧ (∀ p ∈ m.ps.take s, p.1 ≠ n) ∧ w1 = wr) (fun s => m.ps.length - s) 0 (.cons rfl (.cons rfl (.cons rfl .nil))) ⟨by omega, by simp, rfl⟩ ?_
  rintro i _ ⟨hi, hno, rfl⟩
  refine VC.seq ?_
  refine VC.seq ?_
  refine VC.region ?_
  refine Ops.r (Run.mv rfl) rfl ?_
  refine Ops.r (Run.fieldAddr rfl Tryz.underlying67 rfl Tryz.sizeOf65 (by decide)) rfl ?_
  refine Ops.r (Run.load rfl Tryz.isAgg65 (hb2.cell 2)) rfl ?_
  refine Ops.r (Run.lenS rfl Tryz.underlying65) rfl ?_
  refine Ops.r (Run.bin rfl rfl (Bin.lssN _ _)) rfl ?_
  refine Ops.nil ?_
  refine thenQ_n ?_
  refine VC.sub [(1, _), (2, _), (6, _), (11, _)] (.cons rfl (.cons rfl (.cons rfl (.cons rfl .nil)))) ?_
  refine VC.condD rfl (fun hc1 => ?_) (fun hc1 => ?_)
  · skip
    obtain ⟨ad, rfl, hcell⟩ := PC_at hl hc1
    have hts := take_snoc hc1
    refine VC.skip ?_
    refine thenQ_n ?_
    refine VC.sub [(1, _), (2, _), (6, _)] (.cons rfl (.cons rfl (.cons rfl .nil))) ?_
    refine VC.seq ?_
    refine VC.block ?_
    refine VC.seq ?_
    refine VC.region ?_
    refine Ops.r (Run.fieldAddr rfl Tryz.underlying67 rfl Tryz.sizeOf65 (by decide)) rfl ?_
    refine Ops.r (Run.load rfl Tryz.isAgg65 (hb2.cell 2)) rfl ?_
    refine Ops.r (Run.mv rfl) rfl ?_
    refine Ops.r (Run.indexS i rfl rfl Tryz.underlying65 Tryz.sizeOf102 hc1) rfl ?_
    refine Ops.r (Run.fieldAddr rfl Tryz.underlying102 rfl Tryz.sizeOf9 (by decide)) rfl ?_
    refine Ops.r (Run.load rfl Tryz.isAgg9 (by have := hcell 0 (encStr m.ps[i].1) rfl; simpa using this)) rfl ?_
    refine Ops.r (Run.mv rfl) rfl ?_
    refine Ops.r (Run.eqlT rfl rfl) rfl ?_
    refine Ops.nil ?_
    refine thenQ_n ?_
    refine VC.sub [(1, _), (2, _), (6, _), (21, _)] (.cons rfl (.cons rfl (.cons rfl (.cons rfl .nil)))) ?_
    refine VC.condD rfl (fun hc2 => ?_) (fun hc2 => ?_)
    · skip
      have hfq := findQ_at hc1 hno hc2
      refine VC.seq ?_
      refine VC.region ?_
      refine Ops.r (Run.fieldAddr rfl Tryz.underlying67 rfl Tryz.sizeOf65 (by decide)) rfl ?_
      refine Ops.r (Run.load rfl Tryz.isAgg65 (hb2.cell 2)) rfl ?_
      refine Ops.r (Run.mv rfl) rfl ?_
      refine Ops.r (Run.indexS i rfl rfl Tryz.underlying65 Tryz.sizeOf102 hc1) rfl ?_
      refine Ops.r (Run.fieldAddr rfl Tryz.underlying102 rfl Tryz.sizeOf9 (by decide)) rfl ?_
      refine Ops.r (Run.load rfl Tryz.isAgg9 (by have := hcell 1 (encStr m.ps[i].2) rfl; simpa using this)) rfl ?_
      refine Ops.r (Run.asg rfl) rfl ?_
      refine Ops.r (Run.asg rfl) rfl ?_
      refine Ops.nil ?_
      refine thenQ_n ?_
      refine VC.sub [(4, _), (5, _)] (.cons rfl (.cons rfl .nil)) ?_
      refine VC.ret ?_
      refine blockQ_r (thenQ_r (thenQ_r (blockQ_r (thenQ_r (end2 rfl rfl ?_)))))
      exact ⟨hf2, by rw [hfq]⟩
    · skip
      refine VC.skip ?_
      refine blockQ_n (thenQ_n ?_)
      refine VC.sub [(1, _), (2, _), (6, _)] (.cons rfl (.cons rfl (.cons rfl .nil))) ?_
      refine VC.region ?_
      refine Ops.r (Run.mv rfl) rfl ?_
      refine Ops.r (Run.bin rfl rfl (Bin.add_i64 _ 1 (by omega))) rfl ?_
      refine Ops.r (Run.asg rfl) rfl ?_
      refine Ops.nil ?_
      refine thenQ_n ⟨(i + 1), (.cons rfl (.cons rfl (.cons rfl .nil))), ?_, ?_⟩
      · skip
        refine ⟨hc1, fun y hy => ?_, rfl⟩
        rw [hts] at hy
        rcases List.mem_append.1 hy with h | h
        · exact hno y h
        · simp only [List.mem_singleton] at h; subst h; exact hc2
      · skip
        first | omega | (dsimp only; omega)
  · skip
    have hil : i = m.ps.length := by omega
    rw [hil, List.take_length] at hno
    have hfq := findQ_no hno
    refine VC.exit ?_
    refine thenQ_x (thenQ_x (blockQ_x ?_))
    refine thenQ_n ?_
    refine VC.sub [] .nil ?_
    refine VC.seq ?_
    refine VC.region ?_
    refine Ops.r (Run.asg rfl) rfl ?_
    refine Ops.r (Run.asg rfl) rfl ?_
    refine Ops.nil ?_
    refine thenQ_n ?_
    refine VC.ret ?_
    refine end2 rfl rfl ?_
    exact ⟨hf2, by rw [hfq]⟩

end Go.Proofs.YtenbjndldenkfaaGreatDoor
