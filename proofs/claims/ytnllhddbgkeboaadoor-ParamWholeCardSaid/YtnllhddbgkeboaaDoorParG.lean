/-
  The answers of layer 19: Find, Same.
-/
import Derived.Test.YtnllhddbgkeboaaDoorParF
namespace Go.Proofs.YtnllhddbgkeboaaDoor
open Go.RowKit Go.Sort

set_option maxRecDepth 100000 in
theorem rfind_spec (m : Med) (A : Option Addr) (c : Nat) (n : Tx) (w : World) (hl : Rd w 2 A m.ps.length (PC m.ps)) (hn : m.ps.length ≤ 1000000) :
    Calls Tryd.prog 19 #[.agg (MdC m A c), encStr n] w fun e w' => Frm [] w w' ∧ e = .returned (.tuple #[encStr (findQ m.ps n).1, .bool (findQ m.ps n).2]) := by
  refine VC.calls (nt := 28) (res := #[.tmp 4, .tmp 5]) Tryd.func19 rfl Tryd.ntmps19 Tryd.results19 rfl ?_
  refine VC.seq ?_
  refine VC.region ?_
  refine Ops.m (Does.box rfl) rfl ?_
  rintro _ w1 ⟨rfl, hF2⟩
  have hb2 : Blk w1 w.heap.size 26 (MdC m A c) := hF2.blk
  have hf2 := hF2.frm
  have hl := hl.frm hf2 (by simp)
  generalize hg2 : w.heap.size = g2 at hb2 ⊢
  refine Ops.r (Run.asg rfl) rfl ?_
  refine Ops.r (Run.asg rfl) rfl ?_
  refine Ops.nil ?_
  refine thenQ_n ?_
  refine VC.sub [(1, _), (2, _)] (.cons rfl (.cons rfl .nil)) ?_
  refine VC.seq ?_
  refine VC.seq ?_
  refine VC.region ?_
  refine Ops.r (v := .int .i64 ((0 : Nat) : Int)) (Run.asg rfl) rfl ?_
  refine Ops.nil ?_
  refine thenQ_n ?_
  refine VC.block ?_
  refine VC.loop (σ := Nat) (fun s => [(1, encStr n), (2, .pointer (some ⟨g2, 0, none⟩)), (6, .int .i64 ((s : Nat) : Int))]) (fun s wr => s ≤ m.ps.length ∧ (∀ p ∈ m.ps.take s, p.1 ≠ n) ∧ w1 = wr) (fun s => m.ps.length - s) 0 (.cons rfl (.cons rfl (.cons rfl .nil))) ⟨by omega, by simp, rfl⟩ ?_
  rintro i _ ⟨hi, hno, rfl⟩
  refine VC.seq ?_
  refine VC.seq ?_
  refine VC.region ?_
  refine Ops.r (Run.mv rfl) rfl ?_
  refine Ops.r (Run.fieldAddr rfl Tryd.underlying26 rfl Tryd.sizeOf24 (by decide)) rfl ?_
  refine Ops.r (Run.load rfl Tryd.isAgg24 (hb2.cell 2)) rfl ?_
  refine Ops.r (Run.lenS rfl Tryd.underlying24) rfl ?_
  refine Ops.r (Run.bin rfl rfl (Bin.lssN _ _)) rfl ?_
  refine Ops.nil ?_
  refine thenQ_n ?_
  refine VC.sub [(1, _), (2, _), (6, _), (11, _)] (.cons rfl (.cons rfl (.cons rfl (.cons rfl .nil)))) ?_
  refine VC.condD rfl (fun hc1 => ?_) (fun hc1 => ?_)
  · skip
    obtain ⟨ad, rfl, hcell⟩ := PC_at hl hc1
    have hts := take_snoc hc1
    refine VC.skip ?_
    refine thenQ_n ?_
    refine VC.sub [(1, _), (2, _), (6, _)] (.cons rfl (.cons rfl (.cons rfl .nil))) ?_
    refine VC.seq ?_
    refine VC.block ?_
    refine VC.seq ?_
    refine VC.region ?_
    refine Ops.r (Run.fieldAddr rfl Tryd.underlying26 rfl Tryd.sizeOf24 (by decide)) rfl ?_
    refine Ops.r (Run.load rfl Tryd.isAgg24 (hb2.cell 2)) rfl ?_
    refine Ops.r (Run.mv rfl) rfl ?_
    refine Ops.r (Run.indexS i rfl rfl Tryd.underlying24 Tryd.sizeOf36 hc1) rfl ?_
    refine Ops.r (Run.fieldAddr rfl Tryd.underlying36 rfl Tryd.sizeOf9 (by decide)) rfl ?_
    refine Ops.r (Run.load rfl Tryd.isAgg9 (by have := hcell 0 (encStr m.ps[i].1) rfl; simpa using this)) rfl ?_
    refine Ops.r (Run.mv rfl) rfl ?_
    refine Ops.r (Run.eqlT rfl rfl) rfl ?_
    refine Ops.nil ?_
    refine thenQ_n ?_
    refine VC.sub [(1, _), (2, _), (6, _), (21, _)] (.cons rfl (.cons rfl (.cons rfl (.cons rfl .nil)))) ?_
    refine VC.condD rfl (fun hc2 => ?_) (fun hc2 => ?_)
    · skip
      have hfq := findQ_at hc1 hno hc2
      refine VC.seq ?_
      refine VC.region ?_
      refine Ops.r (Run.fieldAddr rfl Tryd.underlying26 rfl Tryd.sizeOf24 (by decide)) rfl ?_
      refine Ops.r (Run.load rfl Tryd.isAgg24 (hb2.cell 2)) rfl ?_
      refine Ops.r (Run.mv rfl) rfl ?_
      refine Ops.r (Run.indexS i rfl rfl Tryd.underlying24 Tryd.sizeOf36 hc1) rfl ?_
      refine Ops.r (Run.fieldAddr rfl Tryd.underlying36 rfl Tryd.sizeOf9 (by decide)) rfl ?_
      refine Ops.r (Run.load rfl Tryd.isAgg9 (by have := hcell 1 (encStr m.ps[i].2) rfl; simpa using this)) rfl ?_
      refine Ops.r (Run.asg rfl) rfl ?_
      refine Ops.r (Run.asg rfl) rfl ?_
      refine Ops.nil ?_
      refine thenQ_n ?_
      refine VC.sub [(4, _), (5, _)] (.cons rfl (.cons rfl .nil)) ?_
      refine VC.ret ?_
      refine blockQ_r (thenQ_r (thenQ_r (blockQ_r (thenQ_r (end2 rfl rfl ?_)))))
      exact ⟨hf2, by rw [hfq]⟩
    · skip
      refine VC.skip ?_
      refine blockQ_n (thenQ_n ?_)
      refine VC.sub [(1, _), (2, _), (6, _)] (.cons rfl (.cons rfl (.cons rfl .nil))) ?_
      refine VC.region ?_
      refine Ops.r (Run.mv rfl) rfl ?_
      refine Ops.r (Run.bin rfl rfl (Bin.add_i64 _ 1 (by omega))) rfl ?_
      refine Ops.r (Run.asg rfl) rfl ?_
      refine Ops.nil ?_
      refine thenQ_n ⟨(i + 1), (.cons rfl (.cons rfl (.cons rfl .nil))), ?_, ?_⟩
      · skip
        refine ⟨hc1, fun y hy => ?_, rfl⟩
        rw [hts] at hy
        rcases List.mem_append.1 hy with h | h
        · exact hno y h
        · simp only [List.mem_singleton] at h; subst h; exact hc2
      · skip
        first | omega | (dsimp only; omega)
  · skip
    have hil : i = m.ps.length := by omega
    rw [hil, List.take_length] at hno
    have hfq := findQ_no hno
    refine VC.exit ?_
    refine thenQ_x (thenQ_x (blockQ_x ?_))
    refine thenQ_n ?_
    refine VC.sub [] .nil ?_
    refine VC.seq ?_
    refine VC.region ?_
    refine Ops.r (Run.asg rfl) rfl ?_
    refine Ops.r (Run.asg rfl) rfl ?_
    refine Ops.nil ?_
    refine thenQ_n ?_
    refine VC.ret ?_
    refine end2 rfl rfl ?_
    exact ⟨hf2, by rw [hfq]⟩

set_option maxRecDepth 100000 in
theorem rsame_spec (m k : Med) (A B : Option Addr) (c d : Nat) (w : World) (hl : Rd w 2 A m.ps.length (PC m.ps)) (hk : Rd w 2 B k.ps.length (PC k.ps)) (hn : m.ps.length ≤ 1000000) (hm : k.ps.length ≤ 1000000) :
    Calls Tryd.prog 12 #[.agg (MdC m A c), .agg (MdC k B d)] w fun e w' => e = .returned (.bool (sameQ m k)) ∧ Frm [] w w' := by
  refine VC.calls (nt := 45) (res := #[.tmp 4]) Tryd.func12 rfl Tryd.ntmps12 Tryd.results12 rfl ?_
  refine VC.seq ?_
  refine VC.region ?_
  refine Ops.m (Does.box rfl) rfl ?_
  rintro _ w1 ⟨rfl, hF2⟩
  have hb2 : Blk w1 w.heap.size 26 (MdC m A c) := hF2.blk
  have hf2 := hF2.frm
  have hl := hl.frm hf2 (by simp)
  have hk := hk.frm hf2 (by simp)
  generalize hg2 : w.heap.size = g2 at hb2 ⊢
  refine Ops.m (Does.box rfl) rfl ?_
  rintro _ w2 ⟨rfl, hF3⟩
  have hb3 : Blk w2 w1.heap.size 26 (MdC k B d) := hF3.blk
  have hf3 := hF3.frm
  have hl := hl.frm hf3 (by simp)
  have hk := hk.frm hf3 (by simp)
  have hb2 := hb2.frm hf3 (by simp)
  generalize hg3 : w1.heap.size = g3 at hb3 ⊢
  have K := hf2.trans hf3 (by simp)
  refine Ops.r (Run.asg rfl) rfl ?_
  refine Ops.nil ?_
  refine thenQ_n ?_
  refine VC.sub [(2, _), (3, _)] (.cons rfl (.cons rfl .nil)) ?_
  refine VC.seq ?_
  refine VC.seq ?_
  refine VC.split1 [(2, _), (3, _)] (.cons rfl (.cons rfl .nil)) 26 (.bool (decide (¬ (m.ty = k.ty ∧ m.sub = k.sub ∧ m.ps.length = k.ps.length)))) ?_ ?_
  · refine VC.region ?_
    refine Ops.r (Run.fieldAddr rfl Tryd.underlying26 rfl Tryd.sizeOf9 (by decide)) rfl ?_
    refine Ops.r (Run.load rfl Tryd.isAgg9 (hb2.cell 0)) rfl ?_
    refine Ops.r (Run.fieldAddr rfl Tryd.underlying26 rfl Tryd.sizeOf9 (by decide)) rfl ?_
    refine Ops.r (Run.load rfl Tryd.isAgg9 (hb3.cell 0)) rfl ?_
    refine Ops.r (Run.neqT rfl rfl) rfl ?_
    by_cases hs10 : m.ty ≠ k.ty
    · skip
      refine Ops.r (Run.mv rfl) rfl ?_
      refine Ops.sk rfl (by first | rfl | assumption | exact decide_eq_true (by assumption) | exact decide_eq_false (by assumption) | decide | (simp; done) | (simp; omega) | (simp [*]; done)) rfl ?_
      refine Ops.sk rfl (by first | rfl | assumption | exact decide_eq_true (by assumption) | exact decide_eq_false (by assumption) | decide | (simp; done) | (simp; omega) | (simp [*]; done)) rfl ?_
      refine Ops.sk rfl (by first | rfl | assumption | exact decide_eq_true (by assumption) | exact decide_eq_false (by assumption) | decide | (simp; done) | (simp; omega) | (simp [*]; done)) rfl ?_
      refine Ops.sk rfl (by first | rfl | assumption | exact decide_eq_true (by assumption) | exact decide_eq_false (by assumption) | decide | (simp; done) | (simp; omega) | (simp [*]; done)) rfl ?_
      refine Ops.sk rfl (by first | rfl | assumption | exact decide_eq_true (by assumption) | exact decide_eq_false (by assumption) | decide | (simp; done) | (simp; omega) | (simp [*]; done)) rfl ?_
      refine Ops.r (Run.pickT rfl rfl (by first | rfl | assumption | exact decide_eq_true (by assumption) | exact decide_eq_false (by assumption) | decide | (simp; done) | (simp; omega) | (simp [*]; done))) rfl ?_
      refine Ops.r (Run.mv rfl) rfl ?_
      refine Ops.sk rfl (by first | rfl | assumption | exact decide_eq_true (by assumption) | exact decide_eq_false (by assumption) | decide | (simp; done) | (simp; omega) | (simp [*]; done)) rfl ?_
      refine Ops.sk rfl (by first | rfl | assumption | exact decide_eq_true (by assumption) | exact decide_eq_false (by assumption) | decide | (simp; done) | (simp; omega) | (simp [*]; done)) rfl ?_
      refine Ops.sk rfl (by first | rfl | assumption | exact decide_eq_true (by assumption) | exact decide_eq_false (by assumption) | decide | (simp; done) | (simp; omega) | (simp [*]; done)) rfl ?_
      refine Ops.sk rfl (by first | rfl | assumption | exact decide_eq_true (by assumption) | exact decide_eq_false (by assumption) | decide | (simp; done) | (simp; omega) | (simp [*]; done)) rfl ?_
      refine Ops.sk rfl (by first | rfl | assumption | exact decide_eq_true (by assumption) | exact decide_eq_false (by assumption) | decide | (simp; done) | (simp; omega) | (simp [*]; done)) rfl ?_
      refine Ops.sk rfl (by first | rfl | assumption | exact decide_eq_true (by assumption) | exact decide_eq_false (by assumption) | decide | (simp; done) | (simp; omega) | (simp [*]; done)) rfl ?_
      refine Ops.sk rfl (by first | rfl | assumption | exact decide_eq_true (by assumption) | exact decide_eq_false (by assumption) | decide | (simp; done) | (simp; omega) | (simp [*]; done)) rfl ?_
      refine Ops.r (Run.pickT rfl rfl (by first | rfl | assumption | exact decide_eq_true (by assumption) | exact decide_eq_false (by assumption) | decide | (simp; done) | (simp; omega) | (simp [*]; done))) rfl ?_
      refine Ops.nil ?_
      refine thenQ_n ⟨(.cons (congrArg (fun b => some (Value.bool b)) (by first | (simp [*]; done) | (simp_all; done))) (.cons rfl (.cons rfl .nil))), rfl⟩
    · skip
      refine Ops.r (Run.mv rfl) rfl ?_
      refine Ops.rg rfl (by first | rfl | assumption | exact decide_eq_true (by assumption) | exact decide_eq_false (by assumption) | decide | (simp; done) | (simp; omega) | (simp [*]; done)) (Run.fieldAddr rfl Tryd.underlying26 rfl Tryd.sizeOf9 (by decide)) rfl ?_
      refine Ops.rg rfl (by first | rfl | assumption | exact decide_eq_true (by assumption) | exact decide_eq_false (by assumption) | decide | (simp; done) | (simp; omega) | (simp [*]; done)) (Run.load rfl Tryd.isAgg9 (hb2.cell 1)) rfl ?_
      refine Ops.rg rfl (by first | rfl | assumption | exact decide_eq_true (by assumption) | exact decide_eq_false (by assumption) | decide | (simp; done) | (simp; omega) | (simp [*]; done)) (Run.fieldAddr rfl Tryd.underlying26 rfl Tryd.sizeOf9 (by decide)) rfl ?_
      refine Ops.rg rfl (by first | rfl | assumption | exact decide_eq_true (by assumption) | exact decide_eq_false (by assumption) | decide | (simp; done) | (simp; omega) | (simp [*]; done)) (Run.load rfl Tryd.isAgg9 (hb3.cell 1)) rfl ?_
      refine Ops.rg rfl (by first | rfl | assumption | exact decide_eq_true (by assumption) | exact decide_eq_false (by assumption) | decide | (simp; done) | (simp; omega) | (simp [*]; done)) (Run.neqT rfl rfl) rfl ?_
      by_cases hs16 : m.sub ≠ k.sub
      · skip
        refine Ops.r (Run.pickF rfl rfl (by first | rfl | assumption | exact decide_eq_true (by assumption) | exact decide_eq_false (by assumption) | decide | (simp; done) | (simp; omega) | (simp [*]; done))) rfl ?_
        refine Ops.r (Run.mv rfl) rfl ?_
        refine Ops.sk rfl (by first | rfl | assumption | exact decide_eq_true (by assumption) | exact decide_eq_false (by assumption) | decide | (simp; done) | (simp; omega) | (simp [*]; done)) rfl ?_
        refine Ops.sk rfl (by first | rfl | assumption | exact decide_eq_true (by assumption) | exact decide_eq_false (by assumption) | decide | (simp; done) | (simp; omega) | (simp [*]; done)) rfl ?_
        refine Ops.sk rfl (by first | rfl | assumption | exact decide_eq_true (by assumption) | exact decide_eq_false (by assumption) | decide | (simp; done) | (simp; omega) | (simp [*]; done)) rfl ?_
        refine Ops.sk rfl (by first | rfl | assumption | exact decide_eq_true (by assumption) | exact decide_eq_false (by assumption) | decide | (simp; done) | (simp; omega) | (simp [*]; done)) rfl ?_
        refine Ops.sk rfl (by first | rfl | assumption | exact decide_eq_true (by assumption) | exact decide_eq_false (by assumption) | decide | (simp; done) | (simp; omega) | (simp [*]; done)) rfl ?_
        refine Ops.sk rfl (by first | rfl | assumption | exact decide_eq_true (by assumption) | exact decide_eq_false (by assumption) | decide | (simp; done) | (simp; omega) | (simp [*]; done)) rfl ?_
        refine Ops.sk rfl (by first | rfl | assumption | exact decide_eq_true (by assumption) | exact decide_eq_false (by assumption) | decide | (simp; done) | (simp; omega) | (simp [*]; done)) rfl ?_
        refine Ops.r (Run.pickT rfl rfl (by first | rfl | assumption | exact decide_eq_true (by assumption) | exact decide_eq_false (by assumption) | decide | (simp; done) | (simp; omega) | (simp [*]; done))) rfl ?_
        refine Ops.nil ?_
        refine thenQ_n ⟨(.cons (congrArg (fun b => some (Value.bool b)) (by first | (simp [*]; done) | (simp_all; done))) (.cons rfl (.cons rfl .nil))), rfl⟩
      · skip
        refine Ops.r (Run.pickF rfl rfl (by first | rfl | assumption | exact decide_eq_true (by assumption) | exact decide_eq_false (by assumption) | decide | (simp; done) | (simp; omega) | (simp [*]; done))) rfl ?_
        refine Ops.r (Run.mv rfl) rfl ?_
        refine Ops.rg rfl (by first | rfl | assumption | exact decide_eq_true (by assumption) | exact decide_eq_false (by assumption) | decide | (simp; done) | (simp; omega) | (simp [*]; done)) (Run.fieldAddr rfl Tryd.underlying26 rfl Tryd.sizeOf24 (by decide)) rfl ?_
        refine Ops.rg rfl (by first | rfl | assumption | exact decide_eq_true (by assumption) | exact decide_eq_false (by assumption) | decide | (simp; done) | (simp; omega) | (simp [*]; done)) (Run.load rfl Tryd.isAgg24 (hb2.cell 2)) rfl ?_
        refine Ops.rg rfl (by first | rfl | assumption | exact decide_eq_true (by assumption) | exact decide_eq_false (by assumption) | decide | (simp; done) | (simp; omega) | (simp [*]; done)) (Run.lenS rfl Tryd.underlying24) rfl ?_
        refine Ops.rg rfl (by first | rfl | assumption | exact decide_eq_true (by assumption) | exact decide_eq_false (by assumption) | decide | (simp; done) | (simp; omega) | (simp [*]; done)) (Run.fieldAddr rfl Tryd.underlying26 rfl Tryd.sizeOf24 (by decide)) rfl ?_
        refine Ops.rg rfl (by first | rfl | assumption | exact decide_eq_true (by assumption) | exact decide_eq_false (by assumption) | decide | (simp; done) | (simp; omega) | (simp [*]; done)) (Run.load rfl Tryd.isAgg24 (hb3.cell 2)) rfl ?_
        refine Ops.rg rfl (by first | rfl | assumption | exact decide_eq_true (by assumption) | exact decide_eq_false (by assumption) | decide | (simp; done) | (simp; omega) | (simp [*]; done)) (Run.lenS rfl Tryd.underlying24) rfl ?_
        refine Ops.rg rfl (by first | rfl | assumption | exact decide_eq_true (by assumption) | exact decide_eq_false (by assumption) | decide | (simp; done) | (simp; omega) | (simp [*]; done)) (Run.bin rfl rfl (Bin.neqN _ _)) rfl ?_
        by_cases hs25 : m.ps.length ≠ k.ps.length
        · skip
          refine Ops.r (Run.pickF rfl rfl (by first | rfl | assumption | exact decide_eq_true (by assumption) | exact decide_eq_false (by assumption) | decide | (simp; done) | (simp; omega) | (simp [*]; done))) rfl ?_
          refine Ops.nil ?_
          refine thenQ_n ⟨(.cons (congrArg (fun b => some (Value.bool b)) (by first | (simp [*]; done) | (simp_all; done))) (.cons rfl (.cons rfl .nil))), rfl⟩
        · skip
          refine Ops.r (Run.pickF rfl rfl (by first | rfl | assumption | exact decide_eq_true (by assumption) | exact decide_eq_false (by assumption) | decide | (simp; done) | (simp; omega) | (simp [*]; done))) rfl ?_
          refine Ops.nil ?_
          refine thenQ_n ⟨(.cons (congrArg (fun b => some (Value.bool b)) (by first | (simp [*]; done) | (simp_all; done))) (.cons rfl (.cons rfl .nil))), rfl⟩
  · intro Γ hΓ
    refine thenQ_n (VC.sub _ hΓ ?_)
    refine VC.condD rfl (fun hc1 => ?_) (fun hc1 => ?_)
    · skip
      have hne : sameQ m k = false := decide_eq_false (fun h => hc1 ⟨h.1, h.2.1, by rw [h.2.2]⟩)
      refine VC.seq ?_
      refine VC.region ?_
      refine Ops.r (Run.asg rfl) rfl ?_
      refine Ops.nil ?_
      refine thenQ_n ?_
      refine VC.sub [(4, _)] (.cons rfl .nil) ?_
      refine VC.ret ?_
      refine thenQ_r (end1 rfl ?_)
      exact ⟨by rw [hne], K⟩
    · skip
      obtain ⟨e1, e2, hll⟩ := Classical.not_not.1 hc1
      have hsq : sameQ m k = decide (m.ps = k.ps) := decide_eq_decide.2 ⟨fun h => h.2.2, fun h => ⟨e1, e2, h⟩⟩
      refine VC.skip ?_
      refine thenQ_n ?_
      refine VC.sub [(2, _), (3, _)] (.cons rfl (.cons rfl .nil)) ?_
      refine VC.seq ?_
      refine VC.seq ?_
      refine VC.region ?_
      refine Ops.r (v := .int .i64 ((0 : Nat) : Int)) (Run.asg rfl) rfl ?_
      refine Ops.nil ?_
      refine thenQ_n ?_
      refine VC.block ?_
      refine VC.loop (σ := Nat) (fun s => [(2, .pointer (some ⟨g2, 0, none⟩)), (3, .pointer (some ⟨g3, 0, none⟩)), (5, .int .i64 ((s : Nat) : Int))]) (fun s wr => s ≤ m.ps.length ∧ m.ps.take s = k.ps.take s ∧ Drawn w2 wr) (fun s => m.ps.length - s) 0 (.cons rfl (.cons rfl (.cons rfl .nil))) ⟨by omega, by simp, Drawn.refl _⟩ ?_
      rintro i wr ⟨hi, heq, hd⟩
      have hb2v := hb2.drawn hd
      refine VC.seq ?_
      refine VC.seq ?_
      refine VC.region ?_
      refine Ops.r (Run.mv rfl) rfl ?_
      refine Ops.r (Run.fieldAddr rfl Tryd.underlying26 rfl Tryd.sizeOf24 (by decide)) rfl ?_
      refine Ops.r (Run.load rfl Tryd.isAgg24 (hb2v.cell 2)) rfl ?_
      refine Ops.r (Run.lenS rfl Tryd.underlying24) rfl ?_
      refine Ops.r (Run.bin rfl rfl (Bin.lssN _ _)) rfl ?_
      refine Ops.nil ?_
      refine thenQ_n ?_
      refine VC.sub [(2, _), (3, _), (5, _), (31, _)] (.cons rfl (.cons rfl (.cons rfl (.cons rfl .nil)))) ?_
      refine VC.condD rfl (fun hc2 => ?_) (fun hc2 => ?_)
      · skip
        have hc2k : i < k.ps.length := by omega
        have hdd := hd.trans (Drawn.drew _)
        obtain ⟨ad, hA, hcell⟩ := PC_at (hl.drawn hdd) hc2
        obtain ⟨bd, hB, hcelk⟩ := PC_at (hk.drawn hdd) hc2k
        have hts := take_snoc hc2
        have htk := take_snoc hc2k
        have hlk : m.ps[i] ≠ k.ps[i] → m.ps ≠ k.ps := fun h e => h (by simp only [e])
        refine VC.skip ?_
        refine thenQ_n ?_
        refine VC.sub [(2, _), (3, _), (5, _)] (.cons rfl (.cons rfl (.cons rfl .nil))) ?_
        refine VC.seq ?_
        refine VC.block ?_
        refine VC.seq ?_
        refine VC.still (by kernel_rfl) (by kernel_rfl) ?_
        refine SOps.r (Run.fieldAddr rfl Tryd.underlying26 rfl Tryd.sizeOf24 (by decide)) rfl ?_
        refine SOps.r (Run.load rfl Tryd.isAgg24 ((hb2.drawn (hd.trans (Drawn.drew _))).cell 2)) rfl ?_
        refine SOps.r (Run.mv rfl) rfl ?_
        refine SOps.r (Run.indexS i (by rw [← hA]; rfl) rfl Tryd.underlying24 Tryd.sizeOf36 hc2) rfl ?_
        refine SOps.r (Run.loadA rfl Tryd.isAgg36 Tryd.sizeOf36 hcell (by first | rfl | (simp; done))) rfl ?_
        refine SOps.r (Run.fieldAddr rfl Tryd.underlying26 rfl Tryd.sizeOf24 (by decide)) rfl ?_
        refine SOps.r (Run.load rfl Tryd.isAgg24 ((hb3.drawn (hd.trans (Drawn.drew _))).cell 2)) rfl ?_
        refine SOps.r (Run.mv rfl) rfl ?_
        refine SOps.r (Run.indexS i (by rw [← hB]; rfl) rfl Tryd.underlying24 Tryd.sizeOf36 hc2k) rfl ?_
        refine SOps.r (Run.loadA rfl Tryd.isAgg36 Tryd.sizeOf36 hcelk (by first | rfl | (simp; done))) rfl ?_
        refine SOps.r (Run.neqAgg rfl rfl (by kernel_rfl) (by kernel_rfl) (by kernel_rfl) ((par_eq _ _ _))) rfl ?_
        refine SOps.nil ?_
        refine thenQ_n ?_
        refine VC.sub [(2, _), (3, _), (5, _), (44, _)] (.cons rfl (.cons rfl (.cons rfl (.cons rfl .nil)))) ?_
        refine VC.condB rfl (fun hc3 => ?_) (fun hc3 => ?_)
        · skip
          have hne : m.ps[i] ≠ k.ps[i] := fun h => by rw [decide_eq_true h] at hc3; cases hc3
          refine VC.seq ?_
          refine VC.region ?_
          refine Ops.r (Run.asg rfl) rfl ?_
          refine Ops.nil ?_
          refine thenQ_n ?_
          refine VC.sub [(4, _)] (.cons rfl .nil) ?_
          refine VC.ret ?_
          refine blockQ_r (thenQ_r (thenQ_r (blockQ_r (thenQ_r (end1 rfl ?_)))))
          exact ⟨by rw [hsq, decide_eq_false (hlk hne)], K.drawn hdd⟩
        · skip
          have hei : m.ps[i] = k.ps[i] := of_decide_eq_true (by simpa using hc3)
          refine VC.skip ?_
          refine blockQ_n (thenQ_n ?_)
          refine VC.sub [(2, _), (3, _), (5, _)] (.cons rfl (.cons rfl (.cons rfl .nil))) ?_
          refine VC.region ?_
          refine Ops.r (Run.mv rfl) rfl ?_
          refine Ops.r (Run.bin rfl rfl (Bin.add_i64 _ 1 (by omega))) rfl ?_
          refine Ops.r (Run.asg rfl) rfl ?_
          refine Ops.nil ?_
          refine thenQ_n ⟨(i + 1), (.cons rfl (.cons rfl (.cons rfl .nil))), ?_, ?_⟩
          · skip
            exact ⟨hc2, by rw [hts, htk, heq, hei], hdd⟩
          · skip
            first | omega | (dsimp only; omega)
      · skip
        refine VC.exit ?_
        refine thenQ_x (thenQ_x (blockQ_x ?_))
        refine thenQ_n ?_
        refine VC.sub [] .nil ?_
        refine VC.seq ?_
        refine VC.region ?_
        refine Ops.r (Run.asg rfl) rfl ?_
        refine Ops.nil ?_
        refine thenQ_n ?_
        refine VC.ret ?_
        refine end1 rfl ?_
        refine ⟨?_, K.drawn hd⟩
        have hil : i = m.ps.length := by omega
        rw [hil, List.take_length, hll, List.take_length] at heq
        rw [hsq, decide_eq_true heq]

end Go.Proofs.YtnllhddbgkeboaaDoor
