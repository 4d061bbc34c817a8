/-
  Spans told by the answers; what is told is read back.
-/
import Derived.Test.YtnllhddbgkeboaaDoorSeqW
namespace Go.Proofs.YtnllhddbgkeboaaDoor
open Go.RowKit Go.Sort

def sepQ (l : List Sp) : Tx := if l = [] then [] else jnQ l ++ [44]
theorem SC_cell {w : World} {ad : Addr} {l : List Sp} {k : Nat} (h : Rd w 2 (some ad) l.length (SC l)) (hk : k < l.length) : ∀ j v, (SC1 l[k])[j]? = some v → w.cell? ((ad.add (k * 2)).add j) = some v := by
  obtain ⟨ad', h1, h2⟩ := SC_at h hk
  cases h1
  exact h2

set_option maxRecDepth 100000 in
theorem rtell_spec (A : Option Addr) (c : Nat) (l : List Sp) (w : World) (hl : Rd w 2 A l.length (SC l)) (hn : l.length ≤ 1000) :
    Calls Tryd.prog 32 #[.slice A l.length c] w fun e w' => e = .returned (encStr (tellQ l)) ∧ Frm [] w w' := by
  refine VC.calls (nt := 79) (res := #[.tmp 2]) Tryd.func32 rfl Tryd.ntmps32 Tryd.results32 rfl ?_
  refine VC.seq ?_
  refine VC.region ?_
  refine Ops.r (Run.asg rfl) rfl ?_
  refine Ops.nil ?_
  refine thenQ_n ?_
  refine VC.sub [(0, _)] (.cons rfl .nil) ?_
  refine VC.seq ?_
  refine VC.region ?_
  refine Ops.r (Run.asg rfl) rfl ?_
  refine Ops.nil ?_
  refine thenQ_n ?_
  refine VC.seq ?_
  refine VC.seq ?_
  refine VC.region ?_
  refine Ops.r (v := .int .i64 ((0 : Nat) : Int)) (Run.asg rfl) rfl ?_
  refine Ops.nil ?_
  refine thenQ_n ?_
  refine VC.block ?_
  refine VC.loop (σ := Nat) (fun s => [(0, .slice A l.length c), (3, encStr (jnQ (l.take s))), (4, .int .i64 ((s : Nat) : Int))]) (fun s wr => s ≤ l.length ∧ (∀ x ∈ l.take s, ¬ BadT x) ∧ (jnQ (l.take s)).length ≤ s * 22 ∧ Frm [] w wr ∧ (0 < s → l.length ≤ 64)) (fun s => l.length - s) 0 (.cons rfl (.cons (by simp [jnQ, Lib.join]; rfl) (.cons rfl .nil))) ⟨by omega, by simp, by simp [jnQ, Lib.join], Frm.refl _ _, fun h => absurd h (by omega)⟩ ?_
  rintro i wr ⟨hi, hgd, hjl, hfr, h64⟩
  refine VC.seq ?_
  refine VC.seq ?_
  refine VC.region ?_
  refine Ops.r (Run.mv rfl) rfl ?_
  refine Ops.r (Run.mv rfl) rfl ?_
  refine Ops.r (Run.lenS rfl Tryd.underlying37) rfl ?_
  refine Ops.r (Run.bin rfl rfl (Bin.lssN _ _)) rfl ?_
  refine Ops.nil ?_
  refine thenQ_n ?_
  refine VC.sub [(0, _), (3, _), (4, _), (8, _)] (.cons rfl (.cons rfl (.cons rfl (.cons rfl .nil)))) ?_
  refine VC.condD rfl (fun hc1 => ?_) (fun hc1 => ?_)
  · skip
    obtain ⟨ad, rfl, _⟩ := SC_at (hl.frm hfr (by simp)) hc1
    have hcell : ∀ W, Frm [] w W → ∀ j v, (SC1 l[i])[j]? = some v → W.cell? ((ad.add (i * 2)).add j) = some v := fun W hW => SC_cell (hl.frm hW (by simp)) hc1
    have hxm := List.getElem_mem hc1
    have htk := take_snoc hc1
    generalize hx : l[i] = x at *
    obtain ⟨xa, xb⟩ := x
    have hbt : BadT (xa, xb) ↔ (xa < 0 ∨ xb < 0 ∨ 2147483647 < xa ∨ 2147483647 < xb) := Iff.rfl
    refine VC.skip ?_
    refine thenQ_n ?_
    refine VC.sub [(0, _), (3, _), (4, _)] (.cons rfl (.cons rfl (.cons rfl .nil))) ?_
    refine VC.seq ?_
    refine VC.block ?_
    refine VC.seq ?_
    refine VC.seq ?_
    refine VC.split1 [(0, _), (3, _), (4, _)] (.cons rfl (.cons rfl (.cons rfl .nil))) 45 (.bool (decide (BadT (xa, xb) ∨ 64 < l.length))) ?_ ?_
    · refine VC.region ?_
      refine Ops.r (Run.mv rfl) rfl ?_
      refine Ops.r (Run.mv rfl) rfl ?_
      refine Ops.r (Run.indexS i rfl rfl Tryd.underlying37 Tryd.sizeOf46 hc1) rfl ?_
      refine Ops.r (Run.fieldAddr rfl Tryd.underlying46 rfl Tryd.sizeOf3 (by decide)) rfl ?_
      refine Ops.r (Run.load rfl Tryd.isAgg3 (hcell _ hfr 0 _ rfl)) rfl ?_
      refine Ops.r (Run.bin rfl rfl (Bin.lss _ 0)) rfl ?_
      by_cases hs16 : xa < 0
      · skip
        refine Ops.r (Run.mv rfl) rfl ?_
        refine Ops.sk rfl (by first | rfl | assumption | exact decide_eq_true (by assumption) | exact decide_eq_false (by assumption) | decide | (simp; done) | (simp; omega) | (simp [*]; done)) rfl ?_
        refine Ops.sk rfl (by first | rfl | assumption | exact decide_eq_true (by assumption) | exact decide_eq_false (by assumption) | decide | (simp; done) | (simp; omega) | (simp [*]; done)) rfl ?_
        refine Ops.sk rfl (by first | rfl | assumption | exact decide_eq_true (by assumption) | exact decide_eq_false (by assumption) | decide | (simp; done) | (simp; omega) | (simp [*]; done)) rfl ?_
        refine Ops.sk rfl (by first | rfl | assumption | exact decide_eq_true (by assumption) | exact decide_eq_false (by assumption) | decide | (simp; done) | (simp; omega) | (simp [*]; done)) rfl ?_
        refine Ops.sk rfl (by first | rfl | assumption | exact decide_eq_true (by assumption) | exact decide_eq_false (by assumption) | decide | (simp; done) | (simp; omega) | (simp [*]; done)) rfl ?_
        refine Ops.sk rfl (by first | rfl | assumption | exact decide_eq_true (by assumption) | exact decide_eq_false (by assumption) | decide | (simp; done) | (simp; omega) | (simp [*]; done)) rfl ?_
        refine Ops.r (Run.pickT rfl rfl (by first | rfl | assumption | exact decide_eq_true (by assumption) | exact decide_eq_false (by assumption) | decide | (simp; done) | (simp; omega) | (simp [*]; done))) rfl ?_
        refine Ops.r (Run.mv rfl) rfl ?_
        refine Ops.sk rfl (by first | rfl | assumption | exact decide_eq_true (by assumption) | exact decide_eq_false (by assumption) | decide | (simp; done) | (simp; omega) | (simp [*]; done)) rfl ?_
        refine Ops.sk rfl (by first | rfl | assumption | exact decide_eq_true (by assumption) | exact decide_eq_false (by assumption) | decide | (simp; done) | (simp; omega) | (simp [*]; done)) rfl ?_
        refine Ops.sk rfl (by first | rfl | assumption | exact decide_eq_true (by assumption) | exact decide_eq_false (by assumption) | decide | (simp; done) | (simp; omega) | (simp [*]; done)) rfl ?_
        refine Ops.sk rfl (by first | rfl | assumption | exact decide_eq_true (by assumption) | exact decide_eq_false (by assumption) | decide | (simp; done) | (simp; omega) | (simp [*]; done)) rfl ?_
        refine Ops.sk rfl (by first | rfl | assumption | exact decide_eq_true (by assumption) | exact decide_eq_false (by assumption) | decide | (simp; done) | (simp; omega) | (simp [*]; done)) rfl ?_
        refine Ops.sk rfl (by first | rfl | assumption | exact decide_eq_true (by assumption) | exact decide_eq_false (by assumption) | decide | (simp; done) | (simp; omega) | (simp [*]; done)) rfl ?_
        refine Ops.r (Run.pickT rfl rfl (by first | rfl | assumption | exact decide_eq_true (by assumption) | exact decide_eq_false (by assumption) | decide | (simp; done) | (simp; omega) | (simp [*]; done))) rfl ?_
        refine Ops.r (Run.mv rfl) rfl ?_
        refine Ops.sk rfl (by first | rfl | assumption | exact decide_eq_true (by assumption) | exact decide_eq_false (by assumption) | decide | (simp; done) | (simp; omega) | (simp [*]; done)) rfl ?_
        refine Ops.sk rfl (by first | rfl | assumption | exact decide_eq_true (by assumption) | exact decide_eq_false (by assumption) | decide | (simp; done) | (simp; omega) | (simp [*]; done)) rfl ?_
        refine Ops.sk rfl (by first | rfl | assumption | exact decide_eq_true (by assumption) | exact decide_eq_false (by assumption) | decide | (simp; done) | (simp; omega) | (simp [*]; done)) rfl ?_
        refine Ops.sk rfl (by first | rfl | assumption | exact decide_eq_true (by assumption) | exact decide_eq_false (by assumption) | decide | (simp; done) | (simp; omega) | (simp [*]; done)) rfl ?_
        refine Ops.sk rfl (by first | rfl | assumption | exact decide_eq_true (by assumption) | exact decide_eq_false (by assumption) | decide | (simp; done) | (simp; omega) | (simp [*]; done)) rfl ?_
        refine Ops.sk rfl (by first | rfl | assumption | exact decide_eq_true (by assumption) | exact decide_eq_false (by assumption) | decide | (simp; done) | (simp; omega) | (simp [*]; done)) rfl ?_
        refine Ops.r (Run.pickT rfl rfl (by first | rfl | assumption | exact decide_eq_true (by assumption) | exact decide_eq_false (by assumption) | decide | (simp; done) | (simp; omega) | (simp [*]; done))) rfl ?_
        refine Ops.r (Run.mv rfl) rfl ?_
        refine Ops.sk rfl (by first | rfl | assumption | exact decide_eq_true (by assumption) | exact decide_eq_false (by assumption) | decide | (simp; done) | (simp; omega) | (simp [*]; done)) rfl ?_
        refine Ops.sk rfl (by first | rfl | assumption | exact decide_eq_true (by assumption) | exact decide_eq_false (by assumption) | decide | (simp; done) | (simp; omega) | (simp [*]; done)) rfl ?_
        refine Ops.sk rfl (by first | rfl | assumption | exact decide_eq_true (by assumption) | exact decide_eq_false (by assumption) | decide | (simp; done) | (simp; omega) | (simp [*]; done)) rfl ?_
        refine Ops.r (Run.pickT rfl rfl (by first | rfl | assumption | exact decide_eq_true (by assumption) | exact decide_eq_false (by assumption) | decide | (simp; done) | (simp; omega) | (simp [*]; done))) rfl ?_
        refine Ops.nil ?_
        refine thenQ_n ⟨(.cons (congrArg (fun b => some (Value.bool b)) (Eq.symm (by first | exact decide_eq_true (.inl (hbt.2 (by omega))) | exact decide_eq_decide.2 ⟨fun h => h.resolve_left (fun h2 => by have := hbt.1 h2; omega), .inr⟩))) (.cons rfl (.cons rfl (.cons rfl .nil)))), rfl⟩
      · skip
        refine Ops.r (Run.mv rfl) rfl ?_
        refine Ops.rg rfl (by first | rfl | assumption | exact decide_eq_true (by assumption) | exact decide_eq_false (by assumption) | decide | (simp; done) | (simp; omega) | (simp [*]; done)) (Run.mv rfl) rfl ?_
        refine Ops.rg rfl (by first | rfl | assumption | exact decide_eq_true (by assumption) | exact decide_eq_false (by assumption) | decide | (simp; done) | (simp; omega) | (simp [*]; done)) (Run.mv rfl) rfl ?_
        refine Ops.rg rfl (by first | rfl | assumption | exact decide_eq_true (by assumption) | exact decide_eq_false (by assumption) | decide | (simp; done) | (simp; omega) | (simp [*]; done)) (Run.indexS i rfl rfl Tryd.underlying37 Tryd.sizeOf46 hc1) rfl ?_
        refine Ops.rg rfl (by first | rfl | assumption | exact decide_eq_true (by assumption) | exact decide_eq_false (by assumption) | decide | (simp; done) | (simp; omega) | (simp [*]; done)) (Run.fieldAddr rfl Tryd.underlying46 rfl Tryd.sizeOf3 (by decide)) rfl ?_
        refine Ops.rg rfl (by first | rfl | assumption | exact decide_eq_true (by assumption) | exact decide_eq_false (by assumption) | decide | (simp; done) | (simp; omega) | (simp [*]; done)) (Run.load rfl Tryd.isAgg3 (hcell _ hfr 1 _ rfl)) rfl ?_
        refine Ops.rg rfl (by first | rfl | assumption | exact decide_eq_true (by assumption) | exact decide_eq_false (by assumption) | decide | (simp; done) | (simp; omega) | (simp [*]; done)) (Run.bin rfl rfl (Bin.lss _ 0)) rfl ?_
        by_cases hs23 : xb < 0
        · skip
          refine Ops.r (Run.pickF rfl rfl (by first | rfl | assumption | exact decide_eq_true (by assumption) | exact decide_eq_false (by assumption) | decide | (simp; done) | (simp; omega) | (simp [*]; done))) rfl ?_
          refine Ops.r (Run.mv rfl) rfl ?_
          refine Ops.sk rfl (by first | rfl | assumption | exact decide_eq_true (by assumption) | exact decide_eq_false (by assumption) | decide | (simp; done) | (simp; omega) | (simp [*]; done)) rfl ?_
          refine Ops.sk rfl (by first | rfl | assumption | exact decide_eq_true (by assumption) | exact decide_eq_false (by assumption) | decide | (simp; done) | (simp; omega) | (simp [*]; done)) rfl ?_
          refine Ops.sk rfl (by first | rfl | assumption | exact decide_eq_true (by assumption) | exact decide_eq_false (by assumption) | decide | (simp; done) | (simp; omega) | (simp [*]; done)) rfl ?_
          refine Ops.sk rfl (by first | rfl | assumption | exact decide_eq_true (by assumption) | exact decide_eq_false (by assumption) | decide | (simp; done) | (simp; omega) | (simp [*]; done)) rfl ?_
          refine Ops.sk rfl (by first | rfl | assumption | exact decide_eq_true (by assumption) | exact decide_eq_false (by assumption) | decide | (simp; done) | (simp; omega) | (simp [*]; done)) rfl ?_
          refine Ops.sk rfl (by first | rfl | assumption | exact decide_eq_true (by assumption) | exact decide_eq_false (by assumption) | decide | (simp; done) | (simp; omega) | (simp [*]; done)) rfl ?_
          refine Ops.r (Run.pickT rfl rfl (by first | rfl | assumption | exact decide_eq_true (by assumption) | exact decide_eq_false (by assumption) | decide | (simp; done) | (simp; omega) | (simp [*]; done))) rfl ?_
          refine Ops.r (Run.mv rfl) rfl ?_
          refine Ops.sk rfl (by first | rfl | assumption | exact decide_eq_true (by assumption) | exact decide_eq_false (by assumption) | decide | (simp; done) | (simp; omega) | (simp [*]; done)) rfl ?_
          refine Ops.sk rfl (by first | rfl | assumption | exact decide_eq_true (by assumption) | exact decide_eq_false (by assumption) | decide | (simp; done) | (simp; omega) | (simp [*]; done)) rfl ?_
          refine Ops.sk rfl (by first | rfl | assumption | exact decide_eq_true (by assumption) | exact decide_eq_false (by assumption) | decide | (simp; done) | (simp; omega) | (simp [*]; done)) rfl ?_
          refine Ops.sk rfl (by first | rfl | assumption | exact decide_eq_true (by assumption) | exact decide_eq_false (by assumption) | decide | (simp; done) | (simp; omega) | (simp [*]; done)) rfl ?_
          refine Ops.sk rfl (by first | rfl | assumption | exact decide_eq_true (by assumption) | exact decide_eq_false (by assumption) | decide | (simp; done) | (simp; omega) | (simp [*]; done)) rfl ?_
          refine Ops.sk rfl (by first | rfl | assumption | exact decide_eq_true (by assumption) | exact decide_eq_false (by assumption) | decide | (simp; done) | (simp; omega) | (simp [*]; done)) rfl ?_
          refine Ops.r (Run.pickT rfl rfl (by first | rfl | assumption | exact decide_eq_true (by assumption) | exact decide_eq_false (by assumption) | decide | (simp; done) | (simp; omega) | (simp [*]; done))) rfl ?_
          refine Ops.r (Run.mv rfl) rfl ?_
          refine Ops.sk rfl (by first | rfl | assumption | exact decide_eq_true (by assumption) | exact decide_eq_false (by assumption) | decide | (simp; done) | (simp; omega) | (simp [*]; done)) rfl ?_
          refine Ops.sk rfl (by first | rfl | assumption | exact decide_eq_true (by assumption) | exact decide_eq_false (by assumption) | decide | (simp; done) | (simp; omega) | (simp [*]; done)) rfl ?_
          refine Ops.sk rfl (by first | rfl | assumption | exact decide_eq_true (by assumption) | exact decide_eq_false (by assumption) | decide | (simp; done) | (simp; omega) | (simp [*]; done)) rfl ?_
          refine Ops.r (Run.pickT rfl rfl (by first | rfl | assumption | exact decide_eq_true (by assumption) | exact decide_eq_false (by assumption) | decide | (simp; done) | (simp; omega) | (simp [*]; done))) rfl ?_
          refine Ops.nil ?_
          refine thenQ_n ⟨(.cons (congrArg (fun b => some (Value.bool b)) (Eq.symm (by first | exact decide_eq_true (.inl (hbt.2 (by omega))) | exact decide_eq_decide.2 ⟨fun h => h.resolve_left (fun h2 => by have := hbt.1 h2; omega), .inr⟩))) (.cons rfl (.cons rfl (.cons rfl .nil)))), rfl⟩
        · skip
          refine Ops.r (Run.pickF rfl rfl (by first | rfl | assumption | exact decide_eq_true (by assumption) | exact decide_eq_false (by assumption) | decide | (simp; done) | (simp; omega) | (simp [*]; done))) rfl ?_
          refine Ops.r (Run.mv rfl) rfl ?_
          refine Ops.rg rfl (by first | rfl | assumption | exact decide_eq_true (by assumption) | exact decide_eq_false (by assumption) | decide | (simp; done) | (simp; omega) | (simp [*]; done)) (Run.mv rfl) rfl ?_
          refine Ops.rg rfl (by first | rfl | assumption | exact decide_eq_true (by assumption) | exact decide_eq_false (by assumption) | decide | (simp; done) | (simp; omega) | (simp [*]; done)) (Run.mv rfl) rfl ?_
          refine Ops.rg rfl (by first | rfl | assumption | exact decide_eq_true (by assumption) | exact decide_eq_false (by assumption) | decide | (simp; done) | (simp; omega) | (simp [*]; done)) (Run.indexS i rfl rfl Tryd.underlying37 Tryd.sizeOf46 hc1) rfl ?_
          refine Ops.rg rfl (by first | rfl | assumption | exact decide_eq_true (by assumption) | exact decide_eq_false (by assumption) | decide | (simp; done) | (simp; omega) | (simp [*]; done)) (Run.fieldAddr rfl Tryd.underlying46 rfl Tryd.sizeOf3 (by decide)) rfl ?_
          refine Ops.rg rfl (by first | rfl | assumption | exact decide_eq_true (by assumption) | exact decide_eq_false (by assumption) | decide | (simp; done) | (simp; omega) | (simp [*]; done)) (Run.load rfl Tryd.isAgg3 (hcell _ hfr 0 _ rfl)) rfl ?_
          refine Ops.rg rfl (by first | rfl | assumption | exact decide_eq_true (by assumption) | exact decide_eq_false (by assumption) | decide | (simp; done) | (simp; omega) | (simp [*]; done)) (Run.bin rfl rfl (Bin.gtr _ 2147483647)) rfl ?_
          by_cases hs31 : 2147483647 < xa
          · skip
            refine Ops.r (Run.pickF rfl rfl (by first | rfl | assumption | exact decide_eq_true (by assumption) | exact decide_eq_false (by assumption) | decide | (simp; done) | (simp; omega) | (simp [*]; done))) rfl ?_
            refine Ops.r (Run.mv rfl) rfl ?_
            refine Ops.sk rfl (by first | rfl | assumption | exact decide_eq_true (by assumption) | exact decide_eq_false (by assumption) | decide | (simp; done) | (simp; omega) | (simp [*]; done)) rfl ?_
            refine Ops.sk rfl (by first | rfl | assumption | exact decide_eq_true (by assumption) | exact decide_eq_false (by assumption) | decide | (simp; done) | (simp; omega) | (simp [*]; done)) rfl ?_
            refine Ops.sk rfl (by first | rfl | assumption | exact decide_eq_true (by assumption) | exact decide_eq_false (by assumption) | decide | (simp; done) | (simp; omega) | (simp [*]; done)) rfl ?_
            refine Ops.sk rfl (by first | rfl | assumption | exact decide_eq_true (by assumption) | exact decide_eq_false (by assumption) | decide | (simp; done) | (simp; omega) | (simp [*]; done)) rfl ?_
            refine Ops.sk rfl (by first | rfl | assumption | exact decide_eq_true (by assumption) | exact decide_eq_false (by assumption) | decide | (simp; done) | (simp; omega) | (simp [*]; done)) rfl ?_
            refine Ops.sk rfl (by first | rfl | assumption | exact decide_eq_true (by assumption) | exact decide_eq_false (by assumption) | decide | (simp; done) | (simp; omega) | (simp [*]; done)) rfl ?_
            refine Ops.r (Run.pickT rfl rfl (by first | rfl | assumption | exact decide_eq_true (by assumption) | exact decide_eq_false (by assumption) | decide | (simp; done) | (simp; omega) | (simp [*]; done))) rfl ?_
            refine Ops.r (Run.mv rfl) rfl ?_
            refine Ops.sk rfl (by first | rfl | assumption | exact decide_eq_true (by assumption) | exact decide_eq_false (by assumption) | decide | (simp; done) | (simp; omega) | (simp [*]; done)) rfl ?_
            refine Ops.sk rfl (by first | rfl | assumption | exact decide_eq_true (by assumption) | exact decide_eq_false (by assumption) | decide | (simp; done) | (simp; omega) | (simp [*]; done)) rfl ?_
            refine Ops.sk rfl (by first | rfl | assumption | exact decide_eq_true (by assumption) | exact decide_eq_false (by assumption) | decide | (simp; done) | (simp; omega) | (simp [*]; done)) rfl ?_
            refine Ops.r (Run.pickT rfl rfl (by first | rfl | assumption | exact decide_eq_true (by assumption) | exact decide_eq_false (by assumption) | decide | (simp; done) | (simp; omega) | (simp [*]; done))) rfl ?_
            refine Ops.nil ?_
            refine thenQ_n ⟨(.cons (congrArg (fun b => some (Value.bool b)) (Eq.symm (by first | exact decide_eq_true (.inl (hbt.2 (by omega))) | exact decide_eq_decide.2 ⟨fun h => h.resolve_left (fun h2 => by have := hbt.1 h2; omega), .inr⟩))) (.cons rfl (.cons rfl (.cons rfl .nil)))), rfl⟩
          · skip
            refine Ops.r (Run.pickF rfl rfl (by first | rfl | assumption | exact decide_eq_true (by assumption) | exact decide_eq_false (by assumption) | decide | (simp; done) | (simp; omega) | (simp [*]; done))) rfl ?_
            refine Ops.r (Run.mv rfl) rfl ?_
            refine Ops.rg rfl (by first | rfl | assumption | exact decide_eq_true (by assumption) | exact decide_eq_false (by assumption) | decide | (simp; done) | (simp; omega) | (simp [*]; done)) (Run.mv rfl) rfl ?_
            refine Ops.rg rfl (by first | rfl | assumption | exact decide_eq_true (by assumption) | exact decide_eq_false (by assumption) | decide | (simp; done) | (simp; omega) | (simp [*]; done)) (Run.mv rfl) rfl ?_
            refine Ops.rg rfl (by first | rfl | assumption | exact decide_eq_true (by assumption) | exact decide_eq_false (by assumption) | decide | (simp; done) | (simp; omega) | (simp [*]; done)) (Run.indexS i rfl rfl Tryd.underlying37 Tryd.sizeOf46 hc1) rfl ?_
            refine Ops.rg rfl (by first | rfl | assumption | exact decide_eq_true (by assumption) | exact decide_eq_false (by assumption) | decide | (simp; done) | (simp; omega) | (simp [*]; done)) (Run.fieldAddr rfl Tryd.underlying46 rfl Tryd.sizeOf3 (by decide)) rfl ?_
            refine Ops.rg rfl (by first | rfl | assumption | exact decide_eq_true (by assumption) | exact decide_eq_false (by assumption) | decide | (simp; done) | (simp; omega) | (simp [*]; done)) (Run.load rfl Tryd.isAgg3 (hcell _ hfr 1 _ rfl)) rfl ?_
            refine Ops.rg rfl (by first | rfl | assumption | exact decide_eq_true (by assumption) | exact decide_eq_false (by assumption) | decide | (simp; done) | (simp; omega) | (simp [*]; done)) (Run.bin rfl rfl (Bin.gtr _ 2147483647)) rfl ?_
            by_cases hs39 : 2147483647 < xb
            · skip
              refine Ops.r (Run.pickF rfl rfl (by first | rfl | assumption | exact decide_eq_true (by assumption) | exact decide_eq_false (by assumption) | decide | (simp; done) | (simp; omega) | (simp [*]; done))) rfl ?_
              refine Ops.r (Run.mv rfl) rfl ?_
              refine Ops.sk rfl (by first | rfl | assumption | exact decide_eq_true (by assumption) | exact decide_eq_false (by assumption) | decide | (simp; done) | (simp; omega) | (simp [*]; done)) rfl ?_
              refine Ops.sk rfl (by first | rfl | assumption | exact decide_eq_true (by assumption) | exact decide_eq_false (by assumption) | decide | (simp; done) | (simp; omega) | (simp [*]; done)) rfl ?_
              refine Ops.sk rfl (by first | rfl | assumption | exact decide_eq_true (by assumption) | exact decide_eq_false (by assumption) | decide | (simp; done) | (simp; omega) | (simp [*]; done)) rfl ?_
              refine Ops.r (Run.pickT rfl rfl (by first | rfl | assumption | exact decide_eq_true (by assumption) | exact decide_eq_false (by assumption) | decide | (simp; done) | (simp; omega) | (simp [*]; done))) rfl ?_
              refine Ops.nil ?_
              refine thenQ_n ⟨(.cons (congrArg (fun b => some (Value.bool b)) (Eq.symm (by first | exact decide_eq_true (.inl (hbt.2 (by omega))) | exact decide_eq_decide.2 ⟨fun h => h.resolve_left (fun h2 => by have := hbt.1 h2; omega), .inr⟩))) (.cons rfl (.cons rfl (.cons rfl .nil)))), rfl⟩
            · skip
              refine Ops.r (Run.pickF rfl rfl (by first | rfl | assumption | exact decide_eq_true (by assumption) | exact decide_eq_false (by assumption) | decide | (simp; done) | (simp; omega) | (simp [*]; done))) rfl ?_
              refine Ops.r (Run.mv rfl) rfl ?_
              refine Ops.rg rfl (by first | rfl | assumption | exact decide_eq_true (by assumption) | exact decide_eq_false (by assumption) | decide | (simp; done) | (simp; omega) | (simp [*]; done)) (Run.mv rfl) rfl ?_
              refine Ops.rg rfl (by first | rfl | assumption | exact decide_eq_true (by assumption) | exact decide_eq_false (by assumption) | decide | (simp; done) | (simp; omega) | (simp [*]; done)) (Run.lenS rfl Tryd.underlying37) rfl ?_
              refine Ops.rg rfl (by first | rfl | assumption | exact decide_eq_true (by assumption) | exact decide_eq_false (by assumption) | decide | (simp; done) | (simp; omega) | (simp [*]; done)) (Run.bin rfl rfl (Bin.gtrN _ 64)) rfl ?_
              by_cases hs44 : 64 < l.length
              · skip
                refine Ops.r (Run.pickF rfl rfl (by first | rfl | assumption | exact decide_eq_true (by assumption) | exact decide_eq_false (by assumption) | decide | (simp; done) | (simp; omega) | (simp [*]; done))) rfl ?_
                refine Ops.nil ?_
                refine thenQ_n ⟨(.cons (congrArg (fun b => some (Value.bool b)) (Eq.symm (by first | exact decide_eq_true (.inl (hbt.2 (by omega))) | exact decide_eq_decide.2 ⟨fun h => h.resolve_left (fun h2 => by have := hbt.1 h2; omega), .inr⟩))) (.cons rfl (.cons rfl (.cons rfl .nil)))), rfl⟩
              · skip
                refine Ops.r (Run.pickF rfl rfl (by first | rfl | assumption | exact decide_eq_true (by assumption) | exact decide_eq_false (by assumption) | decide | (simp; done) | (simp; omega) | (simp [*]; done))) rfl ?_
                refine Ops.nil ?_
                refine thenQ_n ⟨(.cons (congrArg (fun b => some (Value.bool b)) (Eq.symm (by first | exact decide_eq_true (.inl (hbt.2 (by omega))) | exact decide_eq_decide.2 ⟨fun h => h.resolve_left (fun h2 => by have := hbt.1 h2; omega), .inr⟩))) (.cons rfl (.cons rfl (.cons rfl .nil)))), rfl⟩
    · intro Γ hΓ
      refine thenQ_n (VC.sub _ hΓ ?_)
      refine VC.condD rfl (fun hc2 => ?_) (fun hc2 => ?_)
      · skip
        refine VC.seq ?_
        refine VC.region ?_
        refine Ops.r (Run.asg rfl) rfl ?_
        refine Ops.nil ?_
        refine thenQ_n ?_
        refine VC.sub [(2, _)] (.cons rfl .nil) ?_
        refine VC.ret ?_
        refine thenQ_r (blockQ_r (thenQ_r (thenQ_r (blockQ_r (thenQ_r (end1 rfl ?_))))))
        refine ⟨?_, hfr⟩
        rw [tellQ_bad (hc2.elim (fun h => .inr ⟨_, hxm, h⟩) .inl)]
      · skip
        have hgx : ¬ (xa < 0 ∨ xb < 0 ∨ 2147483647 < xa ∨ 2147483647 < xb) := fun h => hc2 (.inl (hbt.2 h))
        have hn64 : l.length ≤ 64 := by have : ¬ 64 < l.length := fun h => hc2 (.inr h); omega
        have hsa := sign_len (n := xa) (by omega) (by omega)
        have hsb := sign_len (n := xb) (by omega) (by omega)
        have h581 : ([58] : Tx).length = 1 := rfl
        have h582 : ([58] ++ signQ xb).length = (signQ xb).length + 1 := by simp
        have h441 : ([44] : Tx).length = 1 := rfl
        have hnil : l.take i = [] ↔ i = 0 := by
          constructor
          · intro h
            have := congrArg List.length h
            rw [List.length_take] at this
            simp only [List.length_nil] at this
            omega
          · rintro rfl
            rfl
        have hsl3 : (sepQ (l.take i) ++ signQ xa).length = (sepQ (l.take i)).length + (signQ xa).length := by simp
        have hsl : (sepQ (l.take i)).length ≤ i * 22 + 1 := by
          unfold sepQ
          split
          · simp
          · rw [List.length_append]; simp; omega
        refine VC.skip ?_
        refine thenQ_n ?_
        refine VC.sub [(0, _), (3, _), (4, _)] (.cons rfl (.cons rfl (.cons rfl .nil))) ?_
        refine VC.seq ?_
        refine VC.seq ?_
        refine VC.region ?_
        refine Ops.r (Run.mv rfl) rfl ?_
        refine Ops.r (Run.bin rfl rfl (Bin.gtrN _ 0)) rfl ?_
        refine Ops.nil ?_
        refine thenQ_n ?_
        refine VC.sub [(0, _), (3, _), (4, _), (47, _)] (.cons rfl (.cons rfl (.cons rfl (.cons rfl .nil)))) ?_
        refine VC.meet (σ := Unit) (fun s => [(0, .slice (some ad) l.length c), (3, encStr (sepQ (l.take i))), (4, .int .i64 ((i : Nat) : Int))]) (fun s wz => wr = wz) ?_ ?_
        · skip
          refine VC.condD rfl (fun hc3 => ?_) (fun hc3 => ?_)
          · skip
            refine VC.region ?_
            refine Ops.r (Run.mv rfl) rfl ?_
            refine Ops.r ((show Run _ _ _ _ (encStr (jnQ (l.take i) ++ [44])) from Run.addT rfl rfl (show (jnQ (l.take i)).length + ([44] : Tx).length ≤ 9223372036854775807 by rw [h441]; omega))) rfl ?_
            refine Ops.r (Run.asg rfl) rfl ?_
            refine Ops.nil ?_
            refine thenQ_n ⟨(), (.cons rfl (.cons (by rw [show sepQ (l.take i) = jnQ (l.take i) ++ [44] by unfold sepQ; rw [if_neg (by rw [hnil]; omega)]]; rfl) (.cons rfl .nil))), ?_⟩
            rfl
          · skip
            refine VC.skip ?_
            refine thenQ_n ⟨(), (.cons rfl (.cons (by rw [show sepQ (l.take i) = jnQ (l.take i) by unfold sepQ; rw [if_pos (hnil.2 (by omega)), hnil.2 (by omega)]; rfl]; rfl) (.cons rfl .nil))), ?_⟩
            rfl
        · skip
          rintro _ _ rfl Γ hΓ
          refine thenQ_n (VC.sub _ hΓ ?_)
          refine VC.seq ?_
          refine VC.region ?_
          refine Ops.r (Run.mv rfl) rfl ?_
          refine Ops.r (Run.mv rfl) rfl ?_
          refine Ops.r (Run.mv rfl) rfl ?_
          refine Ops.r (Run.indexS i rfl rfl Tryd.underlying37 Tryd.sizeOf46 hc1) rfl ?_
          refine Ops.r (Run.fieldAddr rfl Tryd.underlying46 rfl Tryd.sizeOf3 (by decide)) rfl ?_
          refine Ops.r (Run.load rfl Tryd.isAgg3 (hcell _ hfr 0 _ rfl)) rfl ?_
          refine Ops.cl (Enters.fn (evs.cons rfl evs.nil) Tryd.call59) (rsign_spec xa _ (by omega) (by omega)) rfl ?_
          rintro e _ ⟨rfl, rfl⟩
          refine ⟨_, rfl, ?_⟩
          refine Ops.r (Run.addT rfl rfl (by omega)) rfl ?_
          refine Ops.r (Run.asg rfl) rfl ?_
          refine Ops.nil ?_
          refine thenQ_n ?_
          refine VC.sub [(0, _), (3, _), (4, _)] (.cons rfl (.cons rfl (.cons rfl .nil))) ?_
          refine VC.seq ?_
          refine VC.still (by kernel_rfl) (by kernel_rfl) ?_
          refine SOps.r (Run.mv rfl) rfl ?_
          refine SOps.r (Run.mv rfl) rfl ?_
          refine SOps.r (Run.indexS i rfl rfl Tryd.underlying37 Tryd.sizeOf46 hc1) rfl ?_
          refine SOps.r (Run.fieldAddr rfl Tryd.underlying46 rfl Tryd.sizeOf3 (by decide)) rfl ?_
          refine SOps.r (Run.load rfl Tryd.isAgg3 (hcell _ hfr 0 _ rfl)) rfl ?_
          refine SOps.r (Run.mv rfl) rfl ?_
          refine SOps.r (Run.mv rfl) rfl ?_
          refine SOps.r (Run.indexS i rfl rfl Tryd.underlying37 Tryd.sizeOf46 hc1) rfl ?_
          refine SOps.r (Run.fieldAddr rfl Tryd.underlying46 rfl Tryd.sizeOf3 (by decide)) rfl ?_
          refine SOps.r (Run.load rfl Tryd.isAgg3 (hcell _ hfr 1 _ rfl)) rfl ?_
          refine SOps.r (Run.bin rfl rfl (Bin.neq _ _)) rfl ?_
          refine SOps.nil ?_
          refine thenQ_n ?_
          refine VC.sub [(0, _), (3, _), (4, _), (68, _)] (.cons rfl (.cons rfl (.cons rfl (.cons rfl .nil)))) ?_
          refine VC.meet (σ := Unit) (fun s => [(0, .slice (some ad) l.length c), (3, encStr (jnQ (l.take (i + 1)))), (4, .int .i64 ((i : Nat) : Int))]) (fun s wz => wr.drew = wz) ?_ ?_
          · skip
            refine VC.condD rfl (fun hc4 => ?_) (fun hc4 => ?_)
            · skip
              refine VC.region ?_
              refine Ops.r (Run.mv rfl) rfl ?_
              refine Ops.r (Run.mv rfl) rfl ?_
              refine Ops.r (Run.mv rfl) rfl ?_
              refine Ops.r (Run.indexS i rfl rfl Tryd.underlying37 Tryd.sizeOf46 hc1) rfl ?_
              refine Ops.r (Run.fieldAddr rfl Tryd.underlying46 rfl Tryd.sizeOf3 (by decide)) rfl ?_
              refine Ops.r (Run.load rfl Tryd.isAgg3 (hcell _ hfr.drew 1 _ rfl)) rfl ?_
              refine Ops.cl (Enters.fn (evs.cons rfl evs.nil) Tryd.call59) (rsign_spec xb _ (by omega) (by omega)) rfl ?_
              rintro e _ ⟨rfl, rfl⟩
              refine ⟨_, rfl, ?_⟩
              refine Ops.r (Run.addT rfl rfl (by omega)) rfl ?_
              refine Ops.r (Run.addT rfl rfl (by omega)) rfl ?_
              refine Ops.r (Run.asg rfl) rfl ?_
              refine Ops.nil ?_
              refine thenQ_n ⟨(), (.cons rfl (.cons (by rw [htk, jn_snoc, show wordQ (xa, xb) = signQ xa ++ 58 :: signQ xb by unfold wordQ; rw [if_neg hc4]]; simp [sepQ]; rfl) (.cons rfl .nil))), ?_⟩
              rfl
            · skip
              refine VC.skip ?_
              refine thenQ_n ⟨(), (.cons rfl (.cons (by rw [htk, jn_snoc, show wordQ (xa, xb) = signQ xa by unfold wordQ; rw [if_pos (show xa = xb by omega)]; simp]; rfl) (.cons rfl .nil))), ?_⟩
              rfl
          · skip
            rintro _ _ rfl Γ hΓ
            refine blockQ_n (thenQ_n (VC.sub _ hΓ ?_))
            refine VC.region ?_
            refine Ops.r (Run.mv rfl) rfl ?_
            refine Ops.r (Run.bin rfl rfl (Bin.add_i64 _ 1 (by omega))) rfl ?_
            refine Ops.r (Run.asg rfl) rfl ?_
            refine Ops.nil ?_
            refine thenQ_n ⟨(i + 1), (.cons rfl (.cons rfl (.cons rfl .nil))), ?_, ?_⟩
            · skip
              refine ⟨hc1, fun y hy => ?_, ?_, hfr.drew, fun _ => hn64⟩
              · rw [htk] at hy
                rcases List.mem_append.1 hy with h | h
                · exact hgd y h
                · simp only [List.mem_singleton] at h; subst h; exact fun h => hc2 (.inl h)
              · have h2 := word_len (show ¬ BadT (xa, xb) from fun h => hc2 (.inl h))
                rw [htk, jn_snoc, List.length_append]
                have : (if l.take i = [] then [] else jnQ (l.take i) ++ [44]).length ≤ i * 22 + 1 := hsl
                omega
            · skip
              first | omega | (dsimp only; omega)
  · skip
    have him : i = l.length := by omega
    subst him
    rw [List.take_length] at *
    refine VC.exit ?_
    refine thenQ_x (thenQ_x (blockQ_x ?_))
    refine thenQ_n ?_
    refine VC.sub [(3, _)] (.cons rfl .nil) ?_
    refine VC.seq ?_
    refine VC.region ?_
    refine Ops.r (Run.mv rfl) rfl ?_
    refine Ops.r (Run.asg rfl) rfl ?_
    refine Ops.nil ?_
    refine thenQ_n ?_
    refine VC.sub [(2, _)] (.cons rfl .nil) ?_
    refine VC.ret ?_
    refine end1 rfl ?_
    refine ⟨?_, hfr⟩
    rcases Nat.eq_zero_or_pos l.length with h | h
    · have : l = [] := List.eq_nil_of_length_eq_zero h
      subst this
      rw [tellQ_good (by simp) (by simp)]
    · rw [tellQ_good (h64 h) hgd]

end Go.Proofs.YtnllhddbgkeboaaDoor
