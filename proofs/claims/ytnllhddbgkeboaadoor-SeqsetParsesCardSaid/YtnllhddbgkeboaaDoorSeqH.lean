/-
  The walks of seqset: is a number named; which are named.
-/
import Derived.Test.YtnllhddbgkeboaaDoorSeqN
namespace Go.Proofs.YtnllhddbgkeboaaDoor
open Go.RowKit Go.Sort

set_option maxRecDepth 100000 in
theorem hasC_spec (x : Sp) (ga gb : Nat) (gr n : Int) (w : World) (hba : Blk w ga 3 #[.int .i64 gr]) (hbb : Blk w gb 3 #[.int .i64 n]) :
    Calls Tryd.prog 49 #[.agg (SC1 x).toArray, .pointer (some ⟨ga, 0, none⟩), .pointer (some ⟨gb, 0, none⟩)] w fun e w' => e = .returned (.bool (decide (InQ x gr n))) ∧ Frm [] w w' := by
  refine VC.calls (nt := 21) (res := #[.tmp 4]) Tryd.func49 rfl Tryd.ntmps49 Tryd.results49 rfl ?_
  refine VC.seq ?_
  refine VC.region ?_
  refine Ops.m (Does.box rfl) rfl ?_
  rintro _ w1 ⟨rfl, hF3⟩
  have hb3 : Blk w1 w.heap.size 46 (SC1 x).toArray := hF3.blk
  have hf3 := hF3.frm
  generalize hg3 : w.heap.size = g3 at hb3 ⊢
  have hba := hba.frm hf3 (by simp)
  have hbb := hbb.frm hf3 (by simp)
  refine Ops.r (Run.asg rfl) rfl ?_
  refine Ops.nil ?_
  refine thenQ_n ?_
  refine VC.sub [(1, _), (2, _), (3, _)] (.cons rfl (.cons rfl (.cons rfl .nil))) ?_
  refine VC.seq ?_
  refine VC.region ?_
  refine Ops.r (Run.loadA rfl Tryd.isAgg46 Tryd.sizeOf46 (fun j v hj => hb3.cells j v hj) (by first | rfl | (simp; done))) rfl ?_
  refine Ops.r (Run.load rfl Tryd.isAgg3 (hba.cell 0)) rfl ?_
  refine Ops.cl (Enters.fn (evs.cons rfl (evs.cons rfl evs.nil)) Tryd.call50) (ends_spec x gr _) rfl ?_
  rintro e w2 ⟨rfl, hf2⟩
  refine ⟨_, rfl, ?_⟩
  have hbb := hbb.frm hf2 (by simp)
  refine Ops.r (Run.mv rfl) rfl ?_
  refine Ops.r (Run.extract rfl rfl) rfl ?_
  refine Ops.r (Run.extract rfl rfl) rfl ?_
  refine Ops.r (Run.asg rfl) rfl ?_
  refine Ops.r (Run.asg rfl) rfl ?_
  refine Ops.nil ?_
  refine thenQ_n ?_
  refine VC.sub [(2, _), (5, _), (6, _)] (.cons rfl (.cons rfl (.cons rfl .nil))) ?_
  refine VC.seq ?_
  refine VC.split1 [] .nil 4 (.bool (decide ((n ≥ (endsQ x gr).1) ∧ (n ≤ (endsQ x gr).2)))) ?_ ?_
  · by_cases hs0 : n ≥ (endsQ x gr).1
    · skip
      refine VC.region ?_
      refine Ops.r (Run.load rfl Tryd.isAgg3 (hbb.cell 0)) rfl ?_
      refine Ops.r (Run.mv rfl) rfl ?_
      refine Ops.r (Run.bin rfl rfl (Bin.geq _ _)) rfl ?_
      refine Ops.r (Run.mv rfl) rfl ?_
      refine Ops.rg rfl (by first | rfl | assumption | exact decide_eq_true (by assumption) | exact decide_eq_false (by assumption) | decide | (simp; done) | (simp; omega) | (simp [*]; done)) (Run.load rfl Tryd.isAgg3 (hbb.cell 0)) rfl ?_
      refine Ops.rg rfl (by first | rfl | assumption | exact decide_eq_true (by assumption) | exact decide_eq_false (by assumption) | decide | (simp; done) | (simp; omega) | (simp [*]; done)) (Run.mv rfl) rfl ?_
      refine Ops.rg rfl (by first | rfl | assumption | exact decide_eq_true (by assumption) | exact decide_eq_false (by assumption) | decide | (simp; done) | (simp; omega) | (simp [*]; done)) (Run.bin rfl rfl (Bin.leq _ _)) rfl ?_
      refine Ops.r (Run.pickT rfl rfl (by first | rfl | assumption | exact decide_eq_true (by assumption) | exact decide_eq_false (by assumption) | decide | (simp; done) | (simp; omega) | (simp [*]; done))) rfl ?_
      refine Ops.r (Run.asg rfl) rfl ?_
      refine Ops.nil ?_
      refine thenQ_n ⟨(.cons (by rw [dand1 hs0]; rfl) .nil), rfl⟩
    · skip
      refine VC.region ?_
      refine Ops.r (Run.load rfl Tryd.isAgg3 (hbb.cell 0)) rfl ?_
      refine Ops.r (Run.mv rfl) rfl ?_
      refine Ops.r (Run.bin rfl rfl (Bin.geq _ _)) rfl ?_
      refine Ops.r (Run.mv rfl) rfl ?_
      refine Ops.sk rfl (by first | rfl | assumption | exact decide_eq_true (by assumption) | exact decide_eq_false (by assumption) | decide | (simp; done) | (simp; omega) | (simp [*]; done)) rfl ?_
      refine Ops.sk rfl (by first | rfl | assumption | exact decide_eq_true (by assumption) | exact decide_eq_false (by assumption) | decide | (simp; done) | (simp; omega) | (simp [*]; done)) rfl ?_
      refine Ops.sk rfl (by first | rfl | assumption | exact decide_eq_true (by assumption) | exact decide_eq_false (by assumption) | decide | (simp; done) | (simp; omega) | (simp [*]; done)) rfl ?_
      refine Ops.r (Run.pickF rfl rfl (by first | rfl | assumption | exact decide_eq_true (by assumption) | exact decide_eq_false (by assumption) | decide | (simp; done) | (simp; omega) | (simp [*]; done))) rfl ?_
      refine Ops.r (Run.asg rfl) rfl ?_
      refine Ops.nil ?_
      refine thenQ_n ⟨(.cons (by rw [dand0 hs0]; rfl) .nil), rfl⟩
  · intro Γ hΓ
    refine thenQ_n (VC.sub _ hΓ ?_)
    refine VC.ret ?_
    refine end1 rfl ?_
    exact ⟨by rw [show (decide (InQ x gr n)) = decide (n ≥ (endsQ x gr).1 ∧ n ≤ (endsQ x gr).2) from decide_eq_decide.2 Iff.rfl], hf3.trans hf2 (by simp)⟩

/-- A test of spans. -/
def TestS (w : World) (f : FuncId) (us : List Value) (p : Sp → Bool) : Prop :=
  (∀ args w, (callFunc f args).run Tryd.prog w = .ok (.enter f args) w) ∧ ∀ W (x : Sp), Frm [] w W → Calls Tryd.prog f (Value.agg (SC1 x).toArray :: us).toArray W fun e W' => e = .returned (.bool (p x)) ∧ Frm [] W W'
theorem SC_at {w : World} {A : Option Addr} {l : List Sp} {k : Nat} (h : Rd w 2 A l.length (SC l)) (hk : k < l.length) : ∃ ad, A = some ad ∧ ∀ j v, (SC1 l[k])[j]? = some v → w.cell? ((ad.add (k * 2)).add j) = some v := by
  obtain ⟨ad, rfl, hc⟩ := h.elem hk
  refine ⟨ad, rfl, fun j v hj => hc j v ?_⟩
  rw [flat_get SC1 2 SC1_len l k hk]
  exact hj

set_option maxRecDepth 100000 in
theorem idxS_spec (A : Option Addr) (c : Nat) (l : List Sp) (f : FuncId) (us : List Value) (p : Sp → Bool) (w : World) (hl : Rd w 2 A l.length (SC l)) (hn : l.length ≤ 1000000) (ht : TestS w f us p) :
    Calls Tryd.prog 70 #[.slice A l.length c, .func (.func f) #[] us.toArray] w fun e w' => Frm [] w w' ∧ ∃ k : Int, e = .returned (.int .i64 k) ∧ (0 ≤ k ↔ ∃ x ∈ l, p x = true) := by
  refine VC.calls (nt := 19) (res := #[.tmp 4]) Tryd.func70 rfl Tryd.ntmps70 Tryd.results70 rfl ?_
  refine VC.seq ?_
  refine VC.region ?_
  refine Ops.r (v := .int .i64 ((0 : Nat) : Int)) (Run.asg rfl) rfl ?_
  refine Ops.nil ?_
  refine thenQ_n ?_
  refine VC.sub [(0, _), (1, _)] (.cons rfl (.cons rfl .nil)) ?_
  refine VC.seq ?_
  refine VC.seq ?_
  refine VC.region ?_
  refine Ops.r (Run.mv rfl) rfl ?_
  refine Ops.r (Run.lenS rfl Tryd.underlying37) rfl ?_
  refine Ops.r (v := .int .i64 ((0 : Nat) : Int)) (Run.mv rfl) rfl ?_
  refine Ops.nil ?_
  refine thenQ_n ?_
  refine VC.sub [(0, _), (1, _), (7, _), (8, _)] (.cons rfl (.cons rfl (.cons rfl (.cons rfl .nil)))) ?_
  refine VC.block ?_
  refine VC.loop (σ := Nat) (fun s => [(0, .slice A l.length c), (1, .func (.func f) #[] us.toArray), (7, .int .i64 ((l.length : Nat) : Int)), (8, .int .i64 ((s : Nat) : Int))]) (fun s wr => s ≤ l.length ∧ Frm [] w wr ∧ ∀ x ∈ l.take s, p x = false) (fun s => l.length - s) 0 (.cons rfl (.cons rfl (.cons rfl (.cons rfl .nil)))) ⟨by omega, Frm.refl _ _, by simp⟩ ?_
  rintro i wr ⟨hi, hfr, hno⟩
  refine VC.seq ?_
  refine VC.region ?_
  refine Ops.r (Run.bin rfl rfl (Bin.lssN _ _)) rfl ?_
  refine Ops.nil ?_
  refine thenQ_n ?_
  refine VC.seq ?_
  refine VC.condD rfl (fun hc1 => ?_) (fun hc1 => ?_)
  · skip
    obtain ⟨ad, rfl, hcell⟩ := SC_at (hl.frm hfr (by simp)) hc1
    have hts : l.take (i + 1) = l.take i ++ [l[i]] := by rw [List.take_add_one, List.getElem?_eq_getElem hc1]; rfl
    have hxm := List.getElem_mem hc1
    generalize hx : l[i] = x at *
    refine VC.skip ?_
    refine thenQ_n ?_
    refine VC.sub [(0, _), (1, _), (7, _), (8, _)] (.cons rfl (.cons rfl (.cons rfl (.cons rfl .nil)))) ?_
    refine VC.seq ?_
    refine VC.block ?_
    refine VC.seq ?_
    refine VC.region ?_
    refine Ops.r (Run.mv rfl) rfl ?_
    refine Ops.r (Run.asg rfl) rfl ?_
    refine Ops.nil ?_
    refine thenQ_n ?_
    refine VC.sub [(0, _), (1, _), (5, _), (7, _), (8, _)] (.cons rfl (.cons rfl (.cons rfl (.cons rfl (.cons rfl .nil))))) ?_
    refine VC.seq ?_
    refine VC.region ?_
    refine Ops.r (Run.mv rfl) rfl ?_
    refine Ops.r (Run.mv rfl) rfl ?_
    refine Ops.r (Run.mv rfl) rfl ?_
    refine Ops.r (Run.indexS i rfl rfl Tryd.underlying37 Tryd.sizeOf46 hc1) rfl ?_
    refine Ops.r (Run.loadA rfl Tryd.isAgg46 Tryd.sizeOf46 hcell (by first | rfl | (simp; done))) rfl ?_
    refine Ops.cl (Enters.dyn rfl (evs.cons rfl evs.nil) ht.1) ((ht.2 _ x hfr)) rfl ?_
    rintro e w1 ⟨rfl, hf1⟩
    refine ⟨_, rfl, ?_⟩
    refine Ops.nil ?_
    refine thenQ_n ?_
    refine VC.sub [(0, _), (1, _), (5, _), (7, _), (8, _), (16, _)] (.cons rfl (.cons rfl (.cons rfl (.cons rfl (.cons rfl (.cons rfl .nil)))))) ?_
    refine VC.condB rfl (fun hc2 => ?_) (fun hc2 => ?_)
    · skip
      refine VC.seq ?_
      refine VC.region ?_
      refine Ops.r (Run.mv rfl) rfl ?_
      refine Ops.r (Run.asg rfl) rfl ?_
      refine Ops.nil ?_
      refine thenQ_n ?_
      refine VC.sub [(4, _)] (.cons rfl .nil) ?_
      refine VC.ret ?_
      refine blockQ_r (thenQ_r (thenQ_r (blockQ_r (thenQ_r (end1 rfl ?_)))))
      exact ⟨hfr.trans hf1 (by simp), _, rfl, ⟨fun _ => ⟨x, hxm, hc2⟩, fun _ => by omega⟩⟩
    · skip
      refine VC.skip ?_
      refine blockQ_n (thenQ_n ?_)
      refine VC.sub [(0, _), (1, _), (7, _), (8, _)] (.cons rfl (.cons rfl (.cons rfl (.cons rfl .nil)))) ?_
      refine VC.region ?_
      refine Ops.r (Run.bin rfl rfl (Bin.add_i64 _ 1 (by omega))) rfl ?_
      refine Ops.r (Run.mv rfl) rfl ?_
      refine Ops.nil ?_
      refine thenQ_n ⟨(i + 1), (.cons rfl (.cons rfl (.cons rfl (.cons rfl .nil)))), ?_, ?_⟩
      · skip
        refine ⟨hc1, hfr.trans hf1 (by simp), fun y hy => ?_⟩
        rw [hts] at hy
        rcases List.mem_append.1 hy with h | h
        · exact hno y h
        · simp only [List.mem_singleton] at h; subst h; exact hc2
      · skip
        first | omega | (dsimp only; omega)
  · skip
    refine VC.exit ?_
    refine thenQ_x (thenQ_x (blockQ_x ?_))
    refine thenQ_n ?_
    refine VC.sub [] .nil ?_
    refine VC.seq ?_
    refine VC.region ?_
    refine Ops.r (v := .int .i64 (-1)) (Run.asg rfl) rfl ?_
    refine Ops.nil ?_
    refine thenQ_n ?_
    refine VC.ret ?_
    refine end1 rfl ?_
    refine ⟨hfr, _, rfl, ⟨fun h => by omega, ?_⟩⟩
    rintro ⟨x, hx, hp⟩
    have hil : i = l.length := by omega
    subst hil
    rw [List.take_length] at hno
    rw [hno x hx] at hp
    cases hp

set_option maxRecDepth 100000 in
theorem conS_spec (A : Option Addr) (c : Nat) (l : List Sp) (f : FuncId) (us : List Value) (p : Sp → Bool) (w : World) (hl : Rd w 2 A l.length (SC l)) (hn : l.length ≤ 1000000) (ht : TestS w f us p) :
    Calls Tryd.prog 48 #[.slice A l.length c, .func (.func f) #[] us.toArray] w fun e w' => e = .returned (.bool (decide (∃ x ∈ l, p x = true))) ∧ Frm [] w w' := by
  refine VC.calls (nt := 9) (res := #[.tmp 4]) Tryd.func48 rfl Tryd.ntmps48 Tryd.results48 rfl ?_
  refine VC.seq ?_
  refine VC.region ?_
  refine Ops.r (Run.asg rfl) rfl ?_
  refine Ops.nil ?_
  refine thenQ_n ?_
  refine VC.sub [(0, _), (1, _)] (.cons rfl (.cons rfl .nil)) ?_
  refine VC.seq ?_
  refine VC.region ?_
  refine Ops.r (Run.mv rfl) rfl ?_
  refine Ops.r (Run.mv rfl) rfl ?_
  refine Ops.cl (Enters.fn (evs.cons rfl (evs.cons rfl evs.nil)) Tryd.call70) (idxS_spec A c l f us p _ hl hn ht) rfl ?_
  rintro e w1 ⟨hf1, k, rfl, hk⟩
  refine ⟨_, rfl, ?_⟩
  refine Ops.r (Run.bin rfl rfl (Bin.geq _ 0)) rfl ?_
  refine Ops.r (Run.asg rfl) rfl ?_
  refine Ops.nil ?_
  refine thenQ_n ?_
  refine VC.sub [(4, _)] (.cons rfl .nil) ?_
  refine VC.ret ?_
  refine end1 rfl ?_
  exact ⟨by rw [decide_eq_decide.2 hk.symm], hf1⟩

def AnyIn (l : List Sp) (g n : Int) : Prop := ∃ x ∈ l, InQ x g n
instance (l : List Sp) (g n : Int) : Decidable (AnyIn l g n) := by unfold AnyIn; infer_instance
theorem leaf1 {l : List Sp} {n g : Int} (h1 : n > 0) (h2 : g > 0) : decide (hasQ l n g) = decide (AnyIn l g n) := decide_eq_decide.2 ⟨fun h => h.2.2, fun h => ⟨h1, h2, h⟩⟩
theorem leaf2 {l : List Sp} {n g : Int} (h2 : ¬ g > 0) : decide (hasQ l n g) = false := decide_eq_false fun h => h2 h.2.1
theorem leaf3 {l : List Sp} {n g : Int} (h2 : ¬ n > 0) : decide (hasQ l n g) = false := decide_eq_false fun h => h2 h.1
theorem hasQ_iff {l : List Sp} {n g : Int} : hasQ l n g ↔ n > 0 ∧ g > 0 ∧ AnyIn l g n := Iff.rfl

set_option maxRecDepth 100000 in
theorem has_spec (A : Option Addr) (c : Nat) (l : List Sp) (n gr : Int) (w : World) (hl : Rd w 2 A l.length (SC l)) (hn : l.length ≤ 1000000) :
    Calls Tryd.prog 26 #[.slice A l.length c, .int .i64 n, .int .i64 gr] w fun e w' => e = .returned (.bool (decide (hasQ l n gr))) ∧ Frm [] w w' := by
  refine VC.calls (nt := 18) (res := #[.tmp 6]) Tryd.func26 rfl Tryd.ntmps26 Tryd.results26 rfl ?_
  refine VC.seq ?_
  refine VC.region ?_
  refine Ops.m (Does.box rfl) rfl ?_
  rintro _ w1 ⟨rfl, hF1⟩
  have hb4 : Blk w1 w.heap.size 3 #[.int .i64 n] := hF1.blk
  have hf1 := hF1.frm
  generalize hg4 : w.heap.size = g4 at hb4 ⊢
  refine Ops.m (Does.box rfl) rfl ?_
  rintro _ w2 ⟨rfl, hF2⟩
  have hb5 : Blk w2 w1.heap.size 3 #[.int .i64 gr] := hF2.blk
  have hb4 := hb4.frm hF2.frm (by simp)
  have hf2 := hf1.trans hF2.frm (by simp)
  generalize hg5 : w1.heap.size = g5 at hb5 ⊢
  refine Ops.r (Run.asg rfl) rfl ?_
  refine Ops.nil ?_
  refine thenQ_n ?_
  refine VC.sub [(0, _), (4, _), (5, _)] (.cons rfl (.cons rfl (.cons rfl .nil))) ?_
  refine VC.seq ?_
  refine VC.splitR [] (Frm [] w) 6 (.bool (decide (hasQ l n gr))) ?_ ?_
  · refine VC.region ?_
    refine Ops.r (Run.load rfl Tryd.isAgg3 (hb4.cell 0)) rfl ?_
    refine Ops.r (Run.bin rfl rfl (Bin.gtr _ 0)) rfl ?_
    by_cases hs8 : n > 0
    · skip
      refine Ops.r (Run.mv rfl) rfl ?_
      refine Ops.rg rfl (by first | rfl | assumption | exact decide_eq_true (by assumption) | exact decide_eq_false (by assumption) | decide | (simp; done) | (simp; omega) | (simp [*]; done)) (Run.load rfl Tryd.isAgg3 (hb5.cell 0)) rfl ?_
      refine Ops.rg rfl (by first | rfl | assumption | exact decide_eq_true (by assumption) | exact decide_eq_false (by assumption) | decide | (simp; done) | (simp; omega) | (simp [*]; done)) (Run.bin rfl rfl (Bin.gtr _ 0)) rfl ?_
      by_cases hs11 : gr > 0
      · skip
        refine Ops.r (Run.pickT rfl rfl (by first | rfl | assumption | exact decide_eq_true (by assumption) | exact decide_eq_false (by assumption) | decide | (simp; done) | (simp; omega) | (simp [*]; done))) rfl ?_
        refine Ops.r (Run.mv rfl) rfl ?_
        refine Ops.rg rfl (by first | rfl | assumption | exact decide_eq_true (by assumption) | exact decide_eq_false (by assumption) | decide | (simp; done) | (simp; omega) | (simp [*]; done)) (Run.mv rfl) rfl ?_
        refine Ops.rg rfl (by first | rfl | assumption | exact decide_eq_true (by assumption) | exact decide_eq_false (by assumption) | decide | (simp; done) | (simp; omega) | (simp [*]; done)) (Run.mkFunc evs.nil (evs.cons rfl (evs.cons rfl evs.nil))) rfl ?_
        refine Ops.clg rfl (by first | rfl | assumption | exact decide_eq_true (by assumption) | exact decide_eq_false (by assumption) | decide | (simp; done) | (simp; omega) | (simp [*]; done)) (Enters.fn (evs.cons rfl (evs.cons rfl evs.nil)) Tryd.call48) ((conS_spec A c l 49 [.pointer (some ⟨g5, 0, none⟩), .pointer (some ⟨g4, 0, none⟩)] (fun x => decide (InQ x gr n)) _ (hl.frm hf2 (by simp)) hn ⟨Tryd.call49, fun W x hW => hasC_spec x g5 g4 gr n W (hb5.frm hW (by simp)) (hb4.frm hW (by simp))⟩)) rfl ?_
        rintro e w3 ⟨rfl, hf3⟩
        have hex : (∃ x ∈ l, decide (InQ x gr n) = true) ↔ AnyIn l gr n := by unfold AnyIn; simp
        rw [decide_eq_decide.2 hex]
        refine ⟨_, rfl, ?_⟩
        have hf3 := hf2.trans hf3 (by simp)
        by_cases hs16 : AnyIn l gr n
        · skip
          refine Ops.r (Run.pickT rfl rfl (by first | rfl | assumption | exact decide_eq_true (by assumption) | exact decide_eq_false (by assumption) | decide | (simp; done) | (simp; omega) | (simp [*]; done))) rfl ?_
          refine Ops.r (Run.asg rfl) rfl ?_
          refine Ops.nil ?_
          refine thenQ_n ⟨(.cons (congrArg (fun b => some (Value.bool b)) (Eq.symm (by first | exact leaf1 ‹n > 0› ‹gr > 0› | exact leaf2 ‹¬ gr > 0› | exact leaf3 ‹¬ n > 0›))) .nil), (by first | exact hf3 | exact hf2)⟩
        · skip
          refine Ops.r (Run.pickT rfl rfl (by first | rfl | assumption | exact decide_eq_true (by assumption) | exact decide_eq_false (by assumption) | decide | (simp; done) | (simp; omega) | (simp [*]; done))) rfl ?_
          refine Ops.r (Run.asg rfl) rfl ?_
          refine Ops.nil ?_
          refine thenQ_n ⟨(.cons (congrArg (fun b => some (Value.bool b)) (Eq.symm (by first | exact leaf1 ‹n > 0› ‹gr > 0› | exact leaf2 ‹¬ gr > 0› | exact leaf3 ‹¬ n > 0›))) .nil), (by first | exact hf3 | exact hf2)⟩
      · skip
        refine Ops.r (Run.pickT rfl rfl (by first | rfl | assumption | exact decide_eq_true (by assumption) | exact decide_eq_false (by assumption) | decide | (simp; done) | (simp; omega) | (simp [*]; done))) rfl ?_
        refine Ops.r (Run.mv rfl) rfl ?_
        refine Ops.sk rfl (by first | rfl | assumption | exact decide_eq_true (by assumption) | exact decide_eq_false (by assumption) | decide | (simp; done) | (simp; omega) | (simp [*]; done)) rfl ?_
        refine Ops.sk rfl (by first | rfl | assumption | exact decide_eq_true (by assumption) | exact decide_eq_false (by assumption) | decide | (simp; done) | (simp; omega) | (simp [*]; done)) rfl ?_
        refine Ops.sk rfl (by first | rfl | assumption | exact decide_eq_true (by assumption) | exact decide_eq_false (by assumption) | decide | (simp; done) | (simp; omega) | (simp [*]; done)) rfl ?_
        refine Ops.r (Run.pickF rfl rfl (by first | rfl | assumption | exact decide_eq_true (by assumption) | exact decide_eq_false (by assumption) | decide | (simp; done) | (simp; omega) | (simp [*]; done))) rfl ?_
        refine Ops.r (Run.asg rfl) rfl ?_
        refine Ops.nil ?_
        refine thenQ_n ⟨(.cons (congrArg (fun b => some (Value.bool b)) (Eq.symm (by first | exact leaf1 ‹n > 0› ‹gr > 0› | exact leaf2 ‹¬ gr > 0› | exact leaf3 ‹¬ n > 0›))) .nil), (by first | exact hf3 | exact hf2)⟩
    · skip
      refine Ops.r (Run.mv rfl) rfl ?_
      refine Ops.sk rfl (by first | rfl | assumption | exact decide_eq_true (by assumption) | exact decide_eq_false (by assumption) | decide | (simp; done) | (simp; omega) | (simp [*]; done)) rfl ?_
      refine Ops.sk rfl (by first | rfl | assumption | exact decide_eq_true (by assumption) | exact decide_eq_false (by assumption) | decide | (simp; done) | (simp; omega) | (simp [*]; done)) rfl ?_
      refine Ops.r (Run.pickF rfl rfl (by first | rfl | assumption | exact decide_eq_true (by assumption) | exact decide_eq_false (by assumption) | decide | (simp; done) | (simp; omega) | (simp [*]; done))) rfl ?_
      refine Ops.r (Run.mv rfl) rfl ?_
      refine Ops.sk rfl (by first | rfl | assumption | exact decide_eq_true (by assumption) | exact decide_eq_false (by assumption) | decide | (simp; done) | (simp; omega) | (simp [*]; done)) rfl ?_
      refine Ops.sk rfl (by first | rfl | assumption | exact decide_eq_true (by assumption) | exact decide_eq_false (by assumption) | decide | (simp; done) | (simp; omega) | (simp [*]; done)) rfl ?_
      refine Ops.sk rfl (by first | rfl | assumption | exact decide_eq_true (by assumption) | exact decide_eq_false (by assumption) | decide | (simp; done) | (simp; omega) | (simp [*]; done)) rfl ?_
      refine Ops.r (Run.pickF rfl rfl (by first | rfl | assumption | exact decide_eq_true (by assumption) | exact decide_eq_false (by assumption) | decide | (simp; done) | (simp; omega) | (simp [*]; done))) rfl ?_
      refine Ops.r (Run.asg rfl) rfl ?_
      refine Ops.nil ?_
      refine thenQ_n ⟨(.cons (congrArg (fun b => some (Value.bool b)) (Eq.symm (by first | exact leaf1 ‹n > 0› ‹gr > 0› | exact leaf2 ‹¬ gr > 0› | exact leaf3 ‹¬ n > 0›))) .nil), (by first | exact hf3 | exact hf2)⟩
  · intro Γ wR hΓ hR
    refine thenQ_n (VC.sub _ hΓ ?_)
    refine VC.ret ?_
    refine end1 rfl ?_
    exact ⟨rfl, hR⟩

end Go.Proofs.YtnllhddbgkeboaaDoor
