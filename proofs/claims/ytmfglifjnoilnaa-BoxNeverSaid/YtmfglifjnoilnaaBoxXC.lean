/-
  BoxR, BoxQ, BoxO, BoxN, BoxK in one text.
-/
import Derived.Test.YtmfglifjnoilnaaBoxXB
/-
  The walks of the document's box: may a message be, may a box be, does one go.
-/
namespace Go.Proofs.Ytmfglifjnoilnaa
open Go.RowKit Go.Sort

set_option maxRecDepth 100000 in
theorem rmessage_spec (x : Mc) (w : World) (hx : x.At w) : Calls Try.prog 33 #[.agg x.cells.toArray] w fun e w' => e = .returned (.bool (decide (MsgOk x.m))) ∧ Frm [] w w' := by
  refine VC.calls (nt := 29) (res := #[.tmp 2]) Try.func33 rfl Try.ntmps33 Try.results33 rfl ?_
  refine VC.seq ?_
  refine VC.region ?_
  refine Ops.m (Does.box rfl) rfl ?_
  rintro _ w1 ⟨rfl, hF1⟩
  have hb1 := hF1.blk
  have hf1 := hF1.frm
  have hs1 : w.heap.size ≤ w.heap.size := Nat.le_refl _
  generalize hg1 : w.heap.size = g1 at hb1 ⊢
  refine Ops.r (Run.asg rfl) rfl ?_
  refine Ops.nil ?_
  refine thenQ_n ?_
  refine VC.sub [(1, _)] (.cons rfl .nil) ?_
  refine VC.seq ?_
  refine VC.region ?_
  refine Ops.r (Run.fieldAddr rfl Try.underlying45 rfl Try.sizeOf42 (by decide)) rfl ?_
  refine Ops.r (Run.loadA rfl Try.isAgg42 Try.sizeOf42 (hb1.sub 1 [.int .i64 x.m.sec, .int .i64 x.m.zone] rfl) (by first | rfl | (simp; done))) rfl ?_
  refine Ops.cl (Enters.fn (evs.cons rfl evs.nil) Try.call48) (clock_spec x.m.sec x.m.zone _) rfl ?_
  rintro e w2 ⟨rfl, hf2⟩
  refine ⟨_, rfl, ?_⟩
  have hfr2 := hf1.trans hf2 (by simp)
  have hb1 := hb1.frm hf2 (by simp)
  have hck := clock_ok x.m.sec x.m.zone
  rw [hck]
  refine Ops.r (Run.mv rfl) rfl ?_
  refine Ops.r (Run.extract rfl rfl) rfl ?_
  refine Ops.r (Run.extract rfl rfl) rfl ?_
  refine Ops.r (Run.extract rfl rfl) rfl ?_
  refine Ops.r (Run.asg rfl) rfl ?_
  refine Ops.r (Run.asg rfl) rfl ?_
  refine Ops.r (Run.asg rfl) rfl ?_
  refine Ops.nil ?_
  refine thenQ_n ?_
  refine VC.sub [(1, _), (5, _)] (.cons rfl (.cons rfl .nil)) ?_
  refine VC.seq ?_
  refine VC.splitR [] (Frm [] w) 2 (.bool (decide (MsgOk x.m))) ?_ ?_
  · refine VC.region ?_
    refine Ops.r (Run.mv rfl) rfl ?_
    by_cases hs13 : DateOk x.m.sec x.m.zone
    · skip
      refine Ops.r (Run.mv rfl) rfl ?_
      refine Ops.rg rfl (by first | rfl | assumption | exact decide_eq_true (by assumption) | exact decide_eq_false (by assumption) | decide | (simp; done) | (simp; omega) | (simp [*]; done)) (Run.fieldAddr rfl Try.underlying45 rfl Try.sizeOf3 (by decide)) rfl ?_
      refine Ops.rg rfl (by first | rfl | assumption | exact decide_eq_true (by assumption) | exact decide_eq_false (by assumption) | decide | (simp; done) | (simp; omega) | (simp [*]; done)) (Run.load rfl Try.isAgg3 (hb1.cell 3)) rfl ?_
      refine Ops.rg rfl (by first | rfl | assumption | exact decide_eq_true (by assumption) | exact decide_eq_false (by assumption) | decide | (simp; done) | (simp; omega) | (simp [*]; done)) (Run.bin rfl rfl (Bin.geq _ 0)) rfl ?_
      by_cases hs17 : 0 ≤ x.m.size
      · skip
        refine Ops.r (Run.pickT rfl rfl (by first | rfl | assumption | exact decide_eq_true (by assumption) | exact decide_eq_false (by assumption) | decide | (simp; done) | (simp; omega) | (simp [*]; done))) rfl ?_
        refine Ops.r (Run.mv rfl) rfl ?_
        refine Ops.rg rfl (by first | rfl | assumption | exact decide_eq_true (by assumption) | exact decide_eq_false (by assumption) | decide | (simp; done) | (simp; omega) | (simp [*]; done)) (Run.fieldAddr rfl Try.underlying45 rfl Try.sizeOf38 (by decide)) rfl ?_
        refine Ops.rg rfl (by first | rfl | assumption | exact decide_eq_true (by assumption) | exact decide_eq_false (by assumption) | decide | (simp; done) | (simp; omega) | (simp [*]; done)) (Run.load rfl Try.isAgg38 (hb1.cell 4)) rfl ?_
        refine Ops.rg rfl (by first | rfl | assumption | exact decide_eq_true (by assumption) | exact decide_eq_false (by assumption) | decide | (simp; done) | (simp; omega) | (simp [*]; done)) (Run.bin rfl rfl (Bin.gtrN _ 0)) rfl ?_
        by_cases hs22 : 0 < x.m.blob
        · skip
          refine Ops.r (Run.pickT rfl rfl (by first | rfl | assumption | exact decide_eq_true (by assumption) | exact decide_eq_false (by assumption) | decide | (simp; done) | (simp; omega) | (simp [*]; done))) rfl ?_
          refine Ops.r (Run.mv rfl) rfl ?_
          refine Ops.rg rfl (by first | rfl | assumption | exact decide_eq_true (by assumption) | exact decide_eq_false (by assumption) | decide | (simp; done) | (simp; omega) | (simp [*]; done)) (Run.fieldAddr rfl Try.underlying45 rfl Try.sizeOf43 (by decide)) rfl ?_
          refine Ops.rg rfl (by first | rfl | assumption | exact decide_eq_true (by assumption) | exact decide_eq_false (by assumption) | decide | (simp; done) | (simp; omega) | (simp [*]; done)) (Run.load rfl Try.isAgg43 (hb1.cell 5)) rfl ?_
          refine Ops.clg rfl (by first | rfl | assumption | exact decide_eq_true (by assumption) | exact decide_eq_false (by assumption) | decide | (simp; done) | (simp; omega) | (simp [*]; done)) (Enters.fn (evs.cons rfl evs.nil) Try.call49) (rcheck_spec x.A x.c x.m.flags _ (by have := hx.n; omega) hx.q (hx.frm hfr2 (by simp)).rd) rfl ?_
          rintro e w3 ⟨rfl, hf3⟩
          refine ⟨_, rfl, ?_⟩
          have hfr3 := hfr2.trans hf3 (by simp)
          by_cases hs27 : checkF x.m.flags
          · skip
            refine Ops.r (Run.pickT rfl rfl (by first | rfl | assumption | exact decide_eq_true (by assumption) | exact decide_eq_false (by assumption) | decide | (simp; done) | (simp; omega) | (simp [*]; done))) rfl ?_
            refine Ops.r (Run.asg rfl) rfl ?_
            refine Ops.nil ?_
            refine thenQ_n ⟨(.cons (congrArg (fun b => some (Value.bool b)) (Eq.symm (by unfold MsgOk; first | exact decide_eq_true ⟨by assumption, by assumption, by omega, by assumption⟩ | exact decide_eq_false (fun h => by first | exact absurd h.1 (by assumption) | exact absurd h.2.1 (by assumption) | (have := h.2.2.1; omega) | exact absurd h.2.2.2 (by assumption)) | exact decide_eq_decide.2 ⟨fun h => h.2.2.2, fun h => ⟨by assumption, by assumption, by omega, h⟩⟩))) .nil), (by first | exact hfr3 | exact hfr2)⟩
          · skip
            refine Ops.r (Run.pickT rfl rfl (by first | rfl | assumption | exact decide_eq_true (by assumption) | exact decide_eq_false (by assumption) | decide | (simp; done) | (simp; omega) | (simp [*]; done))) rfl ?_
            refine Ops.r (Run.asg rfl) rfl ?_
            refine Ops.nil ?_
            refine thenQ_n ⟨(.cons (congrArg (fun b => some (Value.bool b)) (Eq.symm (by unfold MsgOk; first | exact decide_eq_true ⟨by assumption, by assumption, by omega, by assumption⟩ | exact decide_eq_false (fun h => by first | exact absurd h.1 (by assumption) | exact absurd h.2.1 (by assumption) | (have := h.2.2.1; omega) | exact absurd h.2.2.2 (by assumption)) | exact decide_eq_decide.2 ⟨fun h => h.2.2.2, fun h => ⟨by assumption, by assumption, by omega, h⟩⟩))) .nil), (by first | exact hfr3 | exact hfr2)⟩
        · skip
          refine Ops.r (Run.pickT rfl rfl (by first | rfl | assumption | exact decide_eq_true (by assumption) | exact decide_eq_false (by assumption) | decide | (simp; done) | (simp; omega) | (simp [*]; done))) rfl ?_
          refine Ops.r (Run.mv rfl) rfl ?_
          refine Ops.sk rfl (by first | rfl | assumption | exact decide_eq_true (by assumption) | exact decide_eq_false (by assumption) | decide | (simp; done) | (simp; omega) | (simp [*]; done)) rfl ?_
          refine Ops.sk rfl (by first | rfl | assumption | exact decide_eq_true (by assumption) | exact decide_eq_false (by assumption) | decide | (simp; done) | (simp; omega) | (simp [*]; done)) rfl ?_
          refine Ops.sk rfl (by first | rfl | assumption | exact decide_eq_true (by assumption) | exact decide_eq_false (by assumption) | decide | (simp; done) | (simp; omega) | (simp [*]; done)) rfl ?_
          refine Ops.r (Run.pickF rfl rfl (by first | rfl | assumption | exact decide_eq_true (by assumption) | exact decide_eq_false (by assumption) | decide | (simp; done) | (simp; omega) | (simp [*]; done))) rfl ?_
          refine Ops.r (Run.asg rfl) rfl ?_
          refine Ops.nil ?_
          refine thenQ_n ⟨(.cons (congrArg (fun b => some (Value.bool b)) (Eq.symm (by unfold MsgOk; first | exact decide_eq_true ⟨by assumption, by assumption, by omega, by assumption⟩ | exact decide_eq_false (fun h => by first | exact absurd h.1 (by assumption) | exact absurd h.2.1 (by assumption) | (have := h.2.2.1; omega) | exact absurd h.2.2.2 (by assumption)) | exact decide_eq_decide.2 ⟨fun h => h.2.2.2, fun h => ⟨by assumption, by assumption, by omega, h⟩⟩))) .nil), (by first | exact hfr3 | exact hfr2)⟩
      · skip
        refine Ops.r (Run.pickT rfl rfl (by first | rfl | assumption | exact decide_eq_true (by assumption) | exact decide_eq_false (by assumption) | decide | (simp; done) | (simp; omega) | (simp [*]; done))) rfl ?_
        refine Ops.r (Run.mv rfl) rfl ?_
        refine Ops.sk rfl (by first | rfl | assumption | exact decide_eq_true (by assumption) | exact decide_eq_false (by assumption) | decide | (simp; done) | (simp; omega) | (simp [*]; done)) rfl ?_
        refine Ops.sk rfl (by first | rfl | assumption | exact decide_eq_true (by assumption) | exact decide_eq_false (by assumption) | decide | (simp; done) | (simp; omega) | (simp [*]; done)) rfl ?_
        refine Ops.sk rfl (by first | rfl | assumption | exact decide_eq_true (by assumption) | exact decide_eq_false (by assumption) | decide | (simp; done) | (simp; omega) | (simp [*]; done)) rfl ?_
        refine Ops.r (Run.pickF rfl rfl (by first | rfl | assumption | exact decide_eq_true (by assumption) | exact decide_eq_false (by assumption) | decide | (simp; done) | (simp; omega) | (simp [*]; done))) rfl ?_
        refine Ops.r (Run.mv rfl) rfl ?_
        refine Ops.sk rfl (by first | rfl | assumption | exact decide_eq_true (by assumption) | exact decide_eq_false (by assumption) | decide | (simp; done) | (simp; omega) | (simp [*]; done)) rfl ?_
        refine Ops.sk rfl (by first | rfl | assumption | exact decide_eq_true (by assumption) | exact decide_eq_false (by assumption) | decide | (simp; done) | (simp; omega) | (simp [*]; done)) rfl ?_
        refine Ops.sk rfl (by first | rfl | assumption | exact decide_eq_true (by assumption) | exact decide_eq_false (by assumption) | decide | (simp; done) | (simp; omega) | (simp [*]; done)) rfl ?_
        refine Ops.r (Run.pickF rfl rfl (by first | rfl | assumption | exact decide_eq_true (by assumption) | exact decide_eq_false (by assumption) | decide | (simp; done) | (simp; omega) | (simp [*]; done))) rfl ?_
        refine Ops.r (Run.asg rfl) rfl ?_
        refine Ops.nil ?_
        refine thenQ_n ⟨(.cons (congrArg (fun b => some (Value.bool b)) (Eq.symm (by unfold MsgOk; first | exact decide_eq_true ⟨by assumption, by assumption, by omega, by assumption⟩ | exact decide_eq_false (fun h => by first | exact absurd h.1 (by assumption) | exact absurd h.2.1 (by assumption) | (have := h.2.2.1; omega) | exact absurd h.2.2.2 (by assumption)) | exact decide_eq_decide.2 ⟨fun h => h.2.2.2, fun h => ⟨by assumption, by assumption, by omega, h⟩⟩))) .nil), (by first | exact hfr3 | exact hfr2)⟩
    · skip
      refine Ops.r (Run.mv rfl) rfl ?_
      refine Ops.sk rfl (by first | rfl | assumption | exact decide_eq_true (by assumption) | exact decide_eq_false (by assumption) | decide | (simp; done) | (simp; omega) | (simp [*]; done)) rfl ?_
      refine Ops.sk rfl (by first | rfl | assumption | exact decide_eq_true (by assumption) | exact decide_eq_false (by assumption) | decide | (simp; done) | (simp; omega) | (simp [*]; done)) rfl ?_
      refine Ops.sk rfl (by first | rfl | assumption | exact decide_eq_true (by assumption) | exact decide_eq_false (by assumption) | decide | (simp; done) | (simp; omega) | (simp [*]; done)) rfl ?_
      refine Ops.r (Run.pickF rfl rfl (by first | rfl | assumption | exact decide_eq_true (by assumption) | exact decide_eq_false (by assumption) | decide | (simp; done) | (simp; omega) | (simp [*]; done))) rfl ?_
      refine Ops.r (Run.mv rfl) rfl ?_
      refine Ops.sk rfl (by first | rfl | assumption | exact decide_eq_true (by assumption) | exact decide_eq_false (by assumption) | decide | (simp; done) | (simp; omega) | (simp [*]; done)) rfl ?_
      refine Ops.sk rfl (by first | rfl | assumption | exact decide_eq_true (by assumption) | exact decide_eq_false (by assumption) | decide | (simp; done) | (simp; omega) | (simp [*]; done)) rfl ?_
      refine Ops.sk rfl (by first | rfl | assumption | exact decide_eq_true (by assumption) | exact decide_eq_false (by assumption) | decide | (simp; done) | (simp; omega) | (simp [*]; done)) rfl ?_
      refine Ops.r (Run.pickF rfl rfl (by first | rfl | assumption | exact decide_eq_true (by assumption) | exact decide_eq_false (by assumption) | decide | (simp; done) | (simp; omega) | (simp [*]; done))) rfl ?_
      refine Ops.r (Run.mv rfl) rfl ?_
      refine Ops.sk rfl (by first | rfl | assumption | exact decide_eq_true (by assumption) | exact decide_eq_false (by assumption) | decide | (simp; done) | (simp; omega) | (simp [*]; done)) rfl ?_
      refine Ops.sk rfl (by first | rfl | assumption | exact decide_eq_true (by assumption) | exact decide_eq_false (by assumption) | decide | (simp; done) | (simp; omega) | (simp [*]; done)) rfl ?_
      refine Ops.sk rfl (by first | rfl | assumption | exact decide_eq_true (by assumption) | exact decide_eq_false (by assumption) | decide | (simp; done) | (simp; omega) | (simp [*]; done)) rfl ?_
      refine Ops.r (Run.pickF rfl rfl (by first | rfl | assumption | exact decide_eq_true (by assumption) | exact decide_eq_false (by assumption) | decide | (simp; done) | (simp; omega) | (simp [*]; done))) rfl ?_
      refine Ops.r (Run.asg rfl) rfl ?_
      refine Ops.nil ?_
      refine thenQ_n ⟨(.cons (congrArg (fun b => some (Value.bool b)) (Eq.symm (by unfold MsgOk; first | exact decide_eq_true ⟨by assumption, by assumption, by omega, by assumption⟩ | exact decide_eq_false (fun h => by first | exact absurd h.1 (by assumption) | exact absurd h.2.1 (by assumption) | (have := h.2.2.1; omega) | exact absurd h.2.2.2 (by assumption)) | exact decide_eq_decide.2 ⟨fun h => h.2.2.2, fun h => ⟨by assumption, by assumption, by omega, h⟩⟩))) .nil), (by first | exact hfr3 | exact hfr2)⟩
  · intro Γ wR hΓ hR
    refine thenQ_n (VC.sub _ hΓ ?_)
    refine VC.ret ?_
    refine end1 rfl ?_
    exact ⟨rfl, hR⟩

theorem prev_nonneg {n : Int} {l : List Mc} : ∀ {i : Nat}, i ≤ l.length → (∀ j (hj : j < l.length), j < i → GoodAt n (Ms l) j (l[j]).m) → 0 ≤ prevU (Ms l) i ∧ (0 < i → 1 ≤ prevU (Ms l) i)
  | 0, _, _ => ⟨Int.le_refl _, fun h => absurd h (Nat.lt_irrefl 0)⟩
  | i + 1, hi, h => by
    have ih := prev_nonneg (i := i) (by omega) (fun j hj hji => h j hj (by omega))
    have h1 := (h i (by omega) (by omega)).1
    have h2 := prev_succ (l := l) (i := i) (by omega)
    rw [h2]
    omega

set_option maxRecDepth 100000 in
theorem rmay_spec (v n : Int) (A : Option Addr) (c : Nat) (l : List Mc) (w : World) (hl : RdM w A l) (hn : l.length ≤ 1000000) : Calls Try.prog 11 #[.agg #[.int .i64 v, .int .i64 n, .slice A l.length c]] w fun e w' => e = .returned (.bool (decide (mayB ⟨v, n, Ms l⟩))) ∧ Frm [] w w' := by
  refine VC.calls (nt := 74) (res := #[.tmp 2]) Try.func11 rfl Try.ntmps11 Try.results11 rfl ?_
  refine VC.seq ?_
  refine VC.region ?_
  refine Ops.m (Does.box rfl) rfl ?_
  rintro _ w1 ⟨rfl, hF1⟩
  have hb1 := hF1.blk
  have hf1 := hF1.frm
  have hs1 : w.heap.size ≤ w.heap.size := Nat.le_refl _
  generalize hg1 : w.heap.size = g1 at hb1 ⊢
  refine Ops.r (Run.asg rfl) rfl ?_
  refine Ops.nil ?_
  refine thenQ_n ?_
  refine VC.sub [(1, _)] (.cons rfl .nil) ?_
  refine VC.seq ?_
  refine VC.seq ?_
  refine VC.region ?_
  refine Ops.r (v := .int .i64 ((0 : Nat) : Int)) (Run.asg rfl) rfl ?_
  refine Ops.nil ?_
  refine thenQ_n ?_
  refine VC.block ?_
  refine VC.loop (σ := Nat) (fun s => [(1, .pointer (some ⟨g1, 0, none⟩)), (3, .int .i64 ((s : Nat) : Int))]) (fun s wr => s ≤ l.length ∧ Frm [] w wr ∧ Blk wr g1 24 #[.int .i64 v, .int .i64 n, .slice A l.length c] ∧ ∀ j (hj : j < l.length), j < s → GoodAt n (Ms l) j (l[j]).m) (fun s => l.length - s) 0 (.cons rfl (.cons rfl .nil)) ⟨by omega, hf1, hb1, by simp⟩ ?_
  rintro i wr ⟨hi, hfr, hb1, hg⟩
  refine VC.seq ?_
  refine VC.seq ?_
  refine VC.region ?_
  refine Ops.r (Run.mv rfl) rfl ?_
  refine Ops.r (Run.fieldAddr rfl Try.underlying24 rfl Try.sizeOf22 (by decide)) rfl ?_
  refine Ops.r (Run.load rfl Try.isAgg22 (hb1.cell 2)) rfl ?_
  refine Ops.r (Run.lenS rfl Try.underlying22) rfl ?_
  refine Ops.r (Run.bin rfl rfl (Bin.lssN _ _)) rfl ?_
  refine Ops.nil ?_
  refine thenQ_n ?_
  refine VC.sub [(1, _), (3, _), (9, _)] (.cons rfl (.cons rfl (.cons rfl .nil))) ?_
  refine VC.condD rfl (fun hc1 => ?_) (fun hc1 => ?_)
  · skip
    have hR := hl.frm hfr
    have hAe : ∃ ad, A = some ad := (hR.elem hc1).elim fun ad h => ⟨ad, h.1⟩
    obtain ⟨ad, rfl⟩ := hAe
    have hcell : ∀ k (hk : k < l.length) j v, (l[k]).cells[j]? = some v → wr.cell? ((ad.add (k * 6)).add j) = some v := fun k hk => by
      obtain ⟨ad', hA, h⟩ := hR.elem hk
      injection hA with hA
      subst hA
      exact h
    have hxa := hR.fl (l[i]) (List.getElem_mem hc1)
    have hcx := hcell i hc1
    have hpz : i = 0 → prevU (Ms l) i = 0 := fun h => by subst h; rfl
    have hps : ∀ (h : 0 < i), prevU (Ms l) i = (l[i - 1]'(by omega)).m.uid := fun h => by
      have := prev_succ (l := l) (i := i - 1) (by omega)
      rwa [show i - 1 + 1 = i by omega] at this
    have hpge := prev_nonneg hi hg
    generalize hx : l[i] = x at *
    refine VC.skip ?_
    refine thenQ_n ?_
    refine VC.sub [(1, _), (3, _)] (.cons rfl (.cons rfl .nil)) ?_
    refine VC.seq ?_
    refine VC.block ?_
    refine VC.seq ?_
    refine VC.region ?_
    refine Ops.r (Run.fieldAddr rfl Try.underlying24 rfl Try.sizeOf22 (by decide)) rfl ?_
    refine Ops.r (Run.load rfl Try.isAgg22 (hb1.cell 2)) rfl ?_
    refine Ops.r (Run.mv rfl) rfl ?_
    refine Ops.r (Run.indexS i rfl rfl Try.underlying22 Try.sizeOf45 hc1) rfl ?_
    refine Ops.r (Run.fieldAddr rfl Try.underlying45 rfl Try.sizeOf3 (by decide)) rfl ?_
    refine Ops.r (Run.load rfl Try.isAgg3 (hcx 0 _ rfl)) rfl ?_
    refine Ops.r (Run.asg rfl) rfl ?_
    refine Ops.nil ?_
    refine thenQ_n ?_
    refine VC.sub [(1, _), (3, _), (4, _)] (.cons rfl (.cons rfl (.cons rfl .nil))) ?_
    refine VC.seq ?_
    refine VC.splitR [(1, .pointer (some ⟨g1, 0, none⟩)), (3, .int .i64 ((i : Nat) : Int))] (Frm [] wr) 49 (.bool (decide (¬ GoodAt n (Ms l) i x.m))) ?_ ?_
    · refine VC.region ?_
      refine Ops.r (Run.mv rfl) rfl ?_
      refine Ops.r (Run.bin rfl rfl (Bin.lss _ 1)) rfl ?_
      by_cases hs19 : x.m.uid < 1
      · skip
        refine Ops.r (Run.mv rfl) rfl ?_
        refine Ops.sk rfl (by first | rfl | assumption | exact decide_eq_true (by assumption) | exact decide_eq_false (by assumption) | decide | (simp; done) | (simp; omega) | (simp [*]; done)) rfl ?_
        refine Ops.sk rfl (by first | rfl | assumption | exact decide_eq_true (by assumption) | exact decide_eq_false (by assumption) | decide | (simp; done) | (simp; omega) | (simp [*]; done)) rfl ?_
        refine Ops.sk rfl (by first | rfl | assumption | exact decide_eq_true (by assumption) | exact decide_eq_false (by assumption) | decide | (simp; done) | (simp; omega) | (simp [*]; done)) rfl ?_
        refine Ops.sk rfl (by first | rfl | assumption | exact decide_eq_true (by assumption) | exact decide_eq_false (by assumption) | decide | (simp; done) | (simp; omega) | (simp [*]; done)) rfl ?_
        refine Ops.r (Run.pickT rfl rfl (by first | rfl | assumption | exact decide_eq_true (by assumption) | exact decide_eq_false (by assumption) | decide | (simp; done) | (simp; omega) | (simp [*]; done))) rfl ?_
        refine Ops.r (Run.mv rfl) rfl ?_
        refine Ops.sk rfl (by first | rfl | assumption | exact decide_eq_true (by assumption) | exact decide_eq_false (by assumption) | decide | (simp; done) | (simp; omega) | (simp [*]; done)) rfl ?_
        refine Ops.sk rfl (by first | rfl | assumption | exact decide_eq_true (by assumption) | exact decide_eq_false (by assumption) | decide | (simp; done) | (simp; omega) | (simp [*]; done)) rfl ?_
        refine Ops.sk rfl (by first | rfl | assumption | exact decide_eq_true (by assumption) | exact decide_eq_false (by assumption) | decide | (simp; done) | (simp; omega) | (simp [*]; done)) rfl ?_
        refine Ops.skU rfl rfl ?_
        refine Ops.skU rfl rfl ?_
        refine Ops.skU rfl rfl ?_
        refine Ops.skU rfl rfl ?_
        refine Ops.skU rfl rfl ?_
        refine Ops.skU rfl rfl ?_
        refine Ops.skU rfl rfl ?_
        refine Ops.skU rfl rfl ?_
        refine Ops.skU rfl rfl ?_
        refine Ops.sk rfl (by first | rfl | assumption | exact decide_eq_true (by assumption) | exact decide_eq_false (by assumption) | decide | (simp; done) | (simp; omega) | (simp [*]; done)) rfl ?_
        refine Ops.r (Run.pickT rfl rfl (by first | rfl | assumption | exact decide_eq_true (by assumption) | exact decide_eq_false (by assumption) | decide | (simp; done) | (simp; omega) | (simp [*]; done))) rfl ?_
        refine Ops.r (Run.mv rfl) rfl ?_
        refine Ops.sk rfl (by first | rfl | assumption | exact decide_eq_true (by assumption) | exact decide_eq_false (by assumption) | decide | (simp; done) | (simp; omega) | (simp [*]; done)) rfl ?_
        refine Ops.sk rfl (by first | rfl | assumption | exact decide_eq_true (by assumption) | exact decide_eq_false (by assumption) | decide | (simp; done) | (simp; omega) | (simp [*]; done)) rfl ?_
        refine Ops.sk rfl (by first | rfl | assumption | exact decide_eq_true (by assumption) | exact decide_eq_false (by assumption) | decide | (simp; done) | (simp; omega) | (simp [*]; done)) rfl ?_
        refine Ops.sk rfl (by first | rfl | assumption | exact decide_eq_true (by assumption) | exact decide_eq_false (by assumption) | decide | (simp; done) | (simp; omega) | (simp [*]; done)) rfl ?_
        refine Ops.sk rfl (by first | rfl | assumption | exact decide_eq_true (by assumption) | exact decide_eq_false (by assumption) | decide | (simp; done) | (simp; omega) | (simp [*]; done)) rfl ?_
        refine Ops.sk rfl (by first | rfl | assumption | exact decide_eq_true (by assumption) | exact decide_eq_false (by assumption) | decide | (simp; done) | (simp; omega) | (simp [*]; done)) rfl ?_
        refine Ops.sk rfl (by first | rfl | assumption | exact decide_eq_true (by assumption) | exact decide_eq_false (by assumption) | decide | (simp; done) | (simp; omega) | (simp [*]; done)) rfl ?_
        refine Ops.r (Run.pickT rfl rfl (by first | rfl | assumption | exact decide_eq_true (by assumption) | exact decide_eq_false (by assumption) | decide | (simp; done) | (simp; omega) | (simp [*]; done))) rfl ?_
        refine Ops.nil ?_
        refine thenQ_n ⟨(.cons (congrArg (fun b => some (Value.bool b)) (Eq.symm (by first | exact decide_eq_true (fun h => by have h1 := h.1; have h2 := h.2.1; first | omega | (have := hps (by assumption); omega) | (have := hpz (by omega); omega)) | (rw [← decide_not]; exact decide_eq_decide.2 ⟨fun h hm => h ⟨by first | (have := hps (by assumption); omega) | (have := hpz (by omega); omega), by omega, hm⟩, fun h hg => h hg.2.2⟩) | exact decide_eq_decide.2 ⟨fun _ => by omega, fun _ h => by have h1 := h.1; have := hps (by assumption); omega⟩))) (.cons rfl (.cons rfl .nil))), (by first | exact hf4 | exact Frm.refl _ _)⟩
      · skip
        refine Ops.r (Run.mv rfl) rfl ?_
        refine Ops.rg rfl (by first | rfl | assumption | exact decide_eq_true (by assumption) | exact decide_eq_false (by assumption) | decide | (simp; done) | (simp; omega) | (simp [*]; done)) (Run.mv rfl) rfl ?_
        refine Ops.rg rfl (by first | rfl | assumption | exact decide_eq_true (by assumption) | exact decide_eq_false (by assumption) | decide | (simp; done) | (simp; omega) | (simp [*]; done)) (Run.fieldAddr rfl Try.underlying24 rfl Try.sizeOf3 (by decide)) rfl ?_
        refine Ops.rg rfl (by first | rfl | assumption | exact decide_eq_true (by assumption) | exact decide_eq_false (by assumption) | decide | (simp; done) | (simp; omega) | (simp [*]; done)) (Run.load rfl Try.isAgg3 (hb1.cell 1)) rfl ?_
        refine Ops.rg rfl (by first | rfl | assumption | exact decide_eq_true (by assumption) | exact decide_eq_false (by assumption) | decide | (simp; done) | (simp; omega) | (simp [*]; done)) (Run.bin rfl rfl (Bin.geq _ _)) rfl ?_
        by_cases hs24 : n ≤ x.m.uid
        · skip
          refine Ops.r (Run.pickF rfl rfl (by first | rfl | assumption | exact decide_eq_true (by assumption) | exact decide_eq_false (by assumption) | decide | (simp; done) | (simp; omega) | (simp [*]; done))) rfl ?_
          refine Ops.r (Run.mv rfl) rfl ?_
          refine Ops.sk rfl (by first | rfl | assumption | exact decide_eq_true (by assumption) | exact decide_eq_false (by assumption) | decide | (simp; done) | (simp; omega) | (simp [*]; done)) rfl ?_
          refine Ops.sk rfl (by first | rfl | assumption | exact decide_eq_true (by assumption) | exact decide_eq_false (by assumption) | decide | (simp; done) | (simp; omega) | (simp [*]; done)) rfl ?_
          refine Ops.sk rfl (by first | rfl | assumption | exact decide_eq_true (by assumption) | exact decide_eq_false (by assumption) | decide | (simp; done) | (simp; omega) | (simp [*]; done)) rfl ?_
          refine Ops.skU rfl rfl ?_
          refine Ops.skU rfl rfl ?_
          refine Ops.skU rfl rfl ?_
          refine Ops.skU rfl rfl ?_
          refine Ops.skU rfl rfl ?_
          refine Ops.skU rfl rfl ?_
          refine Ops.skU rfl rfl ?_
          refine Ops.skU rfl rfl ?_
          refine Ops.skU rfl rfl ?_
          refine Ops.sk rfl (by first | rfl | assumption | exact decide_eq_true (by assumption) | exact decide_eq_false (by assumption) | decide | (simp; done) | (simp; omega) | (simp [*]; done)) rfl ?_
          refine Ops.r (Run.pickT rfl rfl (by first | rfl | assumption | exact decide_eq_true (by assumption) | exact decide_eq_false (by assumption) | decide | (simp; done) | (simp; omega) | (simp [*]; done))) rfl ?_
          refine Ops.r (Run.mv rfl) rfl ?_
          refine Ops.sk rfl (by first | rfl | assumption | exact decide_eq_true (by assumption) | exact decide_eq_false (by assumption) | decide | (simp; done) | (simp; omega) | (simp [*]; done)) rfl ?_
          refine Ops.sk rfl (by first | rfl | assumption | exact decide_eq_true (by assumption) | exact decide_eq_false (by assumption) | decide | (simp; done) | (simp; omega) | (simp [*]; done)) rfl ?_
          refine Ops.sk rfl (by first | rfl | assumption | exact decide_eq_true (by assumption) | exact decide_eq_false (by assumption) | decide | (simp; done) | (simp; omega) | (simp [*]; done)) rfl ?_
          refine Ops.sk rfl (by first | rfl | assumption | exact decide_eq_true (by assumption) | exact decide_eq_false (by assumption) | decide | (simp; done) | (simp; omega) | (simp [*]; done)) rfl ?_
          refine Ops.sk rfl (by first | rfl | assumption | exact decide_eq_true (by assumption) | exact decide_eq_false (by assumption) | decide | (simp; done) | (simp; omega) | (simp [*]; done)) rfl ?_
          refine Ops.sk rfl (by first | rfl | assumption | exact decide_eq_true (by assumption) | exact decide_eq_false (by assumption) | decide | (simp; done) | (simp; omega) | (simp [*]; done)) rfl ?_
          refine Ops.sk rfl (by first | rfl | assumption | exact decide_eq_true (by assumption) | exact decide_eq_false (by assumption) | decide | (simp; done) | (simp; omega) | (simp [*]; done)) rfl ?_
          refine Ops.r (Run.pickT rfl rfl (by first | rfl | assumption | exact decide_eq_true (by assumption) | exact decide_eq_false (by assumption) | decide | (simp; done) | (simp; omega) | (simp [*]; done))) rfl ?_
          refine Ops.nil ?_
          refine thenQ_n ⟨(.cons (congrArg (fun b => some (Value.bool b)) (Eq.symm (by first | exact decide_eq_true (fun h => by have h1 := h.1; have h2 := h.2.1; first | omega | (have := hps (by assumption); omega) | (have := hpz (by omega); omega)) | (rw [← decide_not]; exact decide_eq_decide.2 ⟨fun h hm => h ⟨by first | (have := hps (by assumption); omega) | (have := hpz (by omega); omega), by omega, hm⟩, fun h hg => h hg.2.2⟩) | exact decide_eq_decide.2 ⟨fun _ => by omega, fun _ h => by have h1 := h.1; have := hps (by assumption); omega⟩))) (.cons rfl (.cons rfl .nil))), (by first | exact hf4 | exact Frm.refl _ _)⟩
        · skip
          refine Ops.r (Run.pickF rfl rfl (by first | rfl | assumption | exact decide_eq_true (by assumption) | exact decide_eq_false (by assumption) | decide | (simp; done) | (simp; omega) | (simp [*]; done))) rfl ?_
          refine Ops.r (Run.mv rfl) rfl ?_
          refine Ops.rg rfl (by first | rfl | assumption | exact decide_eq_true (by assumption) | exact decide_eq_false (by assumption) | decide | (simp; done) | (simp; omega) | (simp [*]; done)) (Run.mv rfl) rfl ?_
          refine Ops.rg rfl (by first | rfl | assumption | exact decide_eq_true (by assumption) | exact decide_eq_false (by assumption) | decide | (simp; done) | (simp; omega) | (simp [*]; done)) (Run.bin rfl rfl (Bin.gtrN _ 0)) rfl ?_
          by_cases hs28 : 0 < i
          · skip
            refine Ops.rg rfl (by first | rfl | assumption | exact decide_eq_true (by assumption) | exact decide_eq_false (by assumption) | decide | (simp; done) | (simp; omega) | (simp [*]; done)) (Run.mv rfl) rfl ?_
            refine Ops.rg rfl (by first | rfl | assumption | exact decide_eq_true (by assumption) | exact decide_eq_false (by assumption) | decide | (simp; done) | (simp; omega) | (simp [*]; done)) (Run.fieldAddr rfl Try.underlying24 rfl Try.sizeOf22 (by decide)) rfl ?_
            refine Ops.rg rfl (by first | rfl | assumption | exact decide_eq_true (by assumption) | exact decide_eq_false (by assumption) | decide | (simp; done) | (simp; omega) | (simp [*]; done)) (Run.load rfl Try.isAgg22 (hb1.cell 2)) rfl ?_
            refine Ops.rg rfl (by first | rfl | assumption | exact decide_eq_true (by assumption) | exact decide_eq_false (by assumption) | decide | (simp; done) | (simp; omega) | (simp [*]; done)) (Run.mv rfl) rfl ?_
            refine Ops.rg rfl (by first | rfl | assumption | exact decide_eq_true (by assumption) | exact decide_eq_false (by assumption) | decide | (simp; done) | (simp; omega) | (simp [*]; done)) (Run.bin rfl rfl (Bin.sub_i64 _ 1 (by omega) (by omega))) rfl ?_
            refine Ops.rg rfl (by first | rfl | assumption | exact decide_eq_true (by assumption) | exact decide_eq_false (by assumption) | decide | (simp; done) | (simp; omega) | (simp [*]; done)) (Run.indexS (i - 1) rfl rfl Try.underlying22 Try.sizeOf45 (by omega)) rfl ?_
            refine Ops.rg rfl (by first | rfl | assumption | exact decide_eq_true (by assumption) | exact decide_eq_false (by assumption) | decide | (simp; done) | (simp; omega) | (simp [*]; done)) (Run.fieldAddr rfl Try.underlying45 rfl Try.sizeOf3 (by decide)) rfl ?_
            refine Ops.rg rfl (by first | rfl | assumption | exact decide_eq_true (by assumption) | exact decide_eq_false (by assumption) | decide | (simp; done) | (simp; omega) | (simp [*]; done)) (Run.load rfl Try.isAgg3 (hcell (i - 1) (by omega) 0 _ rfl)) rfl ?_
            refine Ops.rg rfl (by first | rfl | assumption | exact decide_eq_true (by assumption) | exact decide_eq_false (by assumption) | decide | (simp; done) | (simp; omega) | (simp [*]; done)) (Run.mv rfl) rfl ?_
            refine Ops.rg rfl (by first | rfl | assumption | exact decide_eq_true (by assumption) | exact decide_eq_false (by assumption) | decide | (simp; done) | (simp; omega) | (simp [*]; done)) (Run.bin rfl rfl (Bin.geq _ _)) rfl ?_
            by_cases hs38 : x.m.uid ≤ (l[i - 1]'(by omega)).m.uid
            · skip
              refine Ops.rg rfl (by first | rfl | assumption | exact decide_eq_true (by assumption) | exact decide_eq_false (by assumption) | decide | (simp; done) | (simp; omega) | (simp [*]; done)) (Run.pickT rfl rfl (by first | rfl | assumption | exact decide_eq_true (by assumption) | exact decide_eq_false (by assumption) | decide | (simp; done) | (simp; omega) | (simp [*]; done))) rfl ?_
              refine Ops.r (Run.pickF rfl rfl (by first | rfl | assumption | exact decide_eq_true (by assumption) | exact decide_eq_false (by assumption) | decide | (simp; done) | (simp; omega) | (simp [*]; done))) rfl ?_
              refine Ops.r (Run.mv rfl) rfl ?_
              refine Ops.sk rfl (by first | rfl | assumption | exact decide_eq_true (by assumption) | exact decide_eq_false (by assumption) | decide | (simp; done) | (simp; omega) | (simp [*]; done)) rfl ?_
              refine Ops.sk rfl (by first | rfl | assumption | exact decide_eq_true (by assumption) | exact decide_eq_false (by assumption) | decide | (simp; done) | (simp; omega) | (simp [*]; done)) rfl ?_
              refine Ops.sk rfl (by first | rfl | assumption | exact decide_eq_true (by assumption) | exact decide_eq_false (by assumption) | decide | (simp; done) | (simp; omega) | (simp [*]; done)) rfl ?_
              refine Ops.sk rfl (by first | rfl | assumption | exact decide_eq_true (by assumption) | exact decide_eq_false (by assumption) | decide | (simp; done) | (simp; omega) | (simp [*]; done)) rfl ?_
              refine Ops.sk rfl (by first | rfl | assumption | exact decide_eq_true (by assumption) | exact decide_eq_false (by assumption) | decide | (simp; done) | (simp; omega) | (simp [*]; done)) rfl ?_
              refine Ops.sk rfl (by first | rfl | assumption | exact decide_eq_true (by assumption) | exact decide_eq_false (by assumption) | decide | (simp; done) | (simp; omega) | (simp [*]; done)) rfl ?_
              refine Ops.sk rfl (by first | rfl | assumption | exact decide_eq_true (by assumption) | exact decide_eq_false (by assumption) | decide | (simp; done) | (simp; omega) | (simp [*]; done)) rfl ?_
              refine Ops.r (Run.pickT rfl rfl (by first | rfl | assumption | exact decide_eq_true (by assumption) | exact decide_eq_false (by assumption) | decide | (simp; done) | (simp; omega) | (simp [*]; done))) rfl ?_
              refine Ops.nil ?_
              refine thenQ_n ⟨(.cons (congrArg (fun b => some (Value.bool b)) (Eq.symm (by first | exact decide_eq_true (fun h => by have h1 := h.1; have h2 := h.2.1; first | omega | (have := hps (by assumption); omega) | (have := hpz (by omega); omega)) | (rw [← decide_not]; exact decide_eq_decide.2 ⟨fun h hm => h ⟨by first | (have := hps (by assumption); omega) | (have := hpz (by omega); omega), by omega, hm⟩, fun h hg => h hg.2.2⟩) | exact decide_eq_decide.2 ⟨fun _ => by omega, fun _ h => by have h1 := h.1; have := hps (by assumption); omega⟩))) (.cons rfl (.cons rfl .nil))), (by first | exact hf4 | exact Frm.refl _ _)⟩
            · skip
              refine Ops.rg rfl (by first | rfl | assumption | exact decide_eq_true (by assumption) | exact decide_eq_false (by assumption) | decide | (simp; done) | (simp; omega) | (simp [*]; done)) (Run.pickT rfl rfl (by first | rfl | assumption | exact decide_eq_true (by assumption) | exact decide_eq_false (by assumption) | decide | (simp; done) | (simp; omega) | (simp [*]; done))) rfl ?_
              refine Ops.r (Run.pickF rfl rfl (by first | rfl | assumption | exact decide_eq_true (by assumption) | exact decide_eq_false (by assumption) | decide | (simp; done) | (simp; omega) | (simp [*]; done))) rfl ?_
              refine Ops.r (Run.mv rfl) rfl ?_
              refine Ops.rg rfl (by first | rfl | assumption | exact decide_eq_true (by assumption) | exact decide_eq_false (by assumption) | decide | (simp; done) | (simp; omega) | (simp [*]; done)) (Run.fieldAddr rfl Try.underlying24 rfl Try.sizeOf22 (by decide)) rfl ?_
              refine Ops.rg rfl (by first | rfl | assumption | exact decide_eq_true (by assumption) | exact decide_eq_false (by assumption) | decide | (simp; done) | (simp; omega) | (simp [*]; done)) (Run.load rfl Try.isAgg22 (hb1.cell 2)) rfl ?_
              refine Ops.rg rfl (by first | rfl | assumption | exact decide_eq_true (by assumption) | exact decide_eq_false (by assumption) | decide | (simp; done) | (simp; omega) | (simp [*]; done)) (Run.mv rfl) rfl ?_
              refine Ops.rg rfl (by first | rfl | assumption | exact decide_eq_true (by assumption) | exact decide_eq_false (by assumption) | decide | (simp; done) | (simp; omega) | (simp [*]; done)) (Run.indexS i rfl rfl Try.underlying22 Try.sizeOf45 hc1) rfl ?_
              refine Ops.rg rfl (by first | rfl | assumption | exact decide_eq_true (by assumption) | exact decide_eq_false (by assumption) | decide | (simp; done) | (simp; omega) | (simp [*]; done)) (Run.loadA rfl Try.isAgg45 Try.sizeOf45 hcx (by first | rfl | (simp; done))) rfl ?_
              refine Ops.clg rfl (by first | rfl | assumption | exact decide_eq_true (by assumption) | exact decide_eq_false (by assumption) | decide | (simp; done) | (simp; omega) | (simp [*]; done)) (Enters.fn (evs.cons rfl evs.nil) Try.call33) (rmessage_spec x _ hxa) rfl ?_
              rintro e w4 ⟨rfl, hf4⟩
              refine ⟨_, rfl, ?_⟩
              by_cases hs47 : MsgOk x.m
              · skip
                refine Ops.rg rfl (by first | rfl | assumption | exact decide_eq_true (by assumption) | exact decide_eq_false (by assumption) | decide | (simp; done) | (simp; omega) | (simp [*]; done)) (Run.not rfl) rfl ?_
                refine Ops.r (Run.pickF rfl rfl (by first | rfl | assumption | exact decide_eq_true (by assumption) | exact decide_eq_false (by assumption) | decide | (simp; done) | (simp; omega) | (simp [*]; done))) rfl ?_
                refine Ops.nil ?_
                refine thenQ_n ⟨(.cons (congrArg (fun b => some (Value.bool b)) (Eq.symm (by first | exact decide_eq_true (fun h => by have h1 := h.1; have h2 := h.2.1; first | omega | (have := hps (by assumption); omega) | (have := hpz (by omega); omega)) | (rw [← decide_not]; exact decide_eq_decide.2 ⟨fun h hm => h ⟨by first | (have := hps (by assumption); omega) | (have := hpz (by omega); omega), by omega, hm⟩, fun h hg => h hg.2.2⟩) | exact decide_eq_decide.2 ⟨fun _ => by omega, fun _ h => by have h1 := h.1; have := hps (by assumption); omega⟩))) (.cons rfl (.cons rfl .nil))), (by first | exact hf4 | exact Frm.refl _ _)⟩
              · skip
                refine Ops.rg rfl (by first | rfl | assumption | exact decide_eq_true (by assumption) | exact decide_eq_false (by assumption) | decide | (simp; done) | (simp; omega) | (simp [*]; done)) (Run.not rfl) rfl ?_
                refine Ops.r (Run.pickF rfl rfl (by first | rfl | assumption | exact decide_eq_true (by assumption) | exact decide_eq_false (by assumption) | decide | (simp; done) | (simp; omega) | (simp [*]; done))) rfl ?_
                refine Ops.nil ?_
                refine thenQ_n ⟨(.cons (congrArg (fun b => some (Value.bool b)) (Eq.symm (by first | exact decide_eq_true (fun h => by have h1 := h.1; have h2 := h.2.1; first | omega | (have := hps (by assumption); omega) | (have := hpz (by omega); omega)) | (rw [← decide_not]; exact decide_eq_decide.2 ⟨fun h hm => h ⟨by first | (have := hps (by assumption); omega) | (have := hpz (by omega); omega), by omega, hm⟩, fun h hg => h hg.2.2⟩) | exact decide_eq_decide.2 ⟨fun _ => by omega, fun _ h => by have h1 := h.1; have := hps (by assumption); omega⟩))) (.cons rfl (.cons rfl .nil))), (by first | exact hf4 | exact Frm.refl _ _)⟩
          · skip
            refine Ops.rg rfl (by first | rfl | assumption | exact decide_eq_true (by assumption) | exact decide_eq_false (by assumption) | decide | (simp; done) | (simp; omega) | (simp [*]; done)) (Run.mv rfl) rfl ?_
            refine Ops.sk rfl (by first | rfl | assumption | exact decide_eq_true (by assumption) | exact decide_eq_false (by assumption) | decide | (simp; done) | (simp; omega) | (simp [*]; done)) rfl ?_
            refine Ops.sk rfl (by first | rfl | assumption | exact decide_eq_true (by assumption) | exact decide_eq_false (by assumption) | decide | (simp; done) | (simp; omega) | (simp [*]; done)) rfl ?_
            refine Ops.sk rfl (by first | rfl | assumption | exact decide_eq_true (by assumption) | exact decide_eq_false (by assumption) | decide | (simp; done) | (simp; omega) | (simp [*]; done)) rfl ?_
            refine Ops.sk rfl (by first | rfl | assumption | exact decide_eq_true (by assumption) | exact decide_eq_false (by assumption) | decide | (simp; done) | (simp; omega) | (simp [*]; done)) rfl ?_
            refine Ops.sk rfl (by first | rfl | assumption | exact decide_eq_true (by assumption) | exact decide_eq_false (by assumption) | decide | (simp; done) | (simp; omega) | (simp [*]; done)) rfl ?_
            refine Ops.sk rfl (by first | rfl | assumption | exact decide_eq_true (by assumption) | exact decide_eq_false (by assumption) | decide | (simp; done) | (simp; omega) | (simp [*]; done)) rfl ?_
            refine Ops.sk rfl (by first | rfl | assumption | exact decide_eq_true (by assumption) | exact decide_eq_false (by assumption) | decide | (simp; done) | (simp; omega) | (simp [*]; done)) rfl ?_
            refine Ops.sk rfl (by first | rfl | assumption | exact decide_eq_true (by assumption) | exact decide_eq_false (by assumption) | decide | (simp; done) | (simp; omega) | (simp [*]; done)) rfl ?_
            refine Ops.sk rfl (by first | rfl | assumption | exact decide_eq_true (by assumption) | exact decide_eq_false (by assumption) | decide | (simp; done) | (simp; omega) | (simp [*]; done)) rfl ?_
            refine Ops.rg rfl (by first | rfl | assumption | exact decide_eq_true (by assumption) | exact decide_eq_false (by assumption) | decide | (simp; done) | (simp; omega) | (simp [*]; done)) (Run.pickF rfl rfl (by first | rfl | assumption | exact decide_eq_true (by assumption) | exact decide_eq_false (by assumption) | decide | (simp; done) | (simp; omega) | (simp [*]; done))) rfl ?_
            refine Ops.r (Run.pickF rfl rfl (by first | rfl | assumption | exact decide_eq_true (by assumption) | exact decide_eq_false (by assumption) | decide | (simp; done) | (simp; omega) | (simp [*]; done))) rfl ?_
            refine Ops.r (Run.mv rfl) rfl ?_
            refine Ops.rg rfl (by first | rfl | assumption | exact decide_eq_true (by assumption) | exact decide_eq_false (by assumption) | decide | (simp; done) | (simp; omega) | (simp [*]; done)) (Run.fieldAddr rfl Try.underlying24 rfl Try.sizeOf22 (by decide)) rfl ?_
            refine Ops.rg rfl (by first | rfl | assumption | exact decide_eq_true (by assumption) | exact decide_eq_false (by assumption) | decide | (simp; done) | (simp; omega) | (simp [*]; done)) (Run.load rfl Try.isAgg22 (hb1.cell 2)) rfl ?_
            refine Ops.rg rfl (by first | rfl | assumption | exact decide_eq_true (by assumption) | exact decide_eq_false (by assumption) | decide | (simp; done) | (simp; omega) | (simp [*]; done)) (Run.mv rfl) rfl ?_
            refine Ops.rg rfl (by first | rfl | assumption | exact decide_eq_true (by assumption) | exact decide_eq_false (by assumption) | decide | (simp; done) | (simp; omega) | (simp [*]; done)) (Run.indexS i rfl rfl Try.underlying22 Try.sizeOf45 hc1) rfl ?_
            refine Ops.rg rfl (by first | rfl | assumption | exact decide_eq_true (by assumption) | exact decide_eq_false (by assumption) | decide | (simp; done) | (simp; omega) | (simp [*]; done)) (Run.loadA rfl Try.isAgg45 Try.sizeOf45 hcx (by first | rfl | (simp; done))) rfl ?_
            refine Ops.clg rfl (by first | rfl | assumption | exact decide_eq_true (by assumption) | exact decide_eq_false (by assumption) | decide | (simp; done) | (simp; omega) | (simp [*]; done)) (Enters.fn (evs.cons rfl evs.nil) Try.call33) (rmessage_spec x _ hxa) rfl ?_
            rintro e w4 ⟨rfl, hf4⟩
            refine ⟨_, rfl, ?_⟩
            by_cases hs47 : MsgOk x.m
            · skip
              refine Ops.rg rfl (by first | rfl | assumption | exact decide_eq_true (by assumption) | exact decide_eq_false (by assumption) | decide | (simp; done) | (simp; omega) | (simp [*]; done)) (Run.not rfl) rfl ?_
              refine Ops.r (Run.pickF rfl rfl (by first | rfl | assumption | exact decide_eq_true (by assumption) | exact decide_eq_false (by assumption) | decide | (simp; done) | (simp; omega) | (simp [*]; done))) rfl ?_
              refine Ops.nil ?_
              refine thenQ_n ⟨(.cons (congrArg (fun b => some (Value.bool b)) (Eq.symm (by first | exact decide_eq_true (fun h => by have h1 := h.1; have h2 := h.2.1; first | omega | (have := hps (by assumption); omega) | (have := hpz (by omega); omega)) | (rw [← decide_not]; exact decide_eq_decide.2 ⟨fun h hm => h ⟨by first | (have := hps (by assumption); omega) | (have := hpz (by omega); omega), by omega, hm⟩, fun h hg => h hg.2.2⟩) | exact decide_eq_decide.2 ⟨fun _ => by omega, fun _ h => by have h1 := h.1; have := hps (by assumption); omega⟩))) (.cons rfl (.cons rfl .nil))), (by first | exact hf4 | exact Frm.refl _ _)⟩
            · skip
              refine Ops.rg rfl (by first | rfl | assumption | exact decide_eq_true (by assumption) | exact decide_eq_false (by assumption) | decide | (simp; done) | (simp; omega) | (simp [*]; done)) (Run.not rfl) rfl ?_
              refine Ops.r (Run.pickF rfl rfl (by first | rfl | assumption | exact decide_eq_true (by assumption) | exact decide_eq_false (by assumption) | decide | (simp; done) | (simp; omega) | (simp [*]; done))) rfl ?_
              refine Ops.nil ?_
              refine thenQ_n ⟨(.cons (congrArg (fun b => some (Value.bool b)) (Eq.symm (by first | exact decide_eq_true (fun h => by have h1 := h.1; have h2 := h.2.1; first | omega | (have := hps (by assumption); omega) | (have := hpz (by omega); omega)) | (rw [← decide_not]; exact decide_eq_decide.2 ⟨fun h hm => h ⟨by first | (have := hps (by assumption); omega) | (have := hpz (by omega); omega), by omega, hm⟩, fun h hg => h hg.2.2⟩) | exact decide_eq_decide.2 ⟨fun _ => by omega, fun _ h => by have h1 := h.1; have := hps (by assumption); omega⟩))) (.cons rfl (.cons rfl .nil))), (by first | exact hf4 | exact Frm.refl _ _)⟩
    · intro Γ w4 hΓ hf4
      refine thenQ_n (VC.sub _ hΓ ?_)
      refine VC.condD rfl (fun hc2 => ?_) (fun hc2 => ?_)
      · skip
        have hng : ¬ GoodAt n (Ms l) i x.m := hc2
        refine VC.seq ?_
        refine VC.region ?_
        refine Ops.r (Run.asg rfl) rfl ?_
        refine Ops.nil ?_
        refine thenQ_n ?_
        refine VC.sub [(2, _)] (.cons rfl .nil) ?_
        refine VC.ret ?_
        refine blockQ_r (thenQ_r (thenQ_r (blockQ_r (thenQ_r (end1 rfl ?_)))))
        refine ⟨?_, hfr.trans hf4 (by simp)⟩
        rw [decide_eq_false]
        intro h
        have := (may_at h).2 i hc1
        rw [hx] at this
        exact hng this
      · skip
        have hgi : GoodAt n (Ms l) i x.m := Classical.not_not.1 hc2
        have hfr4 := hfr.trans hf4 (by simp)
        refine VC.skip ?_
        refine blockQ_n (thenQ_n ?_)
        refine VC.sub [(1, _), (3, _)] (.cons rfl (.cons rfl .nil)) ?_
        refine VC.region ?_
        refine Ops.r (Run.mv rfl) rfl ?_
        refine Ops.r (Run.bin rfl rfl (Bin.add_i64 _ 1 (by omega))) rfl ?_
        refine Ops.r (Run.asg rfl) rfl ?_
        refine Ops.nil ?_
        refine thenQ_n ⟨(i + 1), (.cons rfl (.cons rfl .nil)), ?_, ?_⟩
        · skip
          refine ⟨hc1, hfr4, hb1.frm hf4 (by simp), fun j hj hji => ?_⟩
          rcases Nat.lt_or_ge j i with h | h
          · exact hg j hj h
          · obtain rfl : j = i := by omega
            rw [hx]; exact hgi
        · skip
          first | omega | (dsimp only; omega)
  · skip
    refine VC.exit ?_
    refine thenQ_x (thenQ_x (blockQ_x ?_))
    refine thenQ_n ?_
    refine VC.sub [(1, _)] (.cons rfl .nil) ?_
    refine VC.seq ?_
    refine VC.split1 [] .nil 2 (.bool (decide (1 ≤ v ∧ v ≤ 2147483647 ∧ 1 ≤ n ∧ n ≤ 2147483648 ∧ l.length ≤ 128))) ?_ ?_
    · refine VC.region ?_
      refine Ops.r (Run.fieldAddr rfl Try.underlying24 rfl Try.sizeOf3 (by decide)) rfl ?_
      refine Ops.r (Run.load rfl Try.isAgg3 (hb1.cell 0)) rfl ?_
      refine Ops.r (Run.bin rfl rfl (Bin.leq 1 _)) rfl ?_
      by_cases hs52 : 1 ≤ v
      · skip
        refine Ops.r (Run.mv rfl) rfl ?_
        refine Ops.rg rfl (by first | rfl | assumption | exact decide_eq_true (by assumption) | exact decide_eq_false (by assumption) | decide | (simp; done) | (simp; omega) | (simp [*]; done)) (Run.fieldAddr rfl Try.underlying24 rfl Try.sizeOf3 (by decide)) rfl ?_
        refine Ops.rg rfl (by first | rfl | assumption | exact decide_eq_true (by assumption) | exact decide_eq_false (by assumption) | decide | (simp; done) | (simp; omega) | (simp [*]; done)) (Run.load rfl Try.isAgg3 (hb1.cell 0)) rfl ?_
        refine Ops.rg rfl (by first | rfl | assumption | exact decide_eq_true (by assumption) | exact decide_eq_false (by assumption) | decide | (simp; done) | (simp; omega) | (simp [*]; done)) (Run.bin rfl rfl (Bin.leq _ 2147483647)) rfl ?_
        by_cases hs56 : v ≤ 2147483647
        · skip
          refine Ops.r (Run.pickT rfl rfl (by first | rfl | assumption | exact decide_eq_true (by assumption) | exact decide_eq_false (by assumption) | decide | (simp; done) | (simp; omega) | (simp [*]; done))) rfl ?_
          refine Ops.r (Run.mv rfl) rfl ?_
          refine Ops.rg rfl (by first | rfl | assumption | exact decide_eq_true (by assumption) | exact decide_eq_false (by assumption) | decide | (simp; done) | (simp; omega) | (simp [*]; done)) (Run.fieldAddr rfl Try.underlying24 rfl Try.sizeOf3 (by decide)) rfl ?_
          refine Ops.rg rfl (by first | rfl | assumption | exact decide_eq_true (by assumption) | exact decide_eq_false (by assumption) | decide | (simp; done) | (simp; omega) | (simp [*]; done)) (Run.load rfl Try.isAgg3 (hb1.cell 1)) rfl ?_
          refine Ops.rg rfl (by first | rfl | assumption | exact decide_eq_true (by assumption) | exact decide_eq_false (by assumption) | decide | (simp; done) | (simp; omega) | (simp [*]; done)) (Run.bin rfl rfl (Bin.leq 1 _)) rfl ?_
          by_cases hs61 : 1 ≤ n
          · skip
            refine Ops.r (Run.pickT rfl rfl (by first | rfl | assumption | exact decide_eq_true (by assumption) | exact decide_eq_false (by assumption) | decide | (simp; done) | (simp; omega) | (simp [*]; done))) rfl ?_
            refine Ops.r (Run.mv rfl) rfl ?_
            refine Ops.rg rfl (by first | rfl | assumption | exact decide_eq_true (by assumption) | exact decide_eq_false (by assumption) | decide | (simp; done) | (simp; omega) | (simp [*]; done)) (Run.fieldAddr rfl Try.underlying24 rfl Try.sizeOf3 (by decide)) rfl ?_
            refine Ops.rg rfl (by first | rfl | assumption | exact decide_eq_true (by assumption) | exact decide_eq_false (by assumption) | decide | (simp; done) | (simp; omega) | (simp [*]; done)) (Run.load rfl Try.isAgg3 (hb1.cell 1)) rfl ?_
            refine Ops.rg rfl (by first | rfl | assumption | exact decide_eq_true (by assumption) | exact decide_eq_false (by assumption) | decide | (simp; done) | (simp; omega) | (simp [*]; done)) (Run.bin rfl rfl (Bin.leq _ 2147483648)) rfl ?_
            by_cases hs66 : n ≤ 2147483648
            · skip
              refine Ops.r (Run.pickT rfl rfl (by first | rfl | assumption | exact decide_eq_true (by assumption) | exact decide_eq_false (by assumption) | decide | (simp; done) | (simp; omega) | (simp [*]; done))) rfl ?_
              refine Ops.r (Run.mv rfl) rfl ?_
              refine Ops.rg rfl (by first | rfl | assumption | exact decide_eq_true (by assumption) | exact decide_eq_false (by assumption) | decide | (simp; done) | (simp; omega) | (simp [*]; done)) (Run.fieldAddr rfl Try.underlying24 rfl Try.sizeOf22 (by decide)) rfl ?_
              refine Ops.rg rfl (by first | rfl | assumption | exact decide_eq_true (by assumption) | exact decide_eq_false (by assumption) | decide | (simp; done) | (simp; omega) | (simp [*]; done)) (Run.load rfl Try.isAgg22 (hb1.cell 2)) rfl ?_
              refine Ops.rg rfl (by first | rfl | assumption | exact decide_eq_true (by assumption) | exact decide_eq_false (by assumption) | decide | (simp; done) | (simp; omega) | (simp [*]; done)) (Run.lenS rfl Try.underlying22) rfl ?_
              refine Ops.rg rfl (by first | rfl | assumption | exact decide_eq_true (by assumption) | exact decide_eq_false (by assumption) | decide | (simp; done) | (simp; omega) | (simp [*]; done)) (Run.bin rfl rfl (Bin.leqN _ 128)) rfl ?_
              by_cases hs72 : l.length ≤ 128
              · skip
                refine Ops.r (Run.pickT rfl rfl (by first | rfl | assumption | exact decide_eq_true (by assumption) | exact decide_eq_false (by assumption) | decide | (simp; done) | (simp; omega) | (simp [*]; done))) rfl ?_
                refine Ops.r (Run.asg rfl) rfl ?_
                refine Ops.nil ?_
                refine thenQ_n ⟨(.cons (congrArg (fun b => some (Value.bool b)) (Eq.symm (by simp [*]))) .nil), rfl⟩
              · skip
                refine Ops.r (Run.pickT rfl rfl (by first | rfl | assumption | exact decide_eq_true (by assumption) | exact decide_eq_false (by assumption) | decide | (simp; done) | (simp; omega) | (simp [*]; done))) rfl ?_
                refine Ops.r (Run.asg rfl) rfl ?_
                refine Ops.nil ?_
                refine thenQ_n ⟨(.cons (congrArg (fun b => some (Value.bool b)) (Eq.symm (by simp [*]))) .nil), rfl⟩
            · skip
              refine Ops.r (Run.pickT rfl rfl (by first | rfl | assumption | exact decide_eq_true (by assumption) | exact decide_eq_false (by assumption) | decide | (simp; done) | (simp; omega) | (simp [*]; done))) rfl ?_
              refine Ops.r (Run.mv rfl) rfl ?_
              refine Ops.sk rfl (by first | rfl | assumption | exact decide_eq_true (by assumption) | exact decide_eq_false (by assumption) | decide | (simp; done) | (simp; omega) | (simp [*]; done)) rfl ?_
              refine Ops.sk rfl (by first | rfl | assumption | exact decide_eq_true (by assumption) | exact decide_eq_false (by assumption) | decide | (simp; done) | (simp; omega) | (simp [*]; done)) rfl ?_
              refine Ops.sk rfl (by first | rfl | assumption | exact decide_eq_true (by assumption) | exact decide_eq_false (by assumption) | decide | (simp; done) | (simp; omega) | (simp [*]; done)) rfl ?_
              refine Ops.sk rfl (by first | rfl | assumption | exact decide_eq_true (by assumption) | exact decide_eq_false (by assumption) | decide | (simp; done) | (simp; omega) | (simp [*]; done)) rfl ?_
              refine Ops.r (Run.pickF rfl rfl (by first | rfl | assumption | exact decide_eq_true (by assumption) | exact decide_eq_false (by assumption) | decide | (simp; done) | (simp; omega) | (simp [*]; done))) rfl ?_
              refine Ops.r (Run.asg rfl) rfl ?_
              refine Ops.nil ?_
              refine thenQ_n ⟨(.cons (congrArg (fun b => some (Value.bool b)) (Eq.symm (by simp [*]))) .nil), rfl⟩
          · skip
            refine Ops.r (Run.pickT rfl rfl (by first | rfl | assumption | exact decide_eq_true (by assumption) | exact decide_eq_false (by assumption) | decide | (simp; done) | (simp; omega) | (simp [*]; done))) rfl ?_
            refine Ops.r (Run.mv rfl) rfl ?_
            refine Ops.sk rfl (by first | rfl | assumption | exact decide_eq_true (by assumption) | exact decide_eq_false (by assumption) | decide | (simp; done) | (simp; omega) | (simp [*]; done)) rfl ?_
            refine Ops.sk rfl (by first | rfl | assumption | exact decide_eq_true (by assumption) | exact decide_eq_false (by assumption) | decide | (simp; done) | (simp; omega) | (simp [*]; done)) rfl ?_
            refine Ops.sk rfl (by first | rfl | assumption | exact decide_eq_true (by assumption) | exact decide_eq_false (by assumption) | decide | (simp; done) | (simp; omega) | (simp [*]; done)) rfl ?_
            refine Ops.r (Run.pickF rfl rfl (by first | rfl | assumption | exact decide_eq_true (by assumption) | exact decide_eq_false (by assumption) | decide | (simp; done) | (simp; omega) | (simp [*]; done))) rfl ?_
            refine Ops.r (Run.mv rfl) rfl ?_
            refine Ops.sk rfl (by first | rfl | assumption | exact decide_eq_true (by assumption) | exact decide_eq_false (by assumption) | decide | (simp; done) | (simp; omega) | (simp [*]; done)) rfl ?_
            refine Ops.sk rfl (by first | rfl | assumption | exact decide_eq_true (by assumption) | exact decide_eq_false (by assumption) | decide | (simp; done) | (simp; omega) | (simp [*]; done)) rfl ?_
            refine Ops.sk rfl (by first | rfl | assumption | exact decide_eq_true (by assumption) | exact decide_eq_false (by assumption) | decide | (simp; done) | (simp; omega) | (simp [*]; done)) rfl ?_
            refine Ops.sk rfl (by first | rfl | assumption | exact decide_eq_true (by assumption) | exact decide_eq_false (by assumption) | decide | (simp; done) | (simp; omega) | (simp [*]; done)) rfl ?_
            refine Ops.r (Run.pickF rfl rfl (by first | rfl | assumption | exact decide_eq_true (by assumption) | exact decide_eq_false (by assumption) | decide | (simp; done) | (simp; omega) | (simp [*]; done))) rfl ?_
            refine Ops.r (Run.asg rfl) rfl ?_
            refine Ops.nil ?_
            refine thenQ_n ⟨(.cons (congrArg (fun b => some (Value.bool b)) (Eq.symm (by simp [*]))) .nil), rfl⟩
        · skip
          refine Ops.r (Run.pickT rfl rfl (by first | rfl | assumption | exact decide_eq_true (by assumption) | exact decide_eq_false (by assumption) | decide | (simp; done) | (simp; omega) | (simp [*]; done))) rfl ?_
          refine Ops.r (Run.mv rfl) rfl ?_
          refine Ops.sk rfl (by first | rfl | assumption | exact decide_eq_true (by assumption) | exact decide_eq_false (by assumption) | decide | (simp; done) | (simp; omega) | (simp [*]; done)) rfl ?_
          refine Ops.sk rfl (by first | rfl | assumption | exact decide_eq_true (by assumption) | exact decide_eq_false (by assumption) | decide | (simp; done) | (simp; omega) | (simp [*]; done)) rfl ?_
          refine Ops.sk rfl (by first | rfl | assumption | exact decide_eq_true (by assumption) | exact decide_eq_false (by assumption) | decide | (simp; done) | (simp; omega) | (simp [*]; done)) rfl ?_
          refine Ops.r (Run.pickF rfl rfl (by first | rfl | assumption | exact decide_eq_true (by assumption) | exact decide_eq_false (by assumption) | decide | (simp; done) | (simp; omega) | (simp [*]; done))) rfl ?_
          refine Ops.r (Run.mv rfl) rfl ?_
          refine Ops.sk rfl (by first | rfl | assumption | exact decide_eq_true (by assumption) | exact decide_eq_false (by assumption) | decide | (simp; done) | (simp; omega) | (simp [*]; done)) rfl ?_
          refine Ops.sk rfl (by first | rfl | assumption | exact decide_eq_true (by assumption) | exact decide_eq_false (by assumption) | decide | (simp; done) | (simp; omega) | (simp [*]; done)) rfl ?_
          refine Ops.sk rfl (by first | rfl | assumption | exact decide_eq_true (by assumption) | exact decide_eq_false (by assumption) | decide | (simp; done) | (simp; omega) | (simp [*]; done)) rfl ?_
          refine Ops.r (Run.pickF rfl rfl (by first | rfl | assumption | exact decide_eq_true (by assumption) | exact decide_eq_false (by assumption) | decide | (simp; done) | (simp; omega) | (simp [*]; done))) rfl ?_
          refine Ops.r (Run.mv rfl) rfl ?_
          refine Ops.sk rfl (by first | rfl | assumption | exact decide_eq_true (by assumption) | exact decide_eq_false (by assumption) | decide | (simp; done) | (simp; omega) | (simp [*]; done)) rfl ?_
          refine Ops.sk rfl (by first | rfl | assumption | exact decide_eq_true (by assumption) | exact decide_eq_false (by assumption) | decide | (simp; done) | (simp; omega) | (simp [*]; done)) rfl ?_
          refine Ops.sk rfl (by first | rfl | assumption | exact decide_eq_true (by assumption) | exact decide_eq_false (by assumption) | decide | (simp; done) | (simp; omega) | (simp [*]; done)) rfl ?_
          refine Ops.sk rfl (by first | rfl | assumption | exact decide_eq_true (by assumption) | exact decide_eq_false (by assumption) | decide | (simp; done) | (simp; omega) | (simp [*]; done)) rfl ?_
          refine Ops.r (Run.pickF rfl rfl (by first | rfl | assumption | exact decide_eq_true (by assumption) | exact decide_eq_false (by assumption) | decide | (simp; done) | (simp; omega) | (simp [*]; done))) rfl ?_
          refine Ops.r (Run.asg rfl) rfl ?_
          refine Ops.nil ?_
          refine thenQ_n ⟨(.cons (congrArg (fun b => some (Value.bool b)) (Eq.symm (by simp [*]))) .nil), rfl⟩
      · skip
        refine Ops.r (Run.mv rfl) rfl ?_
        refine Ops.sk rfl (by first | rfl | assumption | exact decide_eq_true (by assumption) | exact decide_eq_false (by assumption) | decide | (simp; done) | (simp; omega) | (simp [*]; done)) rfl ?_
        refine Ops.sk rfl (by first | rfl | assumption | exact decide_eq_true (by assumption) | exact decide_eq_false (by assumption) | decide | (simp; done) | (simp; omega) | (simp [*]; done)) rfl ?_
        refine Ops.sk rfl (by first | rfl | assumption | exact decide_eq_true (by assumption) | exact decide_eq_false (by assumption) | decide | (simp; done) | (simp; omega) | (simp [*]; done)) rfl ?_
        refine Ops.r (Run.pickF rfl rfl (by first | rfl | assumption | exact decide_eq_true (by assumption) | exact decide_eq_false (by assumption) | decide | (simp; done) | (simp; omega) | (simp [*]; done))) rfl ?_
        refine Ops.r (Run.mv rfl) rfl ?_
        refine Ops.sk rfl (by first | rfl | assumption | exact decide_eq_true (by assumption) | exact decide_eq_false (by assumption) | decide | (simp; done) | (simp; omega) | (simp [*]; done)) rfl ?_
        refine Ops.sk rfl (by first | rfl | assumption | exact decide_eq_true (by assumption) | exact decide_eq_false (by assumption) | decide | (simp; done) | (simp; omega) | (simp [*]; done)) rfl ?_
        refine Ops.sk rfl (by first | rfl | assumption | exact decide_eq_true (by assumption) | exact decide_eq_false (by assumption) | decide | (simp; done) | (simp; omega) | (simp [*]; done)) rfl ?_
        refine Ops.r (Run.pickF rfl rfl (by first | rfl | assumption | exact decide_eq_true (by assumption) | exact decide_eq_false (by assumption) | decide | (simp; done) | (simp; omega) | (simp [*]; done))) rfl ?_
        refine Ops.r (Run.mv rfl) rfl ?_
        refine Ops.sk rfl (by first | rfl | assumption | exact decide_eq_true (by assumption) | exact decide_eq_false (by assumption) | decide | (simp; done) | (simp; omega) | (simp [*]; done)) rfl ?_
        refine Ops.sk rfl (by first | rfl | assumption | exact decide_eq_true (by assumption) | exact decide_eq_false (by assumption) | decide | (simp; done) | (simp; omega) | (simp [*]; done)) rfl ?_
        refine Ops.sk rfl (by first | rfl | assumption | exact decide_eq_true (by assumption) | exact decide_eq_false (by assumption) | decide | (simp; done) | (simp; omega) | (simp [*]; done)) rfl ?_
        refine Ops.r (Run.pickF rfl rfl (by first | rfl | assumption | exact decide_eq_true (by assumption) | exact decide_eq_false (by assumption) | decide | (simp; done) | (simp; omega) | (simp [*]; done))) rfl ?_
        refine Ops.r (Run.mv rfl) rfl ?_
        refine Ops.sk rfl (by first | rfl | assumption | exact decide_eq_true (by assumption) | exact decide_eq_false (by assumption) | decide | (simp; done) | (simp; omega) | (simp [*]; done)) rfl ?_
        refine Ops.sk rfl (by first | rfl | assumption | exact decide_eq_true (by assumption) | exact decide_eq_false (by assumption) | decide | (simp; done) | (simp; omega) | (simp [*]; done)) rfl ?_
        refine Ops.sk rfl (by first | rfl | assumption | exact decide_eq_true (by assumption) | exact decide_eq_false (by assumption) | decide | (simp; done) | (simp; omega) | (simp [*]; done)) rfl ?_
        refine Ops.sk rfl (by first | rfl | assumption | exact decide_eq_true (by assumption) | exact decide_eq_false (by assumption) | decide | (simp; done) | (simp; omega) | (simp [*]; done)) rfl ?_
        refine Ops.r (Run.pickF rfl rfl (by first | rfl | assumption | exact decide_eq_true (by assumption) | exact decide_eq_false (by assumption) | decide | (simp; done) | (simp; omega) | (simp [*]; done))) rfl ?_
        refine Ops.r (Run.asg rfl) rfl ?_
        refine Ops.nil ?_
        refine thenQ_n ⟨(.cons (congrArg (fun b => some (Value.bool b)) (Eq.symm (by simp [*]))) .nil), rfl⟩
    · intro Γ hΓ
      refine thenQ_n (VC.sub _ hΓ ?_)
      refine VC.ret ?_
      refine end1 rfl ?_
      refine ⟨?_, hfr⟩
      congr 2
      rw [decide_eq_decide]
      exact ⟨fun h => may_all h (fun j hj => hg j hj (by omega)), fun h => (may_at h).1⟩

end Go.Proofs.Ytmfglifjnoilnaa

/-
  The walk of the document's box: a message laid behind the others.
-/
namespace Go.Proofs.Ytmfglifjnoilnaa
open Go.RowKit Go.Sort

set_option maxRecDepth 100000 in
theorem rhasI_spec (A : Option Addr) (c : Nat) (zs : List Int) (x : Int) (w : World) (hz : Rd w 1 A zs.length (IB zs)) (h1 : zs.length ≤ 1000000) :
    Calls Try.prog 50 #[.slice A zs.length c, .int .i64 x] w fun e w' => e = .returned (.bool (decide (x ∈ zs))) ∧ w = w' := by
  refine VC.calls (nt := 18) (res := #[.tmp 4]) Try.func50 rfl Try.ntmps50 Try.results50 rfl ?_
  refine VC.seq ?_
  refine VC.region ?_
  refine Ops.r (Run.asg rfl) rfl ?_
  refine Ops.nil ?_
  refine thenQ_n ?_
  refine VC.sub [(0, _), (1, _)] (.cons rfl (.cons rfl .nil)) ?_
  refine VC.seq ?_
  refine VC.seq ?_
  refine VC.region ?_
  refine Ops.r (v := .int .i64 ((0 : Nat) : Int)) (Run.asg rfl) rfl ?_
  refine Ops.nil ?_
  refine thenQ_n ?_
  refine VC.block ?_
  refine VC.loop (σ := Nat) (fun s => [(0, .slice A zs.length c), (1, .int .i64 x), (5, .int .i64 ((s : Nat) : Int))]) (fun s wr => s ≤ zs.length ∧ w = wr ∧ x ∉ zs.take s) (fun s => zs.length - s) 0 (.cons rfl (.cons rfl (.cons rfl .nil))) ⟨by omega, rfl, by simp⟩ ?_
  rintro i _ ⟨hi, rfl, hn⟩
  refine VC.seq ?_
  refine VC.seq ?_
  refine VC.region ?_
  refine Ops.r (Run.mv rfl) rfl ?_
  refine Ops.r (Run.mv rfl) rfl ?_
  refine Ops.r (Run.lenS rfl Try.underlying25) rfl ?_
  refine Ops.r (Run.bin rfl rfl (Bin.lssN _ _)) rfl ?_
  refine Ops.nil ?_
  refine thenQ_n ?_
  refine VC.sub [(0, _), (1, _), (5, _), (9, _)] (.cons rfl (.cons rfl (.cons rfl (.cons rfl .nil)))) ?_
  refine VC.condD rfl (fun hc1 => ?_) (fun hc1 => ?_)
  · skip
    obtain ⟨ad, u, rfl, hu, hcell⟩ := hz.at1 hc1
    have hu2 : u = .int .i64 zs[i] := by simpa [IB, List.getElem?_eq_getElem hc1] using hu.symm
    subst hu2
    refine VC.skip ?_
    refine thenQ_n ?_
    refine VC.sub [(0, _), (1, _), (5, _)] (.cons rfl (.cons rfl (.cons rfl .nil))) ?_
    refine VC.seq ?_
    refine VC.block ?_
    refine VC.seq ?_
    refine VC.region ?_
    refine Ops.r (Run.mv rfl) rfl ?_
    refine Ops.r (Run.mv rfl) rfl ?_
    refine Ops.r (Run.index1 i rfl rfl Try.underlying25 Try.sizeOf3 hc1) rfl ?_
    refine Ops.r (Run.load rfl Try.isAgg3 hcell) rfl ?_
    refine Ops.r (Run.mv rfl) rfl ?_
    refine Ops.r (Run.bin rfl rfl (Bin.eql _ _)) rfl ?_
    refine Ops.nil ?_
    refine thenQ_n ?_
    refine VC.sub [(0, _), (1, _), (5, _), (17, _)] (.cons rfl (.cons rfl (.cons rfl (.cons rfl .nil)))) ?_
    refine VC.condD rfl (fun hc2 => ?_) (fun hc2 => ?_)
    · skip
      refine VC.seq ?_
      refine VC.region ?_
      refine Ops.r (Run.asg rfl) rfl ?_
      refine Ops.nil ?_
      refine thenQ_n ?_
      refine VC.sub [(4, _)] (.cons rfl .nil) ?_
      refine VC.ret ?_
      refine blockQ_r (thenQ_r (thenQ_r (blockQ_r (thenQ_r (end1 rfl ?_)))))
      exact ⟨by rw [decide_eq_true (hc2 ▸ List.getElem_mem hc1)], rfl⟩
    · skip
      refine VC.skip ?_
      refine blockQ_n (thenQ_n ?_)
      refine VC.sub [(0, _), (1, _), (5, _)] (.cons rfl (.cons rfl (.cons rfl .nil))) ?_
      refine VC.region ?_
      refine Ops.r (Run.mv rfl) rfl ?_
      refine Ops.r (Run.bin rfl rfl (Bin.add_i64 _ 1 (by omega))) rfl ?_
      refine Ops.r (Run.asg rfl) rfl ?_
      refine Ops.nil ?_
      refine thenQ_n ⟨(i + 1), (.cons rfl (.cons rfl (.cons rfl .nil))), ?_, ?_⟩
      · skip
        refine ⟨hc1, rfl, ?_⟩
        rw [List.take_add_one, List.getElem?_eq_getElem hc1]
        simp only [Option.toList_some, List.mem_append, List.mem_singleton, not_or]
        exact ⟨hn, fun h => hc2 h.symm⟩
      · skip
        first | omega | (dsimp only; omega)
  · skip
    refine VC.exit ?_
    refine thenQ_x (thenQ_x (blockQ_x ?_))
    refine thenQ_n ?_
    refine VC.sub [] .nil ?_
    refine VC.seq ?_
    refine VC.region ?_
    refine Ops.r (Run.asg rfl) rfl ?_
    refine Ops.nil ?_
    refine thenQ_n ?_
    refine VC.ret ?_
    refine end1 rfl ?_
    have hil : i = zs.length := by omega
    subst hil
    rw [List.take_length] at hn
    exact ⟨by rw [decide_eq_false hn], rfl⟩

set_option maxRecDepth 100000 in
theorem rgoes_spec (x : Mc) (every : Bool) (O : Option Addr) (co : Nat) (only : List Int) (w : World) (hx : x.At w) (ho : Rd w 1 O only.length (IB only)) (hon : only.length ≤ 1000000) : Calls Try.prog 34 #[.agg x.cells.toArray, .bool every, .slice O only.length co] w fun e w' => e = .returned (.bool (decide (goesB every only x.m))) ∧ Frm [] w w' := by
  refine VC.calls (nt := 19) (res := #[.tmp 6]) Try.func34 rfl Try.ntmps34 Try.results34 rfl ?_
  refine VC.seq ?_
  refine VC.region ?_
  refine Ops.m (Does.box rfl) rfl ?_
  rintro _ w1 ⟨rfl, hF1⟩
  have hb1 := hF1.blk
  have hf1 := hF1.frm
  generalize hg1 : w.heap.size = g1 at *
  refine Ops.r (Run.asg rfl) rfl ?_
  refine Ops.nil ?_
  refine thenQ_n ?_
  refine VC.sub [(1, _), (2, _), (3, _)] (.cons rfl (.cons rfl (.cons rfl .nil))) ?_
  refine VC.seq ?_
  refine VC.splitR [] (Frm [] w) 6 (.bool (decide (goesB every only x.m))) ?_ ?_
  · refine VC.region ?_
    refine Ops.r (Run.fieldAddr rfl Try.underlying45 rfl Try.sizeOf43 (by decide)) rfl ?_
    refine Ops.r (Run.load rfl Try.isAgg43 (hb1.cell 5)) rfl ?_
    refine Ops.cl (Enters.fn (evs.cons rfl (evs.cons rfl evs.nil)) Try.call25) (rhas_spec x.A x.c x.m.flags deletedF _ (by have := hx.n; omega) (by decide) (hx.frm hf1 (by simp)).rd) rfl ?_
    rintro e w2 ⟨rfl, hf2⟩
    refine ⟨_, rfl, ?_⟩
    by_cases hs9 : hasF x.m.flags deletedF
    · skip
      refine Ops.r (Run.mv rfl) rfl ?_
      refine Ops.rg rfl (by first | rfl | assumption | exact decide_eq_true (by assumption) | exact decide_eq_false (by assumption) | decide | (simp; done) | (simp; omega) | (simp [*]; done)) (Run.mv rfl) rfl ?_
      refine Ops.rg rfl (by first | rfl | assumption | exact decide_eq_true (by assumption) | exact decide_eq_false (by assumption) | decide | (simp; done) | (simp; omega) | (simp [*]; done)) (Run.mv rfl) rfl ?_
      by_cases hs12 : every = true
      · skip
        refine Ops.sk rfl (by first | rfl | assumption | exact decide_eq_true (by assumption) | exact decide_eq_false (by assumption) | decide | (simp; done) | (simp; omega) | (simp [*]; done)) rfl ?_
        refine Ops.sk rfl (by first | rfl | assumption | exact decide_eq_true (by assumption) | exact decide_eq_false (by assumption) | decide | (simp; done) | (simp; omega) | (simp [*]; done)) rfl ?_
        refine Ops.sk rfl (by first | rfl | assumption | exact decide_eq_true (by assumption) | exact decide_eq_false (by assumption) | decide | (simp; done) | (simp; omega) | (simp [*]; done)) rfl ?_
        refine Ops.sk rfl (by first | rfl | assumption | exact decide_eq_true (by assumption) | exact decide_eq_false (by assumption) | decide | (simp; done) | (simp; omega) | (simp [*]; done)) rfl ?_
        refine Ops.rg rfl (by first | rfl | assumption | exact decide_eq_true (by assumption) | exact decide_eq_false (by assumption) | decide | (simp; done) | (simp; omega) | (simp [*]; done)) (Run.pickT rfl rfl (by first | rfl | assumption | exact decide_eq_true (by assumption) | exact decide_eq_false (by assumption) | decide | (simp; done) | (simp; omega) | (simp [*]; done))) rfl ?_
        refine Ops.r (Run.pickT rfl rfl (by first | rfl | assumption | exact decide_eq_true (by assumption) | exact decide_eq_false (by assumption) | decide | (simp; done) | (simp; omega) | (simp [*]; done))) rfl ?_
        refine Ops.r (Run.asg rfl) rfl ?_
        refine Ops.nil ?_
        refine thenQ_n ⟨(.cons (congrArg (fun b => some (Value.bool b)) (Eq.symm (by unfold goesB; simp_all))) .nil), (hf1.trans hf2 (by simp))⟩
      · skip
        refine Ops.rg rfl (by first | rfl | assumption | exact decide_eq_true (by assumption) | exact decide_eq_false (by assumption) | decide | (simp; done) | (simp; omega) | (simp [*]; done)) (Run.mv rfl) rfl ?_
        refine Ops.rg rfl (by first | rfl | assumption | exact decide_eq_true (by assumption) | exact decide_eq_false (by assumption) | decide | (simp; done) | (simp; omega) | (simp [*]; done)) (Run.fieldAddr rfl Try.underlying45 rfl Try.sizeOf3 (by decide)) rfl ?_
        refine Ops.rg rfl (by first | rfl | assumption | exact decide_eq_true (by assumption) | exact decide_eq_false (by assumption) | decide | (simp; done) | (simp; omega) | (simp [*]; done)) (Run.load rfl Try.isAgg3 ((hb1.frm hf2 (by simp)).cell 0)) rfl ?_
        refine Ops.clg rfl (by first | rfl | assumption | exact decide_eq_true (by assumption) | exact decide_eq_false (by assumption) | decide | (simp; done) | (simp; omega) | (simp [*]; done)) (Enters.fn (evs.cons rfl (evs.cons rfl evs.nil)) Try.call50) (rhasI_spec O co only x.m.uid _ (ho.frm (hf1.trans hf2 (by simp)) (by simp)) hon) rfl ?_
        rintro e _ ⟨rfl, rfl⟩
        refine ⟨_, rfl, ?_⟩
        by_cases hs16 : x.m.uid ∈ only
        · skip
          refine Ops.rg rfl (by first | rfl | assumption | exact decide_eq_true (by assumption) | exact decide_eq_false (by assumption) | decide | (simp; done) | (simp; omega) | (simp [*]; done)) (Run.pickF rfl rfl (by first | rfl | assumption | exact decide_eq_true (by assumption) | exact decide_eq_false (by assumption) | decide | (simp; done) | (simp; omega) | (simp [*]; done))) rfl ?_
          refine Ops.r (Run.pickT rfl rfl (by first | rfl | assumption | exact decide_eq_true (by assumption) | exact decide_eq_false (by assumption) | decide | (simp; done) | (simp; omega) | (simp [*]; done))) rfl ?_
          refine Ops.r (Run.asg rfl) rfl ?_
          refine Ops.nil ?_
          refine thenQ_n ⟨(.cons (congrArg (fun b => some (Value.bool b)) (Eq.symm (by unfold goesB; simp_all))) .nil), (hf1.trans hf2 (by simp))⟩
        · skip
          refine Ops.rg rfl (by first | rfl | assumption | exact decide_eq_true (by assumption) | exact decide_eq_false (by assumption) | decide | (simp; done) | (simp; omega) | (simp [*]; done)) (Run.pickF rfl rfl (by first | rfl | assumption | exact decide_eq_true (by assumption) | exact decide_eq_false (by assumption) | decide | (simp; done) | (simp; omega) | (simp [*]; done))) rfl ?_
          refine Ops.r (Run.pickT rfl rfl (by first | rfl | assumption | exact decide_eq_true (by assumption) | exact decide_eq_false (by assumption) | decide | (simp; done) | (simp; omega) | (simp [*]; done))) rfl ?_
          refine Ops.r (Run.asg rfl) rfl ?_
          refine Ops.nil ?_
          refine thenQ_n ⟨(.cons (congrArg (fun b => some (Value.bool b)) (Eq.symm (by unfold goesB; simp_all))) .nil), (hf1.trans hf2 (by simp))⟩
    · skip
      refine Ops.r (Run.mv rfl) rfl ?_
      refine Ops.sk rfl (by first | rfl | assumption | exact decide_eq_true (by assumption) | exact decide_eq_false (by assumption) | decide | (simp; done) | (simp; omega) | (simp [*]; done)) rfl ?_
      refine Ops.sk rfl (by first | rfl | assumption | exact decide_eq_true (by assumption) | exact decide_eq_false (by assumption) | decide | (simp; done) | (simp; omega) | (simp [*]; done)) rfl ?_
      refine Ops.skU rfl rfl ?_
      refine Ops.skU rfl rfl ?_
      refine Ops.skU rfl rfl ?_
      refine Ops.skU rfl rfl ?_
      refine Ops.sk rfl (by first | rfl | assumption | exact decide_eq_true (by assumption) | exact decide_eq_false (by assumption) | decide | (simp; done) | (simp; omega) | (simp [*]; done)) rfl ?_
      refine Ops.r (Run.pickF rfl rfl (by first | rfl | assumption | exact decide_eq_true (by assumption) | exact decide_eq_false (by assumption) | decide | (simp; done) | (simp; omega) | (simp [*]; done))) rfl ?_
      refine Ops.r (Run.asg rfl) rfl ?_
      refine Ops.nil ?_
      refine thenQ_n ⟨(.cons (congrArg (fun b => some (Value.bool b)) (Eq.symm (by unfold goesB; simp_all))) .nil), (hf1.trans hf2 (by simp))⟩
  · intro Γ wR hΓ hR
    refine thenQ_n (VC.sub _ hΓ ?_)
    refine VC.ret ?_
    refine end1 rfl ?_
    exact ⟨rfl, hR⟩

set_option maxRecDepth 100000 in
theorem rappend_spec (v n : Int) (A : Option Addr) (c : Nat) (l : List Mc) (x : Mc) (w : World) (hl : RdM w A l) (hn : l.length ≤ 900000) (hx : x.At w) : Calls Try.prog 21 #[.agg #[.int .i64 v, .int .i64 n, .slice A l.length c], .agg x.cells.toArray] w fun e w' =>
    Frm [] w w' ∧ ∃ v' n' B d l' k, e = .returned (.tuple #[.agg #[.int .i64 v', .int .i64 n', .slice B l'.length d], .int .i64 (if k = 0 then n else 0), .int .i64 ((k : Nat) : Int)]) ∧ IsBx w' (appendB ⟨v, n, Ms l⟩ x.m) v' n' B d l' k := by
  refine VC.calls (nt := 43) (res := #[.cell 4 24, .tmp 5, .tmp 6]) Try.func21 rfl Try.ntmps21 Try.results21 rfl ?_
  refine VC.seq ?_
  refine VC.region ?_
  refine Ops.m (Does.box rfl) rfl ?_
  rintro _ w1 ⟨rfl, hF2⟩
  have hb2 := hF2.blk
  have hf2 := hF2.frm
  have hs2 : w.heap.size ≤ w.heap.size := Nat.le_refl _
  generalize hg2 : w.heap.size = g2 at hb2 ⊢
  refine Ops.m (Does.box rfl) rfl ?_
  rintro _ w2 ⟨rfl, hF3⟩
  have hb3 := hF3.blk
  have hb2 := hb2.frm hF3.frm (by simp)
  have hf3 := hf2.trans hF3.frm (by simp)
  have hs3 : w.heap.size ≤ w1.heap.size := hf2.size
  generalize hg3 : w1.heap.size = g3 at hb3 hs3 ⊢
  have hn23 : g2 < g3 := by rw [← hg3, ← hg2]; have := hF2.size; omega
  refine Ops.m (Does.alloc zero24) rfl ?_
  rintro _ w4 ⟨rfl, hF4⟩
  have hb4 := hF4.blk
  have hb2 := hb2.frm hF4.frm (by simp)
  have hb3 := hb3.frm hF4.frm (by simp)
  have hf4 := hf3.trans hF4.frm (by simp)
  have hs4 : w.heap.size ≤ w2.heap.size := hf3.size
  generalize hg4 : w2.heap.size = g4 at hb4 hs4 ⊢
  have hn34 : g3 < g4 := by rw [← hg4, ← hg3]; have := hF3.size; omega
  refine Ops.r (v := .int .i64 ((0 : Nat) : Int)) (Run.asg rfl) rfl ?_
  refine Ops.r (v := .int .i64 ((0 : Nat) : Int)) (Run.asg rfl) rfl ?_
  refine Ops.nil ?_
  refine thenQ_n ?_
  refine VC.sub [(2, _), (3, _), (4, _)] (.cons rfl (.cons rfl (.cons rfl .nil))) ?_
  refine VC.seq ?_
  refine VC.seq ?_
  refine VC.splitR [(2, .pointer (some ⟨g2, 0, none⟩)), (3, .pointer (some ⟨g3, 0, none⟩)), (4, .pointer (some ⟨g4, 0, none⟩))] (Frm [] w4) 14 (.bool (decide (¬ mayB ⟨v, n, Ms l⟩ ∨ ¬ MsgOk x.m))) ?_ ?_
  · refine VC.region ?_
    refine Ops.r (Run.loadA rfl Try.isAgg24 Try.sizeOf24 (fun j v hj => hb2.cells j v hj) (by first | rfl | (simp; done))) rfl ?_
    refine Ops.cl (Enters.fn (evs.cons rfl evs.nil) Try.call11) (rmay_spec v n A c l _ (hl.frm hf4) (by omega)) rfl ?_
    rintro e w5 ⟨rfl, hf5⟩
    refine ⟨_, rfl, ?_⟩
    by_cases hs8 : mayB ⟨v, n, Ms l⟩
    · skip
      refine Ops.r (Run.not rfl) rfl ?_
      refine Ops.r (Run.mv rfl) rfl ?_
      refine Ops.rg rfl (by first | rfl | assumption | exact decide_eq_true (by assumption) | exact decide_eq_false (by assumption) | decide | (simp; done) | (simp; omega) | (simp [*]; done)) (Run.loadA rfl Try.isAgg45 Try.sizeOf45 (fun j v hj => (hb3.frm hf5 (by simp)).cells j v hj) (by first | rfl | (simp; done))) rfl ?_
      refine Ops.clg rfl (by first | rfl | assumption | exact decide_eq_true (by assumption) | exact decide_eq_false (by assumption) | decide | (simp; done) | (simp; omega) | (simp [*]; done)) (Enters.fn (evs.cons rfl evs.nil) Try.call33) (rmessage_spec x _ (hx.frm (hf4.trans hf5 (by simp)) (by simp))) rfl ?_
      rintro e w6 ⟨rfl, hf6⟩
      refine ⟨_, rfl, ?_⟩
      by_cases hs12 : MsgOk x.m
      · skip
        refine Ops.rg rfl (by first | rfl | assumption | exact decide_eq_true (by assumption) | exact decide_eq_false (by assumption) | decide | (simp; done) | (simp; omega) | (simp [*]; done)) (Run.not rfl) rfl ?_
        refine Ops.r (Run.pickF rfl rfl (by first | rfl | assumption | exact decide_eq_true (by assumption) | exact decide_eq_false (by assumption) | decide | (simp; done) | (simp; omega) | (simp [*]; done))) rfl ?_
        refine Ops.nil ?_
        refine thenQ_n ⟨(.cons (congrArg (fun b => some (Value.bool b)) (Eq.symm (by simp [*]))) (.cons rfl (.cons rfl (.cons rfl .nil)))), (by first | exact hf5.trans hf6 (by simp) | exact hf5)⟩
      · skip
        refine Ops.rg rfl (by first | rfl | assumption | exact decide_eq_true (by assumption) | exact decide_eq_false (by assumption) | decide | (simp; done) | (simp; omega) | (simp [*]; done)) (Run.not rfl) rfl ?_
        refine Ops.r (Run.pickF rfl rfl (by first | rfl | assumption | exact decide_eq_true (by assumption) | exact decide_eq_false (by assumption) | decide | (simp; done) | (simp; omega) | (simp [*]; done))) rfl ?_
        refine Ops.nil ?_
        refine thenQ_n ⟨(.cons (congrArg (fun b => some (Value.bool b)) (Eq.symm (by simp [*]))) (.cons rfl (.cons rfl (.cons rfl .nil)))), (by first | exact hf5.trans hf6 (by simp) | exact hf5)⟩
    · skip
      refine Ops.r (Run.not rfl) rfl ?_
      refine Ops.r (Run.mv rfl) rfl ?_
      refine Ops.sk rfl (by first | rfl | assumption | exact decide_eq_true (by assumption) | exact decide_eq_false (by assumption) | decide | (simp; done) | (simp; omega) | (simp [*]; done)) rfl ?_
      refine Ops.sk rfl (by first | rfl | assumption | exact decide_eq_true (by assumption) | exact decide_eq_false (by assumption) | decide | (simp; done) | (simp; omega) | (simp [*]; done)) rfl ?_
      refine Ops.sk rfl (by first | rfl | assumption | exact decide_eq_true (by assumption) | exact decide_eq_false (by assumption) | decide | (simp; done) | (simp; omega) | (simp [*]; done)) rfl ?_
      refine Ops.r (Run.pickT rfl rfl (by first | rfl | assumption | exact decide_eq_true (by assumption) | exact decide_eq_false (by assumption) | decide | (simp; done) | (simp; omega) | (simp [*]; done))) rfl ?_
      refine Ops.nil ?_
      refine thenQ_n ⟨(.cons (congrArg (fun b => some (Value.bool b)) (Eq.symm (by simp [*]))) (.cons rfl (.cons rfl (.cons rfl .nil)))), (by first | exact hf5.trans hf6 (by simp) | exact hf5)⟩
  · intro Γ w7 hΓ hf7
    refine thenQ_n (VC.sub _ hΓ ?_)
    refine VC.condD rfl (fun hc1 => ?_) (fun hc1 => ?_)
    · skip
      have hb47 := hb4.frm hf7 (by simp)
      have hfr7 := hf4.trans hf7 (by simp)
      refine VC.seq ?_
      refine VC.region ?_
      refine Ops.r (Run.build evs.nil zero24 (places24).choose_spec.1 (places24).choose_spec.2 rfl) rfl ?_
      refine Ops.st (Acts.storeA rfl rfl Try.sizeOf24 hb47 rfl (BVc_one 0 0 none 0 0)) ?_
      rintro w8 ⟨hbz, hfz, hsz⟩
      refine Ops.r (v := .int .i64 ((0 : Nat) : Int)) (Run.asg rfl) rfl ?_
      refine Ops.r (v := .int .i64 ((1 : Nat) : Int)) (Run.asg rfl) rfl ?_
      refine Ops.nil ?_
      refine thenQ_n ?_
      refine VC.sub [(4, _), (5, _), (6, _)] (.cons rfl (.cons rfl (.cons rfl .nil))) ?_
      refine VC.ret ?_
      refine thenQ_r (endR ?_)
      refine res_cellA rfl Try.isAgg24 Try.sizeOf24 (fun j v hj => hbz.cells j v hj) (by first | rfl | (simp; done)) ?_
      refine res_tmp rfl ?_
      refine res_tmp rfl ?_
      refine res_nil ?_
      exact ⟨hfr7.own hfz (fun y hy => by simp at hy; omega), 0, 0, none, 0, [], 1, rfl, IsBx.err (by decide) (by unfold appendB; rw [if_pos hc1])⟩
    · skip
      have hb47 := hb4.frm hf7 (by simp)
      have hb27 := hb2.frm hf7 (by simp)
      have hb37 := hb3.frm hf7 (by simp)
      have hfr7 := hf4.trans hf7 (by simp)
      have hmay : mayB ⟨v, n, Ms l⟩ := Classical.not_not.1 fun h => hc1 (.inl h)
      have hl128 : l.length ≤ 128 := (may_at hmay).1.2.2.2.2
      have hnx := (may_at hmay).1
      refine VC.skip ?_
      refine thenQ_n ?_
      refine VC.sub [(2, _), (3, _), (4, _)] (.cons rfl (.cons rfl (.cons rfl .nil))) ?_
      refine VC.seq ?_
      refine VC.seq ?_
      refine VC.region ?_
      refine Ops.r (Run.fieldAddr rfl Try.underlying24 rfl Try.sizeOf22 (by decide)) rfl ?_
      refine Ops.r (Run.load rfl Try.isAgg22 (hb27.cell 2)) rfl ?_
      refine Ops.r (Run.lenS rfl Try.underlying22) rfl ?_
      refine Ops.r (Run.bin rfl rfl (Bin.geqN _ 128)) rfl ?_
      refine Ops.nil ?_
      refine thenQ_n ?_
      refine VC.sub [(2, _), (3, _), (4, _), (19, _)] (.cons rfl (.cons rfl (.cons rfl (.cons rfl .nil)))) ?_
      refine VC.condD rfl (fun hc2 => ?_) (fun hc2 => ?_)
      · skip
        refine VC.seq ?_
        refine VC.region ?_
        refine Ops.r (Run.build evs.nil zero24 (places24).choose_spec.1 (places24).choose_spec.2 rfl) rfl ?_
        refine Ops.st (Acts.storeA rfl rfl Try.sizeOf24 hb47 rfl (BVc_one 0 0 none 0 0)) ?_
        rintro w8 ⟨hbz, hfz, hsz⟩
        refine Ops.r (v := .int .i64 ((0 : Nat) : Int)) (Run.asg rfl) rfl ?_
        refine Ops.r (v := .int .i64 ((5 : Nat) : Int)) (Run.asg rfl) rfl ?_
        refine Ops.nil ?_
        refine thenQ_n ?_
        refine VC.sub [(4, _), (5, _), (6, _)] (.cons rfl (.cons rfl (.cons rfl .nil))) ?_
        refine VC.ret ?_
        refine thenQ_r (endR ?_)
        refine res_cellA rfl Try.isAgg24 Try.sizeOf24 (fun j v hj => hbz.cells j v hj) (by first | rfl | (simp; done)) ?_
        refine res_tmp rfl ?_
        refine res_tmp rfl ?_
        refine res_nil ?_
        refine ⟨hfr7.own hfz (fun y hy => by simp at hy; omega), 0, 0, none, 0, [], 5, rfl, IsBx.err (by decide) ?_⟩
        unfold appendB
        rw [if_neg hc1, if_pos (by simp [Ms]; omega)]
      · skip
        refine VC.skip ?_
        refine thenQ_n ?_
        refine VC.sub [(2, _), (3, _), (4, _)] (.cons rfl (.cons rfl (.cons rfl .nil))) ?_
        refine VC.seq ?_
        refine VC.seq ?_
        refine VC.region ?_
        refine Ops.r (Run.fieldAddr rfl Try.underlying24 rfl Try.sizeOf3 (by decide)) rfl ?_
        refine Ops.r (Run.load rfl Try.isAgg3 (hb27.cell 1)) rfl ?_
        refine Ops.r (Run.bin rfl rfl (Bin.gtr _ 2147483647)) rfl ?_
        refine Ops.nil ?_
        refine thenQ_n ?_
        refine VC.sub [(2, _), (3, _), (4, _), (23, _)] (.cons rfl (.cons rfl (.cons rfl (.cons rfl .nil)))) ?_
        refine VC.condD rfl (fun hc3 => ?_) (fun hc3 => ?_)
        · skip
          refine VC.seq ?_
          refine VC.region ?_
          refine Ops.r (Run.build evs.nil zero24 (places24).choose_spec.1 (places24).choose_spec.2 rfl) rfl ?_
          refine Ops.st (Acts.storeA rfl rfl Try.sizeOf24 hb47 rfl (BVc_one 0 0 none 0 0)) ?_
          rintro w8 ⟨hbz, hfz, hsz⟩
          refine Ops.r (v := .int .i64 ((0 : Nat) : Int)) (Run.asg rfl) rfl ?_
          refine Ops.r (v := .int .i64 ((19 : Nat) : Int)) (Run.asg rfl) rfl ?_
          refine Ops.nil ?_
          refine thenQ_n ?_
          refine VC.sub [(4, _), (5, _), (6, _)] (.cons rfl (.cons rfl (.cons rfl .nil))) ?_
          refine VC.ret ?_
          refine thenQ_r (endR ?_)
          refine res_cellA rfl Try.isAgg24 Try.sizeOf24 (fun j v hj => hbz.cells j v hj) (by first | rfl | (simp; done)) ?_
          refine res_tmp rfl ?_
          refine res_tmp rfl ?_
          refine res_nil ?_
          refine ⟨hfr7.own hfz (fun y hy => by simp at hy; omega), 0, 0, none, 0, [], 19, rfl, IsBx.err (by decide) ?_⟩
          unfold appendB
          rw [if_neg hc1, if_neg (by simp [Ms]; omega), if_pos hc3]
        · skip
          refine VC.skip ?_
          refine thenQ_n ?_
          refine VC.sub [(2, _), (3, _), (4, _)] (.cons rfl (.cons rfl (.cons rfl .nil))) ?_
          refine VC.seq ?_
          refine VC.region ?_
          refine Ops.r (Run.fieldAddr rfl Try.underlying24 rfl Try.sizeOf3 (by decide)) rfl ?_
          refine Ops.r (Run.load rfl Try.isAgg3 (hb27.cell 1)) rfl ?_
          refine Ops.r (Run.fieldAddr rfl Try.underlying45 rfl Try.sizeOf3 (by decide)) rfl ?_
          refine Ops.st (Acts.store rfl rfl Try.sizeOf3 hb37 rfl rfl) ?_
          rintro w8 ⟨hb38, hf8, hs8⟩
          have hb38 : Blk w8 g3 45 (⟨{ x.m with uid := n }, x.A, x.c⟩ : Mc).cells.toArray := hb38
          have hb28 := hb27.frm hf8 (by simp; omega)
          have hb48 := hb47.frm hf8 (by simp; omega)
          have hfr8 := hfr7.own hf8 (fun y hy => by simp at hy; omega)
          have hx8 : (⟨{ x.m with uid := n }, x.A, x.c⟩ : Mc).At w8 := ⟨(hx.frm hfr8 (by simp)).rd, hx.n, hx.q⟩
          have hl8 := hl.frm hfr8
          refine Ops.nil ?_
          refine thenQ_n ?_
          refine VC.sub [(2, _), (3, _), (4, _)] (.cons rfl (.cons rfl (.cons rfl .nil))) ?_
          refine VC.seq ?_
          refine VC.meet (σ := Option Addr × Nat) (fun s => [(2, .pointer (some ⟨g2, 0, none⟩)), (3, .pointer (some ⟨g3, 0, none⟩)), (4, .pointer (some ⟨g4, 0, none⟩))]) (fun s wr => Blk wr g2 24 (BVc v n s.1 (0 + l.length + 1) s.2).toArray ∧ Blk wr g3 45 (⟨{ x.m with uid := n }, x.A, x.c⟩ : Mc).cells.toArray ∧ Blk wr g4 24 (BVc 0 0 none 0 0).toArray ∧ Own wr 45 6 s.1 (0 + l.length + 1) s.2 (MC (l ++ [⟨{ x.m with uid := n }, x.A, x.c⟩])) ∧ Frm [] w wr) ?_ ?_
          · skip
            refine VC.heldL 8 (fun W => Frm [] w8 W) (by kernel_rfl) ?_
            have hS : Frm [] w8 w8.drew := (Frm.refl _ _).drew
            refine HOps.take 1 rfl (by kernel_rfl) (by kernel_rfl) (by kernel_rfl) hS (fun w0 hw0 => Run.fieldAddr rfl Try.underlying24 rfl Try.sizeOf22 (by decide)) trivial rfl rfl ?_
            refine HOps.take 2 rfl (by kernel_rfl) (by kernel_rfl) (by kernel_rfl) hS (fun w0 hw0 => Run.load rfl Try.isAgg22 ((hb28.frm hw0 (by simp)).cell 2)) trivial rfl rfl ?_
            refine HOps.take 4 rfl (by kernel_rfl) (by kernel_rfl) (by kernel_rfl) hS (fun w0 hw0 => Run.loadA rfl Try.isAgg45 Try.sizeOf45 (fun j v hj => (hb38.frm hw0 (by simp)).cells j v hj) (by first | rfl | (simp; done))) trivial rfl rfl ?_
            refine HOps.or2 0 5 (by kernel_rfl) ?_ ?_
            · skip
              refine HOne.m rfl (Does.buildS0 Try.underlying22 Try.sizeOf45) trivial rfl rfl ?_
              rintro _ w9 ⟨rfl, hF9⟩
              have hgA := hS.size
              try have hlt33 := hr33.lt (by omega)
              try have hr33 := hr33.frm hF9.frm (by simp)
              have hS9 : Frm [] w8 w9 := hS.trans hF9.frm (by simp)
              refine ⟨hS9, ?_⟩
              have hS := hS9
              have hA : Own w9 45 6 (some ⟨_, 0, none⟩) 0 0 [] := Own.of_blk (n := 0) hF9.blk rfl (by decide)
              refine HOps.or2 3 5 (by kernel_rfl) ?_ ?_
              · skip
                refine HOne.m rfl (Does.app rfl rfl Try.underlying22 (info45) rfl (by decide) hA (hl8.frm hS).rd (flat_one Mc.cells Mc.cells_one _) (by omega) (by omega)) trivial rfl rfl ?_
                rintro _ w10 ⟨A10, c10, rfl, hown10, hf10, hob10⟩
                rw [List.nil_append] at hown10
                try have hr33 := hr33.frm hf10 (fun _ y hy hy2 => by simp only [ob, List.mem_singleton] at hy hy2; first | (have := hlt33 y (by simp [ob, hy]); omega) | (have := hltA y (by simp [ob, hy2]); omega))
                have hge10 : ∀ b ∈ ob A10, w8.heap.size ≤ b := up_app (by simp only [ob, List.mem_singleton, forall_eq]; exact hgA) hob10 hS.size
                have hS10 : Frm [] w8 w10 := hS.own hf10 (by simp only [ob, List.mem_singleton, forall_eq]; exact hgA)
                refine ⟨hS10, ?_⟩
                have hS := hS10
                have hA := hown10
                refine HOps.m 5 rfl (by kernel_rfl) (Does.buildS1 rfl Try.underlying22 Try.sizeOf45 zero45 (by decide) (by decide) rfl rfl) trivial rfl rfl ?_
                try have hltA := hA.lt
                rintro _ w11 ⟨rfl, hF11⟩
                try have hA := hA.frm hF11.frm (by simp)
                have hS11 := hS.trans hF11.frm (by simp)
                refine ⟨hS11, ?_⟩
                have hS := hS11
                have hr33 := hrdM (x := ⟨{ x.m with uid := n }, x.A, x.c⟩) hF11
                refine HOps.m 6 rfl (by kernel_rfl) (Does.app rfl rfl Try.underlying22 (info45) rfl (by decide) hA hr33 (flat_one Mc.cells Mc.cells_one _) (by omega) (by omega)) trivial rfl rfl ?_
                rintro _ w12 ⟨A12, c12, rfl, hown12, hf12, hob12⟩
                rw [← MC_append] at hown12
                have hS12 := hS.own hf12 hge10
                refine ⟨hS12, ?_⟩
                have hS := hS12
                refine HOps.r1 7 rfl (by kernel_rfl) hS (Run.fieldAddr rfl Try.underlying24 rfl Try.sizeOf22 (by decide)) trivial rfl rfl ?_
                refine HOps.stL rfl (by kernel_rfl) (Acts.store rfl rfl Try.sizeOf22 (hb28.frm hS (by simp)) rfl rfl) trivial rfl ?_
                rintro w13 ⟨hb13, hf13, hs13⟩
                have hb413 := (hb48.frm hS (by simp)).frm hf13 (by simp; omega)
                have hb313 := (hb38.frm hS (by simp)).frm hf13 (by simp; omega)
                have hown13 := hown12.frm hf13 (fun y hy => by have := hown12.ne_blk (hb28.frm hS (by simp)) (by decide); simp; rintro rfl; exact this hy)
                have hfr13 := (hfr8.trans hS (by simp)).own hf13 (fun y hy => by simp at hy; omega)
                have hb13 : Blk w13 g2 24 (BVc v n A12 (0 + l.length + 1) c12).toArray := hb13
                refine HOps.done (by kernel_rfl) ?_
                refine thenQ_n ⟨(A12, c12), (.cons rfl (.cons rfl (.cons rfl .nil))), ?_⟩
                exact ⟨hb13, hb313, hb413, hown13, hfr13⟩
              · skip
                refine HOne.m rfl (Does.buildS1 rfl Try.underlying22 Try.sizeOf45 zero45 (by decide) (by decide) rfl rfl) trivial rfl rfl ?_
                try have hltA := hA.lt
                rintro _ w11 ⟨rfl, hF11⟩
                try have hA := hA.frm hF11.frm (by simp)
                have hS11 := hS.trans hF11.frm (by simp)
                refine ⟨hS11, ?_⟩
                have hS := hS11
                have hr33 := hrdM (x := ⟨{ x.m with uid := n }, x.A, x.c⟩) hF11
                refine HOps.m 3 rfl (by kernel_rfl) (Does.app rfl rfl Try.underlying22 (info45) rfl (by decide) hA (hl8.frm hS).rd (flat_one Mc.cells Mc.cells_one _) (by omega) (by omega)) trivial rfl rfl ?_
                rintro _ w10 ⟨A10, c10, rfl, hown10, hf10, hob10⟩
                rw [List.nil_append] at hown10
                try have hr33 := hr33.frm hf10 (fun _ y hy hy2 => by simp only [ob, List.mem_singleton] at hy hy2; first | (have := hlt33 y (by simp [ob, hy]); omega) | (have := hltA y (by simp [ob, hy2]); omega))
                have hge10 : ∀ b ∈ ob A10, w8.heap.size ≤ b := up_app (by simp only [ob, List.mem_singleton, forall_eq]; exact hgA) hob10 hS.size
                have hS10 : Frm [] w8 w10 := hS.own hf10 (by simp only [ob, List.mem_singleton, forall_eq]; exact hgA)
                refine ⟨hS10, ?_⟩
                have hS := hS10
                have hA := hown10
                refine HOps.m 6 rfl (by kernel_rfl) (Does.app rfl rfl Try.underlying22 (info45) rfl (by decide) hA hr33 (flat_one Mc.cells Mc.cells_one _) (by omega) (by omega)) trivial rfl rfl ?_
                rintro _ w12 ⟨A12, c12, rfl, hown12, hf12, hob12⟩
                rw [← MC_append] at hown12
                have hS12 := hS.own hf12 hge10
                refine ⟨hS12, ?_⟩
                have hS := hS12
                refine HOps.r1 7 rfl (by kernel_rfl) hS (Run.fieldAddr rfl Try.underlying24 rfl Try.sizeOf22 (by decide)) trivial rfl rfl ?_
                refine HOps.stL rfl (by kernel_rfl) (Acts.store rfl rfl Try.sizeOf22 (hb28.frm hS (by simp)) rfl rfl) trivial rfl ?_
                rintro w13 ⟨hb13, hf13, hs13⟩
                have hb413 := (hb48.frm hS (by simp)).frm hf13 (by simp; omega)
                have hb313 := (hb38.frm hS (by simp)).frm hf13 (by simp; omega)
                have hown13 := hown12.frm hf13 (fun y hy => by have := hown12.ne_blk (hb28.frm hS (by simp)) (by decide); simp; rintro rfl; exact this hy)
                have hfr13 := (hfr8.trans hS (by simp)).own hf13 (fun y hy => by simp at hy; omega)
                have hb13 : Blk w13 g2 24 (BVc v n A12 (0 + l.length + 1) c12).toArray := hb13
                refine HOps.done (by kernel_rfl) ?_
                refine thenQ_n ⟨(A12, c12), (.cons rfl (.cons rfl (.cons rfl .nil))), ?_⟩
                exact ⟨hb13, hb313, hb413, hown13, hfr13⟩
            · skip
              refine HOne.m rfl (Does.buildS1 rfl Try.underlying22 Try.sizeOf45 zero45 (by decide) (by decide) rfl rfl) trivial rfl rfl ?_
              try have hltA := hA.lt
              rintro _ w11 ⟨rfl, hF11⟩
              try have hA := hA.frm hF11.frm (by simp)
              have hS11 := hS.trans hF11.frm (by simp)
              refine ⟨hS11, ?_⟩
              have hS := hS11
              have hr33 := hrdM (x := ⟨{ x.m with uid := n }, x.A, x.c⟩) hF11
              refine HOps.m 0 rfl (by kernel_rfl) (Does.buildS0 Try.underlying22 Try.sizeOf45) trivial rfl rfl ?_
              rintro _ w9 ⟨rfl, hF9⟩
              have hgA := hS.size
              try have hlt33 := hr33.lt (by omega)
              try have hr33 := hr33.frm hF9.frm (by simp)
              have hS9 : Frm [] w8 w9 := hS.trans hF9.frm (by simp)
              refine ⟨hS9, ?_⟩
              have hS := hS9
              have hA : Own w9 45 6 (some ⟨_, 0, none⟩) 0 0 [] := Own.of_blk (n := 0) hF9.blk rfl (by decide)
              refine HOps.m 3 rfl (by kernel_rfl) (Does.app rfl rfl Try.underlying22 (info45) rfl (by decide) hA (hl8.frm hS).rd (flat_one Mc.cells Mc.cells_one _) (by omega) (by omega)) trivial rfl rfl ?_
              rintro _ w10 ⟨A10, c10, rfl, hown10, hf10, hob10⟩
              rw [List.nil_append] at hown10
              try have hr33 := hr33.frm hf10 (fun _ y hy hy2 => by simp only [ob, List.mem_singleton] at hy hy2; first | (have := hlt33 y (by simp [ob, hy]); omega) | (have := hltA y (by simp [ob, hy2]); omega))
              have hge10 : ∀ b ∈ ob A10, w8.heap.size ≤ b := up_app (by simp only [ob, List.mem_singleton, forall_eq]; exact hgA) hob10 hS.size
              have hS10 : Frm [] w8 w10 := hS.own hf10 (by simp only [ob, List.mem_singleton, forall_eq]; exact hgA)
              refine ⟨hS10, ?_⟩
              have hS := hS10
              have hA := hown10
              refine HOps.m 6 rfl (by kernel_rfl) (Does.app rfl rfl Try.underlying22 (info45) rfl (by decide) hA hr33 (flat_one Mc.cells Mc.cells_one _) (by omega) (by omega)) trivial rfl rfl ?_
              rintro _ w12 ⟨A12, c12, rfl, hown12, hf12, hob12⟩
              rw [← MC_append] at hown12
              have hS12 := hS.own hf12 hge10
              refine ⟨hS12, ?_⟩
              have hS := hS12
              refine HOps.r1 7 rfl (by kernel_rfl) hS (Run.fieldAddr rfl Try.underlying24 rfl Try.sizeOf22 (by decide)) trivial rfl rfl ?_
              refine HOps.stL rfl (by kernel_rfl) (Acts.store rfl rfl Try.sizeOf22 (hb28.frm hS (by simp)) rfl rfl) trivial rfl ?_
              rintro w13 ⟨hb13, hf13, hs13⟩
              have hb413 := (hb48.frm hS (by simp)).frm hf13 (by simp; omega)
              have hb313 := (hb38.frm hS (by simp)).frm hf13 (by simp; omega)
              have hown13 := hown12.frm hf13 (fun y hy => by have := hown12.ne_blk (hb28.frm hS (by simp)) (by decide); simp; rintro rfl; exact this hy)
              have hfr13 := (hfr8.trans hS (by simp)).own hf13 (fun y hy => by simp at hy; omega)
              have hb13 : Blk w13 g2 24 (BVc v n A12 (0 + l.length + 1) c12).toArray := hb13
              refine HOps.done (by kernel_rfl) ?_
              refine thenQ_n ⟨(A12, c12), (.cons rfl (.cons rfl (.cons rfl .nil))), ?_⟩
              exact ⟨hb13, hb313, hb413, hown13, hfr13⟩
          · skip
            rintro ⟨A12, c12⟩ w13 ⟨hb13, hb313, hb413, hown13, hfr13⟩ Γ hΓ
            dsimp only at hb13 hown13
            refine thenQ_n (VC.sub _ hΓ ?_)
            refine VC.seq ?_
            refine VC.region ?_
            refine Ops.r (Run.fieldAddr rfl Try.underlying24 rfl Try.sizeOf3 (by decide)) rfl ?_
            refine Ops.r (Run.load rfl Try.isAgg3 (hb13.cell 1)) rfl ?_
            refine Ops.r (Run.bin rfl rfl (Bin.addZ _ 1 (by omega) (by omega))) rfl ?_
            refine Ops.r (Run.fieldAddr rfl Try.underlying24 rfl Try.sizeOf3 (by decide)) rfl ?_
            refine Ops.st (Acts.store rfl rfl Try.sizeOf3 hb13 rfl rfl) ?_
            rintro w14 ⟨hb14, hf14, hs14⟩
            have hb414 := hb413.frm hf14 (by simp; omega)
            have hb314 := hb313.frm hf14 (by simp; omega)
            have hown14 := hown13.frm hf14 (fun y hy => by have := hown13.ne_blk hb13 (by decide); simp; rintro rfl; exact this hy)
            have hfr14 := hfr13.own hf14 (fun y hy => by simp at hy; omega)
            have hb14 : Blk w14 g2 24 (BVc v (n + 1) A12 (0 + l.length + 1) c12).toArray := hb14
            refine Ops.nil ?_
            refine thenQ_n ?_
            refine VC.sub [(2, _), (3, _), (4, _)] (.cons rfl (.cons rfl (.cons rfl .nil))) ?_
            refine VC.seq ?_
            refine VC.held (fun W => Frm [g4] w14 W) (by kernel_rfl) ?_
            have hS : Frm [g4] w14 w14.drew := (Frm.refl _ _).drew
            refine HOps.take 0 rfl (by kernel_rfl) (by kernel_rfl) (by kernel_rfl) hS (fun w0 hw0 => Run.loadA rfl Try.isAgg24 Try.sizeOf24 (fun j v hj => (hb14.frm hw0 (by simp; omega)).cells j v hj) (by first | rfl | (simp; done))) trivial rfl rfl ?_
            refine HOps.take 1 rfl (by kernel_rfl) (by kernel_rfl) (by kernel_rfl) hS (fun w0 hw0 => Run.fieldAddr rfl Try.underlying45 rfl Try.sizeOf3 (by decide)) trivial rfl rfl ?_
            refine HOps.take 2 rfl (by kernel_rfl) (by kernel_rfl) (by kernel_rfl) hS (fun w0 hw0 => Run.load rfl Try.isAgg3 ((hb314.frm hw0 (by simp; omega)).cell 0)) trivial rfl rfl ?_
            refine HOps.st 3 rfl (by kernel_rfl) (Acts.storeA rfl rfl Try.sizeOf24 (hb414.drawn (Drawn.drew _)) rfl (BVc_one _ _ _ _ _)) trivial rfl ?_
            rintro w15 ⟨hb15, hf15, hs15⟩
            have hS15 : Frm [g4] w14 w15 := hS.trans hf15 (by simp)
            refine ⟨hS15, ?_⟩
            have hS := hS15
            have hown15 := (hown14.drawn (Drawn.drew _)).frm hf15 (fun y hy => by have := (hown14.drawn (Drawn.drew _)).ne_blk (hb414.drawn (Drawn.drew _)) (by decide); simp; rintro rfl; exact this hy)
            have hfr15 := (hfr14.drawn (Drawn.drew _)).own hf15 (fun y hy => by simp at hy; omega)
            refine HOps.take 4 rfl (by kernel_rfl) (by kernel_rfl) (by kernel_rfl) hS (fun w0 hw0 => Run.asg rfl) trivial rfl rfl ?_
            refine HOps.take (v := .int .i64 ((0 : Nat) : Int)) 5 rfl (by kernel_rfl) (by kernel_rfl) (by kernel_rfl) hS (fun w0 hw0 => Run.asg rfl) trivial rfl rfl ?_
            refine HOps.done (by kernel_rfl) ?_
            refine thenQ_n ?_
            refine VC.sub [(4, _), (5, _), (6, _)] (.cons rfl (.cons rfl (.cons rfl .nil))) ?_
            refine VC.ret ?_
            refine endR ?_
            refine res_cellA rfl Try.isAgg24 Try.sizeOf24 (fun j v hj => hb15.cells j v hj) (by first | rfl | (simp; done)) ?_
            refine res_tmp rfl ?_
            refine res_tmp rfl ?_
            refine res_nil ?_
            have hln : (l ++ [(⟨{ x.m with uid := n }, x.A, x.c⟩ : Mc)]).length = 0 + l.length + 1 := by rw [List.length_append, Nat.zero_add]; rfl
            refine ⟨hfr15, v, n + 1, A12, c12, l ++ [⟨{ x.m with uid := n }, x.A, x.c⟩], 0, by rw [hln]; rfl, ⟨by rw [hln]; exact hown15.rd, fun y hy => ?_⟩, .inl ⟨rfl, ?_⟩⟩
            · rcases List.mem_append.1 hy with h | h
              · exact (hl.frm hfr15).fl y h
              · simp only [List.mem_singleton] at h
                subst h
                exact ⟨(hx.frm hfr15 (by simp)).rd, hx.n, hx.q⟩
            · unfold appendB
              rw [if_neg hc1, if_neg (by simp [Ms]; omega), if_neg hc3]
              simp only [Ms, List.map_append, List.map_cons, List.map_nil]

end Go.Proofs.Ytmfglifjnoilnaa

/-
  The walk of the document's box: those that go.
-/
namespace Go.Proofs.Ytmfglifjnoilnaa
open Go.RowKit Go.Sort

/-- The places of those that a test names, as they are then: so many stay ahead. -/
def placesQ (q : MsgP → Bool) : Nat → List MsgP → List Nat
  | _, [] => []
  | k, m :: r => if q m = true then (k + 1) :: placesQ q k r else placesQ q (k + 1) r
theorem placesQ_snoc (q : MsgP → Bool) : ∀ (l : List MsgP) (k : Nat) (m : MsgP), placesQ q k (l ++ [m]) = placesQ q k l ++ if q m = true then [k + (l.filter fun x => !q x).length + 1] else []
  | [], k, m => by simp [placesQ]
  | a :: r, k, m => by
    by_cases h : q a = true
    · have ih := placesQ_snoc q r k m
      simp only [List.cons_append, placesQ, h, if_true, ih, List.filter_cons, Bool.not_true, Bool.false_eq_true, if_false]
    · have ih := placesQ_snoc q r (k + 1) m
      have hb : q a = false := by simpa using h
      have e : k + ((r.filter fun x => !q x).length + 1) + 1 = k + 1 + (r.filter fun x => !q x).length + 1 := by omega
      simp only [List.cons_append, placesQ, hb, Bool.false_eq_true, if_false, ih, List.filter_cons, Bool.not_false, if_true, List.length_cons, e]
theorem placesQ_len (q : MsgP → Bool) : ∀ (l : List MsgP) (k : Nat), (placesQ q k l).length = (l.filter q).length
  | [], k => rfl
  | a :: r, k => by
    by_cases h : q a = true
    · simp [placesQ, h, placesQ_len q r]
    · simp [placesQ, h, placesQ_len q r]
/-- What goes is told by its shifted places. -/
theorem shift_marks (q : MsgP → Bool) : ∀ (l : List MsgP) (i k : Nat), k ≤ i → shiftP k (marksQ q i l) = placesQ q (i - k) l
  | [], i, k, _ => rfl
  | a :: r, i, k, h => by
    by_cases hq : q a = true
    · have ih := shift_marks q r (i + 1) (k + 1) (by omega)
      have e1 : i + 1 - k = i - k + 1 := by omega
      have e2 : i + 1 - (k + 1) = i - k := by omega
      simp only [marksQ, placesQ, hq, if_true, shiftP, ih, e1, e2]
    · have ih := shift_marks q r (i + 1) k (by omega)
      have e1 : i + 1 - k = i - k + 1 := by omega
      have hb : q a = false := by simpa using hq
      simp only [marksQ, placesQ, hb, Bool.false_eq_true, if_false, ih, e1]
theorem blobs_marks (q : MsgP → Bool) (all : List MsgP) : ∀ (l : List MsgP) (i : Nat), all.drop i = l → blobsP all (marksQ q i l) = (l.filter q).map MsgP.blob
  | [], i, _ => rfl
  | a :: r, i, h => by
    have h2 : all.drop (i + 1) = r := by
      have := congrArg (List.drop 1) h
      simpa [List.drop_drop] using this
    have ha : all[i]? = some a := by
      have := congrArg List.head? h
      simpa [List.head?_drop] using this
    have ih := blobs_marks q all r (i + 1) h2
    by_cases hq : q a = true
    · simp only [marksQ, hq, if_true, blobsP, List.map_cons, Nat.add_sub_cancel, ha, List.filter_cons] at ih ⊢
      rw [ih]
      rfl
    · simp only [marksQ, hq, if_false, List.filter_cons] at ih ⊢
      exact ih
/-- What stays of the first ones. -/
def stayL (q : MsgP → Bool) (l : List Mc) (i : Nat) : List Mc := (l.take i).filter fun x => !q x.m
theorem stayL_succ (q : MsgP → Bool) {l : List Mc} {i : Nat} (h : i < l.length) : stayL q l (i + 1) = stayL q l i ++ if q (l[i]).m = true then [] else [l[i]] := by
  unfold stayL
  rw [List.take_add_one, List.filter_append, List.getElem?_eq_getElem h]
  cases hq : q (l[i]).m <;> simp [hq]
theorem stayL_len (q : MsgP → Bool) (l : List Mc) (i : Nat) : (stayL q l i).length ≤ l.length := by
  unfold stayL
  have := List.length_filter_le (fun x => !q x.m) (l.take i)
  rw [List.length_take] at this
  omega
def plL (q : MsgP → Bool) (l : List Mc) (i : Nat) : List Nat := placesQ q 0 (Ms (l.take i))
theorem plL_succ (q : MsgP → Bool) {l : List Mc} {i : Nat} (h : i < l.length) : plL q l (i + 1) = plL q l i ++ if q (l[i]).m = true then [(stayL q l i).length + 1] else [] := by
  unfold plL
  rw [Ms_take h, placesQ_snoc]
  have e : ((Ms (l.take i)).filter fun x => !q x).length = (stayL q l i).length := by
    unfold stayL
    rw [← Ms_filter]
    simp [Ms]
  rw [e, Nat.zero_add]
theorem plL_len (q : MsgP → Bool) (l : List Mc) (i : Nat) : (plL q l i).length ≤ l.length := by
  unfold plL
  rw [placesQ_len]
  have h1 := List.length_filter_le q (Ms (l.take i))
  have h2 : (Ms (l.take i)).length ≤ l.length := by simp only [Ms, List.length_map, List.length_take]; omega
  omega
def blL (q : MsgP → Bool) (l : List Mc) (i : Nat) : List Nat := ((Ms (l.take i)).filter q).map MsgP.blob
theorem blL_succ (q : MsgP → Bool) {l : List Mc} {i : Nat} (h : i < l.length) : blL q l (i + 1) = blL q l i ++ if q (l[i]).m = true then [(l[i]).m.blob] else [] := by
  unfold blL
  rw [Ms_take h, List.filter_append, List.map_append]
  cases hq : q (l[i]).m <;> simp [hq]
theorem blL_len (q : MsgP → Bool) (l : List Mc) (i : Nat) : (blL q l i).length ≤ l.length := by
  unfold blL
  have := List.length_filter_le q (Ms (l.take i))
  simp only [Ms, List.length_map, List.length_take] at this ⊢
  omega

set_option maxRecDepth 100000 in
theorem rexpunge_spec (v n : Int) (A : Option Addr) (c : Nat) (l : List Mc) (every : Bool) (O : Option Addr) (co : Nat) (only : List Int) (w : World) (hl : RdM w A l) (hn : l.length ≤ 900000) (ho : Rd w 1 O only.length (IB only)) (hon : only.length ≤ 1000000) :
    Calls Try.prog 14 #[.agg #[.int .i64 v, .int .i64 n, .slice A l.length c], .bool every, .slice O only.length co] w fun e w' => Frm [] w w' ∧ ∃ B d l' P dP ps D dD bs, e = .returned (.tuple #[.agg #[.int .i64 v, .int .i64 n, .slice B l'.length d], .slice P ps.length dP, .slice D bs.length dD]) ∧
      RdM w' B l' ∧ Rd w' 1 P ps.length (NI ps) ∧ Rd w' 1 D bs.length (UBl bs) ∧ Ms l' = (Ms l).filter (fun m => !goesQ every only m) ∧ ps = placesQ (goesQ every only) 0 (Ms l) ∧ bs = ((Ms l).filter (goesQ every only)).map MsgP.blob := by
  refine VC.calls (nt := 56) (res := #[.cell 6 24, .tmp 7, .tmp 8]) Try.func14 rfl Try.ntmps14 Try.results14 rfl ?_
  refine VC.seq ?_
  refine VC.region ?_
  refine Ops.m (Does.box rfl) rfl ?_
  rintro _ w1 ⟨rfl, hF3⟩
  have hb3 := hF3.blk
  have hf3 := hF3.frm
  have hs3 : w.heap.size ≤ w.heap.size := Nat.le_refl _
  generalize hg3 : w.heap.size = g3 at hb3 ⊢
  refine Ops.m (Does.alloc zero24) rfl ?_
  rintro _ w2 ⟨rfl, hF6⟩
  have hb6 := hF6.blk
  have hb3 := hb3.frm hF6.frm (by simp)
  have hf6 := hf3.trans hF6.frm (by simp)
  have hs6 : w.heap.size ≤ w1.heap.size := hf3.size
  generalize hg6 : w1.heap.size = g6 at hb6 hs6 ⊢
  have hn36 : g3 < g6 := by rw [← hg6, ← hg3]; have := hF3.size; omega
  have hgq : ∀ m, goesQ every only m = decide (goesB every only m) := fun m => rfl
  generalize hq : goesQ every only = q at *
  refine Ops.r (Run.asg rfl) rfl ?_
  refine Ops.r (Run.asg rfl) rfl ?_
  refine Ops.nil ?_
  refine thenQ_n ?_
  refine VC.sub [(1, _), (2, _), (3, _), (6, _)] (.cons rfl (.cons rfl (.cons rfl (.cons rfl .nil)))) ?_
  refine VC.seq ?_
  refine VC.region ?_
  refine Ops.r (Run.asg rfl) rfl ?_
  refine Ops.nil ?_
  refine thenQ_n ?_
  refine VC.seq ?_
  refine VC.region ?_
  refine Ops.r (Run.asg rfl) rfl ?_
  refine Ops.nil ?_
  refine thenQ_n ?_
  refine VC.seq ?_
  refine VC.region ?_
  refine Ops.r (Run.asg rfl) rfl ?_
  refine Ops.nil ?_
  refine thenQ_n ?_
  refine VC.seq ?_
  refine VC.seq ?_
  refine VC.region ?_
  refine Ops.r (v := .int .i64 ((0 : Nat) : Int)) (Run.asg rfl) rfl ?_
  refine Ops.nil ?_
  refine thenQ_n ?_
  refine VC.block ?_
  refine VC.loop (σ := Nat × (Option Addr × Nat) × (Option Addr × Nat) × Option Addr × Nat) (fun s => [(1, .bool every), (2, .slice O only.length co), (3, .pointer (some ⟨g3, 0, none⟩)), (6, .pointer (some ⟨g6, 0, none⟩)), (9, .slice s.2.1.1 (plL q l s.1).length s.2.1.2), (10, .slice s.2.2.1.1 (blL q l s.1).length s.2.2.1.2), (11, .slice s.2.2.2.1 (stayL q l s.1).length s.2.2.2.2), (12, .int .i64 ((s.1 : Nat) : Int))]) (fun s wr => s.1 ≤ l.length ∧ Own wr 3 1 s.2.1.1 (plL q l s.1).length s.2.1.2 (NI (plL q l s.1)) ∧ Own wr 38 1 s.2.2.1.1 (blL q l s.1).length s.2.2.1.2 (UBl (blL q l s.1)) ∧ Own wr 45 6 s.2.2.2.1 (stayL q l s.1).length s.2.2.2.2 (MC (stayL q l s.1)) ∧ (∀ b ∈ ob s.2.1.1, w2.heap.size ≤ b) ∧ (∀ b ∈ ob s.2.2.1.1, w2.heap.size ≤ b) ∧ (∀ b ∈ ob s.2.2.2.1, w2.heap.size ≤ b) ∧ Frm [] w2 wr) (fun s => l.length - s.1) (0, (none, 0), (none, 0), none, 0) (.cons rfl (.cons rfl (.cons rfl (.cons rfl (.cons rfl (.cons rfl (.cons rfl (.cons rfl .nil)))))))) ⟨by omega, Own.nil _ _ _, Own.nil _ _ _, Own.nil _ _ _, by simp [ob], by simp [ob], by simp [ob], Frm.refl _ _⟩ ?_
  rintro ⟨i, ⟨P, dP⟩, ⟨D, dD⟩, R, dR⟩ wr ⟨hi, hoP, hoD, hoR, hgP, hgD, hgR, hfr⟩
  dsimp only at hi hoP hoD hoR hgP hgD hgR ⊢
  have hlP := plL_len q l i
  have hlD := blL_len q l i
  have hlR := stayL_len q l i
  have hb3r := hb3.frm hfr (by simp)
  refine VC.seq ?_
  refine VC.seq ?_
  refine VC.region ?_
  refine Ops.r (Run.mv rfl) rfl ?_
  refine Ops.r (Run.fieldAddr rfl Try.underlying24 rfl Try.sizeOf22 (by decide)) rfl ?_
  refine Ops.r (Run.load rfl Try.isAgg22 (hb3r.cell 2)) rfl ?_
  refine Ops.r (Run.lenS rfl Try.underlying22) rfl ?_
  refine Ops.r (Run.bin rfl rfl (Bin.lssN _ _)) rfl ?_
  refine Ops.nil ?_
  refine thenQ_n ?_
  refine VC.sub [(1, _), (2, _), (3, _), (6, _), (9, _), (10, _), (11, _), (12, _), (17, _)] (.cons rfl (.cons rfl (.cons rfl (.cons rfl (.cons rfl (.cons rfl (.cons rfl (.cons rfl (.cons rfl .nil))))))))) ?_
  refine VC.condD rfl (fun hc1 => ?_) (fun hc1 => ?_)
  · skip
    obtain ⟨ad, rfl, hcell⟩ := (hl.frm (hf6.trans hfr (by simp))).elem hc1
    have hlt := (hl.frm (hf6.trans hfr (by simp))).rd.lt (by omega) ad.block (by simp [ob])
    have hxa := (hl.frm (hf6.trans hfr (by simp))).fl (l[i]) (List.getElem_mem hc1)
    have hsP := plL_succ q hc1
    have hsD := blL_succ q hc1
    have hsR := stayL_succ q hc1
    generalize hx : l[i] = x at *
    refine VC.skip ?_
    refine thenQ_n ?_
    refine VC.sub [(1, _), (2, _), (3, _), (6, _), (9, _), (10, _), (11, _), (12, _)] (.cons rfl (.cons rfl (.cons rfl (.cons rfl (.cons rfl (.cons rfl (.cons rfl (.cons rfl .nil)))))))) ?_
    refine VC.seq ?_
    refine VC.block ?_
    refine VC.seq ?_
    refine VC.region ?_
    refine Ops.r (Run.fieldAddr rfl Try.underlying24 rfl Try.sizeOf22 (by decide)) rfl ?_
    refine Ops.r (Run.load rfl Try.isAgg22 (hb3r.cell 2)) rfl ?_
    refine Ops.r (Run.mv rfl) rfl ?_
    refine Ops.r (Run.indexS i rfl rfl Try.underlying22 Try.sizeOf45 hc1) rfl ?_
    refine Ops.r (Run.loadA rfl Try.isAgg45 Try.sizeOf45 hcell (by first | rfl | (simp; done))) rfl ?_
    refine Ops.r (Run.mv rfl) rfl ?_
    refine Ops.r (Run.mv rfl) rfl ?_
    refine Ops.cl (Enters.fn (evs.cons rfl (evs.cons rfl (evs.cons rfl evs.nil))) Try.call34) (rgoes_spec x every O co only _ hxa (ho.frm (hf6.trans hfr (by simp)) (by simp)) hon) rfl ?_
    rintro e w4 ⟨rfl, hf4⟩
    refine ⟨_, rfl, ?_⟩
    have hfr4 := hfr.trans hf4 (by simp)
    have hqx := hgq x.m
    have hoP4 := hoP.frm hf4 (by simp)
    have hoD4 := hoD.frm hf4 (by simp)
    have hoR4 := hoR.frm hf4 (by simp)
    have hcell4 : ∀ (j : Nat) (v : Value), x.cells[j]? = some v → w4.cell? ((ad.add (i * 6)).add j) = some v := fun j v hj => (World.cell?_of_block (by rw [block_add, block_add]; exact hf4.block _ hlt (by simp))).trans (hcell j v hj)
    refine Ops.nil ?_
    refine thenQ_n ?_
    refine VC.sub [(1, _), (2, _), (3, _), (6, _), (9, _), (10, _), (11, _), (12, _), (27, _)] (.cons rfl (.cons rfl (.cons rfl (.cons rfl (.cons rfl (.cons rfl (.cons rfl (.cons rfl (.cons rfl .nil))))))))) ?_
    refine VC.condB rfl (fun hc2 => ?_) (fun hc2 => ?_)
    · skip
      refine VC.seq ?_
      refine VC.region ?_
      refine Ops.r (Run.mv rfl) rfl ?_
      refine Ops.r (Run.mv rfl) rfl ?_
      refine Ops.r (Run.lenS rfl Try.underlying22) rfl ?_
      refine Ops.r (Run.bin rfl rfl (Bin.add_i64 _ 1 (by omega))) rfl ?_
      refine Ops.m (Does.buildS1 rfl Try.underlying25 Try.sizeOf3 zero3 (by decide) (by decide) rfl rfl) rfl ?_
      rintro _ w5 ⟨rfl, hF5⟩
      have hfr5 := hfr4.trans hF5.frm (by simp)
      have hoP5 := hoP4.frm hF5.frm (by simp)
      have hoD5 := hoD4.frm hF5.frm (by simp)
      have hoR5 := hoR4.frm hF5.frm (by simp)
      refine Ops.m (Does.app rfl rfl Try.underlying25 (info3) rfl (by decide) hoP5 (hrdN hF5) (NI_one _) (by omega) (by omega)) rfl ?_
      rintro _ w6 ⟨P6, c6, rfl, hoP6, hf66, hob6⟩
      rw [← NI_append] at hoP6
      have hg6' := up_app hgP hob6 hfr5.size
      have hfr6 := hfr5.own hf66 hgP
      have hoD6 := hoD5.frm hf66 (hoD5.ne_own hoP5 (by decide))
      have hoR6 := hoR5.frm hf66 (hoR5.ne_own hoP5 (by decide))
      have hb36 := hb3.frm hfr6 (by simp)
      have hlt2 : ad.block < w2.heap.size := by
        have h := hl.frm hf6
        exact h.rd.lt (by omega) ad.block (by simp [ob])
      have hcell6 : ∀ (j : Nat) (v : Value), x.cells[j]? = some v → w6.cell? ((ad.add (i * 6)).add j) = some v := fun j v hj => by
        obtain ⟨ad', hA, hc⟩ := (hl.frm (hf6.trans hfr6 (by simp))).elem hc1
        injection hA with hA
        subst hA
        rw [hx] at hc
        exact hc j v hj
      refine Ops.r (Run.asg rfl) rfl ?_
      refine Ops.nil ?_
      refine thenQ_n ?_
      refine VC.sub [(1, _), (2, _), (3, _), (6, _), (9, _), (10, _), (11, _), (12, _)] (.cons rfl (.cons rfl (.cons rfl (.cons rfl (.cons rfl (.cons rfl (.cons rfl (.cons rfl .nil)))))))) ?_
      refine VC.region ?_
      refine Ops.r (Run.mv rfl) rfl ?_
      refine Ops.r (Run.fieldAddr rfl Try.underlying24 rfl Try.sizeOf22 (by decide)) rfl ?_
      refine Ops.r (Run.load rfl Try.isAgg22 (hb36.cell 2)) rfl ?_
      refine Ops.r (Run.mv rfl) rfl ?_
      refine Ops.r (Run.indexS i rfl rfl Try.underlying22 Try.sizeOf45 hc1) rfl ?_
      refine Ops.r (Run.fieldAddr rfl Try.underlying45 rfl Try.sizeOf38 (by decide)) rfl ?_
      refine Ops.r (Run.load rfl Try.isAgg38 (hcell6 4 _ rfl)) rfl ?_
      refine Ops.m (Does.buildS1 rfl Try.underlying27 Try.sizeOf38 zero38 (by decide) (by decide) rfl rfl) rfl ?_
      rintro _ w7 ⟨rfl, hF7⟩
      have hfr7 := hfr6.trans hF7.frm (by simp)
      have hoP7 := hoP6.frm hF7.frm (by simp)
      have hoD7 := hoD6.frm hF7.frm (by simp)
      have hoR7 := hoR6.frm hF7.frm (by simp)
      refine Ops.m (Does.app rfl rfl Try.underlying27 (info38) rfl (by decide) hoD7 (hrdU hF7) (UBl_one _) (by omega) (by omega)) rfl ?_
      rintro _ w8 ⟨D8, c8, rfl, hoD8, hf8, hob8⟩
      rw [← UBl_append] at hoD8
      have hg8 := up_app hgD hob8 hfr7.size
      have hfr8 := hfr7.own hf8 hgD
      have hoP8 := hoP7.frm hf8 (hoP7.ne_own hoD7 (by decide))
      have hoR8 := hoR7.frm hf8 (hoR7.ne_own hoD7 (by decide))
      refine Ops.r (Run.asg rfl) rfl ?_
      refine Ops.nil ?_
      refine blockQ_n (thenQ_n ?_)
      refine VC.sub [(1, _), (2, _), (3, _), (6, _), (9, _), (10, _), (11, _), (12, _)] (.cons rfl (.cons rfl (.cons rfl (.cons rfl (.cons rfl (.cons rfl (.cons rfl (.cons rfl .nil)))))))) ?_
      refine VC.region ?_
      refine Ops.r (Run.mv rfl) rfl ?_
      refine Ops.r (Run.bin rfl rfl (Bin.add_i64 _ 1 (by omega))) rfl ?_
      refine Ops.r (Run.asg rfl) rfl ?_
      refine Ops.nil ?_
      refine thenQ_n ⟨(i + 1, (P6, c6), (D8, c8), R, dR), (.cons rfl (.cons rfl (.cons rfl (.cons rfl (.cons (by rw [hsP, hqx, if_pos hc2, List.length_append]; rfl) (.cons (by rw [hsD, hqx, if_pos hc2, List.length_append]; rfl) (.cons (by rw [hsR, hqx, if_pos hc2, List.append_nil]; rfl) (.cons rfl .nil)))))))), ?_, ?_⟩
      · skip
        refine ⟨hc1, ?_, ?_, ?_, hg6', hg8, hgR, hfr8⟩
        · rw [hsP, hqx, if_pos hc2, List.length_append]; exact hoP8
        · rw [hsD, hqx, if_pos hc2, List.length_append]; exact hoD8
        · rw [hsR, hqx, if_pos hc2, List.append_nil]; exact hoR8
      · skip
        first | omega | (dsimp only; omega)
    · skip
      refine VC.region ?_
      refine Ops.r (Run.mv rfl) rfl ?_
      refine Ops.r (Run.fieldAddr rfl Try.underlying24 rfl Try.sizeOf22 (by decide)) rfl ?_
      refine Ops.r (Run.load rfl Try.isAgg22 ((hb3.frm hfr4 (by simp)).cell 2)) rfl ?_
      refine Ops.r (Run.mv rfl) rfl ?_
      refine Ops.r (Run.indexS i rfl rfl Try.underlying22 Try.sizeOf45 hc1) rfl ?_
      refine Ops.r (Run.loadA rfl Try.isAgg45 Try.sizeOf45 hcell4 (by first | rfl | (simp; done))) rfl ?_
      refine Ops.m (Does.buildS1 rfl Try.underlying22 Try.sizeOf45 zero45 (by decide) (by decide) rfl rfl) rfl ?_
      rintro _ w5 ⟨rfl, hF5⟩
      have hfr5 := hfr4.trans hF5.frm (by simp)
      have hoP5 := hoP4.frm hF5.frm (by simp)
      have hoD5 := hoD4.frm hF5.frm (by simp)
      have hoR5 := hoR4.frm hF5.frm (by simp)
      refine Ops.m (Does.app rfl rfl Try.underlying22 (info45) rfl (by decide) hoR5 (hrdM hF5) (flat_one Mc.cells Mc.cells_one _) (by omega) (by omega)) rfl ?_
      rintro _ w6 ⟨R6, c6, rfl, hoR6, hf66, hob6⟩
      rw [← MC_append] at hoR6
      have hg6' := up_app hgR hob6 hfr5.size
      have hfr6 := hfr5.own hf66 hgR
      have hoP6 := hoP5.frm hf66 (hoP5.ne_own hoR5 (by decide))
      have hoD6 := hoD5.frm hf66 (hoD5.ne_own hoR5 (by decide))
      refine Ops.r (Run.asg rfl) rfl ?_
      refine Ops.nil ?_
      refine blockQ_n (thenQ_n ?_)
      refine VC.sub [(1, _), (2, _), (3, _), (6, _), (9, _), (10, _), (11, _), (12, _)] (.cons rfl (.cons rfl (.cons rfl (.cons rfl (.cons rfl (.cons rfl (.cons rfl (.cons rfl .nil)))))))) ?_
      refine VC.region ?_
      refine Ops.r (Run.mv rfl) rfl ?_
      refine Ops.r (Run.bin rfl rfl (Bin.add_i64 _ 1 (by omega))) rfl ?_
      refine Ops.r (Run.asg rfl) rfl ?_
      refine Ops.nil ?_
      refine thenQ_n ⟨(i + 1, (P, dP), (D, dD), R6, c6), (.cons rfl (.cons rfl (.cons rfl (.cons rfl (.cons (by rw [hsP, hqx, if_neg (by rw [hc2]; decide), List.append_nil]; rfl) (.cons (by rw [hsD, hqx, if_neg (by rw [hc2]; decide), List.append_nil]; rfl) (.cons (by rw [hsR, hqx, if_neg (by rw [hc2]; decide), List.length_append]; rfl) (.cons rfl .nil)))))))), ?_, ?_⟩
      · skip
        refine ⟨hc1, ?_, ?_, ?_, hgP, hgD, hg6', hfr6⟩
        · rw [hsP, hqx, if_neg (by rw [hc2]; decide), List.append_nil]; exact hoP6
        · rw [hsD, hqx, if_neg (by rw [hc2]; decide), List.append_nil]; exact hoD6
        · rw [hsR, hqx, if_neg (by rw [hc2]; decide), List.length_append]; exact hoR6
      · skip
        first | omega | (dsimp only; omega)
  · skip
    refine VC.exit ?_
    refine thenQ_x (thenQ_x (blockQ_x ?_))
    refine thenQ_n ?_
    refine VC.sub [(3, _), (6, _), (9, _), (10, _), (11, _)] (.cons rfl (.cons rfl (.cons rfl (.cons rfl (.cons rfl .nil))))) ?_
    refine VC.seq ?_
    refine VC.region ?_
    refine Ops.r (Run.mv rfl) rfl ?_
    refine Ops.r (Run.fieldAddr rfl Try.underlying24 rfl Try.sizeOf22 (by decide)) rfl ?_
    refine Ops.st (Acts.store rfl rfl Try.sizeOf22 hb3r rfl rfl) ?_
    rintro w9 ⟨hb39, hf9, hs9⟩
    have hb39 : Blk w9 g3 24 (BVc v n R (stayL q l i).length dR).toArray := hb39
    have hb69 := (hb6.frm hfr (by simp)).frm hf9 (by simp; omega)
    have hoP9 := hoP.frm hf9 (fun y hy => by have := hoP.ne_blk hb3r (by decide); simp; rintro rfl; exact this hy)
    have hoD9 := hoD.frm hf9 (fun y hy => by have := hoD.ne_blk hb3r (by decide); simp; rintro rfl; exact this hy)
    have hoR9 := hoR.frm hf9 (fun y hy => by have := hoR.ne_blk hb3r (by decide); simp; rintro rfl; exact this hy)
    have hfr9 : Frm [] w w9 := (hf6.trans hfr (by simp)).own hf9 (fun y hy => by simp at hy; omega)
    refine Ops.nil ?_
    refine thenQ_n ?_
    refine VC.sub [(3, _), (6, _), (9, _), (10, _)] (.cons rfl (.cons rfl (.cons rfl (.cons rfl .nil)))) ?_
    refine VC.seq ?_
    refine VC.region ?_
    refine Ops.r (Run.loadA rfl Try.isAgg24 Try.sizeOf24 (fun j v hj => hb39.cells j v hj) (by first | rfl | (simp; done))) rfl ?_
    refine Ops.r (Run.mv rfl) rfl ?_
    refine Ops.r (Run.mv rfl) rfl ?_
    refine Ops.st (Acts.storeA rfl rfl Try.sizeOf24 hb69 rfl (BVc_one _ _ _ _ _)) ?_
    rintro w10 ⟨hb610, hf10, hs10⟩
    have hoP10 := hoP9.frm hf10 (fun y hy => by have := hoP9.ne_blk hb69 (by decide); simp; rintro rfl; exact this hy)
    have hoD10 := hoD9.frm hf10 (fun y hy => by have := hoD9.ne_blk hb69 (by decide); simp; rintro rfl; exact this hy)
    have hoR10 := hoR9.frm hf10 (fun y hy => by have := hoR9.ne_blk hb69 (by decide); simp; rintro rfl; exact this hy)
    have hfr10 := hfr9.own hf10 (fun y hy => by simp at hy; omega)
    refine Ops.r (Run.asg rfl) rfl ?_
    refine Ops.r (Run.asg rfl) rfl ?_
    refine Ops.nil ?_
    refine thenQ_n ?_
    refine VC.sub [(6, _), (7, _), (8, _)] (.cons rfl (.cons rfl (.cons rfl .nil))) ?_
    refine VC.ret ?_
    refine endR ?_
    refine res_cellA rfl Try.isAgg24 Try.sizeOf24 (fun j v hj => hb610.cells j v hj) (by first | rfl | (simp; done)) ?_
    refine res_tmp rfl ?_
    refine res_tmp rfl ?_
    refine res_nil ?_
    have hil : i = l.length := by omega
    subst hil
    refine ⟨hfr10, R, dR, stayL q l l.length, P, dP, _, D, dD, _, rfl, ⟨hoR10.rd, fun y hy => (hl.frm hfr10).fl y ?_⟩, hoP10.rd, hoD10.rd, ?_, ?_, ?_⟩
    · unfold stayL at hy; rw [List.take_length] at hy; exact (List.mem_filter.1 hy).1
    · unfold stayL; rw [List.take_length, Ms_filter]
    · unfold plL; rw [List.take_length]
    · unfold blL; rw [List.take_length]

end Go.Proofs.Ytmfglifjnoilnaa

/-
  The walk of the document's box: a message's flags changed.
-/
namespace Go.Proofs.Ytmfglifjnoilnaa
open Go.RowKit Go.Sort

set_option maxRecDepth 100000 in
theorem rchangeB_spec (v n : Int) (A : Option Addr) (c : Nat) (l : List Mc) (pl op : Int) (F : Option Addr) (cf : Nat) (more : List Tx) (w : World) (hl : RdM w A l) (hln : l.length ≤ 900000) (hmn : more.length ≤ 800000) (hmq : ∀ q ∈ more, q.length ≤ 1000000) (hmr : Rd w 1 F more.length (SB more)) :
    Calls Try.prog 22 #[.agg #[.int .i64 v, .int .i64 n, .slice A l.length c], .int .i64 pl, .int .i64 op, .slice F more.length cf] w fun e w' => Frm [] w w' ∧ ∃ v' n' B d l' k, e = .returned (.tuple #[.agg #[.int .i64 v', .int .i64 n', .slice B l'.length d], .int .i64 ((k : Nat) : Int)]) ∧ IsBx w' (changeB ⟨v, n, Ms l⟩ pl op more) v' n' B d l' k := by
  refine VC.calls (nt := 56) (res := #[.cell 8 24, .tmp 9]) Try.func22 rfl Try.ntmps22 Try.results22 rfl ?_
  refine VC.seq ?_
  refine VC.region ?_
  refine Ops.m (Does.box rfl) rfl ?_
  rintro _ w1 ⟨rfl, hF4⟩
  have hb4 := hF4.blk
  have hf4 := hF4.frm
  have hs4 : w.heap.size ≤ w.heap.size := Nat.le_refl _
  generalize hg4 : w.heap.size = g4 at hb4 ⊢
  refine Ops.m (Does.alloc zero24) rfl ?_
  rintro _ w2 ⟨rfl, hF8⟩
  have hb8 := hF8.blk
  have hb4 := hb4.frm hF8.frm (by simp)
  have hf8 := hf4.trans hF8.frm (by simp)
  have hs8 : w.heap.size ≤ w1.heap.size := hf4.size
  generalize hg8 : w1.heap.size = g8 at hb8 hs8 ⊢
  have hn48 : g4 < g8 := by rw [← hg8, ← hg4]; have := hF4.size; omega
  refine Ops.r (v := .int .i64 ((0 : Nat) : Int)) (Run.asg rfl) rfl ?_
  refine Ops.nil ?_
  refine thenQ_n ?_
  refine VC.sub [(1, _), (2, _), (3, _), (4, _), (8, _)] (.cons rfl (.cons rfl (.cons rfl (.cons rfl (.cons rfl .nil))))) ?_
  refine VC.seq ?_
  refine VC.seq ?_
  refine VC.region ?_
  refine Ops.r (Run.loadA rfl Try.isAgg24 Try.sizeOf24 (fun j v hj => hb4.cells j v hj) (by first | rfl | (simp; done))) rfl ?_
  refine Ops.cl (Enters.fn (evs.cons rfl evs.nil) Try.call11) (rmay_spec v n A c l _ (hl.frm hf8) (by omega)) rfl ?_
  rintro e w5 ⟨rfl, hf5⟩
  refine ⟨_, rfl, ?_⟩
  have hfr5 := hf8.trans hf5 (by simp)
  have hb4 := hb4.frm hf5 (by simp)
  have hb8 := hb8.frm hf5 (by simp)
  refine Ops.r (Run.not rfl) rfl ?_
  refine Ops.nil ?_
  refine thenQ_n ?_
  refine VC.sub [(1, _), (2, _), (3, _), (4, _), (8, _), (14, _)] (.cons rfl (.cons rfl (.cons rfl (.cons rfl (.cons rfl (.cons rfl .nil)))))) ?_
  refine VC.condB rfl (fun hc1 => ?_) (fun hc1 => ?_)
  · skip
    have hm : ¬ mayB ⟨v, n, Ms l⟩ := by simpa using hc1
    refine VC.seq ?_
    refine VC.region ?_
    refine Ops.r (Run.build evs.nil zero24 (places24).choose_spec.1 (places24).choose_spec.2 rfl) rfl ?_
    refine Ops.st (Acts.storeA rfl rfl Try.sizeOf24 hb8 rfl (BVc_one 0 0 none 0 0)) ?_
    rintro w6 ⟨hbz, hfz, hsz⟩
    refine Ops.r (v := .int .i64 ((1 : Nat) : Int)) (Run.asg rfl) rfl ?_
    refine Ops.nil ?_
    refine thenQ_n ?_
    refine VC.sub [(8, _), (9, _)] (.cons rfl (.cons rfl .nil)) ?_
    refine VC.ret ?_
    refine thenQ_r (endR ?_)
    refine res_cellA rfl Try.isAgg24 Try.sizeOf24 (fun j v hj => hbz.cells j v hj) (by first | rfl | (simp; done)) ?_
    refine res_tmp rfl ?_
    refine res_nil ?_
    exact ⟨hfr5.own hfz (fun y hy => by simp at hy; omega), 0, 0, none, 0, [], 1, rfl, IsBx.err (by decide) (by unfold changeB; rw [if_pos hm])⟩
  · skip
    have hm : mayB ⟨v, n, Ms l⟩ := by simpa using hc1
    have hl128 := (may_at hm).1.2.2.2.2
    have hmsl : (Ms l).length = l.length := by simp [Ms]
    refine VC.skip ?_
    refine thenQ_n ?_
    refine VC.sub [(1, _), (2, _), (3, _), (4, _), (8, _)] (.cons rfl (.cons rfl (.cons rfl (.cons rfl (.cons rfl .nil))))) ?_
    refine VC.seq ?_
    refine VC.seq ?_
    refine VC.split1 [(1, _), (2, _), (3, _), (4, _), (8, _)] (.cons rfl (.cons rfl (.cons rfl (.cons rfl (.cons rfl .nil))))) 24 (.bool (decide (pl < 1 ∨ ((l.length : Nat) : Int) < pl))) ?_ ?_
    · refine VC.region ?_
      refine Ops.r (Run.mv rfl) rfl ?_
      refine Ops.r (Run.bin rfl rfl (Bin.lss _ 1)) rfl ?_
      by_cases hs17 : pl < 1
      · skip
        refine Ops.r (Run.mv rfl) rfl ?_
        refine Ops.sk rfl (by first | rfl | assumption | exact decide_eq_true (by assumption) | exact decide_eq_false (by assumption) | decide | (simp; done) | (simp; omega) | (simp [*]; done)) rfl ?_
        refine Ops.sk rfl (by first | rfl | assumption | exact decide_eq_true (by assumption) | exact decide_eq_false (by assumption) | decide | (simp; done) | (simp; omega) | (simp [*]; done)) rfl ?_
        refine Ops.sk rfl (by first | rfl | assumption | exact decide_eq_true (by assumption) | exact decide_eq_false (by assumption) | decide | (simp; done) | (simp; omega) | (simp [*]; done)) rfl ?_
        refine Ops.sk rfl (by first | rfl | assumption | exact decide_eq_true (by assumption) | exact decide_eq_false (by assumption) | decide | (simp; done) | (simp; omega) | (simp [*]; done)) rfl ?_
        refine Ops.sk rfl (by first | rfl | assumption | exact decide_eq_true (by assumption) | exact decide_eq_false (by assumption) | decide | (simp; done) | (simp; omega) | (simp [*]; done)) rfl ?_
        refine Ops.r (Run.pickT rfl rfl (by first | rfl | assumption | exact decide_eq_true (by assumption) | exact decide_eq_false (by assumption) | decide | (simp; done) | (simp; omega) | (simp [*]; done))) rfl ?_
        refine Ops.nil ?_
        refine thenQ_n ⟨(.cons (congrArg (fun b => some (Value.bool b)) (Eq.symm (by simp [*]))) (.cons rfl (.cons rfl (.cons rfl (.cons rfl (.cons rfl .nil)))))), rfl⟩
      · skip
        refine Ops.r (Run.mv rfl) rfl ?_
        refine Ops.rg rfl (by first | rfl | assumption | exact decide_eq_true (by assumption) | exact decide_eq_false (by assumption) | decide | (simp; done) | (simp; omega) | (simp [*]; done)) (Run.mv rfl) rfl ?_
        refine Ops.rg rfl (by first | rfl | assumption | exact decide_eq_true (by assumption) | exact decide_eq_false (by assumption) | decide | (simp; done) | (simp; omega) | (simp [*]; done)) (Run.fieldAddr rfl Try.underlying24 rfl Try.sizeOf22 (by decide)) rfl ?_
        refine Ops.rg rfl (by first | rfl | assumption | exact decide_eq_true (by assumption) | exact decide_eq_false (by assumption) | decide | (simp; done) | (simp; omega) | (simp [*]; done)) (Run.load rfl Try.isAgg22 (hb4.cell 2)) rfl ?_
        refine Ops.rg rfl (by first | rfl | assumption | exact decide_eq_true (by assumption) | exact decide_eq_false (by assumption) | decide | (simp; done) | (simp; omega) | (simp [*]; done)) (Run.lenS rfl Try.underlying22) rfl ?_
        refine Ops.rg rfl (by first | rfl | assumption | exact decide_eq_true (by assumption) | exact decide_eq_false (by assumption) | decide | (simp; done) | (simp; omega) | (simp [*]; done)) (Run.bin rfl rfl (Bin.gtr _ _)) rfl ?_
        by_cases hs23 : ((l.length : Nat) : Int) < pl
        · skip
          refine Ops.r (Run.pickF rfl rfl (by first | rfl | assumption | exact decide_eq_true (by assumption) | exact decide_eq_false (by assumption) | decide | (simp; done) | (simp; omega) | (simp [*]; done))) rfl ?_
          refine Ops.nil ?_
          refine thenQ_n ⟨(.cons (congrArg (fun b => some (Value.bool b)) (Eq.symm (by simp [*]))) (.cons rfl (.cons rfl (.cons rfl (.cons rfl (.cons rfl .nil)))))), rfl⟩
        · skip
          refine Ops.r (Run.pickF rfl rfl (by first | rfl | assumption | exact decide_eq_true (by assumption) | exact decide_eq_false (by assumption) | decide | (simp; done) | (simp; omega) | (simp [*]; done))) rfl ?_
          refine Ops.nil ?_
          refine thenQ_n ⟨(.cons (congrArg (fun b => some (Value.bool b)) (Eq.symm (by simp [*]))) (.cons rfl (.cons rfl (.cons rfl (.cons rfl (.cons rfl .nil)))))), rfl⟩
    · intro Γ hΓ
      refine thenQ_n (VC.sub _ hΓ ?_)
      refine VC.condD rfl (fun hc2 => ?_) (fun hc2 => ?_)
      · skip
        refine VC.seq ?_
        refine VC.region ?_
        refine Ops.r (Run.build evs.nil zero24 (places24).choose_spec.1 (places24).choose_spec.2 rfl) rfl ?_
        refine Ops.st (Acts.storeA rfl rfl Try.sizeOf24 hb8 rfl (BVc_one 0 0 none 0 0)) ?_
        rintro w6 ⟨hbz, hfz, hsz⟩
        refine Ops.r (v := .int .i64 ((4 : Nat) : Int)) (Run.asg rfl) rfl ?_
        refine Ops.nil ?_
        refine thenQ_n ?_
        refine VC.sub [(8, _), (9, _)] (.cons rfl (.cons rfl .nil)) ?_
        refine VC.ret ?_
        refine thenQ_r (endR ?_)
        refine res_cellA rfl Try.isAgg24 Try.sizeOf24 (fun j v hj => hbz.cells j v hj) (by first | rfl | (simp; done)) ?_
        refine res_tmp rfl ?_
        refine res_nil ?_
        refine ⟨hfr5.own hfz (fun y hy => by simp at hy; omega), 0, 0, none, 0, [], 4, rfl, IsBx.err (by decide) ?_⟩
        unfold changeB
        rw [if_neg (fun h => h hm), if_pos (by dsimp only; omega)]
      · skip
        obtain ⟨k, rfl⟩ : ∃ k : Nat, pl = ((k + 1 : Nat) : Int) := ⟨(pl - 1).toNat, by omega⟩
        have hkl : k < l.length := by omega
        obtain ⟨ad, rfl, hcell⟩ := (hl.frm hfr5).elem hkl
        have hxa := (hl.frm hfr5).fl (l[k]) (List.getElem_mem hkl)
        have hkk : (((k + 1 : Nat) : Int) - 1).toNat = k := by omega
        have hMk : (Ms l)[k]? = some (l[k]).m := by simp [Ms, List.getElem?_eq_getElem hkl]
        have hcb : changeB ⟨v, n, Ms l⟩ ((k + 1 : Nat) : Int) op more = match changeF (l[k]).m.flags op more with
            | .error e => .error e
            | .ok r => .ok ⟨v, n, (Ms l).set k { (l[k]).m with flags := r }⟩ := by
          unfold changeB
          rw [if_neg (fun h => h hm), if_neg (by dsimp only; omega)]
          dsimp only
          rw [hkk, hMk]
          rfl
        refine VC.skip ?_
        refine thenQ_n ?_
        refine VC.sub [(1, _), (2, _), (3, _), (4, _), (8, _)] (.cons rfl (.cons rfl (.cons rfl (.cons rfl (.cons rfl .nil))))) ?_
        refine VC.seq ?_
        refine VC.region ?_
        refine Ops.r (Run.fieldAddr rfl Try.underlying24 rfl Try.sizeOf22 (by decide)) rfl ?_
        refine Ops.r (Run.load rfl Try.isAgg22 (hb4.cell 2)) rfl ?_
        refine Ops.r (Run.mv rfl) rfl ?_
        refine Ops.r (Run.bin rfl rfl (Bin.sub_i64 _ 1 (by omega) (by omega))) rfl ?_
        refine Ops.r (Run.indexS k rfl rfl Try.underlying22 Try.sizeOf45 hkl) rfl ?_
        refine Ops.r (Run.fieldAddr rfl Try.underlying45 rfl Try.sizeOf43 (by decide)) rfl ?_
        refine Ops.r (Run.load rfl Try.isAgg43 (hcell 5 _ rfl)) rfl ?_
        refine Ops.r (Run.mv rfl) rfl ?_
        refine Ops.r (Run.mv rfl) rfl ?_
        refine Ops.cl (Enters.fn (evs.cons rfl (evs.cons rfl (evs.cons rfl evs.nil))) Try.call39) (rchange_spec (l[k]).A (l[k]).c (l[k]).m.flags op F cf more _ (by have := hxa.n; omega) hxa.q hxa.rd hmn hmq (hmr.frm hfr5 (by simp))) rfl ?_
        rintro e w6 ⟨hf6, C, dC, r, k2, rfl, hownC, hgeC, hN⟩
        refine ⟨_, rfl, ?_⟩
        have hfr6 := hfr5.trans hf6 (by simp)
        have hb4 := hb4.frm hf6 (by simp)
        have hb8 := hb8.frm hf6 (by simp)
        refine Ops.r (Run.mv rfl) rfl ?_
        refine Ops.r (Run.extract rfl rfl) rfl ?_
        refine Ops.r (Run.extract rfl rfl) rfl ?_
        refine Ops.r (Run.asg rfl) rfl ?_
        refine Ops.r (Run.asg rfl) rfl ?_
        refine Ops.nil ?_
        refine thenQ_n ?_
        refine VC.sub [(1, _), (4, _), (8, _), (10, _), (11, _)] (.cons rfl (.cons rfl (.cons rfl (.cons rfl (.cons rfl .nil))))) ?_
        refine VC.seq ?_
        refine VC.seq ?_
        refine VC.region ?_
        refine Ops.r (Run.mv rfl) rfl ?_
        refine Ops.r (Run.bin rfl rfl (Bin.neqN _ 0)) rfl ?_
        refine Ops.nil ?_
        refine thenQ_n ?_
        refine VC.sub [(1, _), (4, _), (8, _), (10, _), (11, _), (40, _)] (.cons rfl (.cons rfl (.cons rfl (.cons rfl (.cons rfl (.cons rfl .nil)))))) ?_
        refine VC.condD rfl (fun hc3 => ?_) (fun hc3 => ?_)
        · skip
          have hce : changeF (l[k]).m.flags op more = .error k2 := by
            rcases hN with ⟨h1, _⟩ | ⟨_, _, h3⟩
            · exact absurd h1 hc3
            · exact h3
          refine VC.seq ?_
          refine VC.region ?_
          refine Ops.r (Run.build evs.nil zero24 (places24).choose_spec.1 (places24).choose_spec.2 rfl) rfl ?_
          refine Ops.r (Run.mv rfl) rfl ?_
          refine Ops.st (Acts.storeA rfl rfl Try.sizeOf24 hb8 rfl (BVc_one 0 0 none 0 0)) ?_
          rintro w7 ⟨hbz, hfz, hsz⟩
          refine Ops.r (Run.asg rfl) rfl ?_
          refine Ops.nil ?_
          refine thenQ_n ?_
          refine VC.sub [(8, _), (9, _)] (.cons rfl (.cons rfl .nil)) ?_
          refine VC.ret ?_
          refine thenQ_r (endR ?_)
          refine res_cellA rfl Try.isAgg24 Try.sizeOf24 (fun j v hj => hbz.cells j v hj) (by first | rfl | (simp; done)) ?_
          refine res_tmp rfl ?_
          refine res_nil ?_
          exact ⟨hfr6.own hfz (fun y hy => by simp at hy; omega), 0, 0, none, 0, [], k2, rfl, IsBx.err hc3 (by rw [hcb, hce])⟩
        · skip
          have hk0 : k2 = 0 := Classical.not_not.1 hc3
          have hco : changeF (l[k]).m.flags op more = .ok r := by
            rcases hN with ⟨_, h2⟩ | ⟨h1, _⟩
            · exact h2
            · exact absurd hk0 h1
          have hrf := check_fit (changeF_check hco)
          refine VC.skip ?_
          refine thenQ_n ?_
          refine VC.sub [(1, _), (4, _), (8, _), (10, _)] (.cons rfl (.cons rfl (.cons rfl (.cons rfl .nil)))) ?_
          refine VC.seq ?_
          refine VC.region ?_
          refine Ops.m (Does.buildS0 Try.underlying22 Try.sizeOf45) rfl ?_
          rintro _ w7 ⟨rfl, hF7⟩
          have hb4 := hb4.frm hF7.frm (by simp)
          have hb8 := hb8.frm hF7.frm (by simp)
          have hownC := hownC.frm hF7.frm (by simp)
          have hs67 : w.heap.size ≤ w6.heap.size := hfr6.size
          have hfr7 := hfr6.trans hF7.frm (by simp)
          have hA : Own w7 45 6 (some ⟨w6.heap.size, 0, none⟩) 0 0 [] := Own.of_blk (n := 0) hF7.blk rfl (by decide)
          have hgA : ∀ b ∈ ob (some (⟨w6.heap.size, 0, none⟩ : Addr)), w.heap.size ≤ b := by simp only [ob, List.mem_singleton, forall_eq]; exact hs67
          refine Ops.r (Run.fieldAddr rfl Try.underlying24 rfl Try.sizeOf22 (by decide)) rfl ?_
          refine Ops.r (Run.load rfl Try.isAgg22 (hb4.cell 2)) rfl ?_
          refine Ops.m (Does.app rfl rfl Try.underlying22 (info45) rfl (by decide) hA (hl.frm hfr7).rd (flat_one Mc.cells Mc.cells_one _) (by omega) (by omega)) rfl ?_
          rintro _ w8 ⟨B, dB, rfl, hB8, hf88, hob8⟩
          rw [List.nil_append, Nat.zero_add] at hB8
          rw [Nat.zero_add]
          have hge8 := up_app hgA hob8 hfr7.size
          have hb48 := hb4.frm hf88 (hA.ne_blk hb4 (by decide))
          have hb88 := hb8.frm hf88 (hA.ne_blk hb8 (by decide))
          have hownC8 := hownC.frm hf88 (hownC.ne_own hA (by decide))
          have hfr8 := hfr7.own hf88 hgA
          obtain ⟨gB, rfl⟩ : ∃ g, B = some ⟨g, 0, none⟩ := by
            rcases hB8.cases with ⟨_, h0, _⟩ | ⟨g, _, h0, _⟩
            · omega
            · exact ⟨g, h0⟩
          have hgB : w.heap.size ≤ gB := hge8 gB (by simp [ob])
          refine Ops.r (Run.fieldAddr rfl Try.underlying24 rfl Try.sizeOf22 (by decide)) rfl ?_
          refine Ops.st (Acts.store rfl rfl Try.sizeOf22 hb48 rfl rfl) ?_
          rintro w9 ⟨hb49, hf9, hs9⟩
          have hb49 : Blk w9 g4 24 (BVc v n (some ⟨gB, 0, none⟩) l.length dB).toArray := hb49
          have hb89 := hb88.frm hf9 (by simp; omega)
          have hB9 := hB8.frm hf9 (fun y hy => by have := hB8.ne_blk hb48 (by decide); simp; rintro rfl; exact this hy)
          have hownC9 := hownC8.frm hf9 (fun y hy => by have := hownC8.ne_blk hb48 (by decide); simp; rintro rfl; exact this hy)
          have hfr9 := hfr8.own hf9 (fun y hy => by simp at hy; omega)
          refine Ops.nil ?_
          refine thenQ_n ?_
          refine VC.sub [(1, _), (4, _), (8, _), (10, _)] (.cons rfl (.cons rfl (.cons rfl (.cons rfl .nil)))) ?_
          refine VC.seq ?_
          refine VC.region ?_
          refine Ops.r (Run.fieldAddr rfl Try.underlying24 rfl Try.sizeOf22 (by decide)) rfl ?_
          refine Ops.r (Run.load rfl Try.isAgg22 (hb49.cell 2)) rfl ?_
          refine Ops.r (Run.mv rfl) rfl ?_
          refine Ops.r (Run.bin rfl rfl (Bin.sub_i64 _ 1 (by omega) (by omega))) rfl ?_
          refine Ops.r (Run.mv rfl) rfl ?_
          refine Ops.r (Run.indexS k rfl rfl Try.underlying22 Try.sizeOf45 hkl) rfl ?_
          refine Ops.r (Run.fieldAddr rfl Try.underlying45 rfl Try.sizeOf43 (by decide)) rfl ?_
          refine Ops.st (Acts.storeOwn (k * 6 + 5) (by rw [← Go.Proofs.Ytmfglifjnoilnaa.add_add]; rfl) rfl Try.sizeOf43 hB9 rfl (by omega) rfl) ?_
          rintro w10 ⟨hB10, hf10, hs10⟩
          have hB10 := (MC_setF l k hkl C dC r) ▸ (show Own w10 45 6 (some ⟨gB, 0, none⟩) l.length dB ((MC l).set (k * 6 + 5) (.slice C r.length dC)) from hB10)
          have hownC10 := hownC9.frm hf10 (hownC9.ne_own hB9 (by decide))
          have hfr10 := hfr9.own hf10 (fun y hy => by simp [ob] at hy; omega)
          have hb410 := hb49.frm hf10 (hB9.ne_blk hb49 (by decide))
          have hb810 := hb89.frm hf10 (hB9.ne_blk hb89 (by decide))
          refine Ops.nil ?_
          refine thenQ_n ?_
          refine VC.sub [(4, _), (8, _)] (.cons rfl (.cons rfl .nil)) ?_
          refine VC.seq ?_
          refine VC.region ?_
          refine Ops.r (Run.loadA rfl Try.isAgg24 Try.sizeOf24 (fun j v hj => hb410.cells j v hj) (by first | rfl | (simp; done))) rfl ?_
          refine Ops.st (Acts.storeA rfl rfl Try.sizeOf24 hb810 rfl (BVc_one _ _ _ _ _)) ?_
          rintro w11 ⟨hb811, hf11, hs11⟩
          have hB11 := hB10.frm hf11 (fun y hy => by have := hB10.ne_blk hb810 (by decide); simp; rintro rfl; exact this hy)
          have hownC11 := hownC10.frm hf11 (fun y hy => by have := hownC10.ne_blk hb810 (by decide); simp; rintro rfl; exact this hy)
          have hfr11 := hfr10.own hf11 (fun y hy => by simp at hy; omega)
          refine Ops.r (v := .int .i64 ((0 : Nat) : Int)) (Run.asg rfl) rfl ?_
          refine Ops.nil ?_
          refine thenQ_n ?_
          refine VC.sub [(8, _), (9, _)] (.cons rfl (.cons rfl .nil)) ?_
          refine VC.ret ?_
          refine endR ?_
          refine res_cellA rfl Try.isAgg24 Try.sizeOf24 (fun j v hj => hb811.cells j v hj) (by first | rfl | (simp; done)) ?_
          refine res_tmp rfl ?_
          refine res_nil ?_
          refine ⟨hfr11, v, n, _, dB, l.set k ⟨{ (l[k]).m with flags := r }, C, dC⟩, 0, by rw [List.length_set]; rfl, ⟨by rw [List.length_set]; exact hB11.rd, fun y hy => ?_⟩, .inl ⟨rfl, ?_⟩⟩
          · rcases List.mem_or_eq_of_mem_set hy with h1 | h1
            · exact (hl.frm hfr11).fl y h1
            · subst h1; exact ⟨hownC11.rd, hrf.1, hrf.2⟩
          · rw [hcb, hco, Ms_set]

end Go.Proofs.Ytmfglifjnoilnaa

/-
  The walk of the document's box: are two boxes the same?
-/
namespace Go.Proofs.Ytmfglifjnoilnaa
open Go.RowKit Go.Sort

set_option maxRecDepth 100000 in
theorem rsameB_spec (v n v2 n2 : Int) (A B : Option Addr) (c d : Nat) (l l2 : List Mc) (w : World) (hl : RdM w A l) (hl2 : RdM w B l2) (hn : l.length ≤ 1000000) (hn2 : l2.length ≤ 1000000) :
    Calls Try.prog 15 #[.agg #[.int .i64 v, .int .i64 n, .slice A l.length c], .agg #[.int .i64 v2, .int .i64 n2, .slice B l2.length d]] w fun e w' => e = .returned (.bool (decide (v = v2 ∧ n = n2 ∧ Ms l = Ms l2))) ∧ Frm [] w w' := by
  refine VC.calls (nt := 80) (res := #[.tmp 4]) Try.func15 rfl Try.ntmps15 Try.results15 rfl ?_
  refine VC.seq ?_
  refine VC.region ?_
  refine Ops.m (Does.box rfl) rfl ?_
  rintro _ w1 ⟨rfl, hF2⟩
  have hb2 := hF2.blk
  have hf2 := hF2.frm
  have hs2 : w.heap.size ≤ w.heap.size := Nat.le_refl _
  generalize hg2 : w.heap.size = g2 at hb2 ⊢
  refine Ops.m (Does.box rfl) rfl ?_
  rintro _ w2 ⟨rfl, hF3⟩
  have hb3 := hF3.blk
  have hb2 := hb2.frm hF3.frm (by simp)
  have hf3 := hf2.trans hF3.frm (by simp)
  have hs3 : w.heap.size ≤ w1.heap.size := hf2.size
  generalize hg3 : w1.heap.size = g3 at hb3 hs3 ⊢
  refine Ops.r (Run.asg rfl) rfl ?_
  refine Ops.nil ?_
  refine thenQ_n ?_
  refine VC.sub [(2, _), (3, _)] (.cons rfl (.cons rfl .nil)) ?_
  refine VC.seq ?_
  refine VC.seq ?_
  refine VC.split1 [(2, _), (3, _)] (.cons rfl (.cons rfl .nil)) 28 (.bool (decide (v ≠ v2 ∨ n ≠ n2 ∨ l.length ≠ l2.length))) ?_ ?_
  · refine VC.region ?_
    refine Ops.r (Run.fieldAddr rfl Try.underlying24 rfl Try.sizeOf3 (by decide)) rfl ?_
    refine Ops.r (Run.load rfl Try.isAgg3 (hb2.cell 0)) rfl ?_
    refine Ops.r (Run.fieldAddr rfl Try.underlying24 rfl Try.sizeOf3 (by decide)) rfl ?_
    refine Ops.r (Run.load rfl Try.isAgg3 (hb3.cell 0)) rfl ?_
    refine Ops.r (Run.bin rfl rfl (Bin.neq _ _)) rfl ?_
    by_cases hs12 : v ≠ v2
    · skip
      refine Ops.r (Run.mv rfl) rfl ?_
      refine Ops.sk rfl (by first | rfl | assumption | exact decide_eq_true (by assumption) | exact decide_eq_false (by assumption) | decide | (simp; done) | (simp; omega) | (simp [*]; done)) rfl ?_
      refine Ops.sk rfl (by first | rfl | assumption | exact decide_eq_true (by assumption) | exact decide_eq_false (by assumption) | decide | (simp; done) | (simp; omega) | (simp [*]; done)) rfl ?_
      refine Ops.sk rfl (by first | rfl | assumption | exact decide_eq_true (by assumption) | exact decide_eq_false (by assumption) | decide | (simp; done) | (simp; omega) | (simp [*]; done)) rfl ?_
      refine Ops.sk rfl (by first | rfl | assumption | exact decide_eq_true (by assumption) | exact decide_eq_false (by assumption) | decide | (simp; done) | (simp; omega) | (simp [*]; done)) rfl ?_
      refine Ops.sk rfl (by first | rfl | assumption | exact decide_eq_true (by assumption) | exact decide_eq_false (by assumption) | decide | (simp; done) | (simp; omega) | (simp [*]; done)) rfl ?_
      refine Ops.r (Run.pickT rfl rfl (by first | rfl | assumption | exact decide_eq_true (by assumption) | exact decide_eq_false (by assumption) | decide | (simp; done) | (simp; omega) | (simp [*]; done))) rfl ?_
      refine Ops.r (Run.mv rfl) rfl ?_
      refine Ops.sk rfl (by first | rfl | assumption | exact decide_eq_true (by assumption) | exact decide_eq_false (by assumption) | decide | (simp; done) | (simp; omega) | (simp [*]; done)) rfl ?_
      refine Ops.sk rfl (by first | rfl | assumption | exact decide_eq_true (by assumption) | exact decide_eq_false (by assumption) | decide | (simp; done) | (simp; omega) | (simp [*]; done)) rfl ?_
      refine Ops.sk rfl (by first | rfl | assumption | exact decide_eq_true (by assumption) | exact decide_eq_false (by assumption) | decide | (simp; done) | (simp; omega) | (simp [*]; done)) rfl ?_
      refine Ops.sk rfl (by first | rfl | assumption | exact decide_eq_true (by assumption) | exact decide_eq_false (by assumption) | decide | (simp; done) | (simp; omega) | (simp [*]; done)) rfl ?_
      refine Ops.sk rfl (by first | rfl | assumption | exact decide_eq_true (by assumption) | exact decide_eq_false (by assumption) | decide | (simp; done) | (simp; omega) | (simp [*]; done)) rfl ?_
      refine Ops.sk rfl (by first | rfl | assumption | exact decide_eq_true (by assumption) | exact decide_eq_false (by assumption) | decide | (simp; done) | (simp; omega) | (simp [*]; done)) rfl ?_
      refine Ops.sk rfl (by first | rfl | assumption | exact decide_eq_true (by assumption) | exact decide_eq_false (by assumption) | decide | (simp; done) | (simp; omega) | (simp [*]; done)) rfl ?_
      refine Ops.r (Run.pickT rfl rfl (by first | rfl | assumption | exact decide_eq_true (by assumption) | exact decide_eq_false (by assumption) | decide | (simp; done) | (simp; omega) | (simp [*]; done))) rfl ?_
      refine Ops.nil ?_
      refine thenQ_n ⟨(.cons (congrArg (fun b => some (Value.bool b)) (Eq.symm (by simp [*]))) (.cons rfl (.cons rfl .nil))), rfl⟩
    · skip
      refine Ops.r (Run.mv rfl) rfl ?_
      refine Ops.rg rfl (by first | rfl | assumption | exact decide_eq_true (by assumption) | exact decide_eq_false (by assumption) | decide | (simp; done) | (simp; omega) | (simp [*]; done)) (Run.fieldAddr rfl Try.underlying24 rfl Try.sizeOf3 (by decide)) rfl ?_
      refine Ops.rg rfl (by first | rfl | assumption | exact decide_eq_true (by assumption) | exact decide_eq_false (by assumption) | decide | (simp; done) | (simp; omega) | (simp [*]; done)) (Run.load rfl Try.isAgg3 (hb2.cell 1)) rfl ?_
      refine Ops.rg rfl (by first | rfl | assumption | exact decide_eq_true (by assumption) | exact decide_eq_false (by assumption) | decide | (simp; done) | (simp; omega) | (simp [*]; done)) (Run.fieldAddr rfl Try.underlying24 rfl Try.sizeOf3 (by decide)) rfl ?_
      refine Ops.rg rfl (by first | rfl | assumption | exact decide_eq_true (by assumption) | exact decide_eq_false (by assumption) | decide | (simp; done) | (simp; omega) | (simp [*]; done)) (Run.load rfl Try.isAgg3 (hb3.cell 1)) rfl ?_
      refine Ops.rg rfl (by first | rfl | assumption | exact decide_eq_true (by assumption) | exact decide_eq_false (by assumption) | decide | (simp; done) | (simp; omega) | (simp [*]; done)) (Run.bin rfl rfl (Bin.neq _ _)) rfl ?_
      by_cases hs18 : n ≠ n2
      · skip
        refine Ops.r (Run.pickF rfl rfl (by first | rfl | assumption | exact decide_eq_true (by assumption) | exact decide_eq_false (by assumption) | decide | (simp; done) | (simp; omega) | (simp [*]; done))) rfl ?_
        refine Ops.r (Run.mv rfl) rfl ?_
        refine Ops.sk rfl (by first | rfl | assumption | exact decide_eq_true (by assumption) | exact decide_eq_false (by assumption) | decide | (simp; done) | (simp; omega) | (simp [*]; done)) rfl ?_
        refine Ops.sk rfl (by first | rfl | assumption | exact decide_eq_true (by assumption) | exact decide_eq_false (by assumption) | decide | (simp; done) | (simp; omega) | (simp [*]; done)) rfl ?_
        refine Ops.sk rfl (by first | rfl | assumption | exact decide_eq_true (by assumption) | exact decide_eq_false (by assumption) | decide | (simp; done) | (simp; omega) | (simp [*]; done)) rfl ?_
        refine Ops.sk rfl (by first | rfl | assumption | exact decide_eq_true (by assumption) | exact decide_eq_false (by assumption) | decide | (simp; done) | (simp; omega) | (simp [*]; done)) rfl ?_
        refine Ops.sk rfl (by first | rfl | assumption | exact decide_eq_true (by assumption) | exact decide_eq_false (by assumption) | decide | (simp; done) | (simp; omega) | (simp [*]; done)) rfl ?_
        refine Ops.sk rfl (by first | rfl | assumption | exact decide_eq_true (by assumption) | exact decide_eq_false (by assumption) | decide | (simp; done) | (simp; omega) | (simp [*]; done)) rfl ?_
        refine Ops.sk rfl (by first | rfl | assumption | exact decide_eq_true (by assumption) | exact decide_eq_false (by assumption) | decide | (simp; done) | (simp; omega) | (simp [*]; done)) rfl ?_
        refine Ops.r (Run.pickT rfl rfl (by first | rfl | assumption | exact decide_eq_true (by assumption) | exact decide_eq_false (by assumption) | decide | (simp; done) | (simp; omega) | (simp [*]; done))) rfl ?_
        refine Ops.nil ?_
        refine thenQ_n ⟨(.cons (congrArg (fun b => some (Value.bool b)) (Eq.symm (by simp [*]))) (.cons rfl (.cons rfl .nil))), rfl⟩
      · skip
        refine Ops.r (Run.pickF rfl rfl (by first | rfl | assumption | exact decide_eq_true (by assumption) | exact decide_eq_false (by assumption) | decide | (simp; done) | (simp; omega) | (simp [*]; done))) rfl ?_
        refine Ops.r (Run.mv rfl) rfl ?_
        refine Ops.rg rfl (by first | rfl | assumption | exact decide_eq_true (by assumption) | exact decide_eq_false (by assumption) | decide | (simp; done) | (simp; omega) | (simp [*]; done)) (Run.fieldAddr rfl Try.underlying24 rfl Try.sizeOf22 (by decide)) rfl ?_
        refine Ops.rg rfl (by first | rfl | assumption | exact decide_eq_true (by assumption) | exact decide_eq_false (by assumption) | decide | (simp; done) | (simp; omega) | (simp [*]; done)) (Run.load rfl Try.isAgg22 (hb2.cell 2)) rfl ?_
        refine Ops.rg rfl (by first | rfl | assumption | exact decide_eq_true (by assumption) | exact decide_eq_false (by assumption) | decide | (simp; done) | (simp; omega) | (simp [*]; done)) (Run.lenS rfl Try.underlying22) rfl ?_
        refine Ops.rg rfl (by first | rfl | assumption | exact decide_eq_true (by assumption) | exact decide_eq_false (by assumption) | decide | (simp; done) | (simp; omega) | (simp [*]; done)) (Run.fieldAddr rfl Try.underlying24 rfl Try.sizeOf22 (by decide)) rfl ?_
        refine Ops.rg rfl (by first | rfl | assumption | exact decide_eq_true (by assumption) | exact decide_eq_false (by assumption) | decide | (simp; done) | (simp; omega) | (simp [*]; done)) (Run.load rfl Try.isAgg22 (hb3.cell 2)) rfl ?_
        refine Ops.rg rfl (by first | rfl | assumption | exact decide_eq_true (by assumption) | exact decide_eq_false (by assumption) | decide | (simp; done) | (simp; omega) | (simp [*]; done)) (Run.lenS rfl Try.underlying22) rfl ?_
        refine Ops.rg rfl (by first | rfl | assumption | exact decide_eq_true (by assumption) | exact decide_eq_false (by assumption) | decide | (simp; done) | (simp; omega) | (simp [*]; done)) (Run.bin rfl rfl (Bin.neqN _ _)) rfl ?_
        by_cases hs27 : l.length ≠ l2.length
        · skip
          refine Ops.r (Run.pickF rfl rfl (by first | rfl | assumption | exact decide_eq_true (by assumption) | exact decide_eq_false (by assumption) | decide | (simp; done) | (simp; omega) | (simp [*]; done))) rfl ?_
          refine Ops.nil ?_
          refine thenQ_n ⟨(.cons (congrArg (fun b => some (Value.bool b)) (Eq.symm (by simp [*]))) (.cons rfl (.cons rfl .nil))), rfl⟩
        · skip
          refine Ops.r (Run.pickF rfl rfl (by first | rfl | assumption | exact decide_eq_true (by assumption) | exact decide_eq_false (by assumption) | decide | (simp; done) | (simp; omega) | (simp [*]; done))) rfl ?_
          refine Ops.nil ?_
          refine thenQ_n ⟨(.cons (congrArg (fun b => some (Value.bool b)) (Eq.symm (by simp [*]))) (.cons rfl (.cons rfl .nil))), rfl⟩
  · intro Γ hΓ
    refine thenQ_n (VC.sub _ hΓ ?_)
    refine VC.condD rfl (fun hc1 => ?_) (fun hc1 => ?_)
    · skip
      refine VC.seq ?_
      refine VC.region ?_
      refine Ops.r (Run.asg rfl) rfl ?_
      refine Ops.nil ?_
      refine thenQ_n ?_
      refine VC.sub [(4, _)] (.cons rfl .nil) ?_
      refine VC.ret ?_
      refine thenQ_r (end1 rfl ?_)
      refine ⟨?_, hf3⟩
      rw [decide_eq_false]
      rintro ⟨h1, h2, h3⟩
      have h4 := congrArg List.length h3
      simp only [Ms, List.length_map] at h4
      rcases hc1 with h | h | h
      · exact h h1
      · exact h h2
      · exact h h4
    · skip
      obtain ⟨hvv, hnn, hll⟩ : v = v2 ∧ n = n2 ∧ l.length = l2.length := by omega
      refine VC.skip ?_
      refine thenQ_n ?_
      refine VC.sub [(2, _), (3, _)] (.cons rfl (.cons rfl .nil)) ?_
      refine VC.seq ?_
      refine VC.seq ?_
      refine VC.region ?_
      refine Ops.r (v := .int .i64 ((0 : Nat) : Int)) (Run.asg rfl) rfl ?_
      refine Ops.nil ?_
      refine thenQ_n ?_
      refine VC.block ?_
      refine VC.loop (σ := Nat) (fun s => [(2, .pointer (some ⟨g2, 0, none⟩)), (3, .pointer (some ⟨g3, 0, none⟩)), (5, .int .i64 ((s : Nat) : Int))]) (fun s wr => s ≤ l.length ∧ Frm [] w wr ∧ Blk wr g2 24 #[.int .i64 v, .int .i64 n, .slice A l.length c] ∧ Blk wr g3 24 #[.int .i64 v2, .int .i64 n2, .slice B l2.length d] ∧ Ms (l.take s) = Ms (l2.take s)) (fun s => l.length - s) 0 (.cons rfl (.cons rfl (.cons rfl .nil))) ⟨by omega, hf3, hb2, hb3, by simp⟩ ?_
      rintro i wr ⟨hi, hfr, hb2, hb3, hsm⟩
      refine VC.seq ?_
      refine VC.seq ?_
      refine VC.region ?_
      refine Ops.r (Run.mv rfl) rfl ?_
      refine Ops.r (Run.fieldAddr rfl Try.underlying24 rfl Try.sizeOf22 (by decide)) rfl ?_
      refine Ops.r (Run.load rfl Try.isAgg22 (hb2.cell 2)) rfl ?_
      refine Ops.r (Run.lenS rfl Try.underlying22) rfl ?_
      refine Ops.r (Run.bin rfl rfl (Bin.lssN _ _)) rfl ?_
      refine Ops.nil ?_
      refine thenQ_n ?_
      refine VC.sub [(2, _), (3, _), (5, _), (33, _)] (.cons rfl (.cons rfl (.cons rfl (.cons rfl .nil)))) ?_
      refine VC.condD rfl (fun hc2 => ?_) (fun hc2 => ?_)
      · skip
        obtain ⟨ad, hAe, hcell⟩ : ∃ ad, A = some ad ∧ ∀ W, Frm [] w W → ∀ j v, (l[i]).cells[j]? = some v → W.cell? ((ad.add (i * 6)).add j) = some v := by
          obtain ⟨ad, hA, _⟩ := hl.elem hc2
          refine ⟨ad, hA, fun W hW => ?_⟩
          obtain ⟨ad', hA', h⟩ := (hl.frm hW).elem hc2
          rw [hA] at hA'
          injection hA' with hA'
          subst hA'
          exact h
        have hc2' : i < l2.length := by omega
        obtain ⟨ad2, hBe, hcell2⟩ : ∃ ad, B = some ad ∧ ∀ W, Frm [] w W → ∀ j v, (l2[i]).cells[j]? = some v → W.cell? ((ad.add (i * 6)).add j) = some v := by
          obtain ⟨ad, hA, _⟩ := hl2.elem hc2'
          refine ⟨ad, hA, fun W hW => ?_⟩
          obtain ⟨ad', hA', h⟩ := (hl2.frm hW).elem hc2'
          rw [hA] at hA'
          injection hA' with hA'
          subst hA'
          exact h
        subst hAe hBe
        have hxa := (hl.frm hfr).fl (l[i]) (List.getElem_mem hc2)
        have hya := (hl2.frm hfr).fl (l2[i]) (List.getElem_mem hc2')
        have hms := Ms_take hc2
        have hms2 := Ms_take hc2'
        generalize hx : l[i] = x at *
        generalize hy : l2[i] = y at *
        have hme := msg_eq x.m y.m
        refine VC.skip ?_
        refine thenQ_n ?_
        refine VC.sub [(2, _), (3, _), (5, _)] (.cons rfl (.cons rfl (.cons rfl .nil))) ?_
        refine VC.seq ?_
        refine VC.block ?_
        refine VC.seq ?_
        refine VC.meet (σ := Nat × Nat) (fun s => [(2, .pointer (some ⟨g2, 0, none⟩)), (3, .pointer (some ⟨g3, 0, none⟩)), (5, .int .i64 ((i : Nat) : Int)), (6, .pointer (some ⟨s.1, 0, none⟩)), (7, .pointer (some ⟨s.2, 0, none⟩))]) (fun s wm => Blk wm s.1 45 x.cells.toArray ∧ Blk wm s.2 45 y.cells.toArray ∧ Frm [] wr wm) ?_ ?_
        · skip
          refine VC.held (fun W => Frm [] wr W) (by kernel_rfl) ?_
          have hS : Frm [] wr wr.drew := (Frm.refl _ _).drew
          refine HOps.take 0 rfl (by kernel_rfl) (by kernel_rfl) (by kernel_rfl) hS (fun w0 hw0 => Run.fieldAddr rfl Try.underlying24 rfl Try.sizeOf22 (by decide)) trivial rfl rfl ?_
          refine HOps.take 1 rfl (by kernel_rfl) (by kernel_rfl) (by kernel_rfl) hS (fun w0 hw0 => Run.load rfl Try.isAgg22 ((hb2.frm hw0 (by simp)).cell 2)) trivial rfl rfl ?_
          refine HOps.take 2 rfl (by kernel_rfl) (by kernel_rfl) (by kernel_rfl) hS (fun w0 hw0 => Run.mv rfl) trivial rfl rfl ?_
          refine HOps.take 3 rfl (by kernel_rfl) (by kernel_rfl) (by kernel_rfl) hS (fun w0 hw0 => Run.indexS i rfl rfl Try.underlying22 Try.sizeOf45 hc2) trivial rfl rfl ?_
          refine HOps.take 4 rfl (by kernel_rfl) (by kernel_rfl) (by kernel_rfl) hS (fun w0 hw0 => Run.loadA rfl Try.isAgg45 Try.sizeOf45 (hcell _ (hfr.trans hw0 (by simp))) (by first | rfl | (simp; done))) trivial rfl rfl ?_
          refine HOps.take 5 rfl (by kernel_rfl) (by kernel_rfl) (by kernel_rfl) hS (fun w0 hw0 => Run.fieldAddr rfl Try.underlying24 rfl Try.sizeOf22 (by decide)) trivial rfl rfl ?_
          refine HOps.take 6 rfl (by kernel_rfl) (by kernel_rfl) (by kernel_rfl) hS (fun w0 hw0 => Run.load rfl Try.isAgg22 ((hb3.frm hw0 (by simp)).cell 2)) trivial rfl rfl ?_
          refine HOps.take 7 rfl (by kernel_rfl) (by kernel_rfl) (by kernel_rfl) hS (fun w0 hw0 => Run.mv rfl) trivial rfl rfl ?_
          refine HOps.take 8 rfl (by kernel_rfl) (by kernel_rfl) (by kernel_rfl) hS (fun w0 hw0 => Run.indexS i rfl rfl Try.underlying22 Try.sizeOf45 hc2') trivial rfl rfl ?_
          refine HOps.take 9 rfl (by kernel_rfl) (by kernel_rfl) (by kernel_rfl) hS (fun w0 hw0 => Run.loadA rfl Try.isAgg45 Try.sizeOf45 (hcell2 _ (hfr.trans hw0 (by simp))) (by first | rfl | (simp; done))) trivial rfl rfl ?_
          refine HOps.or2 10 11 (by kernel_rfl) ?_ ?_
          · skip
            refine HOne.m rfl (Does.alloc zero45) trivial rfl rfl ?_
            rintro _ w6 ⟨rfl, hF6⟩
            have hge6 := hS.size
            try have hne := hb7.lt
            try have hb7 := hb7.frm hF6.frm (by simp)
            have hS6 : Frm [] wr w6 := hS.trans hF6.frm (by simp)
            refine ⟨hS6, ?_⟩
            have hS := hS6
            have hb6 := hF6.blk
            refine HOps.m 11 rfl (by kernel_rfl) (Does.alloc zero45) trivial rfl rfl ?_
            rintro _ w7 ⟨rfl, hF7⟩
            have hge7 := hS.size
            try have hne := hb6.lt
            try have hb6 := hb6.frm hF7.frm (by simp)
            have hS7 : Frm [] wr w7 := hS.trans hF7.frm (by simp)
            refine ⟨hS7, ?_⟩
            have hS := hS7
            have hb7 := hF7.blk
            refine HOps.st 12 rfl (by kernel_rfl) (Acts.storeA rfl rfl Try.sizeOf45 hb6 rfl x.cells_one) trivial rfl ?_
            rintro w8 ⟨hb68, hf8, hs8⟩
            have hS8 : Frm [] wr w8 := hS.own hf8 (fun y hy => by simp only [List.mem_singleton] at hy; subst hy; exact hge6)
            refine ⟨hS8, ?_⟩
            have hS := hS8
            have hb78 := hb7.frm hf8 (by simp only [List.mem_singleton]; omega)
            refine HOps.st 13 rfl (by kernel_rfl) (Acts.storeA rfl rfl Try.sizeOf45 hb78 rfl y.cells_one) trivial rfl ?_
            rintro w9 ⟨hb79, hf9, hs9⟩
            have hS9 : Frm [] wr w9 := hS.own hf9 (fun y hy => by simp only [List.mem_singleton] at hy; subst hy; exact hge7)
            refine ⟨hS9, ?_⟩
            have hS := hS9
            have hb69 := hb68.frm hf9 (by simp only [List.mem_singleton]; omega)
            refine HOps.done (by kernel_rfl) ?_
            refine thenQ_n ⟨(_, _), (.cons rfl (.cons rfl (.cons rfl (.cons rfl (.cons rfl .nil))))), ?_⟩
            exact ⟨hb69, hb79, hS⟩
          · skip
            refine HOne.m rfl (Does.alloc zero45) trivial rfl rfl ?_
            rintro _ w7 ⟨rfl, hF7⟩
            have hge7 := hS.size
            try have hne := hb6.lt
            try have hb6 := hb6.frm hF7.frm (by simp)
            have hS7 : Frm [] wr w7 := hS.trans hF7.frm (by simp)
            refine ⟨hS7, ?_⟩
            have hS := hS7
            have hb7 := hF7.blk
            refine HOps.m 10 rfl (by kernel_rfl) (Does.alloc zero45) trivial rfl rfl ?_
            rintro _ w6 ⟨rfl, hF6⟩
            have hge6 := hS.size
            try have hne := hb7.lt
            try have hb7 := hb7.frm hF6.frm (by simp)
            have hS6 : Frm [] wr w6 := hS.trans hF6.frm (by simp)
            refine ⟨hS6, ?_⟩
            have hS := hS6
            have hb6 := hF6.blk
            refine HOps.st 12 rfl (by kernel_rfl) (Acts.storeA rfl rfl Try.sizeOf45 hb6 rfl x.cells_one) trivial rfl ?_
            rintro w8 ⟨hb68, hf8, hs8⟩
            have hS8 : Frm [] wr w8 := hS.own hf8 (fun y hy => by simp only [List.mem_singleton] at hy; subst hy; exact hge6)
            refine ⟨hS8, ?_⟩
            have hS := hS8
            have hb78 := hb7.frm hf8 (by simp only [List.mem_singleton]; omega)
            refine HOps.st 13 rfl (by kernel_rfl) (Acts.storeA rfl rfl Try.sizeOf45 hb78 rfl y.cells_one) trivial rfl ?_
            rintro w9 ⟨hb79, hf9, hs9⟩
            have hS9 : Frm [] wr w9 := hS.own hf9 (fun y hy => by simp only [List.mem_singleton] at hy; subst hy; exact hge7)
            refine ⟨hS9, ?_⟩
            have hS := hS9
            have hb69 := hb68.frm hf9 (by simp only [List.mem_singleton]; omega)
            refine HOps.done (by kernel_rfl) ?_
            refine thenQ_n ⟨(_, _), (.cons rfl (.cons rfl (.cons rfl (.cons rfl (.cons rfl .nil))))), ?_⟩
            exact ⟨hb69, hb79, hS⟩
        · skip
          rintro ⟨g6, g7⟩ w5 ⟨hb6, hb7, hf5⟩ Γ hΓ
          dsimp only at hb6 hb7
          refine thenQ_n (VC.sub _ hΓ ?_)
          refine VC.seq ?_
          refine VC.splitR [(2, .pointer (some ⟨g2, 0, none⟩)), (3, .pointer (some ⟨g3, 0, none⟩)), (5, .int .i64 ((i : Nat) : Int))] (Frm [] w5) 79 (.bool (decide (¬ x.m = y.m))) ?_ ?_
          · refine VC.region ?_
            refine Ops.r (Run.fieldAddr rfl Try.underlying45 rfl Try.sizeOf3 (by decide)) rfl ?_
            refine Ops.r (Run.load rfl Try.isAgg3 (hb6.cell 0)) rfl ?_
            refine Ops.r (Run.fieldAddr rfl Try.underlying45 rfl Try.sizeOf3 (by decide)) rfl ?_
            refine Ops.r (Run.load rfl Try.isAgg3 (hb7.cell 0)) rfl ?_
            refine Ops.r (Run.bin rfl rfl (Bin.neq _ _)) rfl ?_
            by_cases hs50 : x.m.uid ≠ y.m.uid
            · skip
              refine Ops.r (Run.mv rfl) rfl ?_
              refine Ops.sk rfl (by first | rfl | assumption | exact decide_eq_true (by assumption) | exact decide_eq_false (by assumption) | decide | (simp; done) | (simp; omega) | (simp [*]; done)) rfl ?_
              refine Ops.sk rfl (by first | rfl | assumption | exact decide_eq_true (by assumption) | exact decide_eq_false (by assumption) | decide | (simp; done) | (simp; omega) | (simp [*]; done)) rfl ?_
              refine Ops.sk rfl (by first | rfl | assumption | exact decide_eq_true (by assumption) | exact decide_eq_false (by assumption) | decide | (simp; done) | (simp; omega) | (simp [*]; done)) rfl ?_
              refine Ops.sk rfl (by first | rfl | assumption | exact decide_eq_true (by assumption) | exact decide_eq_false (by assumption) | decide | (simp; done) | (simp; omega) | (simp [*]; done)) rfl ?_
              refine Ops.sk rfl (by first | rfl | assumption | exact decide_eq_true (by assumption) | exact decide_eq_false (by assumption) | decide | (simp; done) | (simp; omega) | (simp [*]; done)) rfl ?_
              refine Ops.r (Run.pickT rfl rfl (by first | rfl | assumption | exact decide_eq_true (by assumption) | exact decide_eq_false (by assumption) | decide | (simp; done) | (simp; omega) | (simp [*]; done))) rfl ?_
              refine Ops.r (Run.mv rfl) rfl ?_
              refine Ops.sk rfl (by first | rfl | assumption | exact decide_eq_true (by assumption) | exact decide_eq_false (by assumption) | decide | (simp; done) | (simp; omega) | (simp [*]; done)) rfl ?_
              refine Ops.sk rfl (by first | rfl | assumption | exact decide_eq_true (by assumption) | exact decide_eq_false (by assumption) | decide | (simp; done) | (simp; omega) | (simp [*]; done)) rfl ?_
              refine Ops.sk rfl (by first | rfl | assumption | exact decide_eq_true (by assumption) | exact decide_eq_false (by assumption) | decide | (simp; done) | (simp; omega) | (simp [*]; done)) rfl ?_
              refine Ops.sk rfl (by first | rfl | assumption | exact decide_eq_true (by assumption) | exact decide_eq_false (by assumption) | decide | (simp; done) | (simp; omega) | (simp [*]; done)) rfl ?_
              refine Ops.sk rfl (by first | rfl | assumption | exact decide_eq_true (by assumption) | exact decide_eq_false (by assumption) | decide | (simp; done) | (simp; omega) | (simp [*]; done)) rfl ?_
              refine Ops.r (Run.pickT rfl rfl (by first | rfl | assumption | exact decide_eq_true (by assumption) | exact decide_eq_false (by assumption) | decide | (simp; done) | (simp; omega) | (simp [*]; done))) rfl ?_
              refine Ops.r (Run.mv rfl) rfl ?_
              refine Ops.sk rfl (by first | rfl | assumption | exact decide_eq_true (by assumption) | exact decide_eq_false (by assumption) | decide | (simp; done) | (simp; omega) | (simp [*]; done)) rfl ?_
              refine Ops.sk rfl (by first | rfl | assumption | exact decide_eq_true (by assumption) | exact decide_eq_false (by assumption) | decide | (simp; done) | (simp; omega) | (simp [*]; done)) rfl ?_
              refine Ops.sk rfl (by first | rfl | assumption | exact decide_eq_true (by assumption) | exact decide_eq_false (by assumption) | decide | (simp; done) | (simp; omega) | (simp [*]; done)) rfl ?_
              refine Ops.sk rfl (by first | rfl | assumption | exact decide_eq_true (by assumption) | exact decide_eq_false (by assumption) | decide | (simp; done) | (simp; omega) | (simp [*]; done)) rfl ?_
              refine Ops.sk rfl (by first | rfl | assumption | exact decide_eq_true (by assumption) | exact decide_eq_false (by assumption) | decide | (simp; done) | (simp; omega) | (simp [*]; done)) rfl ?_
              refine Ops.r (Run.pickT rfl rfl (by first | rfl | assumption | exact decide_eq_true (by assumption) | exact decide_eq_false (by assumption) | decide | (simp; done) | (simp; omega) | (simp [*]; done))) rfl ?_
              refine Ops.r (Run.mv rfl) rfl ?_
              refine Ops.sk rfl (by first | rfl | assumption | exact decide_eq_true (by assumption) | exact decide_eq_false (by assumption) | decide | (simp; done) | (simp; omega) | (simp [*]; done)) rfl ?_
              refine Ops.sk rfl (by first | rfl | assumption | exact decide_eq_true (by assumption) | exact decide_eq_false (by assumption) | decide | (simp; done) | (simp; omega) | (simp [*]; done)) rfl ?_
              refine Ops.sk rfl (by first | rfl | assumption | exact decide_eq_true (by assumption) | exact decide_eq_false (by assumption) | decide | (simp; done) | (simp; omega) | (simp [*]; done)) rfl ?_
              refine Ops.sk rfl (by first | rfl | assumption | exact decide_eq_true (by assumption) | exact decide_eq_false (by assumption) | decide | (simp; done) | (simp; omega) | (simp [*]; done)) rfl ?_
              refine Ops.sk rfl (by first | rfl | assumption | exact decide_eq_true (by assumption) | exact decide_eq_false (by assumption) | decide | (simp; done) | (simp; omega) | (simp [*]; done)) rfl ?_
              refine Ops.sk rfl (by first | rfl | assumption | exact decide_eq_true (by assumption) | exact decide_eq_false (by assumption) | decide | (simp; done) | (simp; omega) | (simp [*]; done)) rfl ?_
              refine Ops.r (Run.pickT rfl rfl (by first | rfl | assumption | exact decide_eq_true (by assumption) | exact decide_eq_false (by assumption) | decide | (simp; done) | (simp; omega) | (simp [*]; done))) rfl ?_
              refine Ops.nil ?_
              refine thenQ_n ⟨(.cons (congrArg (fun b => some (Value.bool b)) (Eq.symm (by simp_all))) (.cons rfl (.cons rfl (.cons rfl .nil)))), (by first | exact hd6.frm | exact Frm.refl _ _)⟩
            · skip
              refine Ops.r (Run.mv rfl) rfl ?_
              refine Ops.rg rfl (by first | rfl | assumption | exact decide_eq_true (by assumption) | exact decide_eq_false (by assumption) | decide | (simp; done) | (simp; omega) | (simp [*]; done)) (Run.fieldAddr rfl Try.underlying45 rfl Try.sizeOf42 (by decide)) rfl ?_
              refine Ops.rg rfl (by first | rfl | assumption | exact decide_eq_true (by assumption) | exact decide_eq_false (by assumption) | decide | (simp; done) | (simp; omega) | (simp [*]; done)) (Run.loadA rfl Try.isAgg42 Try.sizeOf42 (hb6.sub 1 [.int .i64 x.m.sec, .int .i64 x.m.zone] rfl) (by first | rfl | (simp; done))) rfl ?_
              refine Ops.rg rfl (by first | rfl | assumption | exact decide_eq_true (by assumption) | exact decide_eq_false (by assumption) | decide | (simp; done) | (simp; omega) | (simp [*]; done)) (Run.fieldAddr rfl Try.underlying45 rfl Try.sizeOf42 (by decide)) rfl ?_
              refine Ops.rg rfl (by first | rfl | assumption | exact decide_eq_true (by assumption) | exact decide_eq_false (by assumption) | decide | (simp; done) | (simp; omega) | (simp [*]; done)) (Run.loadA rfl Try.isAgg42 Try.sizeOf42 (hb7.sub 1 [.int .i64 y.m.sec, .int .i64 y.m.zone] rfl) (by first | rfl | (simp; done))) rfl ?_
              refine Ops.rg rfl (by first | rfl | assumption | exact decide_eq_true (by assumption) | exact decide_eq_false (by assumption) | decide | (simp; done) | (simp; omega) | (simp [*]; done)) (Run.neqAgg rfl rfl (by kernel_rfl) (by kernel_rfl) (by kernel_rfl) (date_eq _ _ _ _ _)) rfl ?_
              by_cases hs56 : ¬ (x.m.sec = y.m.sec ∧ x.m.zone = y.m.zone)
              · skip
                refine Ops.r (Run.pickF rfl rfl (by first | rfl | assumption | exact decide_eq_true (by assumption) | exact decide_eq_false (by assumption) | decide | (simp; done) | (simp; omega) | (simp [*]; done))) rfl ?_
                refine Ops.r (Run.mv rfl) rfl ?_
                refine Ops.sk rfl (by first | rfl | assumption | exact decide_eq_true (by assumption) | exact decide_eq_false (by assumption) | decide | (simp; done) | (simp; omega) | (simp [*]; done)) rfl ?_
                refine Ops.sk rfl (by first | rfl | assumption | exact decide_eq_true (by assumption) | exact decide_eq_false (by assumption) | decide | (simp; done) | (simp; omega) | (simp [*]; done)) rfl ?_
                refine Ops.sk rfl (by first | rfl | assumption | exact decide_eq_true (by assumption) | exact decide_eq_false (by assumption) | decide | (simp; done) | (simp; omega) | (simp [*]; done)) rfl ?_
                refine Ops.sk rfl (by first | rfl | assumption | exact decide_eq_true (by assumption) | exact decide_eq_false (by assumption) | decide | (simp; done) | (simp; omega) | (simp [*]; done)) rfl ?_
                refine Ops.sk rfl (by first | rfl | assumption | exact decide_eq_true (by assumption) | exact decide_eq_false (by assumption) | decide | (simp; done) | (simp; omega) | (simp [*]; done)) rfl ?_
                refine Ops.r (Run.pickT rfl rfl (by first | rfl | assumption | exact decide_eq_true (by assumption) | exact decide_eq_false (by assumption) | decide | (simp; done) | (simp; omega) | (simp [*]; done))) rfl ?_
                refine Ops.r (Run.mv rfl) rfl ?_
                refine Ops.sk rfl (by first | rfl | assumption | exact decide_eq_true (by assumption) | exact decide_eq_false (by assumption) | decide | (simp; done) | (simp; omega) | (simp [*]; done)) rfl ?_
                refine Ops.sk rfl (by first | rfl | assumption | exact decide_eq_true (by assumption) | exact decide_eq_false (by assumption) | decide | (simp; done) | (simp; omega) | (simp [*]; done)) rfl ?_
                refine Ops.sk rfl (by first | rfl | assumption | exact decide_eq_true (by assumption) | exact decide_eq_false (by assumption) | decide | (simp; done) | (simp; omega) | (simp [*]; done)) rfl ?_
                refine Ops.sk rfl (by first | rfl | assumption | exact decide_eq_true (by assumption) | exact decide_eq_false (by assumption) | decide | (simp; done) | (simp; omega) | (simp [*]; done)) rfl ?_
                refine Ops.sk rfl (by first | rfl | assumption | exact decide_eq_true (by assumption) | exact decide_eq_false (by assumption) | decide | (simp; done) | (simp; omega) | (simp [*]; done)) rfl ?_
                refine Ops.r (Run.pickT rfl rfl (by first | rfl | assumption | exact decide_eq_true (by assumption) | exact decide_eq_false (by assumption) | decide | (simp; done) | (simp; omega) | (simp [*]; done))) rfl ?_
                refine Ops.r (Run.mv rfl) rfl ?_
                refine Ops.sk rfl (by first | rfl | assumption | exact decide_eq_true (by assumption) | exact decide_eq_false (by assumption) | decide | (simp; done) | (simp; omega) | (simp [*]; done)) rfl ?_
                refine Ops.sk rfl (by first | rfl | assumption | exact decide_eq_true (by assumption) | exact decide_eq_false (by assumption) | decide | (simp; done) | (simp; omega) | (simp [*]; done)) rfl ?_
                refine Ops.sk rfl (by first | rfl | assumption | exact decide_eq_true (by assumption) | exact decide_eq_false (by assumption) | decide | (simp; done) | (simp; omega) | (simp [*]; done)) rfl ?_
                refine Ops.sk rfl (by first | rfl | assumption | exact decide_eq_true (by assumption) | exact decide_eq_false (by assumption) | decide | (simp; done) | (simp; omega) | (simp [*]; done)) rfl ?_
                refine Ops.sk rfl (by first | rfl | assumption | exact decide_eq_true (by assumption) | exact decide_eq_false (by assumption) | decide | (simp; done) | (simp; omega) | (simp [*]; done)) rfl ?_
                refine Ops.sk rfl (by first | rfl | assumption | exact decide_eq_true (by assumption) | exact decide_eq_false (by assumption) | decide | (simp; done) | (simp; omega) | (simp [*]; done)) rfl ?_
                refine Ops.r (Run.pickT rfl rfl (by first | rfl | assumption | exact decide_eq_true (by assumption) | exact decide_eq_false (by assumption) | decide | (simp; done) | (simp; omega) | (simp [*]; done))) rfl ?_
                refine Ops.nil ?_
                refine thenQ_n ⟨(.cons (congrArg (fun b => some (Value.bool b)) (Eq.symm (by simp_all))) (.cons rfl (.cons rfl (.cons rfl .nil)))), (by first | exact hd6.frm | exact Frm.refl _ _)⟩
              · skip
                refine Ops.r (Run.pickF rfl rfl (by first | rfl | assumption | exact decide_eq_true (by assumption) | exact decide_eq_false (by assumption) | decide | (simp; done) | (simp; omega) | (simp [*]; done))) rfl ?_
                refine Ops.r (Run.mv rfl) rfl ?_
                refine Ops.rg rfl (by first | rfl | assumption | exact decide_eq_true (by assumption) | exact decide_eq_false (by assumption) | decide | (simp; done) | (simp; omega) | (simp [*]; done)) (Run.fieldAddr rfl Try.underlying45 rfl Try.sizeOf3 (by decide)) rfl ?_
                refine Ops.rg rfl (by first | rfl | assumption | exact decide_eq_true (by assumption) | exact decide_eq_false (by assumption) | decide | (simp; done) | (simp; omega) | (simp [*]; done)) (Run.load rfl Try.isAgg3 (hb6.cell 3)) rfl ?_
                refine Ops.rg rfl (by first | rfl | assumption | exact decide_eq_true (by assumption) | exact decide_eq_false (by assumption) | decide | (simp; done) | (simp; omega) | (simp [*]; done)) (Run.fieldAddr rfl Try.underlying45 rfl Try.sizeOf3 (by decide)) rfl ?_
                refine Ops.rg rfl (by first | rfl | assumption | exact decide_eq_true (by assumption) | exact decide_eq_false (by assumption) | decide | (simp; done) | (simp; omega) | (simp [*]; done)) (Run.load rfl Try.isAgg3 (hb7.cell 3)) rfl ?_
                refine Ops.rg rfl (by first | rfl | assumption | exact decide_eq_true (by assumption) | exact decide_eq_false (by assumption) | decide | (simp; done) | (simp; omega) | (simp [*]; done)) (Run.bin rfl rfl (Bin.neq _ _)) rfl ?_
                by_cases hs63 : x.m.size ≠ y.m.size
                · skip
                  refine Ops.r (Run.pickF rfl rfl (by first | rfl | assumption | exact decide_eq_true (by assumption) | exact decide_eq_false (by assumption) | decide | (simp; done) | (simp; omega) | (simp [*]; done))) rfl ?_
                  refine Ops.r (Run.mv rfl) rfl ?_
                  refine Ops.sk rfl (by first | rfl | assumption | exact decide_eq_true (by assumption) | exact decide_eq_false (by assumption) | decide | (simp; done) | (simp; omega) | (simp [*]; done)) rfl ?_
                  refine Ops.sk rfl (by first | rfl | assumption | exact decide_eq_true (by assumption) | exact decide_eq_false (by assumption) | decide | (simp; done) | (simp; omega) | (simp [*]; done)) rfl ?_
                  refine Ops.sk rfl (by first | rfl | assumption | exact decide_eq_true (by assumption) | exact decide_eq_false (by assumption) | decide | (simp; done) | (simp; omega) | (simp [*]; done)) rfl ?_
                  refine Ops.sk rfl (by first | rfl | assumption | exact decide_eq_true (by assumption) | exact decide_eq_false (by assumption) | decide | (simp; done) | (simp; omega) | (simp [*]; done)) rfl ?_
                  refine Ops.sk rfl (by first | rfl | assumption | exact decide_eq_true (by assumption) | exact decide_eq_false (by assumption) | decide | (simp; done) | (simp; omega) | (simp [*]; done)) rfl ?_
                  refine Ops.r (Run.pickT rfl rfl (by first | rfl | assumption | exact decide_eq_true (by assumption) | exact decide_eq_false (by assumption) | decide | (simp; done) | (simp; omega) | (simp [*]; done))) rfl ?_
                  refine Ops.r (Run.mv rfl) rfl ?_
                  refine Ops.sk rfl (by first | rfl | assumption | exact decide_eq_true (by assumption) | exact decide_eq_false (by assumption) | decide | (simp; done) | (simp; omega) | (simp [*]; done)) rfl ?_
                  refine Ops.sk rfl (by first | rfl | assumption | exact decide_eq_true (by assumption) | exact decide_eq_false (by assumption) | decide | (simp; done) | (simp; omega) | (simp [*]; done)) rfl ?_
                  refine Ops.sk rfl (by first | rfl | assumption | exact decide_eq_true (by assumption) | exact decide_eq_false (by assumption) | decide | (simp; done) | (simp; omega) | (simp [*]; done)) rfl ?_
                  refine Ops.sk rfl (by first | rfl | assumption | exact decide_eq_true (by assumption) | exact decide_eq_false (by assumption) | decide | (simp; done) | (simp; omega) | (simp [*]; done)) rfl ?_
                  refine Ops.sk rfl (by first | rfl | assumption | exact decide_eq_true (by assumption) | exact decide_eq_false (by assumption) | decide | (simp; done) | (simp; omega) | (simp [*]; done)) rfl ?_
                  refine Ops.sk rfl (by first | rfl | assumption | exact decide_eq_true (by assumption) | exact decide_eq_false (by assumption) | decide | (simp; done) | (simp; omega) | (simp [*]; done)) rfl ?_
                  refine Ops.r (Run.pickT rfl rfl (by first | rfl | assumption | exact decide_eq_true (by assumption) | exact decide_eq_false (by assumption) | decide | (simp; done) | (simp; omega) | (simp [*]; done))) rfl ?_
                  refine Ops.nil ?_
                  refine thenQ_n ⟨(.cons (congrArg (fun b => some (Value.bool b)) (Eq.symm (by simp_all))) (.cons rfl (.cons rfl (.cons rfl .nil)))), (by first | exact hd6.frm | exact Frm.refl _ _)⟩
                · skip
                  refine Ops.r (Run.pickF rfl rfl (by first | rfl | assumption | exact decide_eq_true (by assumption) | exact decide_eq_false (by assumption) | decide | (simp; done) | (simp; omega) | (simp [*]; done))) rfl ?_
                  refine Ops.r (Run.mv rfl) rfl ?_
                  refine Ops.rg rfl (by first | rfl | assumption | exact decide_eq_true (by assumption) | exact decide_eq_false (by assumption) | decide | (simp; done) | (simp; omega) | (simp [*]; done)) (Run.fieldAddr rfl Try.underlying45 rfl Try.sizeOf38 (by decide)) rfl ?_
                  refine Ops.rg rfl (by first | rfl | assumption | exact decide_eq_true (by assumption) | exact decide_eq_false (by assumption) | decide | (simp; done) | (simp; omega) | (simp [*]; done)) (Run.load rfl Try.isAgg38 (hb6.cell 4)) rfl ?_
                  refine Ops.rg rfl (by first | rfl | assumption | exact decide_eq_true (by assumption) | exact decide_eq_false (by assumption) | decide | (simp; done) | (simp; omega) | (simp [*]; done)) (Run.fieldAddr rfl Try.underlying45 rfl Try.sizeOf38 (by decide)) rfl ?_
                  refine Ops.rg rfl (by first | rfl | assumption | exact decide_eq_true (by assumption) | exact decide_eq_false (by assumption) | decide | (simp; done) | (simp; omega) | (simp [*]; done)) (Run.load rfl Try.isAgg38 (hb7.cell 4)) rfl ?_
                  refine Ops.rg rfl (by first | rfl | assumption | exact decide_eq_true (by assumption) | exact decide_eq_false (by assumption) | decide | (simp; done) | (simp; omega) | (simp [*]; done)) (Run.bin rfl rfl (Bin.neqN _ _)) rfl ?_
                  by_cases hs70 : x.m.blob ≠ y.m.blob
                  · skip
                    refine Ops.r (Run.pickF rfl rfl (by first | rfl | assumption | exact decide_eq_true (by assumption) | exact decide_eq_false (by assumption) | decide | (simp; done) | (simp; omega) | (simp [*]; done))) rfl ?_
                    refine Ops.r (Run.mv rfl) rfl ?_
                    refine Ops.sk rfl (by first | rfl | assumption | exact decide_eq_true (by assumption) | exact decide_eq_false (by assumption) | decide | (simp; done) | (simp; omega) | (simp [*]; done)) rfl ?_
                    refine Ops.sk rfl (by first | rfl | assumption | exact decide_eq_true (by assumption) | exact decide_eq_false (by assumption) | decide | (simp; done) | (simp; omega) | (simp [*]; done)) rfl ?_
                    refine Ops.sk rfl (by first | rfl | assumption | exact decide_eq_true (by assumption) | exact decide_eq_false (by assumption) | decide | (simp; done) | (simp; omega) | (simp [*]; done)) rfl ?_
                    refine Ops.sk rfl (by first | rfl | assumption | exact decide_eq_true (by assumption) | exact decide_eq_false (by assumption) | decide | (simp; done) | (simp; omega) | (simp [*]; done)) rfl ?_
                    refine Ops.sk rfl (by first | rfl | assumption | exact decide_eq_true (by assumption) | exact decide_eq_false (by assumption) | decide | (simp; done) | (simp; omega) | (simp [*]; done)) rfl ?_
                    refine Ops.sk rfl (by first | rfl | assumption | exact decide_eq_true (by assumption) | exact decide_eq_false (by assumption) | decide | (simp; done) | (simp; omega) | (simp [*]; done)) rfl ?_
                    refine Ops.r (Run.pickT rfl rfl (by first | rfl | assumption | exact decide_eq_true (by assumption) | exact decide_eq_false (by assumption) | decide | (simp; done) | (simp; omega) | (simp [*]; done))) rfl ?_
                    refine Ops.nil ?_
                    refine thenQ_n ⟨(.cons (congrArg (fun b => some (Value.bool b)) (Eq.symm (by simp_all))) (.cons rfl (.cons rfl (.cons rfl .nil)))), (by first | exact hd6.frm | exact Frm.refl _ _)⟩
                  · skip
                    refine Ops.r (Run.pickF rfl rfl (by first | rfl | assumption | exact decide_eq_true (by assumption) | exact decide_eq_false (by assumption) | decide | (simp; done) | (simp; omega) | (simp [*]; done))) rfl ?_
                    refine Ops.r (Run.mv rfl) rfl ?_
                    refine Ops.rg rfl (by first | rfl | assumption | exact decide_eq_true (by assumption) | exact decide_eq_false (by assumption) | decide | (simp; done) | (simp; omega) | (simp [*]; done)) (Run.fieldAddr rfl Try.underlying45 rfl Try.sizeOf43 (by decide)) rfl ?_
                    refine Ops.rg rfl (by first | rfl | assumption | exact decide_eq_true (by assumption) | exact decide_eq_false (by assumption) | decide | (simp; done) | (simp; omega) | (simp [*]; done)) (Run.load rfl Try.isAgg43 (hb6.cell 5)) rfl ?_
                    refine Ops.rg rfl (by first | rfl | assumption | exact decide_eq_true (by assumption) | exact decide_eq_false (by assumption) | decide | (simp; done) | (simp; omega) | (simp [*]; done)) (Run.fieldAddr rfl Try.underlying45 rfl Try.sizeOf43 (by decide)) rfl ?_
                    refine Ops.rg rfl (by first | rfl | assumption | exact decide_eq_true (by assumption) | exact decide_eq_false (by assumption) | decide | (simp; done) | (simp; omega) | (simp [*]; done)) (Run.load rfl Try.isAgg43 (hb7.cell 5)) rfl ?_
                    refine Ops.clg rfl (by first | rfl | assumption | exact decide_eq_true (by assumption) | exact decide_eq_false (by assumption) | decide | (simp; done) | (simp; omega) | (simp [*]; done)) (Enters.fn (evs.cons rfl (evs.cons rfl evs.nil)) Try.call35) (rsame_spec x.A y.A x.c y.c x.m.flags y.m.flags _ (by have := hxa.n; omega) (by have := hya.n; omega) (hxa.frm hf5 (by simp)).rd (hya.frm hf5 (by simp)).rd) rfl ?_
                    rintro e w6 ⟨rfl, hd6⟩
                    refine ⟨_, rfl, ?_⟩
                    by_cases hs77 : x.m.flags = y.m.flags
                    · skip
                      refine Ops.rg rfl (by first | rfl | assumption | exact decide_eq_true (by assumption) | exact decide_eq_false (by assumption) | decide | (simp; done) | (simp; omega) | (simp [*]; done)) (Run.not rfl) rfl ?_
                      refine Ops.r (Run.pickF rfl rfl (by first | rfl | assumption | exact decide_eq_true (by assumption) | exact decide_eq_false (by assumption) | decide | (simp; done) | (simp; omega) | (simp [*]; done))) rfl ?_
                      refine Ops.nil ?_
                      refine thenQ_n ⟨(.cons (congrArg (fun b => some (Value.bool b)) (Eq.symm (by simp_all))) (.cons rfl (.cons rfl (.cons rfl .nil)))), (by first | exact hd6.frm | exact Frm.refl _ _)⟩
                    · skip
                      refine Ops.rg rfl (by first | rfl | assumption | exact decide_eq_true (by assumption) | exact decide_eq_false (by assumption) | decide | (simp; done) | (simp; omega) | (simp [*]; done)) (Run.not rfl) rfl ?_
                      refine Ops.r (Run.pickF rfl rfl (by first | rfl | assumption | exact decide_eq_true (by assumption) | exact decide_eq_false (by assumption) | decide | (simp; done) | (simp; omega) | (simp [*]; done))) rfl ?_
                      refine Ops.nil ?_
                      refine thenQ_n ⟨(.cons (congrArg (fun b => some (Value.bool b)) (Eq.symm (by simp_all))) (.cons rfl (.cons rfl (.cons rfl .nil)))), (by first | exact hd6.frm | exact Frm.refl _ _)⟩
          · intro Γ w6 hΓ hf6
            refine thenQ_n (VC.sub _ hΓ ?_)
            refine VC.condD rfl (fun hc3 => ?_) (fun hc3 => ?_)
            · skip
              refine VC.seq ?_
              refine VC.region ?_
              refine Ops.r (Run.asg rfl) rfl ?_
              refine Ops.nil ?_
              refine thenQ_n ?_
              refine VC.sub [(4, _)] (.cons rfl .nil) ?_
              refine VC.ret ?_
              refine blockQ_r (thenQ_r (thenQ_r (blockQ_r (thenQ_r (end1 rfl ?_)))))
              refine ⟨?_, (hfr.trans hf5 (by simp)).trans hf6 (by simp)⟩
              rw [decide_eq_false]
              rintro ⟨_, _, h⟩
              have h1 := congrArg (fun z => z[i]?) h
              simp only [Ms, List.getElem?_map, List.getElem?_eq_getElem hc2, List.getElem?_eq_getElem hc2', Option.map_some, Option.some.injEq] at h1
              rw [hx, hy] at h1
              exact hc3 h1
            · skip
              refine VC.skip ?_
              refine blockQ_n (thenQ_n ?_)
              refine VC.sub [(2, _), (3, _), (5, _)] (.cons rfl (.cons rfl (.cons rfl .nil))) ?_
              refine VC.region ?_
              refine Ops.r (Run.mv rfl) rfl ?_
              refine Ops.r (Run.bin rfl rfl (Bin.add_i64 _ 1 (by omega))) rfl ?_
              refine Ops.r (Run.asg rfl) rfl ?_
              refine Ops.nil ?_
              refine thenQ_n ⟨(i + 1), (.cons rfl (.cons rfl (.cons rfl .nil))), ?_, ?_⟩
              · skip
                have hxy : x.m = y.m := Classical.not_not.1 hc3
                have hf56 := hf5.trans hf6 (by simp)
                exact ⟨hc2, hfr.trans hf56 (by simp), hb2.frm hf56 (by simp), hb3.frm hf56 (by simp), by rw [hms, hms2, hsm, hxy]⟩
              · skip
                first | omega | (dsimp only; omega)
      · skip
        refine VC.exit ?_
        refine thenQ_x (thenQ_x (blockQ_x ?_))
        refine thenQ_n ?_
        refine VC.sub [] .nil ?_
        refine VC.seq ?_
        refine VC.region ?_
        refine Ops.r (Run.asg rfl) rfl ?_
        refine Ops.nil ?_
        refine thenQ_n ?_
        refine VC.ret ?_
        refine end1 rfl ?_
        refine ⟨?_, hfr⟩
        have hil : i = l.length := by omega
        subst hil
        rw [List.take_length, hll, List.take_length] at hsm
        rw [decide_eq_true ⟨hvv, hnn, hsm⟩]

end Go.Proofs.Ytmfglifjnoilnaa

