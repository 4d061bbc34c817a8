/-
  The walks of box: may a message be, may a box be; messages of their own.
-/
import Derived.Test.YtmfglifjnoilnaaBoxP
import Derived.Test.YtmfglifjnoilnaaDateU
import Derived.Test.YtmfglifjnoilnaaFlagU
import Derived.Test.YtmfglifjnoilnaaShelf
namespace Go.Proofs.Ytmfglifjnoilnaa
open Go.RowKit Go.Sort

theorem Blk.sub {w : World} {g : Nat} {t : TypeId} {cs : Array Value} (h : Blk w g t cs) (i : Nat) (l : List Value) (hl : (cs.toList.drop i).take l.length = l) : ∀ j v, l[j]? = some v → w.cell? ((⟨g, i, none⟩ : Addr).add j) = some v := by
  intro j v hj
  have hlt : j < l.length := (List.getElem?_eq_some_iff.1 hj).1
  rw [show ((⟨g, i, none⟩ : Addr).add j) = ⟨g, i + j, none⟩ by unfold Addr.add; split <;> simp_all, h.cell]
  rw [← hl, List.getElem?_take_of_lt hlt, List.getElem?_drop] at hj
  simpa using hj
theorem prev_succ {l : List Mc} {i : Nat} (h : i < l.length) : prevU (Ms l) (i + 1) = (l[i]).m.uid := by
  simp [prevU, Ms, List.getElem?_eq_getElem h]
theorem may_all {v n : Int} {l : List Mc} (h1 : 1 ≤ v ∧ v ≤ 2147483647 ∧ 1 ≤ n ∧ n ≤ 2147483648 ∧ l.length ≤ 128) (h2 : ∀ j (hj : j < l.length), GoodAt n (Ms l) j (l[j]).m) : mayB ⟨v, n, Ms l⟩ := by
  refine ⟨by simpa [Ms] using h1, fun j hj => ?_⟩
  have hj' : j < l.length := by simpa [Ms] using hj
  have := h2 j hj'
  simpa [Ms] using this
theorem may_at {v n : Int} {l : List Mc} (h : mayB ⟨v, n, Ms l⟩) : (1 ≤ v ∧ v ≤ 2147483647 ∧ 1 ≤ n ∧ n ≤ 2147483648 ∧ l.length ≤ 128) ∧ ∀ j (hj : j < l.length), GoodAt n (Ms l) j (l[j]).m := by
  obtain ⟨h1, h2⟩ := h
  refine ⟨by simpa [Ms] using h1, fun j hj => ?_⟩
  have := h2 j (by simpa [Ms] using hj)
  simpa [Ms] using this

set_option maxRecDepth 100000 in
theorem message_spec (x : Mc) (w : World) (hx : x.At w) : Calls Try.prog 36 #[.agg x.cells.toArray] w fun e w' => e = .returned (.bool (decide (MsgOk x.m))) ∧ Frm [] w w' := by
  refine VC.calls (nt := 21) (res := #[.tmp 2]) Try.func36 rfl Try.ntmps36 Try.results36 rfl ?_
  refine VC.seq ?_
  refine VC.region ?_
  refine Ops.m (Does.box rfl) rfl ?_
  rintro _ w1 ⟨rfl, hF1⟩
  have hb1 := hF1.blk
  have hf1 := hF1.frm
  generalize hg1 : w.heap.size = g1 at *
  refine Ops.r (Run.asg rfl) rfl ?_
  refine Ops.nil ?_
  refine thenQ_n ?_
  refine VC.sub [(1, _)] (.cons rfl .nil) ?_
  refine VC.seq ?_
  refine VC.splitR [] (Frm [] w) 2 (.bool (decide (MsgOk x.m))) ?_ ?_
  · refine VC.region ?_
    refine Ops.r (Run.fieldAddr rfl Try.underlying45 rfl Try.sizeOf42 (by decide)) rfl ?_
    refine Ops.r (Run.loadA rfl Try.isAgg42 Try.sizeOf42 (hb1.sub 1 [.int .i64 x.m.sec, .int .i64 x.m.zone] rfl) (by first | rfl | (simp; done))) rfl ?_
    refine Ops.cl (Enters.fn (evs.cons rfl evs.nil) Try.call51) (dmay_spec x.m.sec x.m.zone _) rfl ?_
    rintro e w2 ⟨rfl, hf2⟩
    refine ⟨_, rfl, ?_⟩
    have hfr2 := hf1.trans hf2 (by simp)
    have hb1 := hb1.frm hf2 (by simp)
    by_cases hs5 : DateOk x.m.sec x.m.zone
    · skip
      refine Ops.r (Run.mv rfl) rfl ?_
      refine Ops.rg rfl (by first | rfl | assumption | exact decide_eq_true (by assumption) | exact decide_eq_false (by assumption) | decide | (simp; done) | (simp; omega) | (simp [*]; done)) (Run.fieldAddr rfl Try.underlying45 rfl Try.sizeOf3 (by decide)) rfl ?_
      refine Ops.rg rfl (by first | rfl | assumption | exact decide_eq_true (by assumption) | exact decide_eq_false (by assumption) | decide | (simp; done) | (simp; omega) | (simp [*]; done)) (Run.load rfl Try.isAgg3 (hb1.cell 3)) rfl ?_
      refine Ops.rg rfl (by first | rfl | assumption | exact decide_eq_true (by assumption) | exact decide_eq_false (by assumption) | decide | (simp; done) | (simp; omega) | (simp [*]; done)) (Run.bin rfl rfl (Bin.geq _ 0)) rfl ?_
      by_cases hs9 : 0 ≤ x.m.size
      · skip
        refine Ops.r (Run.pickT rfl rfl (by first | rfl | assumption | exact decide_eq_true (by assumption) | exact decide_eq_false (by assumption) | decide | (simp; done) | (simp; omega) | (simp [*]; done))) rfl ?_
        refine Ops.r (Run.mv rfl) rfl ?_
        refine Ops.rg rfl (by first | rfl | assumption | exact decide_eq_true (by assumption) | exact decide_eq_false (by assumption) | decide | (simp; done) | (simp; omega) | (simp [*]; done)) (Run.fieldAddr rfl Try.underlying45 rfl Try.sizeOf38 (by decide)) rfl ?_
        refine Ops.rg rfl (by first | rfl | assumption | exact decide_eq_true (by assumption) | exact decide_eq_false (by assumption) | decide | (simp; done) | (simp; omega) | (simp [*]; done)) (Run.load rfl Try.isAgg38 (hb1.cell 4)) rfl ?_
        refine Ops.rg rfl (by first | rfl | assumption | exact decide_eq_true (by assumption) | exact decide_eq_false (by assumption) | decide | (simp; done) | (simp; omega) | (simp [*]; done)) (Run.bin rfl rfl (Bin.neqN _ 0)) rfl ?_
        by_cases hs14 : x.m.blob ≠ 0
        · skip
          refine Ops.r (Run.pickT rfl rfl (by first | rfl | assumption | exact decide_eq_true (by assumption) | exact decide_eq_false (by assumption) | decide | (simp; done) | (simp; omega) | (simp [*]; done))) rfl ?_
          refine Ops.r (Run.mv rfl) rfl ?_
          refine Ops.rg rfl (by first | rfl | assumption | exact decide_eq_true (by assumption) | exact decide_eq_false (by assumption) | decide | (simp; done) | (simp; omega) | (simp [*]; done)) (Run.fieldAddr rfl Try.underlying45 rfl Try.sizeOf43 (by decide)) rfl ?_
          refine Ops.rg rfl (by first | rfl | assumption | exact decide_eq_true (by assumption) | exact decide_eq_false (by assumption) | decide | (simp; done) | (simp; omega) | (simp [*]; done)) (Run.load rfl Try.isAgg43 (hb1.cell 5)) rfl ?_
          refine Ops.clg rfl (by first | rfl | assumption | exact decide_eq_true (by assumption) | exact decide_eq_false (by assumption) | decide | (simp; done) | (simp; omega) | (simp [*]; done)) (Enters.fn (evs.cons rfl evs.nil) Try.call52) (fcheck_spec x.A x.c x.m.flags _ (by have := hx.n; omega) hx.q (hx.frm hfr2 (by simp)).rd) rfl ?_
          rintro e w3 ⟨rfl, hf3⟩
          refine ⟨_, rfl, ?_⟩
          have hfr3 := hfr2.trans hf3 (by simp)
          by_cases hs19 : checkF x.m.flags
          · skip
            refine Ops.r (Run.pickT rfl rfl (by first | rfl | assumption | exact decide_eq_true (by assumption) | exact decide_eq_false (by assumption) | decide | (simp; done) | (simp; omega) | (simp [*]; done))) rfl ?_
            refine Ops.r (Run.asg rfl) rfl ?_
            refine Ops.nil ?_
            refine thenQ_n ⟨(.cons (congrArg (fun b => some (Value.bool b)) (Eq.symm (by unfold MsgOk; simp [*]))) .nil), (by first | exact hfr3 | exact hfr2)⟩
          · skip
            refine Ops.r (Run.pickT rfl rfl (by first | rfl | assumption | exact decide_eq_true (by assumption) | exact decide_eq_false (by assumption) | decide | (simp; done) | (simp; omega) | (simp [*]; done))) rfl ?_
            refine Ops.r (Run.asg rfl) rfl ?_
            refine Ops.nil ?_
            refine thenQ_n ⟨(.cons (congrArg (fun b => some (Value.bool b)) (Eq.symm (by unfold MsgOk; simp [*]))) .nil), (by first | exact hfr3 | exact hfr2)⟩
        · skip
          refine Ops.r (Run.pickT rfl rfl (by first | rfl | assumption | exact decide_eq_true (by assumption) | exact decide_eq_false (by assumption) | decide | (simp; done) | (simp; omega) | (simp [*]; done))) rfl ?_
          refine Ops.r (Run.mv rfl) rfl ?_
          refine Ops.sk rfl (by first | rfl | assumption | exact decide_eq_true (by assumption) | exact decide_eq_false (by assumption) | decide | (simp; done) | (simp; omega) | (simp [*]; done)) rfl ?_
          refine Ops.sk rfl (by first | rfl | assumption | exact decide_eq_true (by assumption) | exact decide_eq_false (by assumption) | decide | (simp; done) | (simp; omega) | (simp [*]; done)) rfl ?_
          refine Ops.sk rfl (by first | rfl | assumption | exact decide_eq_true (by assumption) | exact decide_eq_false (by assumption) | decide | (simp; done) | (simp; omega) | (simp [*]; done)) rfl ?_
          refine Ops.r (Run.pickF rfl rfl (by first | rfl | assumption | exact decide_eq_true (by assumption) | exact decide_eq_false (by assumption) | decide | (simp; done) | (simp; omega) | (simp [*]; done))) rfl ?_
          refine Ops.r (Run.asg rfl) rfl ?_
          refine Ops.nil ?_
          refine thenQ_n ⟨(.cons (congrArg (fun b => some (Value.bool b)) (Eq.symm (by unfold MsgOk; simp [*]))) .nil), (by first | exact hfr3 | exact hfr2)⟩
      · skip
        refine Ops.r (Run.pickT rfl rfl (by first | rfl | assumption | exact decide_eq_true (by assumption) | exact decide_eq_false (by assumption) | decide | (simp; done) | (simp; omega) | (simp [*]; done))) rfl ?_
        refine Ops.r (Run.mv rfl) rfl ?_
        refine Ops.sk rfl (by first | rfl | assumption | exact decide_eq_true (by assumption) | exact decide_eq_false (by assumption) | decide | (simp; done) | (simp; omega) | (simp [*]; done)) rfl ?_
        refine Ops.sk rfl (by first | rfl | assumption | exact decide_eq_true (by assumption) | exact decide_eq_false (by assumption) | decide | (simp; done) | (simp; omega) | (simp [*]; done)) rfl ?_
        refine Ops.sk rfl (by first | rfl | assumption | exact decide_eq_true (by assumption) | exact decide_eq_false (by assumption) | decide | (simp; done) | (simp; omega) | (simp [*]; done)) rfl ?_
        refine Ops.r (Run.pickF rfl rfl (by first | rfl | assumption | exact decide_eq_true (by assumption) | exact decide_eq_false (by assumption) | decide | (simp; done) | (simp; omega) | (simp [*]; done))) rfl ?_
        refine Ops.r (Run.mv rfl) rfl ?_
        refine Ops.sk rfl (by first | rfl | assumption | exact decide_eq_true (by assumption) | exact decide_eq_false (by assumption) | decide | (simp; done) | (simp; omega) | (simp [*]; done)) rfl ?_
        refine Ops.sk rfl (by first | rfl | assumption | exact decide_eq_true (by assumption) | exact decide_eq_false (by assumption) | decide | (simp; done) | (simp; omega) | (simp [*]; done)) rfl ?_
        refine Ops.sk rfl (by first | rfl | assumption | exact decide_eq_true (by assumption) | exact decide_eq_false (by assumption) | decide | (simp; done) | (simp; omega) | (simp [*]; done)) rfl ?_
        refine Ops.r (Run.pickF rfl rfl (by first | rfl | assumption | exact decide_eq_true (by assumption) | exact decide_eq_false (by assumption) | decide | (simp; done) | (simp; omega) | (simp [*]; done))) rfl ?_
        refine Ops.r (Run.asg rfl) rfl ?_
        refine Ops.nil ?_
        refine thenQ_n ⟨(.cons (congrArg (fun b => some (Value.bool b)) (Eq.symm (by unfold MsgOk; simp [*]))) .nil), (by first | exact hfr3 | exact hfr2)⟩
    · skip
      refine Ops.r (Run.mv rfl) rfl ?_
      refine Ops.sk rfl (by first | rfl | assumption | exact decide_eq_true (by assumption) | exact decide_eq_false (by assumption) | decide | (simp; done) | (simp; omega) | (simp [*]; done)) rfl ?_
      refine Ops.sk rfl (by first | rfl | assumption | exact decide_eq_true (by assumption) | exact decide_eq_false (by assumption) | decide | (simp; done) | (simp; omega) | (simp [*]; done)) rfl ?_
      refine Ops.sk rfl (by first | rfl | assumption | exact decide_eq_true (by assumption) | exact decide_eq_false (by assumption) | decide | (simp; done) | (simp; omega) | (simp [*]; done)) rfl ?_
      refine Ops.r (Run.pickF rfl rfl (by first | rfl | assumption | exact decide_eq_true (by assumption) | exact decide_eq_false (by assumption) | decide | (simp; done) | (simp; omega) | (simp [*]; done))) rfl ?_
      refine Ops.r (Run.mv rfl) rfl ?_
      refine Ops.sk rfl (by first | rfl | assumption | exact decide_eq_true (by assumption) | exact decide_eq_false (by assumption) | decide | (simp; done) | (simp; omega) | (simp [*]; done)) rfl ?_
      refine Ops.sk rfl (by first | rfl | assumption | exact decide_eq_true (by assumption) | exact decide_eq_false (by assumption) | decide | (simp; done) | (simp; omega) | (simp [*]; done)) rfl ?_
      refine Ops.sk rfl (by first | rfl | assumption | exact decide_eq_true (by assumption) | exact decide_eq_false (by assumption) | decide | (simp; done) | (simp; omega) | (simp [*]; done)) rfl ?_
      refine Ops.r (Run.pickF rfl rfl (by first | rfl | assumption | exact decide_eq_true (by assumption) | exact decide_eq_false (by assumption) | decide | (simp; done) | (simp; omega) | (simp [*]; done))) rfl ?_
      refine Ops.r (Run.mv rfl) rfl ?_
      refine Ops.sk rfl (by first | rfl | assumption | exact decide_eq_true (by assumption) | exact decide_eq_false (by assumption) | decide | (simp; done) | (simp; omega) | (simp [*]; done)) rfl ?_
      refine Ops.sk rfl (by first | rfl | assumption | exact decide_eq_true (by assumption) | exact decide_eq_false (by assumption) | decide | (simp; done) | (simp; omega) | (simp [*]; done)) rfl ?_
      refine Ops.sk rfl (by first | rfl | assumption | exact decide_eq_true (by assumption) | exact decide_eq_false (by assumption) | decide | (simp; done) | (simp; omega) | (simp [*]; done)) rfl ?_
      refine Ops.r (Run.pickF rfl rfl (by first | rfl | assumption | exact decide_eq_true (by assumption) | exact decide_eq_false (by assumption) | decide | (simp; done) | (simp; omega) | (simp [*]; done))) rfl ?_
      refine Ops.r (Run.asg rfl) rfl ?_
      refine Ops.nil ?_
      refine thenQ_n ⟨(.cons (congrArg (fun b => some (Value.bool b)) (Eq.symm (by unfold MsgOk; simp [*]))) .nil), (by first | exact hfr3 | exact hfr2)⟩
  · intro Γ wR hΓ hR
    refine thenQ_n (VC.sub _ hΓ ?_)
    refine VC.ret ?_
    refine end1 rfl ?_
    exact ⟨rfl, hR⟩

set_option maxRecDepth 100000 in
theorem may_spec (v n : Int) (A : Option Addr) (c : Nat) (l : List Mc) (w : World) (hl : RdM w A l) : Calls Try.prog 17 #[.agg #[.int .i64 v, .int .i64 n, .slice A l.length c]] w fun e w' => e = .returned (.bool (decide (mayB ⟨v, n, Ms l⟩))) ∧ Frm [] w w' := by
  refine VC.calls (nt := 56) (res := #[.tmp 2]) Try.func17 rfl Try.ntmps17 Try.results17 rfl ?_
  refine VC.seq ?_
  refine VC.region ?_
  refine Ops.m (Does.box rfl) rfl ?_
  rintro _ w1 ⟨rfl, hF1⟩
  have hb1 := hF1.blk
  have hf1 := hF1.frm
  generalize hg1 : w.heap.size = g1 at *
  refine Ops.r (Run.asg rfl) rfl ?_
  refine Ops.nil ?_
  refine thenQ_n ?_
  refine VC.sub [(1, _)] (.cons rfl .nil) ?_
  refine VC.seq ?_
  refine VC.seq ?_
  refine VC.split1 [(1, _)] (.cons rfl .nil) 29 (.bool (decide (v < 1 ∨ 2147483647 < v ∨ n < 1 ∨ 2147483648 < n ∨ 128 < l.length))) ?_ ?_
  · refine VC.region ?_
    refine Ops.r (Run.fieldAddr rfl Try.underlying24 rfl Try.sizeOf3 (by decide)) rfl ?_
    refine Ops.r (Run.load rfl Try.isAgg3 (hb1.cell 0)) rfl ?_
    refine Ops.r (Run.bin rfl rfl (Bin.lss _ 1)) rfl ?_
    by_cases hs8 : v < 1
    · skip
      refine Ops.r (Run.mv rfl) rfl ?_
      refine Ops.sk rfl (by first | rfl | assumption | exact decide_eq_true (by assumption) | exact decide_eq_false (by assumption) | decide | (simp; done) | (simp; omega) | (simp [*]; done)) rfl ?_
      refine Ops.sk rfl (by first | rfl | assumption | exact decide_eq_true (by assumption) | exact decide_eq_false (by assumption) | decide | (simp; done) | (simp; omega) | (simp [*]; done)) rfl ?_
      refine Ops.sk rfl (by first | rfl | assumption | exact decide_eq_true (by assumption) | exact decide_eq_false (by assumption) | decide | (simp; done) | (simp; omega) | (simp [*]; done)) rfl ?_
      refine Ops.r (Run.pickT rfl rfl (by first | rfl | assumption | exact decide_eq_true (by assumption) | exact decide_eq_false (by assumption) | decide | (simp; done) | (simp; omega) | (simp [*]; done))) rfl ?_
      refine Ops.r (Run.mv rfl) rfl ?_
      refine Ops.sk rfl (by first | rfl | assumption | exact decide_eq_true (by assumption) | exact decide_eq_false (by assumption) | decide | (simp; done) | (simp; omega) | (simp [*]; done)) rfl ?_
      refine Ops.sk rfl (by first | rfl | assumption | exact decide_eq_true (by assumption) | exact decide_eq_false (by assumption) | decide | (simp; done) | (simp; omega) | (simp [*]; done)) rfl ?_
      refine Ops.sk rfl (by first | rfl | assumption | exact decide_eq_true (by assumption) | exact decide_eq_false (by assumption) | decide | (simp; done) | (simp; omega) | (simp [*]; done)) rfl ?_
      refine Ops.r (Run.pickT rfl rfl (by first | rfl | assumption | exact decide_eq_true (by assumption) | exact decide_eq_false (by assumption) | decide | (simp; done) | (simp; omega) | (simp [*]; done))) rfl ?_
      refine Ops.r (Run.mv rfl) rfl ?_
      refine Ops.sk rfl (by first | rfl | assumption | exact decide_eq_true (by assumption) | exact decide_eq_false (by assumption) | decide | (simp; done) | (simp; omega) | (simp [*]; done)) rfl ?_
      refine Ops.sk rfl (by first | rfl | assumption | exact decide_eq_true (by assumption) | exact decide_eq_false (by assumption) | decide | (simp; done) | (simp; omega) | (simp [*]; done)) rfl ?_
      refine Ops.sk rfl (by first | rfl | assumption | exact decide_eq_true (by assumption) | exact decide_eq_false (by assumption) | decide | (simp; done) | (simp; omega) | (simp [*]; done)) rfl ?_
      refine Ops.r (Run.pickT rfl rfl (by first | rfl | assumption | exact decide_eq_true (by assumption) | exact decide_eq_false (by assumption) | decide | (simp; done) | (simp; omega) | (simp [*]; done))) rfl ?_
      refine Ops.r (Run.mv rfl) rfl ?_
      refine Ops.sk rfl (by first | rfl | assumption | exact decide_eq_true (by assumption) | exact decide_eq_false (by assumption) | decide | (simp; done) | (simp; omega) | (simp [*]; done)) rfl ?_
      refine Ops.sk rfl (by first | rfl | assumption | exact decide_eq_true (by assumption) | exact decide_eq_false (by assumption) | decide | (simp; done) | (simp; omega) | (simp [*]; done)) rfl ?_
      refine Ops.sk rfl (by first | rfl | assumption | exact decide_eq_true (by assumption) | exact decide_eq_false (by assumption) | decide | (simp; done) | (simp; omega) | (simp [*]; done)) rfl ?_
      refine Ops.sk rfl (by first | rfl | assumption | exact decide_eq_true (by assumption) | exact decide_eq_false (by assumption) | decide | (simp; done) | (simp; omega) | (simp [*]; done)) rfl ?_
      refine Ops.r (Run.pickT rfl rfl (by first | rfl | assumption | exact decide_eq_true (by assumption) | exact decide_eq_false (by assumption) | decide | (simp; done) | (simp; omega) | (simp [*]; done))) rfl ?_
      refine Ops.nil ?_
      refine thenQ_n ⟨(.cons (congrArg (fun b => some (Value.bool b)) (Eq.symm (by simp [*]))) (.cons rfl .nil)), rfl⟩
    · skip
      refine Ops.r (Run.mv rfl) rfl ?_
      refine Ops.rg rfl (by first | rfl | assumption | exact decide_eq_true (by assumption) | exact decide_eq_false (by assumption) | decide | (simp; done) | (simp; omega) | (simp [*]; done)) (Run.fieldAddr rfl Try.underlying24 rfl Try.sizeOf3 (by decide)) rfl ?_
      refine Ops.rg rfl (by first | rfl | assumption | exact decide_eq_true (by assumption) | exact decide_eq_false (by assumption) | decide | (simp; done) | (simp; omega) | (simp [*]; done)) (Run.load rfl Try.isAgg3 (hb1.cell 0)) rfl ?_
      refine Ops.rg rfl (by first | rfl | assumption | exact decide_eq_true (by assumption) | exact decide_eq_false (by assumption) | decide | (simp; done) | (simp; omega) | (simp [*]; done)) (Run.bin rfl rfl (Bin.gtr _ 2147483647)) rfl ?_
      by_cases hs12 : 2147483647 < v
      · skip
        refine Ops.r (Run.pickF rfl rfl (by first | rfl | assumption | exact decide_eq_true (by assumption) | exact decide_eq_false (by assumption) | decide | (simp; done) | (simp; omega) | (simp [*]; done))) rfl ?_
        refine Ops.r (Run.mv rfl) rfl ?_
        refine Ops.sk rfl (by first | rfl | assumption | exact decide_eq_true (by assumption) | exact decide_eq_false (by assumption) | decide | (simp; done) | (simp; omega) | (simp [*]; done)) rfl ?_
        refine Ops.sk rfl (by first | rfl | assumption | exact decide_eq_true (by assumption) | exact decide_eq_false (by assumption) | decide | (simp; done) | (simp; omega) | (simp [*]; done)) rfl ?_
        refine Ops.sk rfl (by first | rfl | assumption | exact decide_eq_true (by assumption) | exact decide_eq_false (by assumption) | decide | (simp; done) | (simp; omega) | (simp [*]; done)) rfl ?_
        refine Ops.r (Run.pickT rfl rfl (by first | rfl | assumption | exact decide_eq_true (by assumption) | exact decide_eq_false (by assumption) | decide | (simp; done) | (simp; omega) | (simp [*]; done))) rfl ?_
        refine Ops.r (Run.mv rfl) rfl ?_
        refine Ops.sk rfl (by first | rfl | assumption | exact decide_eq_true (by assumption) | exact decide_eq_false (by assumption) | decide | (simp; done) | (simp; omega) | (simp [*]; done)) rfl ?_
        refine Ops.sk rfl (by first | rfl | assumption | exact decide_eq_true (by assumption) | exact decide_eq_false (by assumption) | decide | (simp; done) | (simp; omega) | (simp [*]; done)) rfl ?_
        refine Ops.sk rfl (by first | rfl | assumption | exact decide_eq_true (by assumption) | exact decide_eq_false (by assumption) | decide | (simp; done) | (simp; omega) | (simp [*]; done)) rfl ?_
        refine Ops.r (Run.pickT rfl rfl (by first | rfl | assumption | exact decide_eq_true (by assumption) | exact decide_eq_false (by assumption) | decide | (simp; done) | (simp; omega) | (simp [*]; done))) rfl ?_
        refine Ops.r (Run.mv rfl) rfl ?_
        refine Ops.sk rfl (by first | rfl | assumption | exact decide_eq_true (by assumption) | exact decide_eq_false (by assumption) | decide | (simp; done) | (simp; omega) | (simp [*]; done)) rfl ?_
        refine Ops.sk rfl (by first | rfl | assumption | exact decide_eq_true (by assumption) | exact decide_eq_false (by assumption) | decide | (simp; done) | (simp; omega) | (simp [*]; done)) rfl ?_
        refine Ops.sk rfl (by first | rfl | assumption | exact decide_eq_true (by assumption) | exact decide_eq_false (by assumption) | decide | (simp; done) | (simp; omega) | (simp [*]; done)) rfl ?_
        refine Ops.sk rfl (by first | rfl | assumption | exact decide_eq_true (by assumption) | exact decide_eq_false (by assumption) | decide | (simp; done) | (simp; omega) | (simp [*]; done)) rfl ?_
        refine Ops.r (Run.pickT rfl rfl (by first | rfl | assumption | exact decide_eq_true (by assumption) | exact decide_eq_false (by assumption) | decide | (simp; done) | (simp; omega) | (simp [*]; done))) rfl ?_
        refine Ops.nil ?_
        refine thenQ_n ⟨(.cons (congrArg (fun b => some (Value.bool b)) (Eq.symm (by simp [*]))) (.cons rfl .nil)), rfl⟩
      · skip
        refine Ops.r (Run.pickF rfl rfl (by first | rfl | assumption | exact decide_eq_true (by assumption) | exact decide_eq_false (by assumption) | decide | (simp; done) | (simp; omega) | (simp [*]; done))) rfl ?_
        refine Ops.r (Run.mv rfl) rfl ?_
        refine Ops.rg rfl (by first | rfl | assumption | exact decide_eq_true (by assumption) | exact decide_eq_false (by assumption) | decide | (simp; done) | (simp; omega) | (simp [*]; done)) (Run.fieldAddr rfl Try.underlying24 rfl Try.sizeOf3 (by decide)) rfl ?_
        refine Ops.rg rfl (by first | rfl | assumption | exact decide_eq_true (by assumption) | exact decide_eq_false (by assumption) | decide | (simp; done) | (simp; omega) | (simp [*]; done)) (Run.load rfl Try.isAgg3 (hb1.cell 1)) rfl ?_
        refine Ops.rg rfl (by first | rfl | assumption | exact decide_eq_true (by assumption) | exact decide_eq_false (by assumption) | decide | (simp; done) | (simp; omega) | (simp [*]; done)) (Run.bin rfl rfl (Bin.lss _ 1)) rfl ?_
        by_cases hs17 : n < 1
        · skip
          refine Ops.r (Run.pickF rfl rfl (by first | rfl | assumption | exact decide_eq_true (by assumption) | exact decide_eq_false (by assumption) | decide | (simp; done) | (simp; omega) | (simp [*]; done))) rfl ?_
          refine Ops.r (Run.mv rfl) rfl ?_
          refine Ops.sk rfl (by first | rfl | assumption | exact decide_eq_true (by assumption) | exact decide_eq_false (by assumption) | decide | (simp; done) | (simp; omega) | (simp [*]; done)) rfl ?_
          refine Ops.sk rfl (by first | rfl | assumption | exact decide_eq_true (by assumption) | exact decide_eq_false (by assumption) | decide | (simp; done) | (simp; omega) | (simp [*]; done)) rfl ?_
          refine Ops.sk rfl (by first | rfl | assumption | exact decide_eq_true (by assumption) | exact decide_eq_false (by assumption) | decide | (simp; done) | (simp; omega) | (simp [*]; done)) rfl ?_
          refine Ops.r (Run.pickT rfl rfl (by first | rfl | assumption | exact decide_eq_true (by assumption) | exact decide_eq_false (by assumption) | decide | (simp; done) | (simp; omega) | (simp [*]; done))) rfl ?_
          refine Ops.r (Run.mv rfl) rfl ?_
          refine Ops.sk rfl (by first | rfl | assumption | exact decide_eq_true (by assumption) | exact decide_eq_false (by assumption) | decide | (simp; done) | (simp; omega) | (simp [*]; done)) rfl ?_
          refine Ops.sk rfl (by first | rfl | assumption | exact decide_eq_true (by assumption) | exact decide_eq_false (by assumption) | decide | (simp; done) | (simp; omega) | (simp [*]; done)) rfl ?_
          refine Ops.sk rfl (by first | rfl | assumption | exact decide_eq_true (by assumption) | exact decide_eq_false (by assumption) | decide | (simp; done) | (simp; omega) | (simp [*]; done)) rfl ?_
          refine Ops.sk rfl (by first | rfl | assumption | exact decide_eq_true (by assumption) | exact decide_eq_false (by assumption) | decide | (simp; done) | (simp; omega) | (simp [*]; done)) rfl ?_
          refine Ops.r (Run.pickT rfl rfl (by first | rfl | assumption | exact decide_eq_true (by assumption) | exact decide_eq_false (by assumption) | decide | (simp; done) | (simp; omega) | (simp [*]; done))) rfl ?_
          refine Ops.nil ?_
          refine thenQ_n ⟨(.cons (congrArg (fun b => some (Value.bool b)) (Eq.symm (by simp [*]))) (.cons rfl .nil)), rfl⟩
        · skip
          refine Ops.r (Run.pickF rfl rfl (by first | rfl | assumption | exact decide_eq_true (by assumption) | exact decide_eq_false (by assumption) | decide | (simp; done) | (simp; omega) | (simp [*]; done))) rfl ?_
          refine Ops.r (Run.mv rfl) rfl ?_
          refine Ops.rg rfl (by first | rfl | assumption | exact decide_eq_true (by assumption) | exact decide_eq_false (by assumption) | decide | (simp; done) | (simp; omega) | (simp [*]; done)) (Run.fieldAddr rfl Try.underlying24 rfl Try.sizeOf3 (by decide)) rfl ?_
          refine Ops.rg rfl (by first | rfl | assumption | exact decide_eq_true (by assumption) | exact decide_eq_false (by assumption) | decide | (simp; done) | (simp; omega) | (simp [*]; done)) (Run.load rfl Try.isAgg3 (hb1.cell 1)) rfl ?_
          refine Ops.rg rfl (by first | rfl | assumption | exact decide_eq_true (by assumption) | exact decide_eq_false (by assumption) | decide | (simp; done) | (simp; omega) | (simp [*]; done)) (Run.bin rfl rfl (Bin.gtr _ 2147483648)) rfl ?_
          by_cases hs22 : 2147483648 < n
          · skip
            refine Ops.r (Run.pickF rfl rfl (by first | rfl | assumption | exact decide_eq_true (by assumption) | exact decide_eq_false (by assumption) | decide | (simp; done) | (simp; omega) | (simp [*]; done))) rfl ?_
            refine Ops.r (Run.mv rfl) rfl ?_
            refine Ops.sk rfl (by first | rfl | assumption | exact decide_eq_true (by assumption) | exact decide_eq_false (by assumption) | decide | (simp; done) | (simp; omega) | (simp [*]; done)) rfl ?_
            refine Ops.sk rfl (by first | rfl | assumption | exact decide_eq_true (by assumption) | exact decide_eq_false (by assumption) | decide | (simp; done) | (simp; omega) | (simp [*]; done)) rfl ?_
            refine Ops.sk rfl (by first | rfl | assumption | exact decide_eq_true (by assumption) | exact decide_eq_false (by assumption) | decide | (simp; done) | (simp; omega) | (simp [*]; done)) rfl ?_
            refine Ops.sk rfl (by first | rfl | assumption | exact decide_eq_true (by assumption) | exact decide_eq_false (by assumption) | decide | (simp; done) | (simp; omega) | (simp [*]; done)) rfl ?_
            refine Ops.r (Run.pickT rfl rfl (by first | rfl | assumption | exact decide_eq_true (by assumption) | exact decide_eq_false (by assumption) | decide | (simp; done) | (simp; omega) | (simp [*]; done))) rfl ?_
            refine Ops.nil ?_
            refine thenQ_n ⟨(.cons (congrArg (fun b => some (Value.bool b)) (Eq.symm (by simp [*]))) (.cons rfl .nil)), rfl⟩
          · skip
            refine Ops.r (Run.pickF rfl rfl (by first | rfl | assumption | exact decide_eq_true (by assumption) | exact decide_eq_false (by assumption) | decide | (simp; done) | (simp; omega) | (simp [*]; done))) rfl ?_
            refine Ops.r (Run.mv rfl) rfl ?_
            refine Ops.rg rfl (by first | rfl | assumption | exact decide_eq_true (by assumption) | exact decide_eq_false (by assumption) | decide | (simp; done) | (simp; omega) | (simp [*]; done)) (Run.fieldAddr rfl Try.underlying24 rfl Try.sizeOf22 (by decide)) rfl ?_
            refine Ops.rg rfl (by first | rfl | assumption | exact decide_eq_true (by assumption) | exact decide_eq_false (by assumption) | decide | (simp; done) | (simp; omega) | (simp [*]; done)) (Run.load rfl Try.isAgg22 (hb1.cell 2)) rfl ?_
            refine Ops.rg rfl (by first | rfl | assumption | exact decide_eq_true (by assumption) | exact decide_eq_false (by assumption) | decide | (simp; done) | (simp; omega) | (simp [*]; done)) (Run.lenS rfl Try.underlying22) rfl ?_
            refine Ops.rg rfl (by first | rfl | assumption | exact decide_eq_true (by assumption) | exact decide_eq_false (by assumption) | decide | (simp; done) | (simp; omega) | (simp [*]; done)) (Run.bin rfl rfl (Bin.gtrN _ 128)) rfl ?_
            by_cases hs28 : 128 < l.length
            · skip
              refine Ops.r (Run.pickF rfl rfl (by first | rfl | assumption | exact decide_eq_true (by assumption) | exact decide_eq_false (by assumption) | decide | (simp; done) | (simp; omega) | (simp [*]; done))) rfl ?_
              refine Ops.nil ?_
              refine thenQ_n ⟨(.cons (congrArg (fun b => some (Value.bool b)) (Eq.symm (by simp [*]))) (.cons rfl .nil)), rfl⟩
            · skip
              refine Ops.r (Run.pickF rfl rfl (by first | rfl | assumption | exact decide_eq_true (by assumption) | exact decide_eq_false (by assumption) | decide | (simp; done) | (simp; omega) | (simp [*]; done))) rfl ?_
              refine Ops.nil ?_
              refine thenQ_n ⟨(.cons (congrArg (fun b => some (Value.bool b)) (Eq.symm (by simp [*]))) (.cons rfl .nil)), rfl⟩
  · intro Γ hΓ
    refine thenQ_n (VC.sub _ hΓ ?_)
    refine VC.condD rfl (fun hc1 => ?_) (fun hc1 => ?_)
    · skip
      refine VC.seq ?_
      refine VC.region ?_
      refine Ops.r (Run.asg rfl) rfl ?_
      refine Ops.nil ?_
      refine thenQ_n ?_
      refine VC.sub [(2, _)] (.cons rfl .nil) ?_
      refine VC.ret ?_
      refine thenQ_r (end1 rfl ?_)
      refine ⟨?_, hf1⟩
      rw [decide_eq_false]
      intro h
      have := (may_at h).1
      omega
    · skip
      refine VC.skip ?_
      refine thenQ_n ?_
      refine VC.sub [(1, _)] (.cons rfl .nil) ?_
      refine VC.seq ?_
      refine VC.region ?_
      refine Ops.r (v := .int .i64 ((0 : Nat) : Int)) (Run.asg rfl) rfl ?_
      refine Ops.nil ?_
      refine thenQ_n ?_
      refine VC.seq ?_
      refine VC.seq ?_
      refine VC.region ?_
      refine Ops.r (Run.fieldAddr rfl Try.underlying24 rfl Try.sizeOf22 (by decide)) rfl ?_
      refine Ops.r (Run.load rfl Try.isAgg22 (hb1.cell 2)) rfl ?_
      refine Ops.r (Run.lenS rfl Try.underlying22) rfl ?_
      refine Ops.r (v := .int .i64 ((0 : Nat) : Int)) (Run.mv rfl) rfl ?_
      refine Ops.nil ?_
      refine thenQ_n ?_
      refine VC.sub [(1, _), (3, _), (31, _), (32, _), (33, _)] (.cons rfl (.cons rfl (.cons rfl (.cons rfl (.cons rfl .nil))))) ?_
      refine VC.block ?_
      refine VC.loop (σ := Nat) (fun s => [(1, .pointer (some ⟨g1, 0, none⟩)), (3, .int .i64 (prevU (Ms l) s)), (31, .slice A l.length c), (32, .int .i64 ((l.length : Nat) : Int)), (33, .int .i64 ((s : Nat) : Int))]) (fun s wr => s ≤ l.length ∧ Frm [] w wr ∧ Blk wr g1 24 #[.int .i64 v, .int .i64 n, .slice A l.length c] ∧ ∀ j (hj : j < l.length), j < s → GoodAt n (Ms l) j (l[j]).m) (fun s => l.length - s) 0 (.cons rfl (.cons rfl (.cons rfl (.cons rfl (.cons rfl .nil))))) ⟨by omega, hf1, hb1, by simp⟩ ?_
      rintro i wr ⟨hi, hfr, hbr, hg⟩
      refine VC.seq ?_
      refine VC.region ?_
      refine Ops.r (Run.bin rfl rfl (Bin.lssN _ _)) rfl ?_
      refine Ops.nil ?_
      refine thenQ_n ?_
      refine VC.seq ?_
      refine VC.condD rfl (fun hc2 => ?_) (fun hc2 => ?_)
      · skip
        obtain ⟨ad, rfl, hcell⟩ := (hl.frm hfr).elem hc2
        have hxa := (hl.frm hfr).fl (l[i]) (List.getElem_mem hc2)
        have hps := prev_succ hc2
        generalize hx : l[i] = x at *
        refine VC.skip ?_
        refine thenQ_n ?_
        refine VC.sub [(1, _), (3, _), (31, _), (32, _), (33, _)] (.cons rfl (.cons rfl (.cons rfl (.cons rfl (.cons rfl .nil))))) ?_
        refine VC.seq ?_
        refine VC.block ?_
        refine VC.seq ?_
        refine VC.region ?_
        refine Ops.r (Run.indexS i rfl rfl Try.underlying22 Try.sizeOf45 hc2) rfl ?_
        refine Ops.r (Run.loadA rfl Try.isAgg45 Try.sizeOf45 hcell (by first | rfl | (simp; done))) rfl ?_
        refine Ops.m (Does.alloc zero45) rfl ?_
        rintro _ w2 ⟨rfl, hF2⟩
        have hb2 := hF2.blk
        have hf2 := hF2.frm
        have hsz2 : wr.heap.size ≤ wr.heap.size := Nat.le_refl _
        have hfs := hfr.size
        generalize hg2 : wr.heap.size = g2 at hb2 hsz2 hfs ⊢
        refine Ops.st (Acts.storeA rfl rfl Try.sizeOf45 hb2 rfl x.cells_one) ?_
        rintro w3 ⟨hb3, hf3, hs3⟩
        have hfr3 : Frm [] wr w3 := hf2.own hf3 (fun y hy => by simp at hy; omega)
        have hb13 := hbr.frm hfr3 (by simp)
        refine Ops.nil ?_
        refine thenQ_n ?_
        refine VC.sub [(1, _), (3, _), (5, _), (31, _), (32, _), (33, _)] (.cons rfl (.cons rfl (.cons rfl (.cons rfl (.cons rfl (.cons rfl .nil)))))) ?_
        refine VC.seq ?_
        refine VC.seq ?_
        refine VC.splitR [(1, .pointer (some ⟨g1, 0, none⟩)), (5, .pointer (some ⟨g2, 0, none⟩)), (31, .slice (some ad) l.length c), (32, .int .i64 ((l.length : Nat) : Int)), (33, .int .i64 ((i : Nat) : Int))] (Frm [] w3) 52 (.bool (decide (¬ GoodAt n (Ms l) i x.m))) ?_ ?_
        · refine VC.region ?_
          refine Ops.r (Run.fieldAddr rfl Try.underlying45 rfl Try.sizeOf3 (by decide)) rfl ?_
          refine Ops.r (Run.load rfl Try.isAgg3 (hb3.cell 0)) rfl ?_
          refine Ops.r (Run.mv rfl) rfl ?_
          refine Ops.r (Run.bin rfl rfl (Bin.leq _ _)) rfl ?_
          by_cases hs40 : x.m.uid ≤ prevU (Ms l) i
          · skip
            refine Ops.r (Run.mv rfl) rfl ?_
            refine Ops.sk rfl (by first | rfl | assumption | exact decide_eq_true (by assumption) | exact decide_eq_false (by assumption) | decide | (simp; done) | (simp; omega) | (simp [*]; done)) rfl ?_
            refine Ops.sk rfl (by first | rfl | assumption | exact decide_eq_true (by assumption) | exact decide_eq_false (by assumption) | decide | (simp; done) | (simp; omega) | (simp [*]; done)) rfl ?_
            refine Ops.sk rfl (by first | rfl | assumption | exact decide_eq_true (by assumption) | exact decide_eq_false (by assumption) | decide | (simp; done) | (simp; omega) | (simp [*]; done)) rfl ?_
            refine Ops.sk rfl (by first | rfl | assumption | exact decide_eq_true (by assumption) | exact decide_eq_false (by assumption) | decide | (simp; done) | (simp; omega) | (simp [*]; done)) rfl ?_
            refine Ops.sk rfl (by first | rfl | assumption | exact decide_eq_true (by assumption) | exact decide_eq_false (by assumption) | decide | (simp; done) | (simp; omega) | (simp [*]; done)) rfl ?_
            refine Ops.r (Run.pickT rfl rfl (by first | rfl | assumption | exact decide_eq_true (by assumption) | exact decide_eq_false (by assumption) | decide | (simp; done) | (simp; omega) | (simp [*]; done))) rfl ?_
            refine Ops.r (Run.mv rfl) rfl ?_
            refine Ops.sk rfl (by first | rfl | assumption | exact decide_eq_true (by assumption) | exact decide_eq_false (by assumption) | decide | (simp; done) | (simp; omega) | (simp [*]; done)) rfl ?_
            refine Ops.sk rfl (by first | rfl | assumption | exact decide_eq_true (by assumption) | exact decide_eq_false (by assumption) | decide | (simp; done) | (simp; omega) | (simp [*]; done)) rfl ?_
            refine Ops.sk rfl (by first | rfl | assumption | exact decide_eq_true (by assumption) | exact decide_eq_false (by assumption) | decide | (simp; done) | (simp; omega) | (simp [*]; done)) rfl ?_
            refine Ops.r (Run.pickT rfl rfl (by first | rfl | assumption | exact decide_eq_true (by assumption) | exact decide_eq_false (by assumption) | decide | (simp; done) | (simp; omega) | (simp [*]; done))) rfl ?_
            refine Ops.nil ?_
            refine thenQ_n ⟨(.cons (congrArg (fun b => some (Value.bool b)) (Eq.symm (by first | exact decide_eq_true (by unfold GoodAt; omega) | (rw [← decide_not]; exact decide_eq_decide.2 ⟨fun h hm => h ⟨by omega, by omega, hm⟩, fun h hg => h hg.2.2⟩) | exact decide_eq_decide.2 ⟨fun _ => by omega, fun _ => by unfold GoodAt; omega⟩))) (.cons rfl (.cons rfl (.cons rfl (.cons rfl (.cons rfl .nil)))))), (by first | exact hf4 | exact Frm.refl _ _)⟩
          · skip
            refine Ops.r (Run.mv rfl) rfl ?_
            refine Ops.rg rfl (by first | rfl | assumption | exact decide_eq_true (by assumption) | exact decide_eq_false (by assumption) | decide | (simp; done) | (simp; omega) | (simp [*]; done)) (Run.fieldAddr rfl Try.underlying45 rfl Try.sizeOf3 (by decide)) rfl ?_
            refine Ops.rg rfl (by first | rfl | assumption | exact decide_eq_true (by assumption) | exact decide_eq_false (by assumption) | decide | (simp; done) | (simp; omega) | (simp [*]; done)) (Run.load rfl Try.isAgg3 (hb3.cell 0)) rfl ?_
            refine Ops.rg rfl (by first | rfl | assumption | exact decide_eq_true (by assumption) | exact decide_eq_false (by assumption) | decide | (simp; done) | (simp; omega) | (simp [*]; done)) (Run.fieldAddr rfl Try.underlying24 rfl Try.sizeOf3 (by decide)) rfl ?_
            refine Ops.rg rfl (by first | rfl | assumption | exact decide_eq_true (by assumption) | exact decide_eq_false (by assumption) | decide | (simp; done) | (simp; omega) | (simp [*]; done)) (Run.load rfl Try.isAgg3 (hb13.cell 1)) rfl ?_
            refine Ops.rg rfl (by first | rfl | assumption | exact decide_eq_true (by assumption) | exact decide_eq_false (by assumption) | decide | (simp; done) | (simp; omega) | (simp [*]; done)) (Run.bin rfl rfl (Bin.geq _ _)) rfl ?_
            by_cases hs46 : n ≤ x.m.uid
            · skip
              refine Ops.r (Run.pickF rfl rfl (by first | rfl | assumption | exact decide_eq_true (by assumption) | exact decide_eq_false (by assumption) | decide | (simp; done) | (simp; omega) | (simp [*]; done))) rfl ?_
              refine Ops.r (Run.mv rfl) rfl ?_
              refine Ops.sk rfl (by first | rfl | assumption | exact decide_eq_true (by assumption) | exact decide_eq_false (by assumption) | decide | (simp; done) | (simp; omega) | (simp [*]; done)) rfl ?_
              refine Ops.sk rfl (by first | rfl | assumption | exact decide_eq_true (by assumption) | exact decide_eq_false (by assumption) | decide | (simp; done) | (simp; omega) | (simp [*]; done)) rfl ?_
              refine Ops.sk rfl (by first | rfl | assumption | exact decide_eq_true (by assumption) | exact decide_eq_false (by assumption) | decide | (simp; done) | (simp; omega) | (simp [*]; done)) rfl ?_
              refine Ops.r (Run.pickT rfl rfl (by first | rfl | assumption | exact decide_eq_true (by assumption) | exact decide_eq_false (by assumption) | decide | (simp; done) | (simp; omega) | (simp [*]; done))) rfl ?_
              refine Ops.nil ?_
              refine thenQ_n ⟨(.cons (congrArg (fun b => some (Value.bool b)) (Eq.symm (by first | exact decide_eq_true (by unfold GoodAt; omega) | (rw [← decide_not]; exact decide_eq_decide.2 ⟨fun h hm => h ⟨by omega, by omega, hm⟩, fun h hg => h hg.2.2⟩) | exact decide_eq_decide.2 ⟨fun _ => by omega, fun _ => by unfold GoodAt; omega⟩))) (.cons rfl (.cons rfl (.cons rfl (.cons rfl (.cons rfl .nil)))))), (by first | exact hf4 | exact Frm.refl _ _)⟩
            · skip
              refine Ops.r (Run.pickF rfl rfl (by first | rfl | assumption | exact decide_eq_true (by assumption) | exact decide_eq_false (by assumption) | decide | (simp; done) | (simp; omega) | (simp [*]; done))) rfl ?_
              refine Ops.r (Run.mv rfl) rfl ?_
              refine Ops.rg rfl (by first | rfl | assumption | exact decide_eq_true (by assumption) | exact decide_eq_false (by assumption) | decide | (simp; done) | (simp; omega) | (simp [*]; done)) (Run.loadA rfl Try.isAgg45 Try.sizeOf45 (fun j v hj => hb3.cells j v hj) (by first | rfl | (simp; done))) rfl ?_
              refine Ops.clg rfl (by first | rfl | assumption | exact decide_eq_true (by assumption) | exact decide_eq_false (by assumption) | decide | (simp; done) | (simp; omega) | (simp [*]; done)) (Enters.fn (evs.cons rfl evs.nil) Try.call36) (message_spec x _ (hxa.frm hfr3 (by simp))) rfl ?_
              rintro e w4 ⟨rfl, hf4⟩
              refine ⟨_, rfl, ?_⟩
              by_cases hs50 : MsgOk x.m
              · skip
                refine Ops.rg rfl (by first | rfl | assumption | exact decide_eq_true (by assumption) | exact decide_eq_false (by assumption) | decide | (simp; done) | (simp; omega) | (simp [*]; done)) (Run.not rfl) rfl ?_
                refine Ops.r (Run.pickF rfl rfl (by first | rfl | assumption | exact decide_eq_true (by assumption) | exact decide_eq_false (by assumption) | decide | (simp; done) | (simp; omega) | (simp [*]; done))) rfl ?_
                refine Ops.nil ?_
                refine thenQ_n ⟨(.cons (congrArg (fun b => some (Value.bool b)) (Eq.symm (by first | exact decide_eq_true (by unfold GoodAt; omega) | (rw [← decide_not]; exact decide_eq_decide.2 ⟨fun h hm => h ⟨by omega, by omega, hm⟩, fun h hg => h hg.2.2⟩) | exact decide_eq_decide.2 ⟨fun _ => by omega, fun _ => by unfold GoodAt; omega⟩))) (.cons rfl (.cons rfl (.cons rfl (.cons rfl (.cons rfl .nil)))))), (by first | exact hf4 | exact Frm.refl _ _)⟩
              · skip
                refine Ops.rg rfl (by first | rfl | assumption | exact decide_eq_true (by assumption) | exact decide_eq_false (by assumption) | decide | (simp; done) | (simp; omega) | (simp [*]; done)) (Run.not rfl) rfl ?_
                refine Ops.r (Run.pickF rfl rfl (by first | rfl | assumption | exact decide_eq_true (by assumption) | exact decide_eq_false (by assumption) | decide | (simp; done) | (simp; omega) | (simp [*]; done))) rfl ?_
                refine Ops.nil ?_
                refine thenQ_n ⟨(.cons (congrArg (fun b => some (Value.bool b)) (Eq.symm (by first | exact decide_eq_true (by unfold GoodAt; omega) | (rw [← decide_not]; exact decide_eq_decide.2 ⟨fun h hm => h ⟨by omega, by omega, hm⟩, fun h hg => h hg.2.2⟩) | exact decide_eq_decide.2 ⟨fun _ => by omega, fun _ => by unfold GoodAt; omega⟩))) (.cons rfl (.cons rfl (.cons rfl (.cons rfl (.cons rfl .nil)))))), (by first | exact hf4 | exact Frm.refl _ _)⟩
        · intro Γ w4 hΓ hf4
          refine thenQ_n (VC.sub _ hΓ ?_)
          refine VC.condD rfl (fun hc3 => ?_) (fun hc3 => ?_)
          · skip
            have hng : ¬ GoodAt n (Ms l) i x.m := hc3
            refine VC.seq ?_
            refine VC.region ?_
            refine Ops.r (Run.asg rfl) rfl ?_
            refine Ops.nil ?_
            refine thenQ_n ?_
            refine VC.sub [(2, _)] (.cons rfl .nil) ?_
            refine VC.ret ?_
            refine thenQ_r (blockQ_r (thenQ_r (thenQ_r (blockQ_r (thenQ_r (end1 rfl ?_))))))
            refine ⟨?_, (hfr.trans hfr3 (by simp)).trans hf4 (by simp)⟩
            rw [decide_eq_false]
            intro h
            have := (may_at h).2 i hc2
            rw [hx] at this
            exact hng this
          · skip
            have hgi : GoodAt n (Ms l) i x.m := Classical.not_not.1 hc3
            have hb34 := hb3.frm hf4 (by simp)
            have hb14 := hb13.frm hf4 (by simp)
            have hfr4 := hfr3.trans hf4 (by simp)
            refine VC.skip ?_
            refine thenQ_n ?_
            refine VC.sub [(1, _), (5, _), (31, _), (32, _), (33, _)] (.cons rfl (.cons rfl (.cons rfl (.cons rfl (.cons rfl .nil))))) ?_
            refine VC.region ?_
            refine Ops.r (Run.fieldAddr rfl Try.underlying45 rfl Try.sizeOf3 (by decide)) rfl ?_
            refine Ops.r (Run.load rfl Try.isAgg3 (hb34.cell 0)) rfl ?_
            refine Ops.r (Run.asg rfl) rfl ?_
            refine Ops.nil ?_
            refine blockQ_n (thenQ_n ?_)
            refine VC.sub [(1, _), (3, _), (31, _), (32, _), (33, _)] (.cons rfl (.cons rfl (.cons rfl (.cons rfl (.cons rfl .nil))))) ?_
            refine VC.region ?_
            refine Ops.r (Run.bin rfl rfl (Bin.add_i64 _ 1 (by omega))) rfl ?_
            refine Ops.r (Run.mv rfl) rfl ?_
            refine Ops.nil ?_
            refine thenQ_n ⟨(i + 1), (.cons rfl (.cons (congrArg (fun z => some (Value.int .i64 z)) hps.symm) (.cons rfl (.cons rfl (.cons rfl .nil))))), ?_, ?_⟩
            · skip
              refine ⟨hc2, hfr.trans hfr4 (by simp), hb14, fun j hj hji => ?_⟩
              rcases Nat.lt_or_ge j i with h | h
              · exact hg j hj h
              · obtain rfl : j = i := by omega
                rw [hx]; exact hgi
            · skip
              first | omega | (dsimp only; omega)
      · skip
        refine VC.exit ?_
        refine thenQ_x (thenQ_x (blockQ_x ?_))
        refine thenQ_n ?_
        refine VC.sub [] .nil ?_
        refine VC.seq ?_
        refine VC.region ?_
        refine Ops.r (Run.asg rfl) rfl ?_
        refine Ops.nil ?_
        refine thenQ_n ?_
        refine VC.ret ?_
        refine end1 rfl ?_
        refine ⟨?_, hfr⟩
        rw [decide_eq_true]
        exact may_all (by omega) (fun j hj => hg j hj (by omega))

set_option maxRecDepth 100000 in
theorem own_spec (x : Mc) (w : World) (hx : x.At w) : Calls Try.prog 37 #[.agg x.cells.toArray] w fun e w' => ∃ B d, e = .returned (.agg (⟨x.m, B, d⟩ : Mc).cells.toArray) ∧ Own w' 9 1 B x.m.flags.length d (SB x.m.flags) ∧ (∀ b ∈ ob B, w.heap.size ≤ b) ∧ Frm [] w w' := by
  refine VC.calls (nt := 8) (res := #[.cell 2 45]) Try.func37 rfl Try.ntmps37 Try.results37 rfl ?_
  refine VC.seq ?_
  refine VC.region ?_
  refine Ops.m (Does.box rfl) rfl ?_
  rintro _ w1 ⟨rfl, hF1⟩
  have hb1 := hF1.blk
  have hf1 := hF1.frm
  generalize hg1 : w.heap.size = g1 at *
  refine Ops.m (Does.alloc zero45) rfl ?_
  rintro _ w2 ⟨rfl, hF2⟩
  have hb2 := hF2.blk
  have hf2 := hf1.trans hF2.frm (by simp)
  have hb12 := hb1.frm hF2.frm (by simp)
  have hsz2 : w.heap.size ≤ w1.heap.size := hf1.size
  have hsz12 := hb1.lt
  generalize hg2 : w1.heap.size = g2 at hb2 hsz2 hsz12 ⊢
  have hg1' : w.heap.size ≤ g1 := by omega
  refine Ops.nil ?_
  refine thenQ_n ?_
  refine VC.sub [(1, _), (2, _)] (.cons rfl (.cons rfl .nil)) ?_
  refine VC.seq ?_
  refine VC.region ?_
  refine Ops.r (Run.fieldAddr rfl Try.underlying45 rfl Try.sizeOf43 (by decide)) rfl ?_
  refine Ops.r (Run.load rfl Try.isAgg43 (hb12.cell 5)) rfl ?_
  refine Ops.cl (Enters.fn (evs.cons rfl evs.nil) Try.call53) (clone_spec x.A x.c x.m.flags _ (hx.frm hf2 (by simp)).rd (by have := hx.n; omega)) rfl ?_
  rintro e w3 ⟨B, d, rfl, hownB, hgeB, hf3⟩
  refine ⟨_, rfl, ?_⟩
  have hb13 := hb12.frm hf3 (by simp)
  have hb23 := hb2.frm hf3 (by simp)
  have hfr3 := hf2.trans hf3 (by simp)
  refine Ops.r (Run.fieldAddr rfl Try.underlying45 rfl Try.sizeOf43 (by decide)) rfl ?_
  refine Ops.st (Acts.store rfl rfl Try.sizeOf43 hb13 rfl rfl) ?_
  rintro w4 ⟨hb14, hf4, hs4⟩
  have hb14 : Blk w4 g1 45 (⟨x.m, B, d⟩ : Mc).cells.toArray := hb14
  have hb24 := hb23.frm hf4 (by simp; omega)
  have hfr4 := hfr3.own hf4 (fun y hy => by simp at hy; omega)
  have hown4 := hownB.frm hf4 (fun y hy => by have := hownB.ne_blk hb13 (by decide); simp; rintro rfl; exact this hy)
  refine Ops.nil ?_
  refine thenQ_n ?_
  refine VC.sub [(1, _), (2, _)] (.cons rfl (.cons rfl .nil)) ?_
  refine VC.seq ?_
  refine VC.region ?_
  refine Ops.r (Run.loadA rfl Try.isAgg45 Try.sizeOf45 (fun j v hj => hb14.cells j v hj) (by first | rfl | (simp; done))) rfl ?_
  refine Ops.st (Acts.storeA rfl rfl Try.sizeOf45 hb24 rfl (Mc.cells_one _)) ?_
  rintro w5 ⟨hb25, hf5, hs5⟩
  have hfr5 := hfr4.own hf5 (fun y hy => by simp at hy; omega)
  have hown5 := hown4.frm hf5 (fun y hy => by have := hown4.ne_blk hb24 (by decide); simp; rintro rfl; exact this hy)
  refine Ops.nil ?_
  refine thenQ_n ?_
  refine VC.sub [(2, _)] (.cons rfl .nil) ?_
  refine VC.ret ?_
  refine endR ?_
  refine res_cellA rfl Try.isAgg45 Try.sizeOf45 (fun j v hj => hb25.cells j v hj) (by first | rfl | (simp; done)) ?_
  refine res_nil ?_
  exact ⟨B, d, rfl, hown5, fun b hb => by have h1 := hf2.size; have h2 := hgeB b hb; omega, hfr5⟩

/-- Messages of one's own. -/
structure OwM (w : World) (A : Option Addr) (d : Nat) (l : List Mc) : Prop where
  own : Own w 45 6 A l.length d (MC l)
  fl : ∀ x ∈ l, Own w 9 1 x.A x.m.flags.length x.c (SB x.m.flags)
  fit : ∀ x ∈ l, x.m.flags.length ≤ 500000 ∧ ∀ q ∈ x.m.flags, q.length ≤ 1000000
theorem OwM.nil (w : World) : OwM w none 0 [] := ⟨Own.nil _ _ _, by simp, by simp⟩
theorem OwM.rdm {w : World} {A : Option Addr} {d : Nat} {l : List Mc} (h : OwM w A d l) : RdM w A l :=
  ⟨h.own.rd, fun x hx => ⟨(h.fl x hx).rd, (h.fit x hx).1, (h.fit x hx).2⟩⟩
theorem OwM.frm {w w' : World} {A : Option Addr} {d : Nat} {l : List Mc} (h : OwM w A d l) (k : Frm [] w w') : OwM w' A d l :=
  ⟨h.own.frm k (by simp), fun x hx => (h.fl x hx).frm k (by simp), h.fit⟩
theorem OwM.blk {w w' : World} {A : Option Addr} {d g : Nat} {l : List Mc} {t : TypeId} {cs : Array Value} (h : OwM w A d l) (k : Frm [g] w w') (hb : Blk w g t cs) (h1 : 45 ≠ t) (h2 : 9 ≠ t) : OwM w' A d l :=
  ⟨h.own.frm k (fun x hx => by simp; rintro rfl; exact h.own.ne_blk hb h1 hx), fun y hy => (h.fl y hy).frm k (fun x hx => by simp; rintro rfl; exact (h.fl y hy).ne_blk hb h2 hx), h.fit⟩
/-- One more behind. -/
theorem OwM.put {w w' : World} {A B : Option Addr} {d d' : Nat} {l : List Mc} {x : Mc} (h : OwM w A d l) (ho : Own w' 45 6 B (l ++ [x]).length d' (MC (l ++ [x]))) (k : Frm (ob A) w w') (hx : Own w 9 1 x.A x.m.flags.length x.c (SB x.m.flags)) (hf : x.m.flags.length ≤ 500000 ∧ ∀ q ∈ x.m.flags, q.length ≤ 1000000) : OwM w' B d' (l ++ [x]) := by
  refine ⟨ho, fun y hy => ?_, fun y hy => ?_⟩
  · rcases List.mem_append.1 hy with h1 | h1
    · exact (h.fl y h1).frm k ((h.fl y h1).ne_own h.own (by decide))
    · simp only [List.mem_singleton] at h1
      subst h1
      exact hx.frm k (hx.ne_own h.own (by decide))
  · rcases List.mem_append.1 hy with h1 | h1
    · exact h.fit y h1
    · simp only [List.mem_singleton] at h1
      subst h1
      exact hf
theorem hrdM {w w' : World} {t : TypeId} {x : Mc} (h : Fresh w w' t (Value.agg x.cells.toArray).cells) : Rd w' 6 (some ⟨w.heap.size, 0, none⟩) 1 (MC [x]) := Rd.of_blk (n := 1) (size := 6) h.blk rfl
theorem Ms_take {l : List Mc} {i : Nat} (h : i < l.length) : Ms (l.take (i + 1)) = Ms (l.take i) ++ [(l[i]).m] := by
  simp only [Ms, List.map_take]
  rw [List.take_add_one, List.getElem?_map, List.getElem?_eq_getElem h]
  rfl

set_option maxRecDepth 100000 in
theorem all_spec (A : Option Addr) (c : Nat) (l : List Mc) (w : World) (hl : RdM w A l) (hn : l.length ≤ 1000000) : Calls Try.prog 30 #[.slice A l.length c] w fun e w' => ∃ B d, ∃ l' : List Mc, e = .returned (.slice B l'.length d) ∧ OwM w' B d l' ∧ Ms l' = Ms l ∧ (∀ b ∈ ob B, w.heap.size ≤ b) ∧ Frm [] w w' := by
  refine VC.calls (nt := 19) (res := #[.tmp 2]) Try.func30 rfl Try.ntmps30 Try.results30 rfl ?_
  refine VC.seq ?_
  refine VC.region ?_
  refine Ops.r (Run.asg rfl) rfl ?_
  refine Ops.nil ?_
  refine thenQ_n ?_
  refine VC.sub [(0, _)] (.cons rfl .nil) ?_
  refine VC.seq ?_
  refine VC.region ?_
  refine Ops.r (Run.asg rfl) rfl ?_
  refine Ops.nil ?_
  refine thenQ_n ?_
  refine VC.seq ?_
  refine VC.seq ?_
  refine VC.region ?_
  refine Ops.r (Run.mv rfl) rfl ?_
  refine Ops.r (Run.lenS rfl Try.underlying22) rfl ?_
  refine Ops.r (v := .int .i64 ((0 : Nat) : Int)) (Run.mv rfl) rfl ?_
  refine Ops.nil ?_
  refine thenQ_n ?_
  refine VC.sub [(3, _), (6, _), (7, _), (8, _)] (.cons rfl (.cons rfl (.cons rfl (.cons rfl .nil)))) ?_
  refine VC.block ?_
  refine VC.loop (σ := Nat × Option Addr × Nat × List Mc) (fun s => [(3, .slice s.2.1 s.2.2.2.length s.2.2.1), (6, .slice A l.length c), (7, .int .i64 ((l.length : Nat) : Int)), (8, .int .i64 ((s.1 : Nat) : Int))]) (fun s wr => s.1 ≤ l.length ∧ OwM wr s.2.1 s.2.2.1 s.2.2.2 ∧ Ms s.2.2.2 = Ms (l.take s.1) ∧ (∀ b ∈ ob s.2.1, w.heap.size ≤ b) ∧ Frm [] w wr) (fun s => l.length - s.1) (0, none, 0, []) (.cons rfl (.cons rfl (.cons rfl (.cons rfl .nil)))) ⟨by omega, OwM.nil _, rfl, by simp [ob], Frm.refl _ _⟩ ?_
  rintro ⟨i, B, d, l'⟩ wr ⟨hi, hown, hms, hge, hfr⟩
  dsimp only at hi hown hms hge ⊢
  have hll : l'.length = i := by have := congrArg List.length hms; simp [Ms] at this; omega
  refine VC.seq ?_
  refine VC.region ?_
  refine Ops.r (Run.bin rfl rfl (Bin.lssN _ _)) rfl ?_
  refine Ops.nil ?_
  refine thenQ_n ?_
  refine VC.seq ?_
  refine VC.condD rfl (fun hc1 => ?_) (fun hc1 => ?_)
  · skip
    obtain ⟨ad, rfl, hcell⟩ := (hl.frm hfr).elem hc1
    have hxa := (hl.frm hfr).fl (l[i]) (List.getElem_mem hc1)
    have hmt := Ms_take hc1
    generalize hx : l[i] = x at *
    refine VC.skip ?_
    refine thenQ_n ?_
    refine VC.sub [(3, _), (6, _), (7, _), (8, _)] (.cons rfl (.cons rfl (.cons rfl (.cons rfl .nil)))) ?_
    refine VC.seq ?_
    refine VC.block ?_
    refine VC.seq ?_
    refine VC.region ?_
    refine Ops.r (Run.indexS i rfl rfl Try.underlying22 Try.sizeOf45 hc1) rfl ?_
    refine Ops.r (Run.loadA rfl Try.isAgg45 Try.sizeOf45 hcell (by first | rfl | (simp; done))) rfl ?_
    refine Ops.m (Does.alloc zero45) rfl ?_
    rintro _ w2 ⟨rfl, hF2⟩
    have hb2 := hF2.blk
    have hf2 := hF2.frm
    have hsz2 : wr.heap.size ≤ wr.heap.size := Nat.le_refl _
    have hfs := hfr.size
    generalize hg2 : wr.heap.size = g2 at hb2 hsz2 hfs ⊢
    refine Ops.st (Acts.storeA rfl rfl Try.sizeOf45 hb2 rfl x.cells_one) ?_
    rintro w3 ⟨hb3, hf3, hs3⟩
    have hfr3 : Frm [] wr w3 := hf2.own hf3 (fun y hy => by simp at hy; omega)
    refine Ops.nil ?_
    refine thenQ_n ?_
    refine VC.sub [(3, _), (5, _), (6, _), (7, _), (8, _)] (.cons rfl (.cons rfl (.cons rfl (.cons rfl (.cons rfl .nil))))) ?_
    refine VC.region ?_
    refine Ops.r (Run.mv rfl) rfl ?_
    refine Ops.r (Run.loadA rfl Try.isAgg45 Try.sizeOf45 (fun j v hj => hb3.cells j v hj) (by first | rfl | (simp; done))) rfl ?_
    refine Ops.cl (Enters.fn (evs.cons rfl evs.nil) Try.call37) (own_spec x _ (hxa.frm hfr3 (by simp))) rfl ?_
    rintro e w4 ⟨C, dc, rfl, hownC, hgeC, hf4⟩
    refine ⟨_, rfl, ?_⟩
    have hfr4 := hfr3.trans hf4 (by simp)
    refine Ops.m (Does.buildS1 rfl Try.underlying22 Try.sizeOf45 zero45 (by decide) (by decide) rfl rfl) rfl ?_
    rintro _ w5 ⟨rfl, hF5⟩
    have hfr5 := hfr4.trans hF5.frm (by simp)
    have hown5 := hown.frm hfr5
    have hownC5 := hownC.frm hF5.frm (by simp)
    refine Ops.m (Does.app rfl rfl Try.underlying22 (info45) rfl (by decide) hown5.own (hrdM hF5) (flat_one Mc.cells Mc.cells_one _) (by omega) (by omega)) rfl ?_
    rintro _ w6 ⟨A6, c6, rfl, hown6, hf6, hob6⟩
    rw [← MC_append] at hown6
    have hge6 := up_app hge hob6 (Nat.le_trans hfr.size hfr5.size)
    have hfr6 := (hfr.trans hfr5 (by simp)).own hf6 hge
    have hM6 := hown5.put (x := ⟨x.m, C, dc⟩) (by simpa using hown6) hf6 hownC5 ⟨hxa.n, hxa.q⟩
    refine Ops.r (Run.asg rfl) rfl ?_
    refine Ops.nil ?_
    refine blockQ_n (thenQ_n ?_)
    refine VC.sub [(3, _), (6, _), (7, _), (8, _)] (.cons rfl (.cons rfl (.cons rfl (.cons rfl .nil)))) ?_
    refine VC.region ?_
    refine Ops.r (Run.bin rfl rfl (Bin.add_i64 _ 1 (by omega))) rfl ?_
    refine Ops.r (Run.mv rfl) rfl ?_
    refine Ops.nil ?_
    refine thenQ_n ⟨(i + 1, A6, c6, l' ++ [⟨x.m, C, dc⟩]), (.cons (by rw [List.length_append]; rfl) (.cons rfl (.cons rfl (.cons rfl .nil)))), ?_, ?_⟩
    · skip
      exact ⟨hc1, hM6, by rw [hmt, ← hms]; simp [Ms], hge6, hfr6⟩
    · skip
      first | omega | (dsimp only; omega)
  · skip
    refine VC.exit ?_
    refine thenQ_x (thenQ_x (blockQ_x ?_))
    refine thenQ_n ?_
    refine VC.sub [(3, _)] (.cons rfl .nil) ?_
    refine VC.seq ?_
    refine VC.region ?_
    refine Ops.r (Run.mv rfl) rfl ?_
    refine Ops.r (Run.asg rfl) rfl ?_
    refine Ops.nil ?_
    refine thenQ_n ?_
    refine VC.sub [(2, _)] (.cons rfl .nil) ?_
    refine VC.ret ?_
    refine end1 rfl ?_
    have him : i = l.length := by omega
    subst him
    rw [List.take_length] at hms
    exact ⟨B, d, l', rfl, hown, hms, hge, hfr⟩

end Go.Proofs.Ytmfglifjnoilnaa
