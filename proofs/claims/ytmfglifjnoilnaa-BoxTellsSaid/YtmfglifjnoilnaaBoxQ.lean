/-
  The walk of the document's box: a message laid behind the others.
-/
import Derived.Test.YtmfglifjnoilnaaBoxR
namespace Go.Proofs.Ytmfglifjnoilnaa
open Go.RowKit Go.Sort

set_option maxRecDepth 100000 in
theorem rhasI_spec (A : Option Addr) (c : Nat) (zs : List Int) (x : Int) (w : World) (hz : Rd w 1 A zs.length (IB zs)) (h1 : zs.length ≤ 1000000) :
    Calls Try.prog 50 #[.slice A zs.length c, .int .i64 x] w fun e w' => e = .returned (.bool (decide (x ∈ zs))) ∧ w = w' := by
  refine VC.calls (nt := 18) (res := #[.tmp 4]) Try.func50 rfl Try.ntmps50 Try.results50 rfl ?_
  refine VC.seq ?_
  refine VC.region ?_
  refine Ops.r (Run.asg rfl) rfl ?_
  refine Ops.nil ?_
  refine thenQ_n ?_
  refine VC.sub [(0, _), (1, _)] (.cons rfl (.cons rfl .nil)) ?_
  refine VC.seq ?_
  refine VC.seq ?_
  refine VC.region ?_
  refine Ops.r (v := .int .i64 ((0 : Nat) : Int)) (Run.asg rfl) rfl ?_
  refine Ops.nil ?_
  refine thenQ_n ?_
  refine VC.block ?_
  refine VC.loop (σ := Nat) (fun s => [(0, .slice A zs.length c), (1, .int .i64 x), (5, .int .i64 ((s : Nat) : Int))]) (fun s wr => s ≤ zs.length ∧ w = wr ∧ x ∉ zs.take s) (fun s => zs.length - s) 0 (.cons rfl (.cons rfl (.cons rfl .nil))) ⟨by omega, rfl, by simp⟩ ?_
  rintro i _ ⟨hi, rfl, hn⟩
  refine VC.seq ?_
  refine VC.seq ?_
  refine VC.region ?_
  refine Ops.r (Run.mv rfl) rfl ?_
  refine Ops.r (Run.mv rfl) rfl ?_
  refine Ops.r (Run.lenS rfl Try.underlying25) rfl ?_
  refine Ops.r (Run.bin rfl rfl (Bin.lssN _ _)) rfl ?_
  refine Ops.nil ?_
  refine thenQ_n ?_
  refine VC.sub [(0, _), (1, _), (5, _), (9, _)] (.cons rfl (.cons rfl (.cons rfl (.cons rfl .nil)))) ?_
  refine VC.condD rfl (fun hc1 => ?_) (fun hc1 => ?_)
  · skip
    obtain ⟨ad, u, rfl, hu, hcell⟩ := hz.at1 hc1
    have hu2 : u = .int .i64 zs[i] := by simpa [IB, List.getElem?_eq_getElem hc1] using hu.symm
    subst hu2
    refine VC.skip ?_
    refine thenQ_n ?_
    refine VC.sub [(0, _), (1, _), (5, _)] (.cons rfl (.cons rfl (.cons rfl .nil))) ?_
    refine VC.seq ?_
    refine VC.block ?_
    refine VC.seq ?_
    refine VC.region ?_
    refine Ops.r (Run.mv rfl) rfl ?_
    refine Ops.r (Run.mv rfl) rfl ?_
    refine Ops.r (Run.index1 i rfl rfl Try.underlying25 Try.sizeOf3 hc1) rfl ?_
    refine Ops.r (Run.load rfl Try.isAgg3 hcell) rfl ?_
    refine Ops.r (Run.mv rfl) rfl ?_
    refine Ops.r (Run.bin rfl rfl (Bin.eql _ _)) rfl ?_
    refine Ops.nil ?_
    refine thenQ_n ?_
    refine VC.sub [(0, _), (1, _), (5, _), (17, _)] (.cons rfl (.cons rfl (.cons rfl (.cons rfl .nil)))) ?_
    refine VC.condD rfl (fun hc2 => ?_) (fun hc2 => ?_)
    · skip
      refine VC.seq ?_
      refine VC.region ?_
      refine Ops.r (Run.asg rfl) rfl ?_
      refine Ops.nil ?_
      refine thenQ_n ?_
      refine VC.sub [(4, _)] (.cons rfl .nil) ?_
      refine VC.ret ?_
      refine blockQ_r (thenQ_r (thenQ_r (blockQ_r (thenQ_r (end1 rfl ?_)))))
      exact ⟨by rw [decide_eq_true (hc2 ▸ List.getElem_mem hc1)], rfl⟩
    · skip
      refine VC.skip ?_
      refine blockQ_n (thenQ_n ?_)
      refine VC.sub [(0, _), (1, _), (5, _)] (.cons rfl (.cons rfl (.cons rfl .nil))) ?_
      refine VC.region ?_
      refine Ops.r (Run.mv rfl) rfl ?_
      refine Ops.r (Run.bin rfl rfl (Bin.add_i64 _ 1 (by omega))) rfl ?_
      refine Ops.r (Run.asg rfl) rfl ?_
      refine Ops.nil ?_
      refine thenQ_n ⟨(i + 1), (.cons rfl (.cons rfl (.cons rfl .nil))), ?_, ?_⟩
      · skip
        refine ⟨hc1, rfl, ?_⟩
        rw [List.take_add_one, List.getElem?_eq_getElem hc1]
        simp only [Option.toList_some, List.mem_append, List.mem_singleton, not_or]
        exact ⟨hn, fun h => hc2 h.symm⟩
      · skip
        first | omega | (dsimp only; omega)
  · skip
    refine VC.exit ?_
    refine thenQ_x (thenQ_x (blockQ_x ?_))
    refine thenQ_n ?_
    refine VC.sub [] .nil ?_
    refine VC.seq ?_
    refine VC.region ?_
    refine Ops.r (Run.asg rfl) rfl ?_
    refine Ops.nil ?_
    refine thenQ_n ?_
    refine VC.ret ?_
    refine end1 rfl ?_
    have hil : i = zs.length := by omega
    subst hil
    rw [List.take_length] at hn
    exact ⟨by rw [decide_eq_false hn], rfl⟩

set_option maxRecDepth 100000 in
theorem rgoes_spec (x : Mc) (every : Bool) (O : Option Addr) (co : Nat) (only : List Int) (w : World) (hx : x.At w) (ho : Rd w 1 O only.length (IB only)) (hon : only.length ≤ 1000000) : Calls Try.prog 34 #[.agg x.cells.toArray, .bool every, .slice O only.length co] w fun e w' => e = .returned (.bool (decide (goesB every only x.m))) ∧ Frm [] w w' := by
  refine VC.calls (nt := 19) (res := #[.tmp 6]) Try.func34 rfl Try.ntmps34 Try.results34 rfl ?_
  refine VC.seq ?_
  refine VC.region ?_
  refine Ops.m (Does.box rfl) rfl ?_
  rintro _ w1 ⟨rfl, hF1⟩
  have hb1 := hF1.blk
  have hf1 := hF1.frm
  generalize hg1 : w.heap.size = g1 at *
  refine Ops.r (Run.asg rfl) rfl ?_
  refine Ops.nil ?_
  refine thenQ_n ?_
  refine VC.sub [(1, _), (2, _), (3, _)] (.cons rfl (.cons rfl (.cons rfl .nil))) ?_
  refine VC.seq ?_
  refine VC.splitR [] (Frm [] w) 6 (.bool (decide (goesB every only x.m))) ?_ ?_
  · refine VC.region ?_
    refine Ops.r (Run.fieldAddr rfl Try.underlying45 rfl Try.sizeOf43 (by decide)) rfl ?_
    refine Ops.r (Run.load rfl Try.isAgg43 (hb1.cell 5)) rfl ?_
    refine Ops.cl (Enters.fn (evs.cons rfl (evs.cons rfl evs.nil)) Try.call25) (rhas_spec x.A x.c x.m.flags deletedF _ (by have := hx.n; omega) (by decide) (hx.frm hf1 (by simp)).rd) rfl ?_
    rintro e w2 ⟨rfl, hf2⟩
    refine ⟨_, rfl, ?_⟩
    by_cases hs9 : hasF x.m.flags deletedF
    · skip
      refine Ops.r (Run.mv rfl) rfl ?_
      refine Ops.rg rfl (by first | rfl | assumption | exact decide_eq_true (by assumption) | exact decide_eq_false (by assumption) | decide | (simp; done) | (simp; omega) | (simp [*]; done)) (Run.mv rfl) rfl ?_
      refine Ops.rg rfl (by first | rfl | assumption | exact decide_eq_true (by assumption) | exact decide_eq_false (by assumption) | decide | (simp; done) | (simp; omega) | (simp [*]; done)) (Run.mv rfl) rfl ?_
      by_cases hs12 : every = true
      · skip
        refine Ops.sk rfl (by first | rfl | assumption | exact decide_eq_true (by assumption) | exact decide_eq_false (by assumption) | decide | (simp; done) | (simp; omega) | (simp [*]; done)) rfl ?_
        refine Ops.sk rfl (by first | rfl | assumption | exact decide_eq_true (by assumption) | exact decide_eq_false (by assumption) | decide | (simp; done) | (simp; omega) | (simp [*]; done)) rfl ?_
        refine Ops.sk rfl (by first | rfl | assumption | exact decide_eq_true (by assumption) | exact decide_eq_false (by assumption) | decide | (simp; done) | (simp; omega) | (simp [*]; done)) rfl ?_
        refine Ops.sk rfl (by first | rfl | assumption | exact decide_eq_true (by assumption) | exact decide_eq_false (by assumption) | decide | (simp; done) | (simp; omega) | (simp [*]; done)) rfl ?_
        refine Ops.rg rfl (by first | rfl | assumption | exact decide_eq_true (by assumption) | exact decide_eq_false (by assumption) | decide | (simp; done) | (simp; omega) | (simp [*]; done)) (Run.pickT rfl rfl (by first | rfl | assumption | exact decide_eq_true (by assumption) | exact decide_eq_false (by assumption) | decide | (simp; done) | (simp; omega) | (simp [*]; done))) rfl ?_
        refine Ops.r (Run.pickT rfl rfl (by first | rfl | assumption | exact decide_eq_true (by assumption) | exact decide_eq_false (by assumption) | decide | (simp; done) | (simp; omega) | (simp [*]; done))) rfl ?_
        refine Ops.r (Run.asg rfl) rfl ?_
        refine Ops.nil ?_
        refine thenQ_n ⟨(.cons (congrArg (fun b => some (Value.bool b)) (Eq.symm (by unfold goesB; simp_all))) .nil), (hf1.trans hf2 (by simp))⟩
      · skip
        refine Ops.rg rfl (by first | rfl | assumption | exact decide_eq_true (by assumption) | exact decide_eq_false (by assumption) | decide | (simp; done) | (simp; omega) | (simp [*]; done)) (Run.mv rfl) rfl ?_
        refine Ops.rg rfl (by first | rfl | assumption | exact decide_eq_true (by assumption) | exact decide_eq_false (by assumption) | decide | (simp; done) | (simp; omega) | (simp [*]; done)) (Run.fieldAddr rfl Try.underlying45 rfl Try.sizeOf3 (by decide)) rfl ?_
        refine Ops.rg rfl (by first | rfl | assumption | exact decide_eq_true (by assumption) | exact decide_eq_false (by assumption) | decide | (simp; done) | (simp; omega) | (simp [*]; done)) (Run.load rfl Try.isAgg3 ((hb1.frm hf2 (by simp)).cell 0)) rfl ?_
        refine Ops.clg rfl (by first | rfl | assumption | exact decide_eq_true (by assumption) | exact decide_eq_false (by assumption) | decide | (simp; done) | (simp; omega) | (simp [*]; done)) (Enters.fn (evs.cons rfl (evs.cons rfl evs.nil)) Try.call50) (rhasI_spec O co only x.m.uid _ (ho.frm (hf1.trans hf2 (by simp)) (by simp)) hon) rfl ?_
        rintro e _ ⟨rfl, rfl⟩
        refine ⟨_, rfl, ?_⟩
        by_cases hs16 : x.m.uid ∈ only
        · skip
          refine Ops.rg rfl (by first | rfl | assumption | exact decide_eq_true (by assumption) | exact decide_eq_false (by assumption) | decide | (simp; done) | (simp; omega) | (simp [*]; done)) (Run.pickF rfl rfl (by first | rfl | assumption | exact decide_eq_true (by assumption) | exact decide_eq_false (by assumption) | decide | (simp; done) | (simp; omega) | (simp [*]; done))) rfl ?_
          refine Ops.r (Run.pickT rfl rfl (by first | rfl | assumption | exact decide_eq_true (by assumption) | exact decide_eq_false (by assumption) | decide | (simp; done) | (simp; omega) | (simp [*]; done))) rfl ?_
          refine Ops.r (Run.asg rfl) rfl ?_
          refine Ops.nil ?_
          refine thenQ_n ⟨(.cons (congrArg (fun b => some (Value.bool b)) (Eq.symm (by unfold goesB; simp_all))) .nil), (hf1.trans hf2 (by simp))⟩
        · skip
          refine Ops.rg rfl (by first | rfl | assumption | exact decide_eq_true (by assumption) | exact decide_eq_false (by assumption) | decide | (simp; done) | (simp; omega) | (simp [*]; done)) (Run.pickF rfl rfl (by first | rfl | assumption | exact decide_eq_true (by assumption) | exact decide_eq_false (by assumption) | decide | (simp; done) | (simp; omega) | (simp [*]; done))) rfl ?_
          refine Ops.r (Run.pickT rfl rfl (by first | rfl | assumption | exact decide_eq_true (by assumption) | exact decide_eq_false (by assumption) | decide | (simp; done) | (simp; omega) | (simp [*]; done))) rfl ?_
          refine Ops.r (Run.asg rfl) rfl ?_
          refine Ops.nil ?_
          refine thenQ_n ⟨(.cons (congrArg (fun b => some (Value.bool b)) (Eq.symm (by unfold goesB; simp_all))) .nil), (hf1.trans hf2 (by simp))⟩
    · skip
      refine Ops.r (Run.mv rfl) rfl ?_
      refine Ops.sk rfl (by first | rfl | assumption | exact decide_eq_true (by assumption) | exact decide_eq_false (by assumption) | decide | (simp; done) | (simp; omega) | (simp [*]; done)) rfl ?_
      refine Ops.sk rfl (by first | rfl | assumption | exact decide_eq_true (by assumption) | exact decide_eq_false (by assumption) | decide | (simp; done) | (simp; omega) | (simp [*]; done)) rfl ?_
      refine Ops.skU rfl rfl ?_
      refine Ops.skU rfl rfl ?_
      refine Ops.skU rfl rfl ?_
      refine Ops.skU rfl rfl ?_
      refine Ops.sk rfl (by first | rfl | assumption | exact decide_eq_true (by assumption) | exact decide_eq_false (by assumption) | decide | (simp; done) | (simp; omega) | (simp [*]; done)) rfl ?_
      refine Ops.r (Run.pickF rfl rfl (by first | rfl | assumption | exact decide_eq_true (by assumption) | exact decide_eq_false (by assumption) | decide | (simp; done) | (simp; omega) | (simp [*]; done))) rfl ?_
      refine Ops.r (Run.asg rfl) rfl ?_
      refine Ops.nil ?_
      refine thenQ_n ⟨(.cons (congrArg (fun b => some (Value.bool b)) (Eq.symm (by unfold goesB; simp_all))) .nil), (hf1.trans hf2 (by simp))⟩
  · intro Γ wR hΓ hR
    refine thenQ_n (VC.sub _ hΓ ?_)
    refine VC.ret ?_
    refine end1 rfl ?_
    exact ⟨rfl, hR⟩

set_option maxRecDepth 100000 in
theorem rappend_spec (v n : Int) (A : Option Addr) (c : Nat) (l : List Mc) (x : Mc) (w : World) (hl : RdM w A l) (hn : l.length ≤ 900000) (hx : x.At w) : Calls Try.prog 21 #[.agg #[.int .i64 v, .int .i64 n, .slice A l.length c], .agg x.cells.toArray] w fun e w' =>
    Frm [] w w' ∧ ∃ v' n' B d l' k, e = .returned (.tuple #[.agg #[.int .i64 v', .int .i64 n', .slice B l'.length d], .int .i64 (if k = 0 then n else 0), .int .i64 ((k : Nat) : Int)]) ∧ IsBx w' (appendB ⟨v, n, Ms l⟩ x.m) v' n' B d l' k := by
  refine VC.calls (nt := 43) (res := #[.cell 4 24, .tmp 5, .tmp 6]) Try.func21 rfl Try.ntmps21 Try.results21 rfl ?_
  refine VC.seq ?_
  refine VC.region ?_
  refine Ops.m (Does.box rfl) rfl ?_
  rintro _ w1 ⟨rfl, hF2⟩
  have hb2 := hF2.blk
  have hf2 := hF2.frm
  have hs2 : w.heap.size ≤ w.heap.size := Nat.le_refl _
  generalize hg2 : w.heap.size = g2 at hb2 ⊢
  refine Ops.m (Does.box rfl) rfl ?_
  rintro _ w2 ⟨rfl, hF3⟩
  have hb3 := hF3.blk
  have hb2 := hb2.frm hF3.frm (by simp)
  have hf3 := hf2.trans hF3.frm (by simp)
  have hs3 : w.heap.size ≤ w1.heap.size := hf2.size
  generalize hg3 : w1.heap.size = g3 at hb3 hs3 ⊢
  have hn23 : g2 < g3 := by rw [← hg3, ← hg2]; have := hF2.size; omega
  refine Ops.m (Does.alloc zero24) rfl ?_
  rintro _ w4 ⟨rfl, hF4⟩
  have hb4 := hF4.blk
  have hb2 := hb2.frm hF4.frm (by simp)
  have hb3 := hb3.frm hF4.frm (by simp)
  have hf4 := hf3.trans hF4.frm (by simp)
  have hs4 : w.heap.size ≤ w2.heap.size := hf3.size
  generalize hg4 : w2.heap.size = g4 at hb4 hs4 ⊢
  have hn34 : g3 < g4 := by rw [← hg4, ← hg3]; have := hF3.size; omega
  refine Ops.r (v := .int .i64 ((0 : Nat) : Int)) (Run.asg rfl) rfl ?_
  refine Ops.r (v := .int .i64 ((0 : Nat) : Int)) (Run.asg rfl) rfl ?_
  refine Ops.nil ?_
  refine thenQ_n ?_
  refine VC.sub [(2, _), (3, _), (4, _)] (.cons rfl (.cons rfl (.cons rfl .nil))) ?_
  refine VC.seq ?_
  refine VC.seq ?_
  refine VC.splitR [(2, .pointer (some ⟨g2, 0, none⟩)), (3, .pointer (some ⟨g3, 0, none⟩)), (4, .pointer (some ⟨g4, 0, none⟩))] (Frm [] w4) 14 (.bool (decide (¬ mayB ⟨v, n, Ms l⟩ ∨ ¬ MsgOk x.m))) ?_ ?_
  · refine VC.region ?_
    refine Ops.r (Run.loadA rfl Try.isAgg24 Try.sizeOf24 (fun j v hj => hb2.cells j v hj) (by first | rfl | (simp; done))) rfl ?_
    refine Ops.cl (Enters.fn (evs.cons rfl evs.nil) Try.call11) (rmay_spec v n A c l _ (hl.frm hf4) (by omega)) rfl ?_
    rintro e w5 ⟨rfl, hf5⟩
    refine ⟨_, rfl, ?_⟩
    by_cases hs8 : mayB ⟨v, n, Ms l⟩
    · skip
      refine Ops.r (Run.not rfl) rfl ?_
      refine Ops.r (Run.mv rfl) rfl ?_
      refine Ops.rg rfl (by first | rfl | assumption | exact decide_eq_true (by assumption) | exact decide_eq_false (by assumption) | decide | (simp; done) | (simp; omega) | (simp [*]; done)) (Run.loadA rfl Try.isAgg45 Try.sizeOf45 (fun j v hj => (hb3.frm hf5 (by simp)).cells j v hj) (by first | rfl | (simp; done))) rfl ?_
      refine Ops.clg rfl (by first | rfl | assumption | exact decide_eq_true (by assumption) | exact decide_eq_false (by assumption) | decide | (simp; done) | (simp; omega) | (simp [*]; done)) (Enters.fn (evs.cons rfl evs.nil) Try.call33) (rmessage_spec x _ (hx.frm (hf4.trans hf5 (by simp)) (by simp))) rfl ?_
      rintro e w6 ⟨rfl, hf6⟩
      refine ⟨_, rfl, ?_⟩
      by_cases hs12 : MsgOk x.m
      · skip
        refine Ops.rg rfl (by first | rfl | assumption | exact decide_eq_true (by assumption) | exact decide_eq_false (by assumption) | decide | (simp; done) | (simp; omega) | (simp [*]; done)) (Run.not rfl) rfl ?_
        refine Ops.r (Run.pickF rfl rfl (by first | rfl | assumption | exact decide_eq_true (by assumption) | exact decide_eq_false (by assumption) | decide | (simp; done) | (simp; omega) | (simp [*]; done))) rfl ?_
        refine Ops.nil ?_
        refine thenQ_n ⟨(.cons (congrArg (fun b => some (Value.bool b)) (Eq.symm (by simp [*]))) (.cons rfl (.cons rfl (.cons rfl .nil)))), (by first | exact hf5.trans hf6 (by simp) | exact hf5)⟩
      · skip
        refine Ops.rg rfl (by first | rfl | assumption | exact decide_eq_true (by assumption) | exact decide_eq_false (by assumption) | decide | (simp; done) | (simp; omega) | (simp [*]; done)) (Run.not rfl) rfl ?_
        refine Ops.r (Run.pickF rfl rfl (by first | rfl | assumption | exact decide_eq_true (by assumption) | exact decide_eq_false (by assumption) | decide | (simp; done) | (simp; omega) | (simp [*]; done))) rfl ?_
        refine Ops.nil ?_
        refine thenQ_n ⟨(.cons (congrArg (fun b => some (Value.bool b)) (Eq.symm (by simp [*]))) (.cons rfl (.cons rfl (.cons rfl .nil)))), (by first | exact hf5.trans hf6 (by simp) | exact hf5)⟩
    · skip
      refine Ops.r (Run.not rfl) rfl ?_
      refine Ops.r (Run.mv rfl) rfl ?_
      refine Ops.sk rfl (by first | rfl | assumption | exact decide_eq_true (by assumption) | exact decide_eq_false (by assumption) | decide | (simp; done) | (simp; omega) | (simp [*]; done)) rfl ?_
      refine Ops.sk rfl (by first | rfl | assumption | exact decide_eq_true (by assumption) | exact decide_eq_false (by assumption) | decide | (simp; done) | (simp; omega) | (simp [*]; done)) rfl ?_
      refine Ops.sk rfl (by first | rfl | assumption | exact decide_eq_true (by assumption) | exact decide_eq_false (by assumption) | decide | (simp; done) | (simp; omega) | (simp [*]; done)) rfl ?_
      refine Ops.r (Run.pickT rfl rfl (by first | rfl | assumption | exact decide_eq_true (by assumption) | exact decide_eq_false (by assumption) | decide | (simp; done) | (simp; omega) | (simp [*]; done))) rfl ?_
      refine Ops.nil ?_
      refine thenQ_n ⟨(.cons (congrArg (fun b => some (Value.bool b)) (Eq.symm (by simp [*]))) (.cons rfl (.cons rfl (.cons rfl .nil)))), (by first | exact hf5.trans hf6 (by simp) | exact hf5)⟩
  · intro Γ w7 hΓ hf7
    refine thenQ_n (VC.sub _ hΓ ?_)
    refine VC.condD rfl (fun hc1 => ?_) (fun hc1 => ?_)
    · skip
      have hb47 := hb4.frm hf7 (by simp)
      have hfr7 := hf4.trans hf7 (by simp)
      refine VC.seq ?_
      refine VC.region ?_
      refine Ops.r (Run.build evs.nil zero24 (places24).choose_spec.1 (places24).choose_spec.2 rfl) rfl ?_
      refine Ops.st (Acts.storeA rfl rfl Try.sizeOf24 hb47 rfl (BVc_one 0 0 none 0 0)) ?_
      rintro w8 ⟨hbz, hfz, hsz⟩
      refine Ops.r (v := .int .i64 ((0 : Nat) : Int)) (Run.asg rfl) rfl ?_
      refine Ops.r (v := .int .i64 ((1 : Nat) : Int)) (Run.asg rfl) rfl ?_
      refine Ops.nil ?_
      refine thenQ_n ?_
      refine VC.sub [(4, _), (5, _), (6, _)] (.cons rfl (.cons rfl (.cons rfl .nil))) ?_
      refine VC.ret ?_
      refine thenQ_r (endR ?_)
      refine res_cellA rfl Try.isAgg24 Try.sizeOf24 (fun j v hj => hbz.cells j v hj) (by first | rfl | (simp; done)) ?_
      refine res_tmp rfl ?_
      refine res_tmp rfl ?_
      refine res_nil ?_
      exact ⟨hfr7.own hfz (fun y hy => by simp at hy; omega), 0, 0, none, 0, [], 1, rfl, IsBx.err (by decide) (by unfold appendB; rw [if_pos hc1])⟩
    · skip
      have hb47 := hb4.frm hf7 (by simp)
      have hb27 := hb2.frm hf7 (by simp)
      have hb37 := hb3.frm hf7 (by simp)
      have hfr7 := hf4.trans hf7 (by simp)
      have hmay : mayB ⟨v, n, Ms l⟩ := Classical.not_not.1 fun h => hc1 (.inl h)
      have hl128 : l.length ≤ 128 := (may_at hmay).1.2.2.2.2
      have hnx := (may_at hmay).1
      refine VC.skip ?_
      refine thenQ_n ?_
      refine VC.sub [(2, _), (3, _), (4, _)] (.cons rfl (.cons rfl (.cons rfl .nil))) ?_
      refine VC.seq ?_
      refine VC.seq ?_
      refine VC.region ?_
      refine Ops.r (Run.fieldAddr rfl Try.underlying24 rfl Try.sizeOf22 (by decide)) rfl ?_
      refine Ops.r (Run.load rfl Try.isAgg22 (hb27.cell 2)) rfl ?_
      refine Ops.r (Run.lenS rfl Try.underlying22) rfl ?_
      refine Ops.r (Run.bin rfl rfl (Bin.geqN _ 128)) rfl ?_
      refine Ops.nil ?_
      refine thenQ_n ?_
      refine VC.sub [(2, _), (3, _), (4, _), (19, _)] (.cons rfl (.cons rfl (.cons rfl (.cons rfl .nil)))) ?_
      refine VC.condD rfl (fun hc2 => ?_) (fun hc2 => ?_)
      · skip
        refine VC.seq ?_
        refine VC.region ?_
        refine Ops.r (Run.build evs.nil zero24 (places24).choose_spec.1 (places24).choose_spec.2 rfl) rfl ?_
        refine Ops.st (Acts.storeA rfl rfl Try.sizeOf24 hb47 rfl (BVc_one 0 0 none 0 0)) ?_
        rintro w8 ⟨hbz, hfz, hsz⟩
        refine Ops.r (v := .int .i64 ((0 : Nat) : Int)) (Run.asg rfl) rfl ?_
        refine Ops.r (v := .int .i64 ((5 : Nat) : Int)) (Run.asg rfl) rfl ?_
        refine Ops.nil ?_
        refine thenQ_n ?_
        refine VC.sub [(4, _), (5, _), (6, _)] (.cons rfl (.cons rfl (.cons rfl .nil))) ?_
        refine VC.ret ?_
        refine thenQ_r (endR ?_)
        refine res_cellA rfl Try.isAgg24 Try.sizeOf24 (fun j v hj => hbz.cells j v hj) (by first | rfl | (simp; done)) ?_
        refine res_tmp rfl ?_
        refine res_tmp rfl ?_
        refine res_nil ?_
        refine ⟨hfr7.own hfz (fun y hy => by simp at hy; omega), 0, 0, none, 0, [], 5, rfl, IsBx.err (by decide) ?_⟩
        unfold appendB
        rw [if_neg hc1, if_pos (by simp [Ms]; omega)]
      · skip
        refine VC.skip ?_
        refine thenQ_n ?_
        refine VC.sub [(2, _), (3, _), (4, _)] (.cons rfl (.cons rfl (.cons rfl .nil))) ?_
        refine VC.seq ?_
        refine VC.seq ?_
        refine VC.region ?_
        refine Ops.r (Run.fieldAddr rfl Try.underlying24 rfl Try.sizeOf3 (by decide)) rfl ?_
        refine Ops.r (Run.load rfl Try.isAgg3 (hb27.cell 1)) rfl ?_
        refine Ops.r (Run.bin rfl rfl (Bin.gtr _ 2147483647)) rfl ?_
        refine Ops.nil ?_
        refine thenQ_n ?_
        refine VC.sub [(2, _), (3, _), (4, _), (23, _)] (.cons rfl (.cons rfl (.cons rfl (.cons rfl .nil)))) ?_
        refine VC.condD rfl (fun hc3 => ?_) (fun hc3 => ?_)
        · skip
          refine VC.seq ?_
          refine VC.region ?_
          refine Ops.r (Run.build evs.nil zero24 (places24).choose_spec.1 (places24).choose_spec.2 rfl) rfl ?_
          refine Ops.st (Acts.storeA rfl rfl Try.sizeOf24 hb47 rfl (BVc_one 0 0 none 0 0)) ?_
          rintro w8 ⟨hbz, hfz, hsz⟩
          refine Ops.r (v := .int .i64 ((0 : Nat) : Int)) (Run.asg rfl) rfl ?_
          refine Ops.r (v := .int .i64 ((19 : Nat) : Int)) (Run.asg rfl) rfl ?_
          refine Ops.nil ?_
          refine thenQ_n ?_
          refine VC.sub [(4, _), (5, _), (6, _)] (.cons rfl (.cons rfl (.cons rfl .nil))) ?_
          refine VC.ret ?_
          refine thenQ_r (endR ?_)
          refine res_cellA rfl Try.isAgg24 Try.sizeOf24 (fun j v hj => hbz.cells j v hj) (by first | rfl | (simp; done)) ?_
          refine res_tmp rfl ?_
          refine res_tmp rfl ?_
          refine res_nil ?_
          refine ⟨hfr7.own hfz (fun y hy => by simp at hy; omega), 0, 0, none, 0, [], 19, rfl, IsBx.err (by decide) ?_⟩
          unfold appendB
          rw [if_neg hc1, if_neg (by simp [Ms]; omega), if_pos hc3]
        · skip
          refine VC.skip ?_
          refine thenQ_n ?_
          refine VC.sub [(2, _), (3, _), (4, _)] (.cons rfl (.cons rfl (.cons rfl .nil))) ?_
          refine VC.seq ?_
          refine VC.region ?_
          refine Ops.r (Run.fieldAddr rfl Try.underlying24 rfl Try.sizeOf3 (by decide)) rfl ?_
          refine Ops.r (Run.load rfl Try.isAgg3 (hb27.cell 1)) rfl ?_
          refine Ops.r (Run.fieldAddr rfl Try.underlying45 rfl Try.sizeOf3 (by decide)) rfl ?_
          refine Ops.st (Acts.store rfl rfl Try.sizeOf3 hb37 rfl rfl) ?_
          rintro w8 ⟨hb38, hf8, hs8⟩
          have hb38 : Blk w8 g3 45 (⟨{ x.m with uid := n }, x.A, x.c⟩ : Mc).cells.toArray := hb38
          have hb28 := hb27.frm hf8 (by simp; omega)
          have hb48 := hb47.frm hf8 (by simp; omega)
          have hfr8 := hfr7.own hf8 (fun y hy => by simp at hy; omega)
          have hx8 : (⟨{ x.m with uid := n }, x.A, x.c⟩ : Mc).At w8 := ⟨(hx.frm hfr8 (by simp)).rd, hx.n, hx.q⟩
          have hl8 := hl.frm hfr8
          refine Ops.nil ?_
          refine thenQ_n ?_
          refine VC.sub [(2, _), (3, _), (4, _)] (.cons rfl (.cons rfl (.cons rfl .nil))) ?_
          refine VC.seq ?_
          refine VC.meet (σ := Option Addr × Nat) (fun s => [(2, .pointer (some ⟨g2, 0, none⟩)), (3, .pointer (some ⟨g3, 0, none⟩)), (4, .pointer (some ⟨g4, 0, none⟩))]) (fun s wr => Blk wr g2 24 (BVc v n s.1 (0 + l.length + 1) s.2).toArray ∧ Blk wr g3 45 (⟨{ x.m with uid := n }, x.A, x.c⟩ : Mc).cells.toArray ∧ Blk wr g4 24 (BVc 0 0 none 0 0).toArray ∧ Own wr 45 6 s.1 (0 + l.length + 1) s.2 (MC (l ++ [⟨{ x.m with uid := n }, x.A, x.c⟩])) ∧ Frm [] w wr) ?_ ?_
          · skip
            refine VC.heldL 8 (fun W => Frm [] w8 W) (by kernel_rfl) ?_
            have hS : Frm [] w8 w8.drew := (Frm.refl _ _).drew
            refine HOps.take 1 rfl (by kernel_rfl) (by kernel_rfl) (by kernel_rfl) hS (fun w0 hw0 => Run.fieldAddr rfl Try.underlying24 rfl Try.sizeOf22 (by decide)) trivial rfl rfl ?_
            refine HOps.take 2 rfl (by kernel_rfl) (by kernel_rfl) (by kernel_rfl) hS (fun w0 hw0 => Run.load rfl Try.isAgg22 ((hb28.frm hw0 (by simp)).cell 2)) trivial rfl rfl ?_
            refine HOps.take 4 rfl (by kernel_rfl) (by kernel_rfl) (by kernel_rfl) hS (fun w0 hw0 => Run.loadA rfl Try.isAgg45 Try.sizeOf45 (fun j v hj => (hb38.frm hw0 (by simp)).cells j v hj) (by first | rfl | (simp; done))) trivial rfl rfl ?_
            refine HOps.or2 0 5 (by kernel_rfl) ?_ ?_
            · skip
              refine HOne.m rfl (Does.buildS0 Try.underlying22 Try.sizeOf45) trivial rfl rfl ?_
              rintro _ w9 ⟨rfl, hF9⟩
              have hgA := hS.size
              try have hlt33 := hr33.lt (by omega)
              try have hr33 := hr33.frm hF9.frm (by simp)
              have hS9 : Frm [] w8 w9 := hS.trans hF9.frm (by simp)
              refine ⟨hS9, ?_⟩
              have hS := hS9
              have hA : Own w9 45 6 (some ⟨_, 0, none⟩) 0 0 [] := Own.of_blk (n := 0) hF9.blk rfl (by decide)
              refine HOps.or2 3 5 (by kernel_rfl) ?_ ?_
              · skip
                refine HOne.m rfl (Does.app rfl rfl Try.underlying22 (info45) rfl (by decide) hA (hl8.frm hS).rd (flat_one Mc.cells Mc.cells_one _) (by omega) (by omega)) trivial rfl rfl ?_
                rintro _ w10 ⟨A10, c10, rfl, hown10, hf10, hob10⟩
                rw [List.nil_append] at hown10
                try have hr33 := hr33.frm hf10 (fun _ y hy hy2 => by simp only [ob, List.mem_singleton] at hy hy2; first | (have := hlt33 y (by simp [ob, hy]); omega) | (have := hltA y (by simp [ob, hy2]); omega))
                have hge10 : ∀ b ∈ ob A10, w8.heap.size ≤ b := up_app (by simp only [ob, List.mem_singleton, forall_eq]; exact hgA) hob10 hS.size
                have hS10 : Frm [] w8 w10 := hS.own hf10 (by simp only [ob, List.mem_singleton, forall_eq]; exact hgA)
                refine ⟨hS10, ?_⟩
                have hS := hS10
                have hA := hown10
                refine HOps.m 5 rfl (by kernel_rfl) (Does.buildS1 rfl Try.underlying22 Try.sizeOf45 zero45 (by decide) (by decide) rfl rfl) trivial rfl rfl ?_
                try have hltA := hA.lt
                rintro _ w11 ⟨rfl, hF11⟩
                try have hA := hA.frm hF11.frm (by simp)
                have hS11 := hS.trans hF11.frm (by simp)
                refine ⟨hS11, ?_⟩
                have hS := hS11
                have hr33 := hrdM (x := ⟨{ x.m with uid := n }, x.A, x.c⟩) hF11
                refine HOps.m 6 rfl (by kernel_rfl) (Does.app rfl rfl Try.underlying22 (info45) rfl (by decide) hA hr33 (flat_one Mc.cells Mc.cells_one _) (by omega) (by omega)) trivial rfl rfl ?_
                rintro _ w12 ⟨A12, c12, rfl, hown12, hf12, hob12⟩
                rw [← MC_append] at hown12
                have hS12 := hS.own hf12 hge10
                refine ⟨hS12, ?_⟩
                have hS := hS12
                refine HOps.r1 7 rfl (by kernel_rfl) hS (Run.fieldAddr rfl Try.underlying24 rfl Try.sizeOf22 (by decide)) trivial rfl rfl ?_
                refine HOps.stL rfl (by kernel_rfl) (Acts.store rfl rfl Try.sizeOf22 (hb28.frm hS (by simp)) rfl rfl) trivial rfl ?_
                rintro w13 ⟨hb13, hf13, hs13⟩
                have hb413 := (hb48.frm hS (by simp)).frm hf13 (by simp; omega)
                have hb313 := (hb38.frm hS (by simp)).frm hf13 (by simp; omega)
                have hown13 := hown12.frm hf13 (fun y hy => by have := hown12.ne_blk (hb28.frm hS (by simp)) (by decide); simp; rintro rfl; exact this hy)
                have hfr13 := (hfr8.trans hS (by simp)).own hf13 (fun y hy => by simp at hy; omega)
                have hb13 : Blk w13 g2 24 (BVc v n A12 (0 + l.length + 1) c12).toArray := hb13
                refine HOps.done (by kernel_rfl) ?_
                refine thenQ_n ⟨(A12, c12), (.cons rfl (.cons rfl (.cons rfl .nil))), ?_⟩
                exact ⟨hb13, hb313, hb413, hown13, hfr13⟩
              · skip
                refine HOne.m rfl (Does.buildS1 rfl Try.underlying22 Try.sizeOf45 zero45 (by decide) (by decide) rfl rfl) trivial rfl rfl ?_
                try have hltA := hA.lt
                rintro _ w11 ⟨rfl, hF11⟩
                try have hA := hA.frm hF11.frm (by simp)
                have hS11 := hS.trans hF11.frm (by simp)
                refine ⟨hS11, ?_⟩
                have hS := hS11
                have hr33 := hrdM (x := ⟨{ x.m with uid := n }, x.A, x.c⟩) hF11
                refine HOps.m 3 rfl (by kernel_rfl) (Does.app rfl rfl Try.underlying22 (info45) rfl (by decide) hA (hl8.frm hS).rd (flat_one Mc.cells Mc.cells_one _) (by omega) (by omega)) trivial rfl rfl ?_
                rintro _ w10 ⟨A10, c10, rfl, hown10, hf10, hob10⟩
                rw [List.nil_append] at hown10
                try have hr33 := hr33.frm hf10 (fun _ y hy hy2 => by simp only [ob, List.mem_singleton] at hy hy2; first | (have := hlt33 y (by simp [ob, hy]); omega) | (have := hltA y (by simp [ob, hy2]); omega))
                have hge10 : ∀ b ∈ ob A10, w8.heap.size ≤ b := up_app (by simp only [ob, List.mem_singleton, forall_eq]; exact hgA) hob10 hS.size
                have hS10 : Frm [] w8 w10 := hS.own hf10 (by simp only [ob, List.mem_singleton, forall_eq]; exact hgA)
                refine ⟨hS10, ?_⟩
                have hS := hS10
                have hA := hown10
                refine HOps.m 6 rfl (by kernel_rfl) (Does.app rfl rfl Try.underlying22 (info45) rfl (by decide) hA hr33 (flat_one Mc.cells Mc.cells_one _) (by omega) (by omega)) trivial rfl rfl ?_
                rintro _ w12 ⟨A12, c12, rfl, hown12, hf12, hob12⟩
                rw [← MC_append] at hown12
                have hS12 := hS.own hf12 hge10
                refine ⟨hS12, ?_⟩
                have hS := hS12
                refine HOps.r1 7 rfl (by kernel_rfl) hS (Run.fieldAddr rfl Try.underlying24 rfl Try.sizeOf22 (by decide)) trivial rfl rfl ?_
                refine HOps.stL rfl (by kernel_rfl) (Acts.store rfl rfl Try.sizeOf22 (hb28.frm hS (by simp)) rfl rfl) trivial rfl ?_
                rintro w13 ⟨hb13, hf13, hs13⟩
                have hb413 := (hb48.frm hS (by simp)).frm hf13 (by simp; omega)
                have hb313 := (hb38.frm hS (by simp)).frm hf13 (by simp; omega)
                have hown13 := hown12.frm hf13 (fun y hy => by have := hown12.ne_blk (hb28.frm hS (by simp)) (by decide); simp; rintro rfl; exact this hy)
                have hfr13 := (hfr8.trans hS (by simp)).own hf13 (fun y hy => by simp at hy; omega)
                have hb13 : Blk w13 g2 24 (BVc v n A12 (0 + l.length + 1) c12).toArray := hb13
                refine HOps.done (by kernel_rfl) ?_
                refine thenQ_n ⟨(A12, c12), (.cons rfl (.cons rfl (.cons rfl .nil))), ?_⟩
                exact ⟨hb13, hb313, hb413, hown13, hfr13⟩
            · skip
              refine HOne.m rfl (Does.buildS1 rfl Try.underlying22 Try.sizeOf45 zero45 (by decide) (by decide) rfl rfl) trivial rfl rfl ?_
              try have hltA := hA.lt
              rintro _ w11 ⟨rfl, hF11⟩
              try have hA := hA.frm hF11.frm (by simp)
              have hS11 := hS.trans hF11.frm (by simp)
              refine ⟨hS11, ?_⟩
              have hS := hS11
              have hr33 := hrdM (x := ⟨{ x.m with uid := n }, x.A, x.c⟩) hF11
              refine HOps.m 0 rfl (by kernel_rfl) (Does.buildS0 Try.underlying22 Try.sizeOf45) trivial rfl rfl ?_
              rintro _ w9 ⟨rfl, hF9⟩
              have hgA := hS.size
              try have hlt33 := hr33.lt (by omega)
              try have hr33 := hr33.frm hF9.frm (by simp)
              have hS9 : Frm [] w8 w9 := hS.trans hF9.frm (by simp)
              refine ⟨hS9, ?_⟩
              have hS := hS9
              have hA : Own w9 45 6 (some ⟨_, 0, none⟩) 0 0 [] := Own.of_blk (n := 0) hF9.blk rfl (by decide)
              refine HOps.m 3 rfl (by kernel_rfl) (Does.app rfl rfl Try.underlying22 (info45) rfl (by decide) hA (hl8.frm hS).rd (flat_one Mc.cells Mc.cells_one _) (by omega) (by omega)) trivial rfl rfl ?_
              rintro _ w10 ⟨A10, c10, rfl, hown10, hf10, hob10⟩
              rw [List.nil_append] at hown10
              try have hr33 := hr33.frm hf10 (fun _ y hy hy2 => by simp only [ob, List.mem_singleton] at hy hy2; first | (have := hlt33 y (by simp [ob, hy]); omega) | (have := hltA y (by simp [ob, hy2]); omega))
              have hge10 : ∀ b ∈ ob A10, w8.heap.size ≤ b := up_app (by simp only [ob, List.mem_singleton, forall_eq]; exact hgA) hob10 hS.size
              have hS10 : Frm [] w8 w10 := hS.own hf10 (by simp only [ob, List.mem_singleton, forall_eq]; exact hgA)
              refine ⟨hS10, ?_⟩
              have hS := hS10
              have hA := hown10
              refine HOps.m 6 rfl (by kernel_rfl) (Does.app rfl rfl Try.underlying22 (info45) rfl (by decide) hA hr33 (flat_one Mc.cells Mc.cells_one _) (by omega) (by omega)) trivial rfl rfl ?_
              rintro _ w12 ⟨A12, c12, rfl, hown12, hf12, hob12⟩
              rw [← MC_append] at hown12
              have hS12 := hS.own hf12 hge10
              refine ⟨hS12, ?_⟩
              have hS := hS12
              refine HOps.r1 7 rfl (by kernel_rfl) hS (Run.fieldAddr rfl Try.underlying24 rfl Try.sizeOf22 (by decide)) trivial rfl rfl ?_
              refine HOps.stL rfl (by kernel_rfl) (Acts.store rfl rfl Try.sizeOf22 (hb28.frm hS (by simp)) rfl rfl) trivial rfl ?_
              rintro w13 ⟨hb13, hf13, hs13⟩
              have hb413 := (hb48.frm hS (by simp)).frm hf13 (by simp; omega)
              have hb313 := (hb38.frm hS (by simp)).frm hf13 (by simp; omega)
              have hown13 := hown12.frm hf13 (fun y hy => by have := hown12.ne_blk (hb28.frm hS (by simp)) (by decide); simp; rintro rfl; exact this hy)
              have hfr13 := (hfr8.trans hS (by simp)).own hf13 (fun y hy => by simp at hy; omega)
              have hb13 : Blk w13 g2 24 (BVc v n A12 (0 + l.length + 1) c12).toArray := hb13
              refine HOps.done (by kernel_rfl) ?_
              refine thenQ_n ⟨(A12, c12), (.cons rfl (.cons rfl (.cons rfl .nil))), ?_⟩
              exact ⟨hb13, hb313, hb413, hown13, hfr13⟩
          · skip
            rintro ⟨A12, c12⟩ w13 ⟨hb13, hb313, hb413, hown13, hfr13⟩ Γ hΓ
            dsimp only at hb13 hown13
            refine thenQ_n (VC.sub _ hΓ ?_)
            refine VC.seq ?_
            refine VC.region ?_
            refine Ops.r (Run.fieldAddr rfl Try.underlying24 rfl Try.sizeOf3 (by decide)) rfl ?_
            refine Ops.r (Run.load rfl Try.isAgg3 (hb13.cell 1)) rfl ?_
            refine Ops.r (Run.bin rfl rfl (Bin.addZ _ 1 (by omega) (by omega))) rfl ?_
            refine Ops.r (Run.fieldAddr rfl Try.underlying24 rfl Try.sizeOf3 (by decide)) rfl ?_
            refine Ops.st (Acts.store rfl rfl Try.sizeOf3 hb13 rfl rfl) ?_
            rintro w14 ⟨hb14, hf14, hs14⟩
            have hb414 := hb413.frm hf14 (by simp; omega)
            have hb314 := hb313.frm hf14 (by simp; omega)
            have hown14 := hown13.frm hf14 (fun y hy => by have := hown13.ne_blk hb13 (by decide); simp; rintro rfl; exact this hy)
            have hfr14 := hfr13.own hf14 (fun y hy => by simp at hy; omega)
            have hb14 : Blk w14 g2 24 (BVc v (n + 1) A12 (0 + l.length + 1) c12).toArray := hb14
            refine Ops.nil ?_
            refine thenQ_n ?_
            refine VC.sub [(2, _), (3, _), (4, _)] (.cons rfl (.cons rfl (.cons rfl .nil))) ?_
            refine VC.seq ?_
            refine VC.held (fun W => Frm [g4] w14 W) (by kernel_rfl) ?_
            have hS : Frm [g4] w14 w14.drew := (Frm.refl _ _).drew
            refine HOps.take 0 rfl (by kernel_rfl) (by kernel_rfl) (by kernel_rfl) hS (fun w0 hw0 => Run.loadA rfl Try.isAgg24 Try.sizeOf24 (fun j v hj => (hb14.frm hw0 (by simp; omega)).cells j v hj) (by first | rfl | (simp; done))) trivial rfl rfl ?_
            refine HOps.take 1 rfl (by kernel_rfl) (by kernel_rfl) (by kernel_rfl) hS (fun w0 hw0 => Run.fieldAddr rfl Try.underlying45 rfl Try.sizeOf3 (by decide)) trivial rfl rfl ?_
            refine HOps.take 2 rfl (by kernel_rfl) (by kernel_rfl) (by kernel_rfl) hS (fun w0 hw0 => Run.load rfl Try.isAgg3 ((hb314.frm hw0 (by simp; omega)).cell 0)) trivial rfl rfl ?_
            refine HOps.st 3 rfl (by kernel_rfl) (Acts.storeA rfl rfl Try.sizeOf24 (hb414.drawn (Drawn.drew _)) rfl (BVc_one _ _ _ _ _)) trivial rfl ?_
            rintro w15 ⟨hb15, hf15, hs15⟩
            have hS15 : Frm [g4] w14 w15 := hS.trans hf15 (by simp)
            refine ⟨hS15, ?_⟩
            have hS := hS15
            have hown15 := (hown14.drawn (Drawn.drew _)).frm hf15 (fun y hy => by have := (hown14.drawn (Drawn.drew _)).ne_blk (hb414.drawn (Drawn.drew _)) (by decide); simp; rintro rfl; exact this hy)
            have hfr15 := (hfr14.drawn (Drawn.drew _)).own hf15 (fun y hy => by simp at hy; omega)
            refine HOps.take 4 rfl (by kernel_rfl) (by kernel_rfl) (by kernel_rfl) hS (fun w0 hw0 => Run.asg rfl) trivial rfl rfl ?_
            refine HOps.take (v := .int .i64 ((0 : Nat) : Int)) 5 rfl (by kernel_rfl) (by kernel_rfl) (by kernel_rfl) hS (fun w0 hw0 => Run.asg rfl) trivial rfl rfl ?_
            refine HOps.done (by kernel_rfl) ?_
            refine thenQ_n ?_
            refine VC.sub [(4, _), (5, _), (6, _)] (.cons rfl (.cons rfl (.cons rfl .nil))) ?_
            refine VC.ret ?_
            refine endR ?_
            refine res_cellA rfl Try.isAgg24 Try.sizeOf24 (fun j v hj => hb15.cells j v hj) (by first | rfl | (simp; done)) ?_
            refine res_tmp rfl ?_
            refine res_tmp rfl ?_
            refine res_nil ?_
            have hln : (l ++ [(⟨{ x.m with uid := n }, x.A, x.c⟩ : Mc)]).length = 0 + l.length + 1 := by rw [List.length_append, Nat.zero_add]; rfl
            refine ⟨hfr15, v, n + 1, A12, c12, l ++ [⟨{ x.m with uid := n }, x.A, x.c⟩], 0, by rw [hln]; rfl, ⟨by rw [hln]; exact hown15.rd, fun y hy => ?_⟩, .inl ⟨rfl, ?_⟩⟩
            · rcases List.mem_append.1 hy with h | h
              · exact (hl.frm hfr15).fl y h
              · simp only [List.mem_singleton] at h
                subst h
                exact ⟨(hx.frm hfr15 (by simp)).rd, hx.n, hx.q⟩
            · unfold appendB
              rw [if_neg hc1, if_neg (by simp [Ms]; omega), if_neg hc3]
              simp only [Ms, List.map_append, List.map_cons, List.map_nil]

end Go.Proofs.Ytmfglifjnoilnaa
