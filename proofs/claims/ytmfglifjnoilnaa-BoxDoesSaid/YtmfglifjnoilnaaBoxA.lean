/-
  The walk of box: a message laid behind the others.
-/
import Derived.Test.YtmfglifjnoilnaaBoxW
namespace Go.Proofs.Ytmfglifjnoilnaa
open Go.RowKit Go.Sort

set_option maxRecDepth 100000 in
theorem append_spec (v n : Int) (A : Option Addr) (c : Nat) (l : List Mc) (x : Mc) (w : World) (hl : RdM w A l) (hn : l.length ≤ 900000) (hx : x.At w) : Calls Try.prog 18 #[.agg #[.int .i64 v, .int .i64 n, .slice A l.length c], .agg x.cells.toArray] w fun e w' =>
    Frm [] w w' ∧ ∃ v' n' B d l' k, e = .returned (.tuple #[.agg #[.int .i64 v', .int .i64 n', .slice B l'.length d], .int .i64 (if k = 0 then n else 0), .int .i64 ((k : Nat) : Int)]) ∧ IsBx w' (appendB ⟨v, n, Ms l⟩ x.m) v' n' B d l' k ∧ OwM w' B d l' := by
  refine VC.calls (nt := 46) (res := #[.cell 4 24, .tmp 5, .tmp 6]) Try.func18 rfl Try.ntmps18 Try.results18 rfl ?_
  refine VC.seq ?_
  refine VC.region ?_
  refine Ops.m (Does.box rfl) rfl ?_
  rintro _ w1 ⟨rfl, hF2⟩
  have hb2 := hF2.blk
  have hf2 := hF2.frm
  generalize hg2 : w.heap.size = g2 at hb2
  have hs2 : w.heap.size ≤ g2 := by omega
  refine Ops.m (Does.box rfl) rfl ?_
  rintro _ w3 ⟨rfl, hF3⟩
  have hb3 := hF3.blk
  have hb23 := hb2.frm hF3.frm (by simp)
  have hf3 := hf2.trans hF3.frm (by simp)
  have hs3 : w.heap.size ≤ w1.heap.size := hf2.size
  have hn23 : g2 < w1.heap.size := hb2.lt
  generalize hg3 : w1.heap.size = g3 at hb3 hs3 hn23 ⊢
  refine Ops.m (Does.alloc zero24) rfl ?_
  rintro _ w4 ⟨rfl, hF4⟩
  have hb4 := hF4.blk
  have hb24 := hb23.frm hF4.frm (by simp)
  have hb34 := hb3.frm hF4.frm (by simp)
  have hf4 := hf3.trans hF4.frm (by simp)
  have hs4 : w.heap.size ≤ w3.heap.size := hf3.size
  have hn34 : g3 < w3.heap.size := hb3.lt
  generalize hg4 : w3.heap.size = g4 at hb4 hs4 hn34 ⊢
  refine Ops.r (v := .int .i64 ((0 : Nat) : Int)) (Run.asg rfl) rfl ?_
  refine Ops.r (v := .int .i64 ((0 : Nat) : Int)) (Run.asg rfl) rfl ?_
  refine Ops.nil ?_
  refine thenQ_n ?_
  refine VC.sub [(2, _), (3, _), (4, _)] (.cons rfl (.cons rfl (.cons rfl .nil))) ?_
  refine VC.seq ?_
  refine VC.block ?_
  refine VC.seq ?_
  refine VC.splitR [(2, .pointer (some ⟨g2, 0, none⟩)), (3, .pointer (some ⟨g3, 0, none⟩)), (4, .pointer (some ⟨g4, 0, none⟩))] (Frm [] w4) 7 (.bool (decide (¬ mayB ⟨v, n, Ms l⟩ ∨ ¬ MsgOk x.m))) ?_ ?_
  · refine VC.region ?_
    refine Ops.r (Run.loadA rfl Try.isAgg24 Try.sizeOf24 (fun j v hj => hb24.cells j v hj) (by first | rfl | (simp; done))) rfl ?_
    refine Ops.cl (Enters.fn (evs.cons rfl evs.nil) Try.call17) (may_spec v n A c l _ (hl.frm hf4)) rfl ?_
    rintro e w5 ⟨rfl, hf5⟩
    refine ⟨_, rfl, ?_⟩
    by_cases hs9 : mayB ⟨v, n, Ms l⟩
    · skip
      refine Ops.r (Run.not rfl) rfl ?_
      refine Ops.r (Run.mv rfl) rfl ?_
      refine Ops.rg rfl (by first | rfl | assumption | exact decide_eq_true (by assumption) | exact decide_eq_false (by assumption) | decide | (simp; done) | (simp; omega) | (simp [*]; done)) (Run.loadA rfl Try.isAgg45 Try.sizeOf45 (fun j v hj => (hb34.frm hf5 (by simp)).cells j v hj) (by first | rfl | (simp; done))) rfl ?_
      refine Ops.clg rfl (by first | rfl | assumption | exact decide_eq_true (by assumption) | exact decide_eq_false (by assumption) | decide | (simp; done) | (simp; omega) | (simp [*]; done)) (Enters.fn (evs.cons rfl evs.nil) Try.call36) (message_spec x _ (hx.frm (hf4.trans hf5 (by simp)) (by simp))) rfl ?_
      rintro e w6 ⟨rfl, hf6⟩
      refine ⟨_, rfl, ?_⟩
      by_cases hs13 : MsgOk x.m
      · skip
        refine Ops.rg rfl (by first | rfl | assumption | exact decide_eq_true (by assumption) | exact decide_eq_false (by assumption) | decide | (simp; done) | (simp; omega) | (simp [*]; done)) (Run.not rfl) rfl ?_
        refine Ops.r (Run.pickF rfl rfl (by first | rfl | assumption | exact decide_eq_true (by assumption) | exact decide_eq_false (by assumption) | decide | (simp; done) | (simp; omega) | (simp [*]; done))) rfl ?_
        refine Ops.r (Run.asg rfl) rfl ?_
        refine Ops.nil ?_
        refine thenQ_n ⟨(.cons (congrArg (fun b => some (Value.bool b)) (Eq.symm (by simp [*]))) (.cons rfl (.cons rfl (.cons rfl .nil)))), (by first | exact hf5.trans hf6 (by simp) | exact hf5)⟩
      · skip
        refine Ops.rg rfl (by first | rfl | assumption | exact decide_eq_true (by assumption) | exact decide_eq_false (by assumption) | decide | (simp; done) | (simp; omega) | (simp [*]; done)) (Run.not rfl) rfl ?_
        refine Ops.r (Run.pickF rfl rfl (by first | rfl | assumption | exact decide_eq_true (by assumption) | exact decide_eq_false (by assumption) | decide | (simp; done) | (simp; omega) | (simp [*]; done))) rfl ?_
        refine Ops.r (Run.asg rfl) rfl ?_
        refine Ops.nil ?_
        refine thenQ_n ⟨(.cons (congrArg (fun b => some (Value.bool b)) (Eq.symm (by simp [*]))) (.cons rfl (.cons rfl (.cons rfl .nil)))), (by first | exact hf5.trans hf6 (by simp) | exact hf5)⟩
    · skip
      refine Ops.r (Run.not rfl) rfl ?_
      refine Ops.r (Run.mv rfl) rfl ?_
      refine Ops.sk rfl (by first | rfl | assumption | exact decide_eq_true (by assumption) | exact decide_eq_false (by assumption) | decide | (simp; done) | (simp; omega) | (simp [*]; done)) rfl ?_
      refine Ops.sk rfl (by first | rfl | assumption | exact decide_eq_true (by assumption) | exact decide_eq_false (by assumption) | decide | (simp; done) | (simp; omega) | (simp [*]; done)) rfl ?_
      refine Ops.sk rfl (by first | rfl | assumption | exact decide_eq_true (by assumption) | exact decide_eq_false (by assumption) | decide | (simp; done) | (simp; omega) | (simp [*]; done)) rfl ?_
      refine Ops.r (Run.pickT rfl rfl (by first | rfl | assumption | exact decide_eq_true (by assumption) | exact decide_eq_false (by assumption) | decide | (simp; done) | (simp; omega) | (simp [*]; done))) rfl ?_
      refine Ops.r (Run.asg rfl) rfl ?_
      refine Ops.nil ?_
      refine thenQ_n ⟨(.cons (congrArg (fun b => some (Value.bool b)) (Eq.symm (by simp [*]))) (.cons rfl (.cons rfl (.cons rfl .nil)))), (by first | exact hf5.trans hf6 (by simp) | exact hf5)⟩
  · intro Γ w7 hΓ hf7
    refine thenQ_n (VC.sub _ hΓ ?_)
    refine VC.condD rfl (fun hc1 => ?_) (fun hc1 => ?_)
    · skip
      have hb47 := hb4.frm hf7 (by simp)
      have hfr7 := hf4.trans hf7 (by simp)
      refine VC.seq ?_
      refine VC.region ?_
      refine Ops.r (Run.build evs.nil zero24 (places24).choose_spec.1 (places24).choose_spec.2 rfl) rfl ?_
      refine Ops.st (Acts.storeA rfl rfl Try.sizeOf24 hb47 rfl (BVc_one 0 0 none 0 0)) ?_
      rintro w8 ⟨hbz, hfz, hsz⟩
      refine Ops.r (v := .int .i64 ((0 : Nat) : Int)) (Run.asg rfl) rfl ?_
      refine Ops.r (v := .int .i64 ((1 : Nat) : Int)) (Run.asg rfl) rfl ?_
      refine Ops.nil ?_
      refine thenQ_n ?_
      refine VC.sub [(4, _), (5, _), (6, _)] (.cons rfl (.cons rfl (.cons rfl .nil))) ?_
      refine VC.ret ?_
      refine blockQ_r (thenQ_r (endR ?_))
      refine res_cellA rfl Try.isAgg24 Try.sizeOf24 (fun j v hj => hbz.cells j v hj) (by first | rfl | (simp; done)) ?_
      refine res_tmp rfl ?_
      refine res_tmp rfl ?_
      refine res_nil ?_
      exact ⟨hfr7.own hfz (fun y hy => by simp at hy; omega), 0, 0, none, 0, [], 1, rfl, IsBx.err (by decide) (by unfold appendB; rw [if_pos hc1]), OwM.nil _⟩
    · skip
      have hb47 := hb4.frm hf7 (by simp)
      have hb27 := hb24.frm hf7 (by simp)
      have hb37 := hb34.frm hf7 (by simp)
      have hfr7 := hf4.trans hf7 (by simp)
      have hmay : mayB ⟨v, n, Ms l⟩ := Classical.not_not.1 fun h => hc1 (.inl h)
      have hl128 : l.length ≤ 128 := (may_at hmay).1.2.2.2.2
      have hnx := (may_at hmay).1
      refine VC.seq ?_
      refine VC.region ?_
      refine Ops.r (Run.fieldAddr rfl Try.underlying24 rfl Try.sizeOf22 (by decide)) rfl ?_
      refine Ops.r (Run.load rfl Try.isAgg22 (hb27.cell 2)) rfl ?_
      refine Ops.r (Run.lenS rfl Try.underlying22) rfl ?_
      refine Ops.r (Run.bin rfl rfl (Bin.eqlN _ 128)) rfl ?_
      refine Ops.r (Run.asg rfl) rfl ?_
      refine Ops.nil ?_
      refine thenQ_n ?_
      refine VC.sub [(2, _), (3, _), (4, _), (17, _)] (.cons rfl (.cons rfl (.cons rfl (.cons rfl .nil)))) ?_
      refine VC.condD rfl (fun hc2 => ?_) (fun hc2 => ?_)
      · skip
        refine VC.seq ?_
        refine VC.region ?_
        refine Ops.r (Run.build evs.nil zero24 (places24).choose_spec.1 (places24).choose_spec.2 rfl) rfl ?_
        refine Ops.st (Acts.storeA rfl rfl Try.sizeOf24 hb47 rfl (BVc_one 0 0 none 0 0)) ?_
        rintro w8 ⟨hbz, hfz, hsz⟩
        refine Ops.r (v := .int .i64 ((0 : Nat) : Int)) (Run.asg rfl) rfl ?_
        refine Ops.r (v := .int .i64 ((5 : Nat) : Int)) (Run.asg rfl) rfl ?_
        refine Ops.nil ?_
        refine thenQ_n ?_
        refine VC.sub [(4, _), (5, _), (6, _)] (.cons rfl (.cons rfl (.cons rfl .nil))) ?_
        refine VC.ret ?_
        refine blockQ_r (thenQ_r (endR ?_))
        refine res_cellA rfl Try.isAgg24 Try.sizeOf24 (fun j v hj => hbz.cells j v hj) (by first | rfl | (simp; done)) ?_
        refine res_tmp rfl ?_
        refine res_tmp rfl ?_
        refine res_nil ?_
        refine ⟨hfr7.own hfz (fun y hy => by simp at hy; omega), 0, 0, none, 0, [], 5, rfl, IsBx.err (by decide) ?_, OwM.nil _⟩
        unfold appendB
        rw [if_neg hc1, if_pos (by simp [Ms]; omega)]
      · skip
        refine VC.seq ?_
        refine VC.region ?_
        refine Ops.r (Run.fieldAddr rfl Try.underlying24 rfl Try.sizeOf3 (by decide)) rfl ?_
        refine Ops.r (Run.load rfl Try.isAgg3 (hb27.cell 1)) rfl ?_
        refine Ops.r (Run.bin rfl rfl (Bin.gtr _ 2147483647)) rfl ?_
        refine Ops.r (Run.asg rfl) rfl ?_
        refine Ops.nil ?_
        refine thenQ_n ?_
        refine VC.sub [(2, _), (3, _), (4, _), (23, _)] (.cons rfl (.cons rfl (.cons rfl (.cons rfl .nil)))) ?_
        refine VC.condD rfl (fun hc3 => ?_) (fun hc3 => ?_)
        · skip
          refine VC.seq ?_
          refine VC.region ?_
          refine Ops.r (Run.build evs.nil zero24 (places24).choose_spec.1 (places24).choose_spec.2 rfl) rfl ?_
          refine Ops.st (Acts.storeA rfl rfl Try.sizeOf24 hb47 rfl (BVc_one 0 0 none 0 0)) ?_
          rintro w8 ⟨hbz, hfz, hsz⟩
          refine Ops.r (v := .int .i64 ((0 : Nat) : Int)) (Run.asg rfl) rfl ?_
          refine Ops.r (v := .int .i64 ((19 : Nat) : Int)) (Run.asg rfl) rfl ?_
          refine Ops.nil ?_
          refine thenQ_n ?_
          refine VC.sub [(4, _), (5, _), (6, _)] (.cons rfl (.cons rfl (.cons rfl .nil))) ?_
          refine VC.ret ?_
          refine blockQ_r (thenQ_r (endR ?_))
          refine res_cellA rfl Try.isAgg24 Try.sizeOf24 (fun j v hj => hbz.cells j v hj) (by first | rfl | (simp; done)) ?_
          refine res_tmp rfl ?_
          refine res_tmp rfl ?_
          refine res_nil ?_
          refine ⟨hfr7.own hfz (fun y hy => by simp at hy; omega), 0, 0, none, 0, [], 19, rfl, IsBx.err (by decide) ?_, OwM.nil _⟩
          unfold appendB
          rw [if_neg hc1, if_neg (by simp [Ms]; omega), if_pos hc3]
        · skip
          refine VC.skip ?_
          refine blockQ_n (thenQ_n ?_)
          refine VC.sub [(2, _), (3, _), (4, _)] (.cons rfl (.cons rfl (.cons rfl .nil))) ?_
          refine VC.seq ?_
          refine VC.region ?_
          refine Ops.r (Run.fieldAddr rfl Try.underlying24 rfl Try.sizeOf3 (by decide)) rfl ?_
          refine Ops.r (Run.load rfl Try.isAgg3 (hb27.cell 1)) rfl ?_
          refine Ops.r (Run.fieldAddr rfl Try.underlying45 rfl Try.sizeOf3 (by decide)) rfl ?_
          refine Ops.st (Acts.store rfl rfl Try.sizeOf3 hb37 rfl rfl) ?_
          rintro w8 ⟨hb38, hf8, hs8⟩
          have hb38 : Blk w8 g3 45 (⟨{ x.m with uid := n }, x.A, x.c⟩ : Mc).cells.toArray := hb38
          have hb28 := hb27.frm hf8 (by simp; omega)
          have hb48 := hb47.frm hf8 (by simp; omega)
          have hfr8 := hfr7.own hf8 (fun y hy => by simp at hy; omega)
          have hx8 : (⟨{ x.m with uid := n }, x.A, x.c⟩ : Mc).At w8 := ⟨(hx.frm hfr8 (by simp)).rd, hx.n, hx.q⟩
          refine Ops.nil ?_
          refine thenQ_n ?_
          refine VC.sub [(2, _), (3, _), (4, _)] (.cons rfl (.cons rfl (.cons rfl .nil))) ?_
          refine VC.seq ?_
          refine VC.heldL 8 (fun W => Frm [] w8 W) (by kernel_rfl) ?_
          have hS : Frm [] w8 w8.drew := (Frm.refl _ _).drew
          refine HOps.take 0 rfl (by kernel_rfl) (by kernel_rfl) (by kernel_rfl) hS (fun w0 hw0 => Run.fieldAddr rfl Try.underlying24 rfl Try.sizeOf22 (by decide)) trivial rfl rfl ?_
          refine HOps.take 1 rfl (by kernel_rfl) (by kernel_rfl) (by kernel_rfl) hS (fun w0 hw0 => Run.load rfl Try.isAgg22 ((hb28.frm hw0 (by simp)).cell 2)) trivial rfl rfl ?_
          refine HOps.take 3 rfl (by kernel_rfl) (by kernel_rfl) (by kernel_rfl) hS (fun w0 hw0 => Run.loadA rfl Try.isAgg45 Try.sizeOf45 (fun j v hj => (hb38.frm hw0 (by simp)).cells j v hj) (by first | rfl | (simp; done))) trivial rfl rfl ?_
          refine HOps.cl 2 rfl (by kernel_rfl) (Enters.fn (evs.cons rfl evs.nil) Try.call30) (all_spec A c l _ (hl.frm (hfr8.trans hS (by simp))) (by omega)) trivial rfl rfl ?_
          rintro e w9 ⟨B, d, l', rfl, hM, hms, hge, hf9⟩
          have hll : l'.length = l.length := by have := congrArg List.length hms; simpa [Ms] using this
          have hS9 := hS.trans hf9 (by simp)
          refine ⟨_, rfl, hS9, ?_⟩
          have hS := hS9
          refine HOps.cl 4 rfl (by kernel_rfl) (Enters.fn (evs.cons rfl evs.nil) Try.call37) (own_spec ⟨{ x.m with uid := n }, x.A, x.c⟩ _ (hx8.frm hS (by simp))) trivial rfl rfl ?_
          rintro e w10 ⟨C, dc, rfl, hownC, hgeC, hf10⟩
          have hS10 := hS.trans hf10 (by simp)
          refine ⟨_, rfl, hS10, ?_⟩
          have hS := hS10
          have hM10 := hM.frm hf10
          refine HOps.m 5 rfl (by kernel_rfl) (Does.buildS1 rfl Try.underlying22 Try.sizeOf45 zero45 (by decide) (by decide) rfl rfl) trivial rfl rfl ?_
          rintro _ w11 ⟨rfl, hF11⟩
          have hS11 := hS.trans hF11.frm (by simp)
          refine ⟨hS11, ?_⟩
          have hS := hS11
          have hM11 := hM10.frm hF11.frm
          have hownC11 := hownC.frm hF11.frm (by simp)
          have hgB : ∀ b ∈ ob B, w8.heap.size ≤ b := fun b hb => Nat.le_trans (by exact (show Frm [] w8 w8.drew from (Frm.refl _ _).drew).size) (hge b hb)
          refine HOps.m 6 rfl (by kernel_rfl) (Does.app rfl rfl Try.underlying22 (info45) rfl (by decide) hM11.own (hrdM (x := ⟨{ x.m with uid := n }, C, dc⟩) hF11) (flat_one Mc.cells Mc.cells_one _) (by omega) (by omega)) trivial rfl rfl ?_
          rintro _ w12 ⟨A12, c12, rfl, hown12, hf12, hob12⟩
          rw [← MC_append] at hown12
          have hM12 := hM11.put (x := ⟨{ x.m with uid := n }, C, dc⟩) (by simpa using hown12) hf12 hownC11 ⟨hx.n, hx.q⟩
          have hS12 := hS.own hf12 hgB
          refine ⟨hS12, ?_⟩
          have hS := hS12
          refine HOps.r1 7 rfl (by kernel_rfl) hS (Run.fieldAddr rfl Try.underlying24 rfl Try.sizeOf22 (by decide)) trivial rfl rfl ?_
          refine HOps.stL rfl (by kernel_rfl) (Acts.store rfl rfl Try.sizeOf22 (hb28.frm hS (by simp)) rfl rfl) trivial rfl ?_
          rintro w13 ⟨hb13, hf13, hs13⟩
          have hb413 := (hb48.frm hS (by simp)).frm hf13 (by simp; omega)
          have hb313 := (hb38.frm hS (by simp)).frm hf13 (by simp; omega)
          have hM13 := hM12.blk hf13 (hb28.frm hS (by simp)) (by decide) (by decide)
          have hfr13 := (hfr8.trans hS (by simp)).own hf13 (fun y hy => by simp at hy; omega)
          have hb13 : Blk w13 g2 24 (BVc v n A12 (l'.length + 1) c12).toArray := hb13
          refine HOps.done (by kernel_rfl) ?_
          refine thenQ_n ?_
          refine VC.sub [(2, _), (3, _), (4, _)] (.cons rfl (.cons rfl (.cons rfl .nil))) ?_
          refine VC.seq ?_
          refine VC.region ?_
          refine Ops.r (Run.fieldAddr rfl Try.underlying24 rfl Try.sizeOf3 (by decide)) rfl ?_
          refine Ops.r (Run.load rfl Try.isAgg3 (hb13.cell 1)) rfl ?_
          refine Ops.r (Run.bin rfl rfl (Bin.addZ _ 1 (by omega) (by omega))) rfl ?_
          refine Ops.r (Run.fieldAddr rfl Try.underlying24 rfl Try.sizeOf3 (by decide)) rfl ?_
          refine Ops.st (Acts.store rfl rfl Try.sizeOf3 hb13 rfl rfl) ?_
          rintro w14 ⟨hb14, hf14, hs14⟩
          have hb414 := hb413.frm hf14 (by simp; omega)
          have hb314 := hb313.frm hf14 (by simp; omega)
          have hM14 := hM13.blk hf14 hb13 (by decide) (by decide)
          have hfr14 := hfr13.own hf14 (fun y hy => by simp at hy; omega)
          have hb14 : Blk w14 g2 24 (BVc v (n + 1) A12 (l'.length + 1) c12).toArray := hb14
          refine Ops.nil ?_
          refine thenQ_n ?_
          refine VC.sub [(2, _), (3, _), (4, _)] (.cons rfl (.cons rfl (.cons rfl .nil))) ?_
          refine VC.seq ?_
          refine VC.held (fun W => Frm [g4] w14 W) (by kernel_rfl) ?_
          have hS : Frm [g4] w14 w14.drew := (Frm.refl _ _).drew
          refine HOps.take 0 rfl (by kernel_rfl) (by kernel_rfl) (by kernel_rfl) hS (fun w0 hw0 => Run.loadA rfl Try.isAgg24 Try.sizeOf24 (fun j v hj => (hb14.frm hw0 (by simp; omega)).cells j v hj) (by first | rfl | (simp; done))) trivial rfl rfl ?_
          refine HOps.take 1 rfl (by kernel_rfl) (by kernel_rfl) (by kernel_rfl) hS (fun w0 hw0 => Run.fieldAddr rfl Try.underlying45 rfl Try.sizeOf3 (by decide)) trivial rfl rfl ?_
          refine HOps.take 2 rfl (by kernel_rfl) (by kernel_rfl) (by kernel_rfl) hS (fun w0 hw0 => Run.load rfl Try.isAgg3 ((hb314.frm hw0 (by simp; omega)).cell 0)) trivial rfl rfl ?_
          refine HOps.st 3 rfl (by kernel_rfl) (Acts.storeA rfl rfl Try.sizeOf24 (hb414.drawn (Drawn.drew _)) rfl (BVc_one _ _ _ _ _)) trivial rfl ?_
          rintro w15 ⟨hb15, hf15, hs15⟩
          have hS15 : Frm [g4] w14 w15 := hS.trans hf15 (by simp)
          refine ⟨hS15, ?_⟩
          have hS := hS15
          have hM15 := (hM14.frm (Drawn.drew _).frm).blk hf15 (hb414.drawn (Drawn.drew _)) (by decide) (by decide)
          have hfr15 := (hfr14.drawn (Drawn.drew _)).own hf15 (fun y hy => by simp at hy; omega)
          refine HOps.take 4 rfl (by kernel_rfl) (by kernel_rfl) (by kernel_rfl) hS (fun w0 hw0 => Run.asg rfl) trivial rfl rfl ?_
          refine HOps.take (v := .int .i64 ((0 : Nat) : Int)) 5 rfl (by kernel_rfl) (by kernel_rfl) (by kernel_rfl) hS (fun w0 hw0 => Run.asg rfl) trivial rfl rfl ?_
          refine HOps.done (by kernel_rfl) ?_
          refine thenQ_n ?_
          refine VC.sub [(4, _), (5, _), (6, _)] (.cons rfl (.cons rfl (.cons rfl .nil))) ?_
          refine VC.ret ?_
          refine endR ?_
          refine res_cellA rfl Try.isAgg24 Try.sizeOf24 (fun j v hj => hb15.cells j v hj) (by first | rfl | (simp; done)) ?_
          refine res_tmp rfl ?_
          refine res_tmp rfl ?_
          refine res_nil ?_
          refine ⟨hfr15, v, n + 1, A12, c12, l' ++ [⟨{ x.m with uid := n }, C, dc⟩], 0, by rw [List.length_append]; rfl, ⟨hM15.rdm, .inl ⟨rfl, ?_⟩⟩, hM15⟩
          unfold appendB
          rw [if_neg hc1, if_neg (by simp [Ms]; omega), if_neg hc3]
          simp only [Ms, List.map_append, List.map_cons, List.map_nil]
          rw [show l'.map Mc.m = l.map Mc.m from hms]

end Go.Proofs.Ytmfglifjnoilnaa
