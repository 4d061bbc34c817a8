/-
  BoxM, BoxS, BoxE, BoxC, BoxI in one text.
-/
import Derived.Test.YtmfglifjnoilnaaBoxXA
/-
  The walks of box: which are marked, which are without a flag, their numbers.
-/
namespace Go.Proofs.Ytmfglifjnoilnaa
open Go.RowKit Go.Sort

/-- Numbers that came back. -/
def IsI (w0 w' : World) (e : Ending) (r : List Int) : Prop := ∃ C d, e = .returned (.slice C r.length d) ∧ Own w' 3 1 C r.length d (IB r) ∧ ∀ b ∈ ob C, w0.heap.size ≤ b
theorem hrdI {w w' : World} {t : TypeId} {z : Int} (h : Fresh w w' t #[.int .i64 z]) : Rd w' 1 (some ⟨w.heap.size, 0, none⟩) 1 (IB [z]) := Rd.of_blk (n := 1) (size := 1) h.blk rfl
theorem IB_append (a b : List Int) : IB (a ++ b) = IB a ++ IB b := by simp [IB]
/-- The places that a test names, of a box that may be. -/
def namedB (q : MsgP → Bool) (b : BoxV) : List Int := if mayB b then (marksQ q 0 b.l).map fun x : Nat => (x : Int) else []
def nidsB (b : BoxV) : List Int := if mayB b then b.l.map MsgP.uid else []
/-- What the loops have: the places of the first ones. -/
def nmI (q : MsgP → Bool) (l : List Mc) (i : Nat) : List Int := (marksQ q 0 (Ms (l.take i))).map fun x : Nat => (x : Int)
theorem nmI_succ (q : MsgP → Bool) {l : List Mc} {i : Nat} (h : i < l.length) : nmI q l (i + 1) = nmI q l i ++ if q (l[i]).m = true then [((i + 1 : Nat) : Int)] else [] := by
  unfold nmI
  rw [Ms_take h, marksQ_snoc, List.map_append]
  have e : (Ms (l.take i)).length = i := by simp [Ms]; omega
  rw [e, Nat.zero_add]
  split <;> rfl
theorem nmI_len (q : MsgP → Bool) (l : List Mc) (i : Nat) : (nmI q l i).length ≤ l.length := by
  unfold nmI
  have := marksQ_len q (Ms (l.take i)) 0
  simp only [List.length_map] at *
  rw [List.length_take] at this
  omega

set_option maxRecDepth 100000 in
theorem marked_spec (v n : Int) (A : Option Addr) (c : Nat) (l : List Mc) (every : Bool) (O : Option Addr) (co : Nat) (only : List Int) (w : World) (hl : RdM w A l) (ho : Rd w 1 O only.length (IB only)) (hon : only.length ≤ 1000000) :
    Calls Try.prog 10 #[.agg #[.int .i64 v, .int .i64 n, .slice A l.length c], .bool every, .slice O only.length co] w fun e w' => Frm [] w w' ∧ IsI w w' e (namedB (goesQ every only) ⟨v, n, Ms l⟩) := by
  refine VC.calls (nt := 32) (res := #[.tmp 6]) Try.func10 rfl Try.ntmps10 Try.results10 rfl ?_
  refine VC.seq ?_
  refine VC.region ?_
  refine Ops.m (Does.box rfl) rfl ?_
  rintro _ w1 ⟨rfl, hF1⟩
  have hb1 := hF1.blk
  have hf1 := hF1.frm
  generalize hg1 : w.heap.size = g1 at *
  refine Ops.r (Run.asg rfl) rfl ?_
  refine Ops.nil ?_
  refine thenQ_n ?_
  refine VC.sub [(1, _), (2, _), (3, _)] (.cons rfl (.cons rfl (.cons rfl .nil))) ?_
  refine VC.seq ?_
  refine VC.seq ?_
  refine VC.region ?_
  refine Ops.r (Run.loadA rfl Try.isAgg24 Try.sizeOf24 (fun j v hj => hb1.cells j v hj) (by first | rfl | (simp; done))) rfl ?_
  refine Ops.cl (Enters.fn (evs.cons rfl evs.nil) Try.call17) (may_spec v n A c l _ (hl.frm hf1)) rfl ?_
  rintro e w2 ⟨rfl, hf2⟩
  refine ⟨_, rfl, ?_⟩
  have hb12 := hb1.frm hf2 (by simp)
  have hfr0 := hf1.trans hf2 (by simp)
  refine Ops.r (Run.not rfl) rfl ?_
  refine Ops.nil ?_
  refine thenQ_n ?_
  refine VC.sub [(1, _), (2, _), (3, _), (12, _)] (.cons rfl (.cons rfl (.cons rfl (.cons rfl .nil)))) ?_
  refine VC.condB rfl (fun hc1 => ?_) (fun hc1 => ?_)
  · skip
    have hm : ¬ mayB ⟨v, n, Ms l⟩ := by simpa using hc1
    refine VC.seq ?_
    refine VC.region ?_
    refine Ops.r (Run.asg rfl) rfl ?_
    refine Ops.nil ?_
    refine thenQ_n ?_
    refine VC.sub [(6, _)] (.cons rfl .nil) ?_
    refine VC.ret ?_
    refine thenQ_r (end1 rfl ?_)
    refine ⟨hfr0, none, 0, ?_, ?_, by simp [ob]⟩
    · unfold namedB; rw [if_neg hm]; rfl
    · unfold namedB; rw [if_neg hm]; exact Own.nil _ _ _
  · skip
    have hm : mayB ⟨v, n, Ms l⟩ := by simpa using hc1
    have hl128 := (may_at hm).1.2.2.2.2
    generalize hq : goesQ every only = q at *
    refine VC.skip ?_
    refine thenQ_n ?_
    refine VC.sub [(1, _), (2, _), (3, _)] (.cons rfl (.cons rfl (.cons rfl .nil))) ?_
    refine VC.seq ?_
    refine VC.region ?_
    refine Ops.r (Run.asg rfl) rfl ?_
    refine Ops.nil ?_
    refine thenQ_n ?_
    refine VC.seq ?_
    refine VC.seq ?_
    refine VC.region ?_
    refine Ops.r (Run.fieldAddr rfl Try.underlying24 rfl Try.sizeOf22 (by decide)) rfl ?_
    refine Ops.r (Run.load rfl Try.isAgg22 (hb12.cell 2)) rfl ?_
    refine Ops.r (Run.lenS rfl Try.underlying22) rfl ?_
    refine Ops.r (v := .int .i64 ((0 : Nat) : Int)) (Run.mv rfl) rfl ?_
    refine Ops.nil ?_
    refine thenQ_n ?_
    refine VC.sub [(1, _), (2, _), (7, _), (14, _), (15, _), (16, _)] (.cons rfl (.cons rfl (.cons rfl (.cons rfl (.cons rfl (.cons rfl .nil)))))) ?_
    refine VC.block ?_
    refine VC.loop (σ := Nat × Option Addr × Nat) (fun s => [(1, .bool every), (2, .slice O only.length co), (7, .slice s.2.1 (nmI q l s.1).length s.2.2), (14, .slice A l.length c), (15, .int .i64 ((l.length : Nat) : Int)), (16, .int .i64 ((s.1 : Nat) : Int))]) (fun s wr => s.1 ≤ l.length ∧ Own wr 3 1 s.2.1 (nmI q l s.1).length s.2.2 (IB (nmI q l s.1)) ∧ (∀ b ∈ ob s.2.1, w.heap.size ≤ b) ∧ Frm [] w wr) (fun s => l.length - s.1) (0, none, 0) (.cons rfl (.cons rfl (.cons rfl (.cons rfl (.cons rfl (.cons rfl .nil)))))) ⟨by omega, Own.nil _ _ _, by simp [ob], hfr0⟩ ?_
    rintro ⟨i, C, d⟩ wr ⟨hi, hown, hge, hfr⟩
    dsimp only at hi hown hge ⊢
    have hnl := nmI_len q l i
    refine VC.seq ?_
    refine VC.region ?_
    refine Ops.r (Run.bin rfl rfl (Bin.lssN _ _)) rfl ?_
    refine Ops.nil ?_
    refine thenQ_n ?_
    refine VC.seq ?_
    refine VC.condD rfl (fun hc2 => ?_) (fun hc2 => ?_)
    · skip
      obtain ⟨ad, rfl, hcell⟩ := (hl.frm hfr).elem hc2
      have hxa := (hl.frm hfr).fl (l[i]) (List.getElem_mem hc2)
      have hsx := nmI_succ q hc2
      generalize hx : l[i] = x at *
      refine VC.skip ?_
      refine thenQ_n ?_
      refine VC.sub [(1, _), (2, _), (7, _), (14, _), (15, _), (16, _)] (.cons rfl (.cons rfl (.cons rfl (.cons rfl (.cons rfl (.cons rfl .nil)))))) ?_
      refine VC.seq ?_
      refine VC.block ?_
      refine VC.seq ?_
      refine VC.region ?_
      refine Ops.r (Run.mv rfl) rfl ?_
      refine Ops.r (Run.indexS i rfl rfl Try.underlying22 Try.sizeOf45 hc2) rfl ?_
      refine Ops.r (Run.loadA rfl Try.isAgg45 Try.sizeOf45 hcell (by first | rfl | (simp; done))) rfl ?_
      refine Ops.m (Does.alloc zero45) rfl ?_
      rintro _ w2 ⟨rfl, hF2⟩
      have hb2 := hF2.blk
      have hf2 := hF2.frm
      have hsz2 : wr.heap.size ≤ wr.heap.size := Nat.le_refl _
      have hfs := hfr.size
      generalize hg2 : wr.heap.size = g2 at hb2 hsz2 hfs ⊢
      refine Ops.r (Run.asg rfl) rfl ?_
      refine Ops.st (Acts.storeA rfl rfl Try.sizeOf45 hb2 rfl x.cells_one) ?_
      rintro w3 ⟨hb3, hf3, hs3⟩
      have hfr3 : Frm [] wr w3 := hf2.own hf3 (fun y hy => by simp at hy; omega)
      refine Ops.nil ?_
      refine thenQ_n ?_
      refine VC.sub [(1, _), (2, _), (7, _), (8, _), (9, _), (14, _), (15, _), (16, _)] (.cons rfl (.cons rfl (.cons rfl (.cons rfl (.cons rfl (.cons rfl (.cons rfl (.cons rfl .nil)))))))) ?_
      refine VC.seq ?_
      refine VC.region ?_
      refine Ops.r (Run.loadA rfl Try.isAgg45 Try.sizeOf45 (fun j v hj => hb3.cells j v hj) (by first | rfl | (simp; done))) rfl ?_
      refine Ops.r (Run.mv rfl) rfl ?_
      refine Ops.r (Run.mv rfl) rfl ?_
      refine Ops.cl (Enters.fn (evs.cons rfl (evs.cons rfl (evs.cons rfl evs.nil))) Try.call32) (goes_spec x every O co only _ (hxa.frm hfr3 (by simp)) (ho.frm (hfr.trans hfr3 (by simp)) (by simp)) hon) rfl ?_
      rintro e w4 ⟨rfl, hf4⟩
      refine ⟨_, rfl, ?_⟩
      have hqx : q x.m = decide (goesB every only x.m) := by rw [← hq]; rfl
      have hown := hown
      refine Ops.nil ?_
      refine thenQ_n ?_
      refine VC.sub [(1, _), (2, _), (7, _), (8, _), (14, _), (15, _), (16, _), (24, _)] (.cons rfl (.cons rfl (.cons rfl (.cons rfl (.cons rfl (.cons rfl (.cons rfl (.cons rfl .nil)))))))) ?_
      refine VC.condB rfl (fun hc3 => ?_) (fun hc3 => ?_)
      · skip
        refine VC.region ?_
        refine Ops.r (Run.mv rfl) rfl ?_
        refine Ops.r (Run.mv rfl) rfl ?_
        refine Ops.r (Run.bin rfl rfl (Bin.add_i64 _ 1 (by omega))) rfl ?_
        refine Ops.m (Does.buildS1 rfl Try.underlying25 Try.sizeOf3 zero3 (by decide) (by decide) rfl rfl) rfl ?_
        rintro _ w5 ⟨rfl, hF5⟩
        have hfr5 := (hfr3.trans hf4 (by simp)).trans hF5.frm (by simp)
        have hown5 := hown.frm hfr5 (by simp)
        refine Ops.m (Does.app rfl rfl Try.underlying25 (info3) rfl (by decide) hown5 (hrdI hF5) (IB_one _) (by omega) (by omega)) rfl ?_
        rintro _ w6 ⟨A6, c6, rfl, hown6, hf6, hob6⟩
        rw [← IB_append] at hown6
        have hge6 := up_app hge hob6 (Nat.le_trans hfr.size hfr5.size)
        have hfr6 := (hfr.trans hfr5 (by simp)).own hf6 hge
        refine Ops.r (Run.asg rfl) rfl ?_
        refine Ops.nil ?_
        refine blockQ_n (thenQ_n ?_)
        refine VC.sub [(1, _), (2, _), (7, _), (14, _), (15, _), (16, _)] (.cons rfl (.cons rfl (.cons rfl (.cons rfl (.cons rfl (.cons rfl .nil)))))) ?_
        refine VC.region ?_
        refine Ops.r (Run.bin rfl rfl (Bin.add_i64 _ 1 (by omega))) rfl ?_
        refine Ops.r (Run.mv rfl) rfl ?_
        refine Ops.nil ?_
        refine thenQ_n ⟨(i + 1, A6, c6), (.cons rfl (.cons rfl (.cons (by rw [hsx, hqx, if_pos hc3, List.length_append]; rfl) (.cons rfl (.cons rfl (.cons rfl .nil)))))), ?_, ?_⟩
        · skip
          refine ⟨hc2, ?_, hge6, hfr6⟩
          rw [hsx, hqx, if_pos hc3, List.length_append]
          exact hown6
        · skip
          first | omega | (dsimp only; omega)
      · skip
        refine VC.skip ?_
        refine blockQ_n (thenQ_n ?_)
        refine VC.sub [(1, _), (2, _), (7, _), (14, _), (15, _), (16, _)] (.cons rfl (.cons rfl (.cons rfl (.cons rfl (.cons rfl (.cons rfl .nil)))))) ?_
        refine VC.region ?_
        refine Ops.r (Run.bin rfl rfl (Bin.add_i64 _ 1 (by omega))) rfl ?_
        refine Ops.r (Run.mv rfl) rfl ?_
        refine Ops.nil ?_
        refine thenQ_n ⟨(i + 1, C, d), (.cons rfl (.cons rfl (.cons (by rw [hsx, hqx, if_neg (by rw [hc3]; decide), List.append_nil]; rfl) (.cons rfl (.cons rfl (.cons rfl .nil)))))), ?_, ?_⟩
        · skip
          have hfr4 := hfr3.trans hf4 (by simp)
          refine ⟨hc2, ?_, hge, hfr.trans hfr4 (by simp)⟩
          rw [hsx, hqx, if_neg (by rw [hc3]; decide), List.append_nil]
          exact hown.frm hfr4 (by simp)
        · skip
          first | omega | (dsimp only; omega)
    · skip
      refine VC.exit ?_
      refine thenQ_x (thenQ_x (blockQ_x ?_))
      refine thenQ_n ?_
      refine VC.sub [(7, _)] (.cons rfl .nil) ?_
      refine VC.seq ?_
      refine VC.region ?_
      refine Ops.r (Run.mv rfl) rfl ?_
      refine Ops.r (Run.asg rfl) rfl ?_
      refine Ops.nil ?_
      refine thenQ_n ?_
      refine VC.sub [(6, _)] (.cons rfl .nil) ?_
      refine VC.ret ?_
      refine end1 rfl ?_
      have hil : i = l.length := by omega
      subst hil
      have e : nmI q l l.length = namedB q ⟨v, n, Ms l⟩ := by unfold namedB nmI; rw [if_pos hm, List.take_length]
      rw [← e]
      exact ⟨hfr, C, d, rfl, hown, hge⟩

set_option maxRecDepth 100000 in
theorem without_spec (v n : Int) (A : Option Addr) (c : Nat) (l : List Mc) (sx : Tx) (w : World) (hl : RdM w A l) (hs : sx.length ≤ 1000000) :
    Calls Try.prog 28 #[.agg #[.int .i64 v, .int .i64 n, .slice A l.length c], encStr sx] w fun e w' => Frm [] w w' ∧ IsI w w' e (namedB (fun m => !decide (hasF m.flags sx)) ⟨v, n, Ms l⟩) := by
  refine VC.calls (nt := 31) (res := #[.tmp 4]) Try.func28 rfl Try.ntmps28 Try.results28 rfl ?_
  refine VC.seq ?_
  refine VC.region ?_
  refine Ops.m (Does.box rfl) rfl ?_
  rintro _ w1 ⟨rfl, hF1⟩
  have hb1 := hF1.blk
  have hf1 := hF1.frm
  generalize hg1 : w.heap.size = g1 at *
  refine Ops.r (Run.asg rfl) rfl ?_
  refine Ops.nil ?_
  refine thenQ_n ?_
  refine VC.sub [(1, _), (2, _)] (.cons rfl (.cons rfl .nil)) ?_
  refine VC.seq ?_
  refine VC.seq ?_
  refine VC.region ?_
  refine Ops.r (Run.loadA rfl Try.isAgg24 Try.sizeOf24 (fun j v hj => hb1.cells j v hj) (by first | rfl | (simp; done))) rfl ?_
  refine Ops.cl (Enters.fn (evs.cons rfl evs.nil) Try.call17) (may_spec v n A c l _ (hl.frm hf1)) rfl ?_
  rintro e w2 ⟨rfl, hf2⟩
  refine ⟨_, rfl, ?_⟩
  have hb12 := hb1.frm hf2 (by simp)
  have hfr0 := hf1.trans hf2 (by simp)
  refine Ops.r (Run.not rfl) rfl ?_
  refine Ops.nil ?_
  refine thenQ_n ?_
  refine VC.sub [(1, _), (2, _), (10, _)] (.cons rfl (.cons rfl (.cons rfl .nil))) ?_
  refine VC.condB rfl (fun hc1 => ?_) (fun hc1 => ?_)
  · skip
    have hm : ¬ mayB ⟨v, n, Ms l⟩ := by simpa using hc1
    refine VC.seq ?_
    refine VC.region ?_
    refine Ops.r (Run.asg rfl) rfl ?_
    refine Ops.nil ?_
    refine thenQ_n ?_
    refine VC.sub [(4, _)] (.cons rfl .nil) ?_
    refine VC.ret ?_
    refine thenQ_r (end1 rfl ?_)
    refine ⟨hfr0, none, 0, ?_, ?_, by simp [ob]⟩
    · unfold namedB; rw [if_neg hm]; rfl
    · unfold namedB; rw [if_neg hm]; exact Own.nil _ _ _
  · skip
    have hm : mayB ⟨v, n, Ms l⟩ := by simpa using hc1
    have hl128 := (may_at hm).1.2.2.2.2
    generalize hq : (fun m : MsgP => !decide (hasF m.flags sx)) = q at *
    refine VC.skip ?_
    refine thenQ_n ?_
    refine VC.sub [(1, _), (2, _)] (.cons rfl (.cons rfl .nil)) ?_
    refine VC.seq ?_
    refine VC.region ?_
    refine Ops.r (Run.asg rfl) rfl ?_
    refine Ops.nil ?_
    refine thenQ_n ?_
    refine VC.seq ?_
    refine VC.seq ?_
    refine VC.region ?_
    refine Ops.r (Run.fieldAddr rfl Try.underlying24 rfl Try.sizeOf22 (by decide)) rfl ?_
    refine Ops.r (Run.load rfl Try.isAgg22 (hb12.cell 2)) rfl ?_
    refine Ops.r (Run.lenS rfl Try.underlying22) rfl ?_
    refine Ops.r (v := .int .i64 ((0 : Nat) : Int)) (Run.mv rfl) rfl ?_
    refine Ops.nil ?_
    refine thenQ_n ?_
    refine VC.sub [(1, _), (5, _), (12, _), (13, _), (14, _)] (.cons rfl (.cons rfl (.cons rfl (.cons rfl (.cons rfl .nil))))) ?_
    refine VC.block ?_
    refine VC.loop (σ := Nat × Option Addr × Nat) (fun s => [(1, encStr sx), (5, .slice s.2.1 (nmI q l s.1).length s.2.2), (12, .slice A l.length c), (13, .int .i64 ((l.length : Nat) : Int)), (14, .int .i64 ((s.1 : Nat) : Int))]) (fun s wr => s.1 ≤ l.length ∧ Own wr 3 1 s.2.1 (nmI q l s.1).length s.2.2 (IB (nmI q l s.1)) ∧ (∀ b ∈ ob s.2.1, w.heap.size ≤ b) ∧ Frm [] w wr) (fun s => l.length - s.1) (0, none, 0) (.cons rfl (.cons rfl (.cons rfl (.cons rfl (.cons rfl .nil))))) ⟨by omega, Own.nil _ _ _, by simp [ob], hfr0⟩ ?_
    rintro ⟨i, C, d⟩ wr ⟨hi, hown, hge, hfr⟩
    dsimp only at hi hown hge ⊢
    have hnl := nmI_len q l i
    refine VC.seq ?_
    refine VC.region ?_
    refine Ops.r (Run.bin rfl rfl (Bin.lssN _ _)) rfl ?_
    refine Ops.nil ?_
    refine thenQ_n ?_
    refine VC.seq ?_
    refine VC.condD rfl (fun hc2 => ?_) (fun hc2 => ?_)
    · skip
      obtain ⟨ad, rfl, hcell⟩ := (hl.frm hfr).elem hc2
      have hxa := (hl.frm hfr).fl (l[i]) (List.getElem_mem hc2)
      have hsx := nmI_succ q hc2
      generalize hx : l[i] = x at *
      refine VC.skip ?_
      refine thenQ_n ?_
      refine VC.sub [(1, _), (5, _), (12, _), (13, _), (14, _)] (.cons rfl (.cons rfl (.cons rfl (.cons rfl (.cons rfl .nil))))) ?_
      refine VC.seq ?_
      refine VC.block ?_
      refine VC.seq ?_
      refine VC.region ?_
      refine Ops.r (Run.mv rfl) rfl ?_
      refine Ops.r (Run.indexS i rfl rfl Try.underlying22 Try.sizeOf45 hc2) rfl ?_
      refine Ops.r (Run.loadA rfl Try.isAgg45 Try.sizeOf45 hcell (by first | rfl | (simp; done))) rfl ?_
      refine Ops.m (Does.alloc zero45) rfl ?_
      rintro _ w2 ⟨rfl, hF2⟩
      have hb2 := hF2.blk
      have hf2 := hF2.frm
      have hsz2 : wr.heap.size ≤ wr.heap.size := Nat.le_refl _
      have hfs := hfr.size
      generalize hg2 : wr.heap.size = g2 at hb2 hsz2 hfs ⊢
      refine Ops.r (Run.asg rfl) rfl ?_
      refine Ops.st (Acts.storeA rfl rfl Try.sizeOf45 hb2 rfl x.cells_one) ?_
      rintro w3 ⟨hb3, hf3, hs3⟩
      have hfr3 : Frm [] wr w3 := hf2.own hf3 (fun y hy => by simp at hy; omega)
      refine Ops.nil ?_
      refine thenQ_n ?_
      refine VC.sub [(1, _), (5, _), (6, _), (7, _), (12, _), (13, _), (14, _)] (.cons rfl (.cons rfl (.cons rfl (.cons rfl (.cons rfl (.cons rfl (.cons rfl .nil))))))) ?_
      refine VC.seq ?_
      refine VC.region ?_
      refine Ops.r (Run.fieldAddr rfl Try.underlying45 rfl Try.sizeOf43 (by decide)) rfl ?_
      refine Ops.r (Run.load rfl Try.isAgg43 (hb3.cell 5)) rfl ?_
      refine Ops.r (Run.mv rfl) rfl ?_
      refine Ops.cl (Enters.fn (evs.cons rfl (evs.cons rfl evs.nil)) Try.call45) (fhas_spec x.A x.c x.m.flags sx _ (by have := hxa.n; omega) hs (hxa.frm hfr3 (by simp)).rd) rfl ?_
      rintro e w4 ⟨rfl, hf4⟩
      refine ⟨_, rfl, ?_⟩
      have hqx : q x.m = !decide (hasF x.m.flags sx) := by rw [← hq]
      refine Ops.r (Run.not rfl) rfl ?_
      refine Ops.nil ?_
      refine thenQ_n ?_
      refine VC.sub [(1, _), (5, _), (6, _), (12, _), (13, _), (14, _), (23, _)] (.cons rfl (.cons rfl (.cons rfl (.cons rfl (.cons rfl (.cons rfl (.cons rfl .nil))))))) ?_
      refine VC.condB rfl (fun hc3 => ?_) (fun hc3 => ?_)
      · skip
        refine VC.region ?_
        refine Ops.r (Run.mv rfl) rfl ?_
        refine Ops.r (Run.mv rfl) rfl ?_
        refine Ops.r (Run.bin rfl rfl (Bin.add_i64 _ 1 (by omega))) rfl ?_
        refine Ops.m (Does.buildS1 rfl Try.underlying25 Try.sizeOf3 zero3 (by decide) (by decide) rfl rfl) rfl ?_
        rintro _ w5 ⟨rfl, hF5⟩
        have hfr5 := (hfr3.trans hf4 (by simp)).trans hF5.frm (by simp)
        have hown5 := hown.frm hfr5 (by simp)
        refine Ops.m (Does.app rfl rfl Try.underlying25 (info3) rfl (by decide) hown5 (hrdI hF5) (IB_one _) (by omega) (by omega)) rfl ?_
        rintro _ w6 ⟨A6, c6, rfl, hown6, hf6, hob6⟩
        rw [← IB_append] at hown6
        have hge6 := up_app hge hob6 (Nat.le_trans hfr.size hfr5.size)
        have hfr6 := (hfr.trans hfr5 (by simp)).own hf6 hge
        refine Ops.r (Run.asg rfl) rfl ?_
        refine Ops.nil ?_
        refine blockQ_n (thenQ_n ?_)
        refine VC.sub [(1, _), (5, _), (12, _), (13, _), (14, _)] (.cons rfl (.cons rfl (.cons rfl (.cons rfl (.cons rfl .nil))))) ?_
        refine VC.region ?_
        refine Ops.r (Run.bin rfl rfl (Bin.add_i64 _ 1 (by omega))) rfl ?_
        refine Ops.r (Run.mv rfl) rfl ?_
        refine Ops.nil ?_
        refine thenQ_n ⟨(i + 1, A6, c6), (.cons rfl (.cons (by rw [hsx, hqx, if_pos hc3, List.length_append]; rfl) (.cons rfl (.cons rfl (.cons rfl .nil))))), ?_, ?_⟩
        · skip
          refine ⟨hc2, ?_, hge6, hfr6⟩
          rw [hsx, hqx, if_pos hc3, List.length_append]
          exact hown6
        · skip
          first | omega | (dsimp only; omega)
      · skip
        refine VC.skip ?_
        refine blockQ_n (thenQ_n ?_)
        refine VC.sub [(1, _), (5, _), (12, _), (13, _), (14, _)] (.cons rfl (.cons rfl (.cons rfl (.cons rfl (.cons rfl .nil))))) ?_
        refine VC.region ?_
        refine Ops.r (Run.bin rfl rfl (Bin.add_i64 _ 1 (by omega))) rfl ?_
        refine Ops.r (Run.mv rfl) rfl ?_
        refine Ops.nil ?_
        refine thenQ_n ⟨(i + 1, C, d), (.cons rfl (.cons (by rw [hsx, hqx, if_neg (by rw [hc3]; decide), List.append_nil]; rfl) (.cons rfl (.cons rfl (.cons rfl .nil))))), ?_, ?_⟩
        · skip
          have hfr4 := hfr3.trans hf4 (by simp)
          refine ⟨hc2, ?_, hge, hfr.trans hfr4 (by simp)⟩
          rw [hsx, hqx, if_neg (by rw [hc3]; decide), List.append_nil]
          exact hown.frm hfr4 (by simp)
        · skip
          first | omega | (dsimp only; omega)
    · skip
      refine VC.exit ?_
      refine thenQ_x (thenQ_x (blockQ_x ?_))
      refine thenQ_n ?_
      refine VC.sub [(5, _)] (.cons rfl .nil) ?_
      refine VC.seq ?_
      refine VC.region ?_
      refine Ops.r (Run.mv rfl) rfl ?_
      refine Ops.r (Run.asg rfl) rfl ?_
      refine Ops.nil ?_
      refine thenQ_n ?_
      refine VC.sub [(4, _)] (.cons rfl .nil) ?_
      refine VC.ret ?_
      refine end1 rfl ?_
      have hil : i = l.length := by omega
      subst hil
      have e : nmI q l l.length = namedB q ⟨v, n, Ms l⟩ := by unfold namedB nmI; rw [if_pos hm, List.take_length]
      rw [← e]
      exact ⟨hfr, C, d, rfl, hown, hge⟩

set_option maxRecDepth 100000 in
theorem uids_spec (v n : Int) (A : Option Addr) (c : Nat) (l : List Mc) (w : World) (hl : RdM w A l) :
    Calls Try.prog 26 #[.agg #[.int .i64 v, .int .i64 n, .slice A l.length c]] w fun e w' => Frm [] w w' ∧ IsI w w' e (nidsB ⟨v, n, Ms l⟩) := by
  refine VC.calls (nt := 23) (res := #[.tmp 2]) Try.func26 rfl Try.ntmps26 Try.results26 rfl ?_
  refine VC.seq ?_
  refine VC.region ?_
  refine Ops.m (Does.box rfl) rfl ?_
  rintro _ w1 ⟨rfl, hF1⟩
  have hb1 := hF1.blk
  have hf1 := hF1.frm
  generalize hg1 : w.heap.size = g1 at *
  refine Ops.r (Run.asg rfl) rfl ?_
  refine Ops.nil ?_
  refine thenQ_n ?_
  refine VC.sub [(1, _)] (.cons rfl .nil) ?_
  refine VC.seq ?_
  refine VC.seq ?_
  refine VC.region ?_
  refine Ops.r (Run.loadA rfl Try.isAgg24 Try.sizeOf24 (fun j v hj => hb1.cells j v hj) (by first | rfl | (simp; done))) rfl ?_
  refine Ops.cl (Enters.fn (evs.cons rfl evs.nil) Try.call17) (may_spec v n A c l _ (hl.frm hf1)) rfl ?_
  rintro e w2 ⟨rfl, hf2⟩
  refine ⟨_, rfl, ?_⟩
  have hb12 := hb1.frm hf2 (by simp)
  have hfr0 := hf1.trans hf2 (by simp)
  refine Ops.r (Run.not rfl) rfl ?_
  refine Ops.nil ?_
  refine thenQ_n ?_
  refine VC.sub [(1, _), (8, _)] (.cons rfl (.cons rfl .nil)) ?_
  refine VC.condB rfl (fun hc1 => ?_) (fun hc1 => ?_)
  · skip
    have hm : ¬ mayB ⟨v, n, Ms l⟩ := by simpa using hc1
    refine VC.seq ?_
    refine VC.region ?_
    refine Ops.r (Run.asg rfl) rfl ?_
    refine Ops.nil ?_
    refine thenQ_n ?_
    refine VC.sub [(2, _)] (.cons rfl .nil) ?_
    refine VC.ret ?_
    refine thenQ_r (end1 rfl ?_)
    refine ⟨hfr0, none, 0, ?_, ?_, by simp [ob]⟩
    · unfold nidsB; rw [if_neg hm]; rfl
    · unfold nidsB; rw [if_neg hm]; exact Own.nil _ _ _
  · skip
    have hm : mayB ⟨v, n, Ms l⟩ := by simpa using hc1
    have hl128 := (may_at hm).1.2.2.2.2
    refine VC.skip ?_
    refine thenQ_n ?_
    refine VC.sub [(1, _)] (.cons rfl .nil) ?_
    refine VC.seq ?_
    refine VC.region ?_
    refine Ops.r (Run.asg rfl) rfl ?_
    refine Ops.nil ?_
    refine thenQ_n ?_
    refine VC.seq ?_
    refine VC.seq ?_
    refine VC.region ?_
    refine Ops.r (Run.fieldAddr rfl Try.underlying24 rfl Try.sizeOf22 (by decide)) rfl ?_
    refine Ops.r (Run.load rfl Try.isAgg22 (hb12.cell 2)) rfl ?_
    refine Ops.r (Run.lenS rfl Try.underlying22) rfl ?_
    refine Ops.r (v := .int .i64 ((0 : Nat) : Int)) (Run.mv rfl) rfl ?_
    refine Ops.nil ?_
    refine thenQ_n ?_
    refine VC.sub [(3, _), (10, _), (11, _), (12, _)] (.cons rfl (.cons rfl (.cons rfl (.cons rfl .nil)))) ?_
    refine VC.block ?_
    refine VC.loop (σ := Nat × Option Addr × Nat) (fun s => [(3, .slice s.2.1 ((Ms (l.take s.1)).map MsgP.uid).length s.2.2), (10, .slice A l.length c), (11, .int .i64 ((l.length : Nat) : Int)), (12, .int .i64 ((s.1 : Nat) : Int))]) (fun s wr => s.1 ≤ l.length ∧ Own wr 3 1 s.2.1 ((Ms (l.take s.1)).map MsgP.uid).length s.2.2 (IB ((Ms (l.take s.1)).map MsgP.uid)) ∧ (∀ b ∈ ob s.2.1, w.heap.size ≤ b) ∧ Frm [] w wr) (fun s => l.length - s.1) (0, none, 0) (.cons rfl (.cons rfl (.cons rfl (.cons rfl .nil)))) ⟨by omega, Own.nil _ _ _, by simp [ob], hfr0⟩ ?_
    rintro ⟨i, C, d⟩ wr ⟨hi, hown, hge, hfr⟩
    dsimp only at hi hown hge ⊢
    have hnl : ((Ms (l.take i)).map MsgP.uid).length ≤ l.length := by simp [Ms]; omega
    refine VC.seq ?_
    refine VC.region ?_
    refine Ops.r (Run.bin rfl rfl (Bin.lssN _ _)) rfl ?_
    refine Ops.nil ?_
    refine thenQ_n ?_
    refine VC.seq ?_
    refine VC.condD rfl (fun hc2 => ?_) (fun hc2 => ?_)
    · skip
      obtain ⟨ad, rfl, hcell⟩ := (hl.frm hfr).elem hc2
      have hxa := (hl.frm hfr).fl (l[i]) (List.getElem_mem hc2)
      have hsx : (Ms (l.take (i + 1))).map MsgP.uid = (Ms (l.take i)).map MsgP.uid ++ [(l[i]).m.uid] := by rw [Ms_take hc2, List.map_append]; rfl
      generalize hx : l[i] = x at *
      refine VC.skip ?_
      refine thenQ_n ?_
      refine VC.sub [(3, _), (10, _), (11, _), (12, _)] (.cons rfl (.cons rfl (.cons rfl (.cons rfl .nil)))) ?_
      refine VC.seq ?_
      refine VC.block ?_
      refine VC.seq ?_
      refine VC.region ?_
      refine Ops.r (Run.indexS i rfl rfl Try.underlying22 Try.sizeOf45 hc2) rfl ?_
      refine Ops.r (Run.loadA rfl Try.isAgg45 Try.sizeOf45 hcell (by first | rfl | (simp; done))) rfl ?_
      refine Ops.m (Does.alloc zero45) rfl ?_
      rintro _ w2 ⟨rfl, hF2⟩
      have hb2 := hF2.blk
      have hf2 := hF2.frm
      have hsz2 : wr.heap.size ≤ wr.heap.size := Nat.le_refl _
      have hfs := hfr.size
      generalize hg2 : wr.heap.size = g2 at hb2 hsz2 hfs ⊢
      refine Ops.st (Acts.storeA rfl rfl Try.sizeOf45 hb2 rfl x.cells_one) ?_
      rintro w3 ⟨hb3, hf3, hs3⟩
      have hfr3 : Frm [] wr w3 := hf2.own hf3 (fun y hy => by simp at hy; omega)
      refine Ops.nil ?_
      refine thenQ_n ?_
      refine VC.sub [(3, _), (5, _), (10, _), (11, _), (12, _)] (.cons rfl (.cons rfl (.cons rfl (.cons rfl (.cons rfl .nil))))) ?_
      refine VC.region ?_
      refine Ops.r (Run.mv rfl) rfl ?_
      refine Ops.r (Run.fieldAddr rfl Try.underlying45 rfl Try.sizeOf3 (by decide)) rfl ?_
      refine Ops.r (Run.load rfl Try.isAgg3 (hb3.cell 0)) rfl ?_
      refine Ops.m (Does.buildS1 rfl Try.underlying25 Try.sizeOf3 zero3 (by decide) (by decide) rfl rfl) rfl ?_
      rintro _ w5 ⟨rfl, hF5⟩
      have hfr5 := (hfr3).trans hF5.frm (by simp)
      have hown5 := hown.frm hfr5 (by simp)
      refine Ops.m (Does.app rfl rfl Try.underlying25 (info3) rfl (by decide) hown5 (hrdI hF5) (IB_one _) (by omega) (by omega)) rfl ?_
      rintro _ w6 ⟨A6, c6, rfl, hown6, hf6, hob6⟩
      rw [← IB_append] at hown6
      have hge6 := up_app hge hob6 (Nat.le_trans hfr.size hfr5.size)
      have hfr6 := (hfr.trans hfr5 (by simp)).own hf6 hge
      refine Ops.r (Run.asg rfl) rfl ?_
      refine Ops.nil ?_
      refine blockQ_n (thenQ_n ?_)
      refine VC.sub [(3, _), (10, _), (11, _), (12, _)] (.cons rfl (.cons rfl (.cons rfl (.cons rfl .nil)))) ?_
      refine VC.region ?_
      refine Ops.r (Run.bin rfl rfl (Bin.add_i64 _ 1 (by omega))) rfl ?_
      refine Ops.r (Run.mv rfl) rfl ?_
      refine Ops.nil ?_
      refine thenQ_n ⟨(i + 1, A6, c6), (.cons (by rw [hsx, List.length_append]; rfl) (.cons rfl (.cons rfl (.cons rfl .nil)))), ?_, ?_⟩
      · skip
        refine ⟨hc2, ?_, hge6, hfr6⟩
        rw [hsx, List.length_append]
        exact hown6
      · skip
        first | omega | (dsimp only; omega)
    · skip
      refine VC.exit ?_
      refine thenQ_x (thenQ_x (blockQ_x ?_))
      refine thenQ_n ?_
      refine VC.sub [(3, _)] (.cons rfl .nil) ?_
      refine VC.seq ?_
      refine VC.region ?_
      refine Ops.r (Run.mv rfl) rfl ?_
      refine Ops.r (Run.asg rfl) rfl ?_
      refine Ops.nil ?_
      refine thenQ_n ?_
      refine VC.sub [(2, _)] (.cons rfl .nil) ?_
      refine VC.ret ?_
      refine end1 rfl ?_
      have hil : i = l.length := by omega
      subst hil
      have e : (Ms (l.take l.length)).map MsgP.uid = nidsB ⟨v, n, Ms l⟩ := by unfold nidsB; rw [if_pos hm, List.take_length]
      rw [← e]
      exact ⟨hfr, C, d, rfl, hown, hge⟩

end Go.Proofs.Ytmfglifjnoilnaa

/-
  The walk of box: a number's place; a search by halves.
-/
namespace Go.Proofs.Ytmfglifjnoilnaa
open Go.RowKit Go.Sort

/-- What a test of places answers: whatever world comes. -/
def TestI (w : World) (f : FuncId) (us : List Value) (n : Nat) (q : Nat → Bool) : Prop :=
  (∀ args w, (callFunc f args).run Try.prog w = .ok (.enter f args) w) ∧ ∀ W (i : Nat), Frm [] w W → i < n → Calls Try.prog f (Value.int .i64 ((i : Nat) : Int) :: us).toArray W fun e w' => e = .returned (.bool (q i)) ∧ Frm [] W w'

set_option maxRecDepth 100000 in
theorem search_spec (f : FuncId) (us : List Value) (n : Nat) (q : Nat → Bool) (w : World) (hn : n ≤ 1000000) (hp : TestI w f us n q) (hq : ∀ i j, i ≤ j → j < n → q i = true → q j = true) :
    Calls Try.prog 61 #[.int .i64 ((n : Nat) : Int), .func (.func f) #[] us.toArray] w fun e w' => Frm [] w w' ∧ ∃ k : Nat, e = .returned (.int .i64 ((k : Nat) : Int)) ∧ k ≤ n ∧ (∀ j, j < k → q j = false) ∧ ∀ j, k ≤ j → j < n → q j = true := by
  refine VC.calls (nt := 26) (res := #[.tmp 4]) Try.func61 rfl Try.ntmps61 Try.results61 rfl ?_
  refine VC.seq ?_
  refine VC.region ?_
  refine Ops.r (v := .int .i64 ((0 : Nat) : Int)) (Run.asg rfl) rfl ?_
  refine Ops.nil ?_
  refine thenQ_n ?_
  refine VC.sub [(0, _), (1, _)] (.cons rfl (.cons rfl .nil)) ?_
  refine VC.seq ?_
  refine VC.region ?_
  refine Ops.r (Run.mv rfl) rfl ?_
  refine Ops.r (v := .int .i64 ((0 : Nat) : Int)) (Run.asg rfl) rfl ?_
  refine Ops.r (Run.asg rfl) rfl ?_
  refine Ops.nil ?_
  refine thenQ_n ?_
  refine VC.sub [(1, _), (5, _), (6, _)] (.cons rfl (.cons rfl (.cons rfl .nil))) ?_
  refine VC.seq ?_
  refine VC.block ?_
  refine VC.loop (σ := Nat × Nat) (fun s => [(1, .func (.func f) #[] us.toArray), (5, .int .i64 ((s.1 : Nat) : Int)), (6, .int .i64 ((s.2 : Nat) : Int))]) (fun s wr => s.1 ≤ s.2 ∧ s.2 ≤ n ∧ (∀ j, j < s.1 → q j = false) ∧ (∀ j, s.2 ≤ j → j < n → q j = true) ∧ Frm [] w wr) (fun s => s.2 - s.1) (0, n) (.cons rfl (.cons rfl (.cons rfl .nil))) ⟨by dsimp only; omega, by dsimp only; omega, by simp, fun j h1 h2 => by dsimp only at h1; omega, Frm.refl _ _⟩ ?_
  rintro ⟨i, j⟩ wr ⟨hij, hjn, h1, h2, hfr⟩
  dsimp only at hij hjn h1 h2 ⊢
  refine VC.seq ?_
  refine VC.seq ?_
  refine VC.region ?_
  refine Ops.r (Run.mv rfl) rfl ?_
  refine Ops.r (Run.mv rfl) rfl ?_
  refine Ops.r (Run.bin rfl rfl (Bin.lssN _ _)) rfl ?_
  refine Ops.nil ?_
  refine thenQ_n ?_
  refine VC.sub [(1, _), (5, _), (6, _), (11, _)] (.cons rfl (.cons rfl (.cons rfl (.cons rfl .nil)))) ?_
  refine VC.condD rfl (fun hc1 => ?_) (fun hc1 => ?_)
  · skip
    refine VC.skip ?_
    refine thenQ_n ?_
    refine VC.sub [(1, _), (5, _), (6, _)] (.cons rfl (.cons rfl (.cons rfl .nil))) ?_
    refine VC.block ?_
    refine VC.seq ?_
    refine VC.region ?_
    refine Ops.r (Run.mv rfl) rfl ?_
    refine Ops.r (Run.mv rfl) rfl ?_
    refine Ops.r (Run.bin rfl rfl (Bin.add_i64 _ _ (by omega))) rfl ?_
    refine Ops.r (Run.convN _ rfl Try.underlying3 Try.underlying112 (by simp only [bmax]; omega)) rfl ?_
    have hh : (i + j) / 2 ^ 1 = (i + j) / 2 := rfl
    have hmid : i ≤ (i + j) / 2 := by omega
    refine Ops.r (Run.bin rfl rfl (Bin.shr_u64 _ 1 (by omega))) rfl ?_
    refine Ops.r (Run.convN _ rfl Try.underlying112 Try.underlying3 (by simp only [bmax]; omega)) rfl ?_
    refine Ops.r (Run.asg rfl) rfl ?_
    refine Ops.nil ?_
    refine thenQ_n ?_
    refine VC.sub [(1, _), (5, _), (6, _), (7, _)] (.cons rfl (.cons rfl (.cons rfl (.cons rfl .nil)))) ?_
    refine VC.seq ?_
    refine VC.region ?_
    refine Ops.r (Run.mv rfl) rfl ?_
    refine Ops.r (Run.mv rfl) rfl ?_
    refine Ops.cl (Enters.dyn rfl (evs.cons rfl evs.nil) hp.1) (hp.2 _ ((i + j) / 2) hfr (by omega)) rfl ?_
    rintro e w2 ⟨rfl, hf2⟩
    refine ⟨_, rfl, ?_⟩
    have hfr2 := hfr.trans hf2 (by simp)
    refine Ops.r (Run.not rfl) rfl ?_
    refine Ops.nil ?_
    refine thenQ_n ?_
    refine VC.sub [(1, _), (5, _), (6, _), (7, _), (21, _)] (.cons rfl (.cons rfl (.cons rfl (.cons rfl (.cons rfl .nil))))) ?_
    refine VC.condB rfl (fun hc2 => ?_) (fun hc2 => ?_)
    · skip
      refine VC.region ?_
      refine Ops.r (Run.mv rfl) rfl ?_
      refine Ops.r (Run.bin rfl rfl (Bin.add_i64 _ 1 (by omega))) rfl ?_
      refine Ops.r (Run.asg rfl) rfl ?_
      refine Ops.nil ?_
      refine blockQ_n (thenQ_n ⟨((i + j) / 2 + 1, j), (.cons rfl (.cons rfl (.cons rfl .nil))), ?_, ?_⟩)
      · skip
        have hqf : q ((i + j) / 2) = false := by simpa using hc2
        refine ⟨by dsimp only; omega, hjn, fun k hk => ?_, h2, hfr2⟩
        cases hqk : q k with
        | false => rfl
        | true =>
          have := hq k ((i + j) / 2) (by dsimp only at hk; omega) (by omega) hqk
          rw [hqf] at this; cases this
      · skip
        first | omega | (dsimp only; omega)
    · skip
      refine VC.region ?_
      refine Ops.r (Run.mv rfl) rfl ?_
      refine Ops.r (Run.asg rfl) rfl ?_
      refine Ops.nil ?_
      refine blockQ_n (thenQ_n ⟨(i, (i + j) / 2), (.cons rfl (.cons rfl (.cons rfl .nil))), ?_, ?_⟩)
      · skip
        have hqt : q ((i + j) / 2) = true := by simpa using hc2
        exact ⟨by dsimp only; omega, by dsimp only; omega, h1, fun k hk1 hk2 => hq _ k hk1 hk2 hqt, hfr2⟩
      · skip
        first | omega | (dsimp only; omega)
  · skip
    refine VC.exit ?_
    refine thenQ_x (thenQ_x (blockQ_x ?_))
    refine thenQ_n ?_
    refine VC.sub [(5, _)] (.cons rfl .nil) ?_
    refine VC.seq ?_
    refine VC.region ?_
    refine Ops.r (Run.mv rfl) rfl ?_
    refine Ops.r (Run.asg rfl) rfl ?_
    refine Ops.nil ?_
    refine thenQ_n ?_
    refine VC.sub [(4, _)] (.cons rfl .nil) ?_
    refine VC.ret ?_
    refine end1 rfl ?_
    have hij2 : i = j := by omega
    subst hij2
    exact ⟨hfr, i, rfl, hjn, h1, h2⟩

set_option maxRecDepth 100000 in
theorem searchC_spec (i g1 g2 c : Nat) (A : Option Addr) (zs : List Int) (x : Int) (w : World) (hi : i < zs.length) (hz : Rd w 1 A zs.length (IB zs)) (hb1 : Blk w g1 25 #[.slice A zs.length c]) (hb2 : Blk w g2 3 #[.int .i64 x]) (hzn : zs.length ≤ 1000000) :
    Calls Try.prog 62 #[.int .i64 ((i : Nat) : Int), .pointer (some ⟨g1, 0, none⟩), .pointer (some ⟨g2, 0, none⟩)] w fun e w' => e = .returned (.bool (decide (x ≤ zs[i]))) ∧ Frm [] w w' := by
  obtain ⟨ad, u, rfl, hu, hcell⟩ := hz.at1 hi
  have hcd : ∀ w0, Drawn w w0 → w0.cell? (ad.add i) = some (.int .i64 zs[i]) := fun w0 h0 => by
    obtain ⟨ad', u', hA, hu', hc'⟩ := (hz.drawn h0).at1 hi
    cases hA
    rw [hc', ← hu']
    simp [IB, List.getElem?_eq_getElem hi]
  refine VC.calls (nt := 11) (res := #[.tmp 4]) Try.func62 rfl Try.ntmps62 Try.results62 rfl ?_
  refine VC.seq ?_
  refine VC.region ?_
  refine Ops.r (Run.asg rfl) rfl ?_
  refine Ops.nil ?_
  refine thenQ_n ?_
  refine VC.sub [(0, _), (1, _), (2, _)] (.cons rfl (.cons rfl (.cons rfl .nil))) ?_
  refine VC.seq ?_
  refine VC.quiet (by kernel_rfl) (by kernel_rfl) ?_
  refine QOps.r (fun w0 hw0 => Run.load rfl Try.isAgg25 ((hb1.drawn hw0).cell 0)) rfl ?_
  refine QOps.r (fun w0 hw0 => Run.mv rfl) rfl ?_
  refine QOps.r (fun w0 hw0 => Run.index1 i rfl rfl Try.underlying25 Try.sizeOf3 hi) rfl ?_
  refine QOps.r (fun w0 hw0 => Run.load rfl Try.isAgg3 (hcd _ hw0)) rfl ?_
  refine QOps.r (fun w0 hw0 => Run.load rfl Try.isAgg3 ((hb2.drawn hw0).cell 0)) rfl ?_
  refine QOps.r (fun w0 hw0 => Run.bin rfl rfl (Bin.geq _ _)) rfl ?_
  refine QOps.r (fun w0 hw0 => Run.asg rfl) rfl ?_
  refine QOps.nil ?_
  intro wq hq
  refine thenQ_n ?_
  refine VC.sub [(4, _)] (.cons rfl .nil) ?_
  refine VC.ret ?_
  refine end1 rfl ?_
  exact ⟨rfl, hq.frm⟩

set_option maxRecDepth 100000 in
theorem searchInts_spec (A : Option Addr) (c : Nat) (zs : List Int) (x : Int) (w : World) (hz : Rd w 1 A zs.length (IB zs)) (hzn : zs.length ≤ 1000000) (hs : zs.Pairwise (· < ·)) :
    Calls Try.prog 44 #[.slice A zs.length c, .int .i64 x] w fun e w' => Frm [] w w' ∧ ∃ k : Nat, e = .returned (.int .i64 ((k : Nat) : Int)) ∧ k ≤ zs.length ∧ (∀ j (h : j < zs.length), j < k → zs[j] < x) ∧ ∀ j (h : j < zs.length), k ≤ j → x ≤ zs[j] := by
  refine VC.calls (nt := 9) (res := #[.tmp 4]) Try.func44 rfl Try.ntmps44 Try.results44 rfl ?_
  refine VC.seq ?_
  refine VC.region ?_
  refine Ops.m (Does.box rfl) rfl ?_
  rintro _ w1 ⟨rfl, hF2⟩
  have hb2 := hF2.blk
  have hf2 := hF2.frm
  generalize hg2 : w.heap.size = g2 at *
  refine Ops.m (Does.box rfl) rfl ?_
  rintro _ w3 ⟨rfl, hF3⟩
  have hb3 := hF3.blk
  have hb23 := hb2.frm hF3.frm (by simp)
  have hf3 := hf2.trans hF3.frm (by simp)
  generalize hg3 : w1.heap.size = g3 at hb3 ⊢
  have hTI : TestI w3 62 [.pointer (some ⟨g2, 0, none⟩), .pointer (some ⟨g3, 0, none⟩)] zs.length (fun i => decide (x ≤ zs.getD i 0)) := ⟨Try.call62, fun W i hW hi => by
    have h := searchC_spec i g2 g3 c A zs x W hi (hz.frm (hf3.trans hW (by simp)) (by simp)) (hb23.frm hW (by simp)) (hb3.frm hW (by simp)) hzn
    simpa [List.getD_eq_getElem?_getD, List.getElem?_eq_getElem hi] using h⟩
  have hmo : ∀ i j, i ≤ j → j < zs.length → (fun i => decide (x ≤ zs.getD i 0)) i = true → (fun i => decide (x ≤ zs.getD i 0)) j = true := fun i j hij hj hi => by
    have hi' : i < zs.length := by omega
    simp only [List.getD_eq_getElem?_getD, List.getElem?_eq_getElem hi', List.getElem?_eq_getElem hj, Option.getD_some, decide_eq_true_eq] at hi ⊢
    rcases Nat.lt_or_ge i j with h | h
    · have := List.pairwise_iff_getElem.1 hs i j hi' hj h
      omega
    · obtain rfl : i = j := by omega
      exact hi
  refine Ops.r (v := .int .i64 ((0 : Nat) : Int)) (Run.asg rfl) rfl ?_
  refine Ops.nil ?_
  refine thenQ_n ?_
  refine VC.sub [(2, _), (3, _)] (.cons rfl (.cons rfl .nil)) ?_
  refine VC.seq ?_
  refine VC.region ?_
  refine Ops.r (Run.load rfl Try.isAgg25 (hb23.cell 0)) rfl ?_
  refine Ops.r (Run.lenS rfl Try.underlying25) rfl ?_
  refine Ops.r (Run.mkFunc evs.nil (evs.cons rfl (evs.cons rfl evs.nil))) rfl ?_
  refine Ops.cl (Enters.fn (evs.cons rfl (evs.cons rfl evs.nil)) Try.call61) (search_spec 62 [.pointer (some ⟨g2, 0, none⟩), .pointer (some ⟨g3, 0, none⟩)] zs.length (fun i => decide (x ≤ zs.getD i 0)) _ hzn hTI hmo) rfl ?_
  rintro e w4 ⟨hf4, k, rfl, hk, h1, h2⟩
  refine ⟨_, rfl, ?_⟩
  refine Ops.r (Run.asg rfl) rfl ?_
  refine Ops.nil ?_
  refine thenQ_n ?_
  refine VC.sub [(4, _)] (.cons rfl .nil) ?_
  refine VC.ret ?_
  refine end1 rfl ?_
  refine ⟨hf3.trans hf4 (by simp), k, rfl, hk, fun j hj hjk => ?_, fun j hj hkj => ?_⟩
  · have := h1 j hjk
    simp only [List.getD_eq_getElem?_getD, List.getElem?_eq_getElem hj, Option.getD_some, decide_eq_false_iff_not] at this
    omega
  · have := h2 j hkj hj
    simpa only [List.getD_eq_getElem?_getD, List.getElem?_eq_getElem hj, Option.getD_some, decide_eq_true_eq] using this

theorem rises {v n : Int} {l : List MsgP} (h : mayB ⟨v, n, l⟩) : ∀ i j (hi : i < l.length) (hj : j < l.length), i < j → l[i].uid < l[j].uid := by
  intro i j
  induction j with
  | zero => intro _ _ h; omega
  | succ j ih =>
    intro hi hj hij
    have h1 := (h.2 (j + 1) hj).1
    have e : prevU l (j + 1) = l[j].uid := by simp [prevU, List.getElem?_eq_getElem (show j < l.length by omega)]
    have h2 : l[j].uid < l[j + 1].uid := by rw [← e]; exact h1
    rcases Nat.lt_or_ge i j with h3 | h3
    · have := ih hi (by omega) h3
      omega
    · obtain rfl : i = j := by omega
      exact h2
theorem nids_rises (b : BoxV) : (nidsB b).Pairwise (· < ·) := by
  unfold nidsB
  split
  · rename_i h
    rw [List.pairwise_iff_getElem]
    intro i j hi hj hij
    simp only [List.length_map] at hi hj
    simpa using rises (v := b.valid) (n := b.next) h i j hi hj hij
  · exact List.Pairwise.nil
theorem nids_len (b : BoxV) : (nidsB b).length ≤ 128 := by
  unfold nidsB
  split
  · rename_i h
    simp only [List.length_map]
    exact h.1.2.2.2.2
  · simp

set_option maxRecDepth 100000 in
theorem place_spec (v n : Int) (A : Option Addr) (c : Nat) (l : List Mc) (u : Int) (w : World) (hl : RdM w A l) :
    Calls Try.prog 27 #[.agg #[.int .i64 v, .int .i64 n, .slice A l.length c], .int .i64 u] w fun e w' => Frm [] w w' ∧ ∃ p : Nat, e = .returned (.int .i64 ((p : Nat) : Int)) ∧ ((p = 0 ∧ u ∉ nidsB ⟨v, n, Ms l⟩) ∨ (1 ≤ p ∧ (nidsB ⟨v, n, Ms l⟩)[p - 1]? = some u)) := by
  refine VC.calls (nt := 26) (res := #[.tmp 4]) Try.func27 rfl Try.ntmps27 Try.results27 rfl ?_
  refine VC.seq ?_
  refine VC.region ?_
  refine Ops.m (Does.box rfl) rfl ?_
  rintro _ w1 ⟨rfl, hF1⟩
  have hb1 := hF1.blk
  have hf1 := hF1.frm
  generalize hg1 : w.heap.size = g1 at *
  refine Ops.r (v := .int .i64 ((0 : Nat) : Int)) (Run.asg rfl) rfl ?_
  refine Ops.nil ?_
  refine thenQ_n ?_
  refine VC.sub [(1, _), (2, _)] (.cons rfl (.cons rfl .nil)) ?_
  refine VC.seq ?_
  refine VC.region ?_
  refine Ops.r (Run.loadA rfl Try.isAgg24 Try.sizeOf24 (fun j v hj => hb1.cells j v hj) (by first | rfl | (simp; done))) rfl ?_
  refine Ops.cl (Enters.fn (evs.cons rfl evs.nil) Try.call26) (uids_spec v n A c l _ (hl.frm hf1)) rfl ?_
  rintro e w2 ⟨hf2, C, d, rfl, hownC, hgeC⟩
  refine ⟨_, rfl, ?_⟩
  have hnl := nids_len ⟨v, n, Ms l⟩
  have hnr := nids_rises ⟨v, n, Ms l⟩
  have hfr2 := hf1.trans hf2 (by simp)
  generalize hN : nidsB ⟨v, n, Ms l⟩ = N at *
  refine Ops.r (Run.asg rfl) rfl ?_
  refine Ops.nil ?_
  refine thenQ_n ?_
  refine VC.sub [(1, _), (5, _)] (.cons rfl (.cons rfl .nil)) ?_
  refine VC.seq ?_
  refine VC.seq ?_
  refine VC.region ?_
  refine Ops.r (Run.mv rfl) rfl ?_
  refine Ops.r (Run.mv rfl) rfl ?_
  refine Ops.cl (Enters.fn (evs.cons rfl (evs.cons rfl evs.nil)) Try.call44) (searchInts_spec C d N u _ hownC.rd (by omega) hnr) rfl ?_
  rintro e w3 ⟨hf3, k, rfl, hk, h1, h2⟩
  refine ⟨_, rfl, ?_⟩
  have hfr3 := hfr2.trans hf3 (by simp)
  have hR3 := hownC.rd.frm hf3 (by simp)
  refine Ops.r (Run.asg rfl) rfl ?_
  refine Ops.nil ?_
  refine thenQ_n ?_
  refine VC.sub [(1, _), (5, _), (6, _)] (.cons rfl (.cons rfl (.cons rfl .nil))) ?_
  refine VC.seq ?_
  refine VC.split1 [(6, _)] (.cons rfl .nil) 23 (.bool (decide (∃ h : k < N.length, N[k] = u))) ?_ ?_
  · refine VC.region ?_
    refine Ops.r (Run.mv rfl) rfl ?_
    refine Ops.r (Run.mv rfl) rfl ?_
    refine Ops.r (Run.lenS rfl Try.underlying25) rfl ?_
    refine Ops.r (Run.bin rfl rfl (Bin.lssN _ _)) rfl ?_
    by_cases hs15 : k < N.length
    · skip
      obtain ⟨ad, hu0, rfl, hu1, hcell⟩ := hR3.at1 hs15
      have hu2 : hu0 = .int .i64 N[k] := by simpa [IB, List.getElem?_eq_getElem hs15] using hu1.symm
      subst hu2
      refine Ops.r (Run.mv rfl) rfl ?_
      refine Ops.rg rfl (by first | rfl | assumption | exact decide_eq_true (by assumption) | exact decide_eq_false (by assumption) | decide | (simp; done) | (simp; omega) | (simp [*]; done)) (Run.mv rfl) rfl ?_
      refine Ops.rg rfl (by first | rfl | assumption | exact decide_eq_true (by assumption) | exact decide_eq_false (by assumption) | decide | (simp; done) | (simp; omega) | (simp [*]; done)) (Run.mv rfl) rfl ?_
      refine Ops.rg rfl (by first | rfl | assumption | exact decide_eq_true (by assumption) | exact decide_eq_false (by assumption) | decide | (simp; done) | (simp; omega) | (simp [*]; done)) (Run.index1 k rfl rfl Try.underlying25 Try.sizeOf3 hs15) rfl ?_
      refine Ops.rg rfl (by first | rfl | assumption | exact decide_eq_true (by assumption) | exact decide_eq_false (by assumption) | decide | (simp; done) | (simp; omega) | (simp [*]; done)) (Run.load rfl Try.isAgg3 hcell) rfl ?_
      refine Ops.rg rfl (by first | rfl | assumption | exact decide_eq_true (by assumption) | exact decide_eq_false (by assumption) | decide | (simp; done) | (simp; omega) | (simp [*]; done)) (Run.mv rfl) rfl ?_
      refine Ops.rg rfl (by first | rfl | assumption | exact decide_eq_true (by assumption) | exact decide_eq_false (by assumption) | decide | (simp; done) | (simp; omega) | (simp [*]; done)) (Run.bin rfl rfl (Bin.eql _ _)) rfl ?_
      by_cases hs22 : N[k] = u
      · skip
        refine Ops.r (Run.pickT rfl rfl (by first | rfl | assumption | exact decide_eq_true (by assumption) | exact decide_eq_false (by assumption) | decide | (simp; done) | (simp; omega) | (simp [*]; done))) rfl ?_
        refine Ops.nil ?_
        refine thenQ_n ⟨(.cons (congrArg (fun b => some (Value.bool b)) (Eq.symm (by first | exact decide_eq_decide.2 ⟨fun h => h.2, fun h => ⟨by assumption, h⟩⟩ | exact decide_eq_false (fun h => absurd h.1 (by assumption)) | simp_all))) (.cons rfl .nil)), rfl⟩
      · skip
        refine Ops.r (Run.pickT rfl rfl (by first | rfl | assumption | exact decide_eq_true (by assumption) | exact decide_eq_false (by assumption) | decide | (simp; done) | (simp; omega) | (simp [*]; done))) rfl ?_
        refine Ops.nil ?_
        refine thenQ_n ⟨(.cons (congrArg (fun b => some (Value.bool b)) (Eq.symm (by first | exact decide_eq_decide.2 ⟨fun h => h.2, fun h => ⟨by assumption, h⟩⟩ | exact decide_eq_false (fun h => absurd h.1 (by assumption)) | simp_all))) (.cons rfl .nil)), rfl⟩
    · skip
      refine Ops.r (Run.mv rfl) rfl ?_
      refine Ops.sk rfl (by first | rfl | assumption | exact decide_eq_true (by assumption) | exact decide_eq_false (by assumption) | decide | (simp; done) | (simp; omega) | (simp [*]; done)) rfl ?_
      refine Ops.sk rfl (by first | rfl | assumption | exact decide_eq_true (by assumption) | exact decide_eq_false (by assumption) | decide | (simp; done) | (simp; omega) | (simp [*]; done)) rfl ?_
      refine Ops.sk rfl (by first | rfl | assumption | exact decide_eq_true (by assumption) | exact decide_eq_false (by assumption) | decide | (simp; done) | (simp; omega) | (simp [*]; done)) rfl ?_
      refine Ops.sk rfl (by first | rfl | assumption | exact decide_eq_true (by assumption) | exact decide_eq_false (by assumption) | decide | (simp; done) | (simp; omega) | (simp [*]; done)) rfl ?_
      refine Ops.sk rfl (by first | rfl | assumption | exact decide_eq_true (by assumption) | exact decide_eq_false (by assumption) | decide | (simp; done) | (simp; omega) | (simp [*]; done)) rfl ?_
      refine Ops.sk rfl (by first | rfl | assumption | exact decide_eq_true (by assumption) | exact decide_eq_false (by assumption) | decide | (simp; done) | (simp; omega) | (simp [*]; done)) rfl ?_
      refine Ops.r (Run.pickF rfl rfl (by first | rfl | assumption | exact decide_eq_true (by assumption) | exact decide_eq_false (by assumption) | decide | (simp; done) | (simp; omega) | (simp [*]; done))) rfl ?_
      refine Ops.nil ?_
      refine thenQ_n ⟨(.cons (congrArg (fun b => some (Value.bool b)) (Eq.symm (by first | exact decide_eq_decide.2 ⟨fun h => h.2, fun h => ⟨by assumption, h⟩⟩ | exact decide_eq_false (fun h => absurd h.1 (by assumption)) | simp_all))) (.cons rfl .nil)), rfl⟩
  · intro Γ hΓ
    refine thenQ_n (VC.sub _ hΓ ?_)
    refine VC.condD rfl (fun hc1 => ?_) (fun hc1 => ?_)
    · skip
      refine VC.seq ?_
      refine VC.region ?_
      refine Ops.r (Run.mv rfl) rfl ?_
      refine Ops.r (Run.bin rfl rfl (Bin.add_i64 _ 1 (by omega))) rfl ?_
      refine Ops.r (Run.asg rfl) rfl ?_
      refine Ops.nil ?_
      refine thenQ_n ?_
      refine VC.sub [(4, _)] (.cons rfl .nil) ?_
      refine VC.ret ?_
      refine thenQ_r (end1 rfl ?_)
      obtain ⟨hkl, hku⟩ := hc1
      exact ⟨hfr3, k + 1, rfl, .inr ⟨by omega, by simp [List.getElem?_eq_getElem hkl, hku]⟩⟩
    · skip
      refine VC.skip ?_
      refine thenQ_n ?_
      refine VC.sub [] .nil ?_
      refine VC.seq ?_
      refine VC.region ?_
      refine Ops.r (v := .int .i64 ((0 : Nat) : Int)) (Run.asg rfl) rfl ?_
      refine Ops.nil ?_
      refine thenQ_n ?_
      refine VC.ret ?_
      refine end1 rfl ?_
      refine ⟨hfr3, 0, rfl, .inl ⟨rfl, fun hu => ?_⟩⟩
      obtain ⟨j, hj, hju⟩ := List.getElem_of_mem hu
      rcases Nat.lt_or_ge j k with h | h
      · have := h1 j hj h; omega
      · have hkN : k < N.length := by omega
        have h3 := h2 k hkN (Nat.le_refl _)
        rcases Nat.lt_or_ge k j with h4 | h4
        · have := List.pairwise_iff_getElem.1 hnr k j hkN hj h4
          omega
        · obtain rfl : k = j := by omega
          exact hc1 ⟨hkN, hju⟩

end Go.Proofs.Ytmfglifjnoilnaa

/-
  The walk of box: those that go.
-/
namespace Go.Proofs.Ytmfglifjnoilnaa
open Go.RowKit Go.Sort

set_option maxRecDepth 100000 in
theorem expC_spec (x : Mc) (every : Bool) (O : Option Addr) (co g4 g5 : Nat) (only : List Int) (w : World) (hx : x.At w) (ho : Rd w 1 O only.length (IB only)) (hon : only.length ≤ 1000000) (hb4 : Blk w g4 4 #[.bool every]) (hb5 : Blk w g5 25 #[.slice O only.length co]) :
    Calls Try.prog 31 #[.agg x.cells.toArray, .pointer (some ⟨g4, 0, none⟩), .pointer (some ⟨g5, 0, none⟩)] w fun e w' => e = .returned (.bool (goesQ every only x.m)) ∧ Frm [] w w' := by
  refine VC.calls (nt := 9) (res := #[.tmp 4]) Try.func31 rfl Try.ntmps31 Try.results31 rfl ?_
  refine VC.seq ?_
  refine VC.region ?_
  refine Ops.m (Does.box rfl) rfl ?_
  rintro _ w1 ⟨rfl, hF1⟩
  have hb1 := hF1.blk
  have hf1 := hF1.frm
  generalize hg1 : w.heap.size = g1 at *
  refine Ops.r (Run.asg rfl) rfl ?_
  refine Ops.nil ?_
  refine thenQ_n ?_
  refine VC.sub [(1, _), (2, _), (3, _)] (.cons rfl (.cons rfl (.cons rfl .nil))) ?_
  refine VC.seq ?_
  refine VC.region ?_
  refine Ops.r (Run.loadA rfl Try.isAgg45 Try.sizeOf45 (fun j v hj => hb1.cells j v hj) (by first | rfl | (simp; done))) rfl ?_
  refine Ops.r (Run.load rfl Try.isAgg4 ((hb4.frm hf1 (by simp)).cell 0)) rfl ?_
  refine Ops.r (Run.load rfl Try.isAgg25 ((hb5.frm hf1 (by simp)).cell 0)) rfl ?_
  refine Ops.cl (Enters.fn (evs.cons rfl (evs.cons rfl (evs.cons rfl evs.nil))) Try.call32) (goes_spec x every O co only _ (hx.frm hf1 (by simp)) (ho.frm hf1 (by simp)) hon) rfl ?_
  rintro e w2 ⟨rfl, hf2⟩
  refine ⟨_, rfl, ?_⟩
  refine Ops.r (Run.asg rfl) rfl ?_
  refine Ops.nil ?_
  refine thenQ_n ?_
  refine VC.sub [(4, _)] (.cons rfl .nil) ?_
  refine VC.ret ?_
  refine end1 rfl ?_
  exact ⟨rfl, hf1.trans hf2 (by simp)⟩

theorem Ms_filter (p : MsgP → Bool) (l : List Mc) : Ms (l.filter fun x => !p x.m) = (Ms l).filter fun m => !p m := by
  unfold Ms
  rw [List.filter_map]
  rfl
theorem take_snocN {l : List Nat} {i : Nat} (h : i < l.length) : l.take (i + 1) = l.take i ++ [l[i]] := by
  rw [List.take_add_one, List.getElem?_eq_getElem h]; rfl
theorem shift_len : ∀ (l : List Nat) (k : Nat), (shiftP k l).length = l.length
  | [], k => rfl
  | a :: r, k => by simp [shiftP, shift_len r (k + 1)]
theorem hrdU {w w' : World} {t : TypeId} {z : Nat} (h : Fresh w w' t #[.int .u64 ((z : Nat) : Int)]) : Rd w' 1 (some ⟨w.heap.size, 0, none⟩) 1 (UBl [z]) := Rd.of_blk (n := 1) (size := 1) h.blk rfl
theorem hrdN {w w' : World} {t : TypeId} {z : Nat} (h : Fresh w w' t #[.int .i64 ((z : Nat) : Int)]) : Rd w' 1 (some ⟨w.heap.size, 0, none⟩) 1 (NI [z]) := Rd.of_blk (n := 1) (size := 1) h.blk rfl
theorem NI_one (l : List Nat) : ∀ u ∈ NI l, u.oneCell' = true := IB_one _

set_option maxRecDepth 100000 in
theorem expunge_spec (v n : Int) (A : Option Addr) (c : Nat) (l : List Mc) (every : Bool) (O : Option Addr) (co : Nat) (only : List Int) (w : World) (hl : RdM w A l) (ho : Rd w 1 O only.length (IB only)) (hon : only.length ≤ 1000000) :
    Calls Try.prog 9 #[.agg #[.int .i64 v, .int .i64 n, .slice A l.length c], .bool every, .slice O only.length co] w fun e w' => Frm [] w w' ∧ ∃ v' n' B d l' P dP ps D dD bs k, e = .returned (.tuple #[.agg #[.int .i64 v', .int .i64 n', .slice B l'.length d], .slice P ps.length dP, .slice D bs.length dD, .int .i64 ((k : Nat) : Int)]) ∧
      OwM w' B d l' ∧ Own w' 3 1 P ps.length dP (NI ps) ∧ Own w' 38 1 D bs.length dD (UBl bs) ∧ ((¬ mayB ⟨v, n, Ms l⟩ ∧ k = 1 ∧ v' = 0 ∧ n' = 0 ∧ l' = [] ∧ ps = [] ∧ bs = []) ∨
        (mayB ⟨v, n, Ms l⟩ ∧ k = 0 ∧ v' = v ∧ n' = n ∧ Ms l' = (Ms l).filter (fun m => !goesQ every only m) ∧ ps = shiftP 0 (marksQ (goesQ every only) 0 (Ms l)) ∧ bs = blobsP (Ms l) (marksQ (goesQ every only) 0 (Ms l)))) := by
  refine VC.calls (nt := 54) (res := #[.cell 6 24, .tmp 7, .tmp 8, .tmp 9]) Try.func9 rfl Try.ntmps9 Try.results9 rfl ?_
  refine VC.seq ?_
  refine VC.region ?_
  refine Ops.m (Does.box rfl) rfl ?_
  rintro _ w1 ⟨rfl, hF3⟩
  have hb3 := hF3.blk
  have hf3 := hF3.frm
  have hs3 : w.heap.size ≤ w.heap.size := Nat.le_refl _
  generalize hg3 : w.heap.size = g3 at hb3 ⊢
  refine Ops.m (Does.box rfl) rfl ?_
  rintro _ w2 ⟨rfl, hF4⟩
  have hb4 := hF4.blk
  have hb3 := hb3.frm hF4.frm (by simp)
  have hf4 := hf3.trans hF4.frm (by simp)
  have hs4 : w.heap.size ≤ w1.heap.size := hf3.size
  generalize hg4 : w1.heap.size = g4 at hb4 hs4 ⊢
  have hn34 : g3 < g4 := by rw [← hg4, ← hg3]; have := hF3.size; omega
  refine Ops.m (Does.box rfl) rfl ?_
  rintro _ w3 ⟨rfl, hF5⟩
  have hb5 := hF5.blk
  have hb3 := hb3.frm hF5.frm (by simp)
  have hb4 := hb4.frm hF5.frm (by simp)
  have hf5 := hf4.trans hF5.frm (by simp)
  have hs5 : w.heap.size ≤ w2.heap.size := hf4.size
  generalize hg5 : w2.heap.size = g5 at hb5 hs5 ⊢
  have hn45 : g4 < g5 := by rw [← hg5, ← hg4]; have := hF4.size; omega
  refine Ops.m (Does.alloc zero24) rfl ?_
  rintro _ w4 ⟨rfl, hF6⟩
  have hb6 := hF6.blk
  have hb3 := hb3.frm hF6.frm (by simp)
  have hb4 := hb4.frm hF6.frm (by simp)
  have hb5 := hb5.frm hF6.frm (by simp)
  have hf6 := hf5.trans hF6.frm (by simp)
  have hs6 : w.heap.size ≤ w3.heap.size := hf5.size
  generalize hg6 : w3.heap.size = g6 at hb6 hs6 ⊢
  have hn56 : g5 < g6 := by rw [← hg6, ← hg5]; have := hF5.size; omega
  refine Ops.r (Run.asg rfl) rfl ?_
  refine Ops.r (Run.asg rfl) rfl ?_
  refine Ops.r (v := .int .i64 ((0 : Nat) : Int)) (Run.asg rfl) rfl ?_
  refine Ops.nil ?_
  refine thenQ_n ?_
  refine VC.sub [(3, _), (4, _), (5, _), (6, _)] (.cons rfl (.cons rfl (.cons rfl (.cons rfl .nil)))) ?_
  refine VC.seq ?_
  refine VC.seq ?_
  refine VC.region ?_
  refine Ops.r (Run.loadA rfl Try.isAgg24 Try.sizeOf24 (fun j v hj => hb3.cells j v hj) (by first | rfl | (simp; done))) rfl ?_
  refine Ops.cl (Enters.fn (evs.cons rfl evs.nil) Try.call17) (may_spec v n A c l _ (hl.frm hf6)) rfl ?_
  rintro e w5 ⟨rfl, hf7⟩
  refine ⟨_, rfl, ?_⟩
  have hfr5 := hf6.trans hf7 (by simp)
  have hb3 := hb3.frm hf7 (by simp)
  have hb4 := hb4.frm hf7 (by simp)
  have hb5 := hb5.frm hf7 (by simp)
  have hb6 := hb6.frm hf7 (by simp)
  refine Ops.r (Run.not rfl) rfl ?_
  refine Ops.nil ?_
  refine thenQ_n ?_
  refine VC.sub [(3, _), (4, _), (5, _), (6, _), (16, _)] (.cons rfl (.cons rfl (.cons rfl (.cons rfl (.cons rfl .nil))))) ?_
  refine VC.condB rfl (fun hc1 => ?_) (fun hc1 => ?_)
  · skip
    have hm : ¬ mayB ⟨v, n, Ms l⟩ := by simpa using hc1
    refine VC.seq ?_
    refine VC.region ?_
    refine Ops.r (Run.build evs.nil zero24 (places24).choose_spec.1 (places24).choose_spec.2 rfl) rfl ?_
    refine Ops.st (Acts.storeA rfl rfl Try.sizeOf24 hb6 rfl (BVc_one 0 0 none 0 0)) ?_
    rintro w6 ⟨hbz, hfz, hsz⟩
    refine Ops.r (Run.asg rfl) rfl ?_
    refine Ops.r (Run.asg rfl) rfl ?_
    refine Ops.r (v := .int .i64 ((1 : Nat) : Int)) (Run.asg rfl) rfl ?_
    refine Ops.nil ?_
    refine thenQ_n ?_
    refine VC.sub [(6, _), (7, _), (8, _), (9, _)] (.cons rfl (.cons rfl (.cons rfl (.cons rfl .nil)))) ?_
    refine VC.ret ?_
    refine thenQ_r (endR ?_)
    refine res_cellA rfl Try.isAgg24 Try.sizeOf24 (fun j v hj => hbz.cells j v hj) (by first | rfl | (simp; done)) ?_
    refine res_tmp rfl ?_
    refine res_tmp rfl ?_
    refine res_tmp rfl ?_
    refine res_nil ?_
    exact ⟨hfr5.own hfz (fun y hy => by simp at hy; omega), 0, 0, none, 0, [], none, 0, [], none, 0, [], 1, rfl, OwM.nil _, Own.nil _ _ _, Own.nil _ _ _, .inl ⟨hm, rfl, rfl, rfl, rfl, rfl, rfl⟩⟩
  · skip
    have hm : mayB ⟨v, n, Ms l⟩ := by simpa using hc1
    have hl128 := (may_at hm).1.2.2.2.2
    refine VC.skip ?_
    refine thenQ_n ?_
    refine VC.sub [(3, _), (4, _), (5, _), (6, _)] (.cons rfl (.cons rfl (.cons rfl (.cons rfl .nil)))) ?_
    refine VC.seq ?_
    refine VC.region ?_
    refine Ops.r (Run.asg rfl) rfl ?_
    refine Ops.nil ?_
    refine thenQ_n ?_
    refine VC.seq ?_
    refine VC.region ?_
    refine Ops.r (Run.asg rfl) rfl ?_
    refine Ops.nil ?_
    refine thenQ_n ?_
    refine VC.seq ?_
    refine VC.seq ?_
    refine VC.region ?_
    refine Ops.r (Run.loadA rfl Try.isAgg24 Try.sizeOf24 (fun j v hj => hb3.cells j v hj) (by first | rfl | (simp; done))) rfl ?_
    refine Ops.r (Run.load rfl Try.isAgg4 (hb4.cell 0)) rfl ?_
    refine Ops.r (Run.load rfl Try.isAgg25 (hb5.cell 0)) rfl ?_
    refine Ops.cl (Enters.fn (evs.cons rfl (evs.cons rfl (evs.cons rfl evs.nil))) Try.call10) (marked_spec v n A c l every O co only _ (hl.frm hfr5) (ho.frm hfr5 (by simp)) hon) rfl ?_
    rintro e w6 ⟨hf8, C, dC, rfl, hownC, hgeC⟩
    refine ⟨_, rfl, ?_⟩
    have hfr6 := hfr5.trans hf8 (by simp)
    have hb3 := hb3.frm hf8 (by simp)
    have hb4 := hb4.frm hf8 (by simp)
    have hb5 := hb5.frm hf8 (by simp)
    have hb6 := hb6.frm hf8 (by simp)
    have hnm : namedB (goesQ every only) ⟨v, n, Ms l⟩ = (marksQ (goesQ every only) 0 (Ms l)).map fun x : Nat => (x : Int) := if_pos hm
    have hMm := marksQ_mem (goesQ every only) (Ms l) 0
    have hMg := marksQ_ge (goesQ every only) (Ms l) 0
    have hMl := marksQ_len (goesQ every only) (Ms l) 0
    rw [hnm, List.length_map] at hownC ⊢
    have hmsl : (Ms l).length = l.length := by simp [Ms]
    generalize hM : marksQ (goesQ every only) 0 (Ms l) = M at *
    refine Ops.r (Run.lenS rfl Try.underlying25) rfl ?_
    refine Ops.r (v := .int .i64 ((0 : Nat) : Int)) (Run.mv rfl) rfl ?_
    refine Ops.nil ?_
    refine thenQ_n ?_
    refine VC.sub [(3, _), (4, _), (5, _), (6, _), (10, _), (11, _), (21, _), (22, _), (23, _)] (.cons rfl (.cons rfl (.cons rfl (.cons rfl (.cons rfl (.cons rfl (.cons rfl (.cons rfl (.cons rfl .nil))))))))) ?_
    refine VC.block ?_
    refine VC.loop (σ := Nat × (Option Addr × Nat) × Option Addr × Nat) (fun s => [(3, .pointer (some ⟨g3, 0, none⟩)), (4, .pointer (some ⟨g4, 0, none⟩)), (5, .pointer (some ⟨g5, 0, none⟩)), (6, .pointer (some ⟨g6, 0, none⟩)), (10, .slice s.2.1.1 (shiftP 0 (M.take s.1)).length s.2.1.2), (11, .slice s.2.2.1 (blobsP (Ms l) (M.take s.1)).length s.2.2.2), (21, .slice C M.length dC), (22, .int .i64 ((M.length : Nat) : Int)), (23, .int .i64 ((s.1 : Nat) : Int))]) (fun s wr => s.1 ≤ M.length ∧ Own wr 3 1 s.2.1.1 (shiftP 0 (M.take s.1)).length s.2.1.2 (NI (shiftP 0 (M.take s.1))) ∧ Own wr 38 1 s.2.2.1 (blobsP (Ms l) (M.take s.1)).length s.2.2.2 (UBl (blobsP (Ms l) (M.take s.1))) ∧ (∀ b ∈ ob s.2.1.1, w6.heap.size ≤ b) ∧ (∀ b ∈ ob s.2.2.1, w6.heap.size ≤ b) ∧ Frm [] w6 wr) (fun s => M.length - s.1) (0, (none, 0), none, 0) (.cons rfl (.cons rfl (.cons rfl (.cons rfl (.cons rfl (.cons rfl (.cons rfl (.cons rfl (.cons rfl .nil))))))))) ⟨by omega, Own.nil _ _ _, Own.nil _ _ _, by simp [ob], by simp [ob], Frm.refl _ _⟩ ?_
    rintro ⟨i, ⟨P, dP⟩, D, dD⟩ wr ⟨hi, hownP, hownD, hgeP, hgeD, hfr⟩
    dsimp only at hi hownP hownD hgeP hgeD ⊢
    have hlP : (shiftP 0 (M.take i)).length = i := by rw [shift_len, List.length_take]; omega
    have hlD : (blobsP (Ms l) (M.take i)).length = i := by unfold blobsP; rw [List.length_map, List.length_take]; omega
    refine VC.seq ?_
    refine VC.region ?_
    refine Ops.r (Run.bin rfl rfl (Bin.lssN _ _)) rfl ?_
    refine Ops.nil ?_
    refine thenQ_n ?_
    refine VC.seq ?_
    refine VC.condD rfl (fun hc2 => ?_) (fun hc2 => ?_)
    · skip
      obtain ⟨adC, uC, hCe, hu, hcellC⟩ := (hownC.rd.frm hfr (by simp)).at1 hc2
      subst hCe
      have hu2 : uC = .int .i64 ((M[i] : Nat) : Int) := by simpa [IB, List.getElem?_eq_getElem hc2] using hu.symm
      subst hu2
      have hp1 := hMg i hc2
      have hp2 := (hMm M[i] (List.getElem_mem hc2)).2
      have hts := take_snocN hc2
      generalize hpi : M[i] = p at *
      have hbl : (Ms l)[p - 1]? = some (l[p - 1]'(by omega)).m := by simp [Ms, List.getElem?_eq_getElem (show p - 1 < l.length by omega)]
      generalize hxx : (l[p - 1]'(by omega)) = x at *
      refine VC.skip ?_
      refine thenQ_n ?_
      refine VC.sub [(3, _), (4, _), (5, _), (6, _), (10, _), (11, _), (21, _), (22, _), (23, _)] (.cons rfl (.cons rfl (.cons rfl (.cons rfl (.cons rfl (.cons rfl (.cons rfl (.cons rfl (.cons rfl .nil))))))))) ?_
      refine VC.seq ?_
      refine VC.block ?_
      refine VC.seq ?_
      refine VC.region ?_
      refine Ops.r (Run.mv rfl) rfl ?_
      refine Ops.r (Run.index1 i rfl rfl Try.underlying25 Try.sizeOf3 hc2) rfl ?_
      refine Ops.r (Run.load rfl Try.isAgg3 hcellC) rfl ?_
      refine Ops.r (Run.asg rfl) rfl ?_
      refine Ops.r (Run.asg rfl) rfl ?_
      refine Ops.nil ?_
      refine thenQ_n ?_
      refine VC.sub [(3, _), (4, _), (5, _), (6, _), (10, _), (11, _), (12, _), (13, _), (21, _), (22, _), (23, _)] (.cons rfl (.cons rfl (.cons rfl (.cons rfl (.cons rfl (.cons rfl (.cons rfl (.cons rfl (.cons rfl (.cons rfl (.cons rfl .nil))))))))))) ?_
      refine VC.seq ?_
      refine VC.region ?_
      refine Ops.r (Run.mv rfl) rfl ?_
      refine Ops.r (Run.mv rfl) rfl ?_
      refine Ops.r (Run.mv rfl) rfl ?_
      refine Ops.r (Run.bin rfl rfl (Bin.sub_i64 _ _ (by omega) (by omega))) rfl ?_
      refine Ops.m (Does.buildS1 rfl Try.underlying25 Try.sizeOf3 zero3 (by decide) (by decide) rfl rfl) rfl ?_
      rintro _ w8 ⟨rfl, hF8⟩
      have hfr8 := hfr.trans hF8.frm (by simp)
      have hownP8 := hownP.frm hF8.frm (by simp)
      have hownD8 := hownD.frm hF8.frm (by simp)
      refine Ops.m (Does.app rfl rfl Try.underlying25 (info3) rfl (by decide) hownP8 (hrdN hF8) (NI_one _) (by omega) (by omega)) rfl ?_
      rintro _ w9 ⟨P9, c9, rfl, hownP9, hf9, hob9⟩
      rw [← NI_append] at hownP9
      have hge9 := up_app hgeP hob9 hfr8.size
      have hfr9 := hfr8.own hf9 hgeP
      obtain ⟨ad, rfl, hcell⟩ := (hl.frm (hfr6.trans hfr9 (by simp))).elem (k := p - 1) (by omega)
      rw [hxx] at hcell
      have hownD9 := hownD8.frm hf9 (hownD8.ne_own hownP8 (by decide))
      have hb39 := hb3.frm hfr9 (by simp)
      refine Ops.r (Run.asg rfl) rfl ?_
      refine Ops.nil ?_
      refine thenQ_n ?_
      refine VC.sub [(3, _), (4, _), (5, _), (6, _), (10, _), (11, _), (13, _), (21, _), (22, _), (23, _)] (.cons rfl (.cons rfl (.cons rfl (.cons rfl (.cons rfl (.cons rfl (.cons rfl (.cons rfl (.cons rfl (.cons rfl .nil)))))))))) ?_
      refine VC.region ?_
      refine Ops.r (Run.mv rfl) rfl ?_
      refine Ops.r (Run.fieldAddr rfl Try.underlying24 rfl Try.sizeOf22 (by decide)) rfl ?_
      refine Ops.r (Run.load rfl Try.isAgg22 (hb39.cell 2)) rfl ?_
      refine Ops.r (Run.mv rfl) rfl ?_
      refine Ops.r (Run.bin rfl rfl (Bin.sub_i64 _ 1 (by omega) (by omega))) rfl ?_
      refine Ops.r (Run.indexS (p - 1) rfl rfl Try.underlying22 Try.sizeOf45 (by omega)) rfl ?_
      refine Ops.r (Run.fieldAddr rfl Try.underlying45 rfl Try.sizeOf38 (by decide)) rfl ?_
      refine Ops.r (Run.load rfl Try.isAgg38 (hcell 4 _ rfl)) rfl ?_
      refine Ops.m (Does.buildS1 rfl Try.underlying27 Try.sizeOf38 zero38 (by decide) (by decide) rfl rfl) rfl ?_
      rintro _ w10 ⟨rfl, hF10⟩
      have hfr10 := hfr9.trans hF10.frm (by simp)
      have hownP10 := hownP9.frm hF10.frm (by simp)
      have hownD10 := hownD9.frm hF10.frm (by simp)
      refine Ops.m (Does.app rfl rfl Try.underlying27 (info38) rfl (by decide) hownD10 (hrdU hF10) (UBl_one _) (by omega) (by omega)) rfl ?_
      rintro _ w11 ⟨D11, c11, rfl, hownD11, hf11, hob11⟩
      rw [← UBl_append] at hownD11
      have hge11 := up_app hgeD hob11 hfr10.size
      have hfr11 := hfr10.own hf11 hgeD
      have hownP11 := hownP10.frm hf11 (hownP10.ne_own hownD10 (by decide))
      refine Ops.r (Run.asg rfl) rfl ?_
      refine Ops.nil ?_
      refine blockQ_n (thenQ_n ?_)
      refine VC.sub [(3, _), (4, _), (5, _), (6, _), (10, _), (11, _), (21, _), (22, _), (23, _)] (.cons rfl (.cons rfl (.cons rfl (.cons rfl (.cons rfl (.cons rfl (.cons rfl (.cons rfl (.cons rfl .nil))))))))) ?_
      refine VC.region ?_
      refine Ops.r (Run.bin rfl rfl (Bin.add_i64 _ 1 (by omega))) rfl ?_
      refine Ops.r (Run.mv rfl) rfl ?_
      refine Ops.nil ?_
      refine thenQ_n ⟨(i + 1, (P9, c9), D11, c11), (.cons rfl (.cons rfl (.cons rfl (.cons rfl (.cons (by rw [hts, shiftP_snoc, List.length_append]; rfl) (.cons (by rw [hts]; unfold blobsP; rw [List.map_append, List.length_append]; rfl) (.cons rfl (.cons rfl (.cons rfl .nil))))))))), ?_, ?_⟩
      · skip
        have hsP : shiftP 0 (M.take (i + 1)) = shiftP 0 (M.take i) ++ [p - i] := by rw [hts, shiftP_snoc, List.length_take, Nat.min_eq_left (by omega), Nat.zero_add]
        have hsD : blobsP (Ms l) (M.take (i + 1)) = blobsP (Ms l) (M.take i) ++ [x.m.blob] := by
          rw [hts]; unfold blobsP; rw [List.map_append, List.map_cons, List.map_nil, hbl]; rfl
        refine ⟨hc2, ?_, ?_, hge9, hge11, hfr11⟩
        · rw [hsP, List.length_append]; exact hownP11
        · rw [hsD, List.length_append]; exact hownD11
      · skip
        first | omega | (dsimp only; omega)
    · skip
      refine VC.exit ?_
      refine thenQ_x (thenQ_x (blockQ_x ?_))
      refine thenQ_n ?_
      refine VC.sub [(3, _), (4, _), (5, _), (6, _), (10, _), (11, _)] (.cons rfl (.cons rfl (.cons rfl (.cons rfl (.cons rfl (.cons rfl .nil)))))) ?_
      refine VC.seq ?_
      refine VC.region ?_
      refine Ops.r (Run.fieldAddr rfl Try.underlying24 rfl Try.sizeOf22 (by decide)) rfl ?_
      refine Ops.r (Run.load rfl Try.isAgg22 ((hb3.frm hfr (by simp)).cell 2)) rfl ?_
      refine Ops.cl (Enters.fn (evs.cons rfl evs.nil) Try.call30) (all_spec A c l _ (hl.frm (hfr6.trans hfr (by simp))) (by omega)) rfl ?_
      rintro e w12 ⟨B, dB, lc, rfl, hMc, hmsc, hgeB, hf12⟩
      refine ⟨_, rfl, ?_⟩
      have hfr12 := hfr.trans hf12 (by simp)
      have hlc : lc.length = l.length := by have := congrArg List.length hmsc; simpa [Ms] using this
      have hb312 := hb3.frm hfr12 (by simp)
      have hb412 := hb4.frm hfr12 (by simp)
      have hb512 := hb5.frm hfr12 (by simp)
      have hb612 := hb6.frm hfr12 (by simp)
      have hownP12 := hownP.frm hf12 (by simp)
      have hownD12 := hownD.frm hf12 (by simp)
      have hwB : ∀ b ∈ ob B, w.heap.size ≤ b := fun b hb => Nat.le_trans (hfr6.trans hfr (by simp)).size (hgeB b hb)
      have hTM : TestM (ob B) w12 31 [.pointer (some ⟨g4, 0, none⟩), .pointer (some ⟨g5, 0, none⟩)] (goesQ every only) := ⟨Try.call31, fun W x hW hx => by
        have ho12 := ho.frm (hfr6.trans hfr12 (by simp)) (by simp)
        refine expC_spec x every O co g4 g5 only W hx (ho12.frm hW (fun hn y hy hyB => ?_)) hon (hb412.frm hW (hMc.own.ne_blk hb412 (by decide))) (hb512.frm hW (hMc.own.ne_blk hb512 (by decide)))
        have h1 := ho.lt hn y hy
        have h2 := hwB y hyB
        omega⟩
      refine Ops.r (Run.mkFunc evs.nil (evs.cons rfl (evs.cons rfl evs.nil))) rfl ?_
      refine Ops.cl (Enters.fn (evs.cons rfl (evs.cons rfl evs.nil)) Try.call29) (delM_spec 31 [.pointer (some ⟨g4, 0, none⟩), .pointer (some ⟨g5, 0, none⟩)] (goesQ every only) B dB lc _ hMc (by omega) hTM) rfl ?_
      rintro e w13 ⟨rfl, hM13, hf13⟩
      refine ⟨_, rfl, ?_⟩
      have hb313 := hb312.frm hf13 (hMc.own.ne_blk hb312 (by decide))
      have hb613 := hb612.frm hf13 (hMc.own.ne_blk hb612 (by decide))
      have hownP13 := hownP12.frm hf13 (hownP12.ne_own hMc.own (by decide))
      have hownD13 := hownD12.frm hf13 (hownD12.ne_own hMc.own (by decide))
      have hfr13 : Frm [] w w13 := (hfr6.trans hfr12 (by simp)).own hf13 hwB
      have hms13 : Ms (lc.filter fun x => !goesQ every only x.m) = (Ms l).filter fun m => !goesQ every only m := by rw [Ms_filter, hmsc]
      generalize hLF : (lc.filter fun x => !goesQ every only x.m) = lf at *
      refine Ops.r (Run.fieldAddr rfl Try.underlying24 rfl Try.sizeOf22 (by decide)) rfl ?_
      refine Ops.st (Acts.store rfl rfl Try.sizeOf22 hb313 rfl rfl) ?_
      rintro w14 ⟨hb314, hf14, hs14⟩
      have hb314 : Blk w14 g3 24 (BVc v n B lf.length dB).toArray := hb314
      have hb614 := hb613.frm hf14 (by simp; omega)
      have hM14 := hM13.blk hf14 hb313 (by decide) (by decide)
      have hownP14 := hownP13.frm hf14 (fun y hy => by have := hownP13.ne_blk hb313 (by decide); simp; rintro rfl; exact this hy)
      have hownD14 := hownD13.frm hf14 (fun y hy => by have := hownD13.ne_blk hb313 (by decide); simp; rintro rfl; exact this hy)
      have hfr14 := hfr13.own hf14 (fun y hy => by simp at hy; omega)
      refine Ops.nil ?_
      refine thenQ_n ?_
      refine VC.sub [(3, _), (6, _), (10, _), (11, _)] (.cons rfl (.cons rfl (.cons rfl (.cons rfl .nil)))) ?_
      refine VC.seq ?_
      refine VC.region ?_
      refine Ops.r (Run.loadA rfl Try.isAgg24 Try.sizeOf24 (fun j v hj => hb314.cells j v hj) (by first | rfl | (simp; done))) rfl ?_
      refine Ops.r (Run.mv rfl) rfl ?_
      refine Ops.r (Run.mv rfl) rfl ?_
      refine Ops.st (Acts.storeA rfl rfl Try.sizeOf24 hb614 rfl (BVc_one _ _ _ _ _)) ?_
      rintro w15 ⟨hb615, hf15, hs15⟩
      have hM15 := hM14.blk hf15 hb614 (by decide) (by decide)
      have hownP15 := hownP14.frm hf15 (fun y hy => by have := hownP14.ne_blk hb614 (by decide); simp; rintro rfl; exact this hy)
      have hownD15 := hownD14.frm hf15 (fun y hy => by have := hownD14.ne_blk hb614 (by decide); simp; rintro rfl; exact this hy)
      have hfr15 := hfr14.own hf15 (fun y hy => by simp at hy; omega)
      refine Ops.r (Run.asg rfl) rfl ?_
      refine Ops.r (Run.asg rfl) rfl ?_
      refine Ops.r (v := .int .i64 ((0 : Nat) : Int)) (Run.asg rfl) rfl ?_
      refine Ops.nil ?_
      refine thenQ_n ?_
      refine VC.sub [(6, _), (7, _), (8, _), (9, _)] (.cons rfl (.cons rfl (.cons rfl (.cons rfl .nil)))) ?_
      refine VC.ret ?_
      refine endR ?_
      refine res_cellA rfl Try.isAgg24 Try.sizeOf24 (fun j v hj => hb615.cells j v hj) (by first | rfl | (simp; done)) ?_
      refine res_tmp rfl ?_
      refine res_tmp rfl ?_
      refine res_tmp rfl ?_
      refine res_nil ?_
      have hiM : i = M.length := by omega
      subst hiM
      rw [List.take_length] at hownP15 hownD15 ⊢
      exact ⟨hfr15, v, n, B, dB, lf, P, dP, _, D, dD, _, 0, rfl, hM15, hownP15, hownD15, .inr ⟨hm, rfl, rfl, rfl, hms13, rfl, rfl⟩⟩

end Go.Proofs.Ytmfglifjnoilnaa

/-
  The walk of box: a message's flags changed; a box at its beginning.
-/
namespace Go.Proofs.Ytmfglifjnoilnaa
open Go.RowKit Go.Sort

theorem changeF_check {l r more : List Tx} {op : Int} (h : changeF l op more = .ok r) : checkF r := by
  unfold changeF at h
  split at h
  · cases h
  · split at h
    · cases h
    · exact normF_check h
theorem check_fit {r : List Tx} (h : checkF r) : r.length ≤ 500000 ∧ ∀ q ∈ r, q.length ≤ 1000000 := by
  obtain ⟨_, h1, _, h2⟩ := checkF_facts h
  exact ⟨by omega, fun q hq => by have := (toldF_len (h2 q hq)).2; omega⟩
theorem MC_setF (l : List Mc) (k : Nat) (hk : k < l.length) (C : Option Addr) (dC : Nat) (r : List Tx) : (MC l).set (k * 6 + 5) (.slice C r.length dC) = MC (l.set k ⟨{ (l[k]).m with flags := r }, C, dC⟩) := by
  apply List.ext_getElem?
  intro j
  have hidx := fun l' => flat_idx Mc.cells 6 (by omega) Mc.cells_len l' j
  have hlen := MC_len l
  rw [show MC (l.set k ⟨{ (l[k]).m with flags := r }, C, dC⟩) = (l.set k ⟨{ (l[k]).m with flags := r }, C, dC⟩).flatMap Mc.cells from rfl, hidx, List.getElem?_set, List.getElem?_set]
  have hdm : j = j / 6 * 6 + j % 6 := by omega
  by_cases h2 : k * 6 + 5 = j
  · have h1 : k = j / 6 := by omega
    rw [if_pos h2, if_pos (by rw [hlen]; omega), if_pos h1, if_pos hk]
    have : j % 6 = 5 := by omega
    rw [this]
    rfl
  · rw [if_neg h2, show MC l = l.flatMap Mc.cells from rfl, hidx]
    by_cases h1 : k = j / 6
    · rw [if_pos h1, if_pos hk, ← h1, List.getElem?_eq_getElem hk]
      have : j % 6 = 0 ∨ j % 6 = 1 ∨ j % 6 = 2 ∨ j % 6 = 3 ∨ j % 6 = 4 := by omega
      rcases this with h | h | h | h | h <;> rw [h] <;> rfl
    · rw [if_neg h1]
theorem Ms_set (l : List Mc) (k : Nat) (x : Mc) : Ms (l.set k x) = (Ms l).set k x.m := by simp [Ms, List.map_set]

set_option maxRecDepth 100000 in
theorem change_spec (v n : Int) (A : Option Addr) (c : Nat) (l : List Mc) (pl op : Int) (F : Option Addr) (cf : Nat) (more : List Tx) (w : World) (hl : RdM w A l) (hmn : more.length ≤ 900000) (hmq : ∀ q ∈ more, q.length ≤ 1000000) (hmr : Rd w 1 F more.length (SB more)) :
    Calls Try.prog 19 #[.agg #[.int .i64 v, .int .i64 n, .slice A l.length c], .int .i64 pl, .int .i64 op, .slice F more.length cf] w fun e w' => Frm [] w w' ∧ ∃ v' n' B d l' k, e = .returned (.tuple #[.agg #[.int .i64 v', .int .i64 n', .slice B l'.length d], .int .i64 ((k : Nat) : Int)]) ∧ IsBx w' (changeB ⟨v, n, Ms l⟩ pl op more) v' n' B d l' k ∧ OwM w' B d l' := by
  refine VC.calls (nt := 57) (res := #[.cell 8 24, .tmp 9]) Try.func19 rfl Try.ntmps19 Try.results19 rfl ?_
  refine VC.seq ?_
  refine VC.region ?_
  refine Ops.m (Does.box rfl) rfl ?_
  rintro _ w1 ⟨rfl, hF4⟩
  have hb4 := hF4.blk
  have hf4 := hF4.frm
  have hs4 : w.heap.size ≤ w.heap.size := Nat.le_refl _
  generalize hg4 : w.heap.size = g4 at hb4 ⊢
  refine Ops.m (Does.alloc zero24) rfl ?_
  rintro _ w2 ⟨rfl, hF8⟩
  have hb8 := hF8.blk
  have hb4 := hb4.frm hF8.frm (by simp)
  have hf8 := hf4.trans hF8.frm (by simp)
  have hs8 : w.heap.size ≤ w1.heap.size := hf4.size
  generalize hg8 : w1.heap.size = g8 at hb8 hs8 ⊢
  have hn48 : g4 < g8 := by rw [← hg8, ← hg4]; have := hF4.size; omega
  refine Ops.r (v := .int .i64 ((0 : Nat) : Int)) (Run.asg rfl) rfl ?_
  refine Ops.nil ?_
  refine thenQ_n ?_
  refine VC.sub [(1, _), (2, _), (3, _), (4, _), (8, _)] (.cons rfl (.cons rfl (.cons rfl (.cons rfl (.cons rfl .nil))))) ?_
  refine VC.seq ?_
  refine VC.block ?_
  refine VC.seq ?_
  refine VC.region ?_
  refine Ops.r (Run.loadA rfl Try.isAgg24 Try.sizeOf24 (fun j v hj => hb4.cells j v hj) (by first | rfl | (simp; done))) rfl ?_
  refine Ops.cl (Enters.fn (evs.cons rfl evs.nil) Try.call17) (may_spec v n A c l _ (hl.frm hf8)) rfl ?_
  rintro e w5 ⟨rfl, hf5⟩
  refine ⟨_, rfl, ?_⟩
  have hfr5 := hf8.trans hf5 (by simp)
  have hb4 := hb4.frm hf5 (by simp)
  have hb8 := hb8.frm hf5 (by simp)
  refine Ops.r (Run.not rfl) rfl ?_
  refine Ops.r (Run.asg rfl) rfl ?_
  refine Ops.nil ?_
  refine thenQ_n ?_
  refine VC.sub [(1, _), (2, _), (3, _), (4, _), (8, _), (12, _)] (.cons rfl (.cons rfl (.cons rfl (.cons rfl (.cons rfl (.cons rfl .nil)))))) ?_
  refine VC.condB rfl (fun hc1 => ?_) (fun hc1 => ?_)
  · skip
    have hm : ¬ mayB ⟨v, n, Ms l⟩ := by simpa using hc1
    refine VC.seq ?_
    refine VC.region ?_
    refine Ops.r (Run.build evs.nil zero24 (places24).choose_spec.1 (places24).choose_spec.2 rfl) rfl ?_
    refine Ops.st (Acts.storeA rfl rfl Try.sizeOf24 hb8 rfl (BVc_one 0 0 none 0 0)) ?_
    rintro w6 ⟨hbz, hfz, hsz⟩
    refine Ops.r (v := .int .i64 ((1 : Nat) : Int)) (Run.asg rfl) rfl ?_
    refine Ops.nil ?_
    refine thenQ_n ?_
    refine VC.sub [(8, _), (9, _)] (.cons rfl (.cons rfl .nil)) ?_
    refine VC.ret ?_
    refine blockQ_r (thenQ_r (endR ?_))
    refine res_cellA rfl Try.isAgg24 Try.sizeOf24 (fun j v hj => hbz.cells j v hj) (by first | rfl | (simp; done)) ?_
    refine res_tmp rfl ?_
    refine res_nil ?_
    exact ⟨hfr5.own hfz (fun y hy => by simp at hy; omega), 0, 0, none, 0, [], 1, rfl, IsBx.err (by decide) (by unfold changeB; rw [if_pos hm]), OwM.nil _⟩
  · skip
    have hm : mayB ⟨v, n, Ms l⟩ := by simpa using hc1
    have hl128 := (may_at hm).1.2.2.2.2
    have hmsl : (Ms l).length = l.length := by simp [Ms]
    refine VC.seq ?_
    refine VC.split1 [(1, _), (2, _), (3, _), (4, _), (8, _)] (.cons rfl (.cons rfl (.cons rfl (.cons rfl (.cons rfl .nil))))) 17 (.bool (decide (pl < 1 ∨ ((l.length : Nat) : Int) < pl))) ?_ ?_
    · refine VC.region ?_
      refine Ops.r (Run.mv rfl) rfl ?_
      refine Ops.r (Run.bin rfl rfl (Bin.lss _ 1)) rfl ?_
      by_cases hs19 : pl < 1
      · skip
        refine Ops.r (Run.mv rfl) rfl ?_
        refine Ops.sk rfl (by first | rfl | assumption | exact decide_eq_true (by assumption) | exact decide_eq_false (by assumption) | decide | (simp; done) | (simp; omega) | (simp [*]; done)) rfl ?_
        refine Ops.sk rfl (by first | rfl | assumption | exact decide_eq_true (by assumption) | exact decide_eq_false (by assumption) | decide | (simp; done) | (simp; omega) | (simp [*]; done)) rfl ?_
        refine Ops.sk rfl (by first | rfl | assumption | exact decide_eq_true (by assumption) | exact decide_eq_false (by assumption) | decide | (simp; done) | (simp; omega) | (simp [*]; done)) rfl ?_
        refine Ops.sk rfl (by first | rfl | assumption | exact decide_eq_true (by assumption) | exact decide_eq_false (by assumption) | decide | (simp; done) | (simp; omega) | (simp [*]; done)) rfl ?_
        refine Ops.sk rfl (by first | rfl | assumption | exact decide_eq_true (by assumption) | exact decide_eq_false (by assumption) | decide | (simp; done) | (simp; omega) | (simp [*]; done)) rfl ?_
        refine Ops.r (Run.pickT rfl rfl (by first | rfl | assumption | exact decide_eq_true (by assumption) | exact decide_eq_false (by assumption) | decide | (simp; done) | (simp; omega) | (simp [*]; done))) rfl ?_
        refine Ops.r (Run.asg rfl) rfl ?_
        refine Ops.nil ?_
        refine thenQ_n ⟨(.cons (congrArg (fun b => some (Value.bool b)) (Eq.symm (by simp [*]))) (.cons rfl (.cons rfl (.cons rfl (.cons rfl (.cons rfl .nil)))))), rfl⟩
      · skip
        refine Ops.r (Run.mv rfl) rfl ?_
        refine Ops.rg rfl (by first | rfl | assumption | exact decide_eq_true (by assumption) | exact decide_eq_false (by assumption) | decide | (simp; done) | (simp; omega) | (simp [*]; done)) (Run.mv rfl) rfl ?_
        refine Ops.rg rfl (by first | rfl | assumption | exact decide_eq_true (by assumption) | exact decide_eq_false (by assumption) | decide | (simp; done) | (simp; omega) | (simp [*]; done)) (Run.fieldAddr rfl Try.underlying24 rfl Try.sizeOf22 (by decide)) rfl ?_
        refine Ops.rg rfl (by first | rfl | assumption | exact decide_eq_true (by assumption) | exact decide_eq_false (by assumption) | decide | (simp; done) | (simp; omega) | (simp [*]; done)) (Run.load rfl Try.isAgg22 (hb4.cell 2)) rfl ?_
        refine Ops.rg rfl (by first | rfl | assumption | exact decide_eq_true (by assumption) | exact decide_eq_false (by assumption) | decide | (simp; done) | (simp; omega) | (simp [*]; done)) (Run.lenS rfl Try.underlying22) rfl ?_
        refine Ops.rg rfl (by first | rfl | assumption | exact decide_eq_true (by assumption) | exact decide_eq_false (by assumption) | decide | (simp; done) | (simp; omega) | (simp [*]; done)) (Run.bin rfl rfl (Bin.gtr _ _)) rfl ?_
        by_cases hs25 : ((l.length : Nat) : Int) < pl
        · skip
          refine Ops.r (Run.pickF rfl rfl (by first | rfl | assumption | exact decide_eq_true (by assumption) | exact decide_eq_false (by assumption) | decide | (simp; done) | (simp; omega) | (simp [*]; done))) rfl ?_
          refine Ops.r (Run.asg rfl) rfl ?_
          refine Ops.nil ?_
          refine thenQ_n ⟨(.cons (congrArg (fun b => some (Value.bool b)) (Eq.symm (by simp [*]))) (.cons rfl (.cons rfl (.cons rfl (.cons rfl (.cons rfl .nil)))))), rfl⟩
        · skip
          refine Ops.r (Run.pickF rfl rfl (by first | rfl | assumption | exact decide_eq_true (by assumption) | exact decide_eq_false (by assumption) | decide | (simp; done) | (simp; omega) | (simp [*]; done))) rfl ?_
          refine Ops.r (Run.asg rfl) rfl ?_
          refine Ops.nil ?_
          refine thenQ_n ⟨(.cons (congrArg (fun b => some (Value.bool b)) (Eq.symm (by simp [*]))) (.cons rfl (.cons rfl (.cons rfl (.cons rfl (.cons rfl .nil)))))), rfl⟩
    · intro Γ hΓ
      refine thenQ_n (VC.sub _ hΓ ?_)
      refine VC.condD rfl (fun hc2 => ?_) (fun hc2 => ?_)
      · skip
        refine VC.seq ?_
        refine VC.region ?_
        refine Ops.r (Run.build evs.nil zero24 (places24).choose_spec.1 (places24).choose_spec.2 rfl) rfl ?_
        refine Ops.st (Acts.storeA rfl rfl Try.sizeOf24 hb8 rfl (BVc_one 0 0 none 0 0)) ?_
        rintro w6 ⟨hbz, hfz, hsz⟩
        refine Ops.r (v := .int .i64 ((4 : Nat) : Int)) (Run.asg rfl) rfl ?_
        refine Ops.nil ?_
        refine thenQ_n ?_
        refine VC.sub [(8, _), (9, _)] (.cons rfl (.cons rfl .nil)) ?_
        refine VC.ret ?_
        refine blockQ_r (thenQ_r (endR ?_))
        refine res_cellA rfl Try.isAgg24 Try.sizeOf24 (fun j v hj => hbz.cells j v hj) (by first | rfl | (simp; done)) ?_
        refine res_tmp rfl ?_
        refine res_nil ?_
        refine ⟨hfr5.own hfz (fun y hy => by simp at hy; omega), 0, 0, none, 0, [], 4, rfl, IsBx.err (by decide) ?_, OwM.nil _⟩
        unfold changeB
        rw [if_neg (fun h => h hm), if_pos (by dsimp only; omega)]
      · skip
        obtain ⟨k, rfl⟩ : ∃ k : Nat, pl = ((k + 1 : Nat) : Int) := ⟨(pl - 1).toNat, by omega⟩
        have hkl : k < l.length := by omega
        obtain ⟨ad, rfl, hcell⟩ := (hl.frm hfr5).elem hkl
        have hxa := (hl.frm hfr5).fl (l[k]) (List.getElem_mem hkl)
        have hkk : (((k + 1 : Nat) : Int) - 1).toNat = k := by omega
        have hMk : (Ms l)[k]? = some (l[k]).m := by simp [Ms, List.getElem?_eq_getElem hkl]
        have hcb : changeB ⟨v, n, Ms l⟩ ((k + 1 : Nat) : Int) op more = match changeF (l[k]).m.flags op more with
            | .error e => .error e
            | .ok r => .ok ⟨v, n, (Ms l).set k { (l[k]).m with flags := r }⟩ := by
          unfold changeB
          rw [if_neg (fun h => h hm), if_neg (by dsimp only; omega)]
          dsimp only
          rw [hkk, hMk]
          rfl
        refine VC.skip ?_
        refine blockQ_n (thenQ_n ?_)
        refine VC.sub [(1, _), (2, _), (3, _), (4, _), (8, _)] (.cons rfl (.cons rfl (.cons rfl (.cons rfl (.cons rfl .nil))))) ?_
        refine VC.seq ?_
        refine VC.region ?_
        refine Ops.r (Run.fieldAddr rfl Try.underlying24 rfl Try.sizeOf22 (by decide)) rfl ?_
        refine Ops.r (Run.load rfl Try.isAgg22 (hb4.cell 2)) rfl ?_
        refine Ops.r (Run.mv rfl) rfl ?_
        refine Ops.r (Run.bin rfl rfl (Bin.sub_i64 _ 1 (by omega) (by omega))) rfl ?_
        refine Ops.r (Run.indexS k rfl rfl Try.underlying22 Try.sizeOf45 hkl) rfl ?_
        refine Ops.r (Run.fieldAddr rfl Try.underlying45 rfl Try.sizeOf43 (by decide)) rfl ?_
        refine Ops.r (Run.load rfl Try.isAgg43 (hcell 5 _ rfl)) rfl ?_
        refine Ops.r (Run.mv rfl) rfl ?_
        refine Ops.r (Run.mv rfl) rfl ?_
        refine Ops.cl (Enters.fn (evs.cons rfl (evs.cons rfl (evs.cons rfl evs.nil))) Try.call38) (fchange_spec (l[k]).A (l[k]).c (l[k]).m.flags op F cf more _ (by have := hxa.n; omega) hxa.q hxa.rd hmn hmq (hmr.frm hfr5 (by simp))) rfl ?_
        rintro e w6 ⟨hf6, C, dC, r, k2, rfl, hownC, hgeC, hN⟩
        refine ⟨_, rfl, ?_⟩
        have hfr6 := hfr5.trans hf6 (by simp)
        have hb4 := hb4.frm hf6 (by simp)
        have hb8 := hb8.frm hf6 (by simp)
        refine Ops.r (Run.mv rfl) rfl ?_
        refine Ops.r (Run.extract rfl rfl) rfl ?_
        refine Ops.r (Run.extract rfl rfl) rfl ?_
        refine Ops.r (Run.asg rfl) rfl ?_
        refine Ops.r (Run.asg rfl) rfl ?_
        refine Ops.nil ?_
        refine thenQ_n ?_
        refine VC.sub [(1, _), (4, _), (8, _), (10, _), (11, _)] (.cons rfl (.cons rfl (.cons rfl (.cons rfl (.cons rfl .nil))))) ?_
        refine VC.seq ?_
        refine VC.seq ?_
        refine VC.region ?_
        refine Ops.r (Run.mv rfl) rfl ?_
        refine Ops.r (Run.bin rfl rfl (Bin.neqN _ 0)) rfl ?_
        refine Ops.nil ?_
        refine thenQ_n ?_
        refine VC.sub [(1, _), (4, _), (8, _), (10, _), (11, _), (42, _)] (.cons rfl (.cons rfl (.cons rfl (.cons rfl (.cons rfl (.cons rfl .nil)))))) ?_
        refine VC.condD rfl (fun hc3 => ?_) (fun hc3 => ?_)
        · skip
          have hce : changeF (l[k]).m.flags op more = .error k2 := by
            rcases hN with ⟨h1, _⟩ | ⟨_, _, h3⟩
            · exact absurd h1 hc3
            · exact h3
          refine VC.seq ?_
          refine VC.region ?_
          refine Ops.r (Run.build evs.nil zero24 (places24).choose_spec.1 (places24).choose_spec.2 rfl) rfl ?_
          refine Ops.r (Run.mv rfl) rfl ?_
          refine Ops.st (Acts.storeA rfl rfl Try.sizeOf24 hb8 rfl (BVc_one 0 0 none 0 0)) ?_
          rintro w7 ⟨hbz, hfz, hsz⟩
          refine Ops.r (Run.asg rfl) rfl ?_
          refine Ops.nil ?_
          refine thenQ_n ?_
          refine VC.sub [(8, _), (9, _)] (.cons rfl (.cons rfl .nil)) ?_
          refine VC.ret ?_
          refine thenQ_r (endR ?_)
          refine res_cellA rfl Try.isAgg24 Try.sizeOf24 (fun j v hj => hbz.cells j v hj) (by first | rfl | (simp; done)) ?_
          refine res_tmp rfl ?_
          refine res_nil ?_
          exact ⟨hfr6.own hfz (fun y hy => by simp at hy; omega), 0, 0, none, 0, [], k2, rfl, IsBx.err hc3 (by rw [hcb, hce]), OwM.nil _⟩
        · skip
          have hk0 : k2 = 0 := Classical.not_not.1 hc3
          have hco : changeF (l[k]).m.flags op more = .ok r := by
            rcases hN with ⟨_, h2⟩ | ⟨h1, _⟩
            · exact h2
            · exact absurd hk0 h1
          have hrf := check_fit (changeF_check hco)
          refine VC.skip ?_
          refine thenQ_n ?_
          refine VC.sub [(1, _), (4, _), (8, _), (10, _)] (.cons rfl (.cons rfl (.cons rfl (.cons rfl .nil)))) ?_
          refine VC.seq ?_
          refine VC.region ?_
          refine Ops.r (Run.fieldAddr rfl Try.underlying24 rfl Try.sizeOf22 (by decide)) rfl ?_
          refine Ops.r (Run.load rfl Try.isAgg22 (hb4.cell 2)) rfl ?_
          refine Ops.cl (Enters.fn (evs.cons rfl evs.nil) Try.call30) (all_spec (some ad) c l _ (hl.frm hfr6) (by omega)) rfl ?_
          rintro e w7 ⟨B, dB, lc, rfl, hMc, hmsc, hgeB, hf7⟩
          refine ⟨_, rfl, ?_⟩
          have hfr7 := hfr6.trans hf7 (by simp)
          have hb4 := hb4.frm hf7 (by simp)
          have hb8 := hb8.frm hf7 (by simp)
          have hownC7 := hownC.frm hf7 (by simp)
          have hlc : lc.length = l.length := by have := congrArg List.length hmsc; simpa [Ms] using this
          have hkc : k < lc.length := by omega
          have hlk : (lc[k]).m = (l[k]).m := by
            have h1 : (Ms lc)[k]? = (Ms l)[k]? := by rw [hmsc]
            simpa [Ms, List.getElem?_eq_getElem hkc, List.getElem?_eq_getElem hkl] using h1
          refine Ops.r (Run.fieldAddr rfl Try.underlying24 rfl Try.sizeOf22 (by decide)) rfl ?_
          refine Ops.st (Acts.store rfl rfl Try.sizeOf22 hb4 rfl rfl) ?_
          rintro w8 ⟨hb48, hf88, hs88⟩
          have hb48 : Blk w8 g4 24 (BVc v n B lc.length dB).toArray := hb48
          have hb88 := hb8.frm hf88 (by simp; omega)
          have hM8 := hMc.blk hf88 hb4 (by decide) (by decide)
          have hownC8 := hownC7.frm hf88 (fun y hy => by have := hownC7.ne_blk hb4 (by decide); simp; rintro rfl; exact this hy)
          have hfr8 := hfr7.own hf88 (fun y hy => by simp at hy; omega)
          obtain ⟨gB, rfl⟩ : ∃ g, B = some ⟨g, 0, none⟩ := by
            rcases hM8.own.cases with ⟨_, h0, _⟩ | ⟨g, _, h0, _⟩
            · omega
            · exact ⟨g, h0⟩
          refine Ops.nil ?_
          refine thenQ_n ?_
          refine VC.sub [(1, _), (4, _), (8, _), (10, _)] (.cons rfl (.cons rfl (.cons rfl (.cons rfl .nil)))) ?_
          refine VC.seq ?_
          refine VC.region ?_
          refine Ops.r (Run.fieldAddr rfl Try.underlying24 rfl Try.sizeOf22 (by decide)) rfl ?_
          refine Ops.r (Run.load rfl Try.isAgg22 (hb48.cell 2)) rfl ?_
          refine Ops.r (Run.mv rfl) rfl ?_
          refine Ops.r (Run.bin rfl rfl (Bin.sub_i64 _ 1 (by omega) (by omega))) rfl ?_
          refine Ops.r (Run.mv rfl) rfl ?_
          refine Ops.r (Run.indexS k rfl rfl Try.underlying22 Try.sizeOf45 hkc) rfl ?_
          refine Ops.r (Run.fieldAddr rfl Try.underlying45 rfl Try.sizeOf43 (by decide)) rfl ?_
          refine Ops.st (Acts.storeOwn (k * 6 + 5) (by rw [← Go.Proofs.Ytmfglifjnoilnaa.add_add]; rfl) rfl Try.sizeOf43 hM8.own rfl (by omega) rfl) ?_
          rintro w9 ⟨hown9, hf9, hs9⟩
          have hown9 := (MC_setF lc k hkc C dC r) ▸ (show Own w9 45 6 (some ⟨gB, 0, none⟩) lc.length dB ((MC lc).set (k * 6 + 5) (.slice C r.length dC)) from hown9)
          have hM9 := hM8.set (x := ⟨{ (lc[k]).m with flags := r }, C, dC⟩) hown9 hf9 hownC8 hrf
          have hgB : w.heap.size ≤ gB := Nat.le_trans hfr6.size (hgeB gB (by simp [ob]))
          have hfr9 := hfr8.own hf9 (fun y hy => by simp [ob] at hy; omega)
          have hb49 := hb48.frm hf9 (hM8.own.ne_blk hb48 (by decide))
          have hb89 := hb88.frm hf9 (hM8.own.ne_blk hb88 (by decide))
          refine Ops.nil ?_
          refine thenQ_n ?_
          refine VC.sub [(4, _), (8, _)] (.cons rfl (.cons rfl .nil)) ?_
          refine VC.seq ?_
          refine VC.region ?_
          refine Ops.r (Run.loadA rfl Try.isAgg24 Try.sizeOf24 (fun j v hj => hb49.cells j v hj) (by first | rfl | (simp; done))) rfl ?_
          refine Ops.st (Acts.storeA rfl rfl Try.sizeOf24 hb89 rfl (BVc_one _ _ _ _ _)) ?_
          rintro w10 ⟨hb810, hf10, hs10⟩
          have hM10 := hM9.blk hf10 hb89 (by decide) (by decide)
          have hfr10 := hfr9.own hf10 (fun y hy => by simp at hy; omega)
          refine Ops.r (v := .int .i64 ((0 : Nat) : Int)) (Run.asg rfl) rfl ?_
          refine Ops.nil ?_
          refine thenQ_n ?_
          refine VC.sub [(8, _), (9, _)] (.cons rfl (.cons rfl .nil)) ?_
          refine VC.ret ?_
          refine endR ?_
          refine res_cellA rfl Try.isAgg24 Try.sizeOf24 (fun j v hj => hb810.cells j v hj) (by first | rfl | (simp; done)) ?_
          refine res_tmp rfl ?_
          refine res_nil ?_
          refine ⟨hfr10, v, n, _, dB, lc.set k ⟨{ (lc[k]).m with flags := r }, C, dC⟩, 0, by rw [List.length_set]; rfl, ⟨hM10.rdm, .inl ⟨rfl, ?_⟩⟩, hM10⟩
          rw [hcb, hco, Ms_set, hmsc, hlk]

set_option maxRecDepth 100000 in
theorem new_spec (v : Int) (w : World) : Calls Try.prog 24 #[.int .i64 v] w fun e w' => Frm [] w w' ∧ ((mayB ⟨v, 1, []⟩ ∧ e = .returned (.tuple #[.agg #[.int .i64 v, .int .i64 1, .slice none 0 0], .int .i64 0])) ∨ (¬ mayB ⟨v, 1, []⟩ ∧ e = .returned (.tuple #[.agg #[.int .i64 0, .int .i64 0, .slice none 0 0], .int .i64 1]))) := by
  refine VC.calls (nt := 12) (res := #[.cell 2 24, .tmp 3]) Try.func24 rfl Try.ntmps24 Try.results24 rfl ?_
  refine VC.seq ?_
  refine VC.region ?_
  refine Ops.m (Does.alloc zero24) rfl ?_
  rintro _ w1 ⟨rfl, hF2⟩
  have hb2 := hF2.blk
  have hf2 := hF2.frm
  have hs2 : w.heap.size ≤ w.heap.size := Nat.le_refl _
  generalize hg2 : w.heap.size = g2 at hb2 ⊢
  refine Ops.r (v := .int .i64 ((0 : Nat) : Int)) (Run.asg rfl) rfl ?_
  refine Ops.nil ?_
  refine thenQ_n ?_
  refine VC.sub [(0, _), (2, _)] (.cons rfl (.cons rfl .nil)) ?_
  refine VC.seq ?_
  refine VC.region ?_
  refine Ops.r (Run.mv rfl) rfl ?_
  refine Ops.r (Run.build (evs.cons rfl (evs.cons rfl evs.nil)) zero24 (places24).choose_spec.1 (places24).choose_spec.2 rfl) rfl ?_
  refine Ops.m (Does.alloc zero24) rfl ?_
  rintro _ w2 ⟨rfl, hF4⟩
  have hb4 := hF4.blk
  have hb2 := hb2.frm hF4.frm (by simp)
  have hf4 := hf2.trans hF4.frm (by simp)
  have hs4 : w.heap.size ≤ w1.heap.size := hf2.size
  generalize hg4 : w1.heap.size = g4 at hb4 hs4 ⊢
  have hn24 : g2 < g4 := by rw [← hg4, ← hg2]; have := hF2.size; omega
  refine Ops.st (Acts.storeA rfl rfl Try.sizeOf24 hb4 rfl (BVc_one v 1 none 0 0)) ?_
  rintro w3 ⟨hb43, hf3, hs3⟩
  have hb23 := hb2.frm hf3 (by simp; omega)
  have hfr3 := hf4.own hf3 (fun y hy => by simp at hy; omega)
  refine Ops.nil ?_
  refine thenQ_n ?_
  refine VC.sub [(2, _), (4, _)] (.cons rfl (.cons rfl .nil)) ?_
  refine VC.seq ?_
  refine VC.seq ?_
  refine VC.region ?_
  refine Ops.r (Run.loadA rfl Try.isAgg24 Try.sizeOf24 (fun j v hj => hb43.cells j v hj) (by first | rfl | (simp; done))) rfl ?_
  refine Ops.cl (Enters.fn (evs.cons rfl evs.nil) Try.call17) (may_spec v 1 none 0 [] _ (RdM.nil _ _)) rfl ?_
  rintro e w4 ⟨rfl, hf5⟩
  refine ⟨_, rfl, ?_⟩
  have hfr5 := hfr3.trans hf5 (by simp)
  have hb25 := hb23.frm hf5 (by simp)
  have hb45 := hb43.frm hf5 (by simp)
  refine Ops.r (Run.not rfl) rfl ?_
  refine Ops.nil ?_
  refine thenQ_n ?_
  refine VC.sub [(2, _), (4, _), (9, _)] (.cons rfl (.cons rfl (.cons rfl .nil))) ?_
  refine VC.condB rfl (fun hc1 => ?_) (fun hc1 => ?_)
  · skip
    have hm : ¬ mayB ⟨v, 1, []⟩ := by simpa [Ms] using hc1
    refine VC.seq ?_
    refine VC.region ?_
    refine Ops.r (Run.build evs.nil zero24 (places24).choose_spec.1 (places24).choose_spec.2 rfl) rfl ?_
    refine Ops.st (Acts.storeA rfl rfl Try.sizeOf24 hb25 rfl (BVc_one 0 0 none 0 0)) ?_
    rintro w6 ⟨hbz, hfz, hsz⟩
    refine Ops.r (v := .int .i64 ((1 : Nat) : Int)) (Run.asg rfl) rfl ?_
    refine Ops.nil ?_
    refine thenQ_n ?_
    refine VC.sub [(2, _), (3, _)] (.cons rfl (.cons rfl .nil)) ?_
    refine VC.ret ?_
    refine thenQ_r (endR ?_)
    refine res_cellA rfl Try.isAgg24 Try.sizeOf24 (fun j v hj => hbz.cells j v hj) (by first | rfl | (simp; done)) ?_
    refine res_tmp rfl ?_
    refine res_nil ?_
    exact ⟨hfr5.own hfz (fun y hy => by simp at hy; omega), .inr ⟨hm, rfl⟩⟩
  · skip
    have hm : mayB ⟨v, 1, []⟩ := by simpa [Ms] using hc1
    refine VC.skip ?_
    refine thenQ_n ?_
    refine VC.sub [(2, _), (4, _)] (.cons rfl (.cons rfl .nil)) ?_
    refine VC.seq ?_
    refine VC.region ?_
    refine Ops.r (Run.loadA rfl Try.isAgg24 Try.sizeOf24 (fun j v hj => hb45.cells j v hj) (by first | rfl | (simp; done))) rfl ?_
    refine Ops.st (Acts.storeA rfl rfl Try.sizeOf24 hb25 rfl (BVc_one v 1 none 0 0)) ?_
    rintro w6 ⟨hbz, hfz, hsz⟩
    refine Ops.r (v := .int .i64 ((0 : Nat) : Int)) (Run.asg rfl) rfl ?_
    refine Ops.nil ?_
    refine thenQ_n ?_
    refine VC.sub [(2, _), (3, _)] (.cons rfl (.cons rfl .nil)) ?_
    refine VC.ret ?_
    refine endR ?_
    refine res_cellA rfl Try.isAgg24 Try.sizeOf24 (fun j v hj => hbz.cells j v hj) (by first | rfl | (simp; done)) ?_
    refine res_tmp rfl ?_
    refine res_nil ?_
    exact ⟨hfr5.own hfz (fun y hy => by simp at hy; omega), .inl ⟨hm, rfl⟩⟩

end Go.Proofs.Ytmfglifjnoilnaa

/-
  The walk of box: are two boxes the same?
-/
namespace Go.Proofs.Ytmfglifjnoilnaa
open Go.RowKit Go.Sort

theorem date_eq (a b c d : Int) (w : World) : (Op.eqFields 9999 #[.int .i64 a, .int .i64 b] #[.int .i64 c, .int .i64 d] (Try.prog.fieldsOf 42).toList).run Try.prog w = .ok (decide (a = c ∧ b = d)) w := by
  obtain ⟨f0, f1, hf, ⟨n0, t0, o0⟩, n1, t1, o1⟩ := fields42
  rw [hf]
  have h := eqF_int (P := Try.prog) (w := w) (d := 9998) (xs := #[.int .i64 a, .int .i64 b]) (ys := #[.int .i64 c, .int .i64 d]) (f := f0) (fs := [f1]) (k := .i64) (k' := .i64) (a := a) (b := c) (by rw [n0]; decide) (by rw [t0]; exact Try.isAgg2) (by rw [t0]; exact Try.underlying2) (by rw [o0]; rfl) (by rw [o0]; rfl)
    (eqF_int (k := .i64) (k' := .i64) (a := b) (b := d) (by rw [n1]; decide) (by rw [t1]; exact Try.isAgg3) (by rw [t1]; exact Try.underlying3) (by rw [o1]; rfl) (by rw [o1]; rfl) eqF_nil)
  have e : decide (a = c ∧ b = d) = (decide (a = c) && (decide (b = d) && true)) := by
    rw [Bool.eq_iff_iff]
    simp
  rw [e]
  exact h
/-- The same message? -/
theorem msg_eq (x y : MsgP) : x = y ↔ (x.uid = y.uid ∧ (x.sec = y.sec ∧ x.zone = y.zone) ∧ x.size = y.size ∧ x.blob = y.blob ∧ x.flags = y.flags) := by
  cases x; cases y
  simp [and_assoc]

set_option maxRecDepth 100000 in
theorem sameC_spec (x y : Mc) (w : World) (hx : x.At w) (hy : y.At w) : Calls Try.prog 41 #[.agg x.cells.toArray, .agg y.cells.toArray] w fun e w' => e = .returned (.bool (decide (x.m = y.m))) ∧ Frm [] w w' := by
  have hme := msg_eq x.m y.m
  refine VC.calls (nt := 38) (res := #[.tmp 4]) Try.func41 rfl Try.ntmps41 Try.results41 rfl ?_
  refine VC.seq ?_
  refine VC.region ?_
  refine Ops.m (Does.box rfl) rfl ?_
  rintro _ w1 ⟨rfl, hF2⟩
  have hb2 := hF2.blk
  have hf2 := hF2.frm
  have hs2 : w.heap.size ≤ w.heap.size := Nat.le_refl _
  generalize hg2 : w.heap.size = g2 at hb2 ⊢
  refine Ops.m (Does.box rfl) rfl ?_
  rintro _ w2 ⟨rfl, hF3⟩
  have hb3 := hF3.blk
  have hb2 := hb2.frm hF3.frm (by simp)
  have hf3 := hf2.trans hF3.frm (by simp)
  have hs3 : w.heap.size ≤ w1.heap.size := hf2.size
  generalize hg3 : w1.heap.size = g3 at hb3 hs3 ⊢
  refine Ops.r (Run.asg rfl) rfl ?_
  refine Ops.nil ?_
  refine thenQ_n ?_
  refine VC.sub [(2, _), (3, _)] (.cons rfl (.cons rfl .nil)) ?_
  refine VC.seq ?_
  refine VC.splitR [] (Frm [] w) 4 (.bool (decide (x.m = y.m))) ?_ ?_
  · refine VC.region ?_
    refine Ops.r (Run.fieldAddr rfl Try.underlying45 rfl Try.sizeOf3 (by decide)) rfl ?_
    refine Ops.r (Run.load rfl Try.isAgg3 (hb2.cell 0)) rfl ?_
    refine Ops.r (Run.fieldAddr rfl Try.underlying45 rfl Try.sizeOf3 (by decide)) rfl ?_
    refine Ops.r (Run.load rfl Try.isAgg3 (hb3.cell 0)) rfl ?_
    refine Ops.r (Run.bin rfl rfl (Bin.eql _ _)) rfl ?_
    by_cases hs9 : x.m.uid = y.m.uid
    · skip
      refine Ops.r (Run.mv rfl) rfl ?_
      refine Ops.rg rfl (by first | rfl | assumption | exact decide_eq_true (by assumption) | exact decide_eq_false (by assumption) | decide | (simp; done) | (simp; omega) | (simp [*]; done)) (Run.fieldAddr rfl Try.underlying45 rfl Try.sizeOf42 (by decide)) rfl ?_
      refine Ops.rg rfl (by first | rfl | assumption | exact decide_eq_true (by assumption) | exact decide_eq_false (by assumption) | decide | (simp; done) | (simp; omega) | (simp [*]; done)) (Run.loadA rfl Try.isAgg42 Try.sizeOf42 (hb2.sub 1 [.int .i64 x.m.sec, .int .i64 x.m.zone] rfl) (by first | rfl | (simp; done))) rfl ?_
      refine Ops.rg rfl (by first | rfl | assumption | exact decide_eq_true (by assumption) | exact decide_eq_false (by assumption) | decide | (simp; done) | (simp; omega) | (simp [*]; done)) (Run.fieldAddr rfl Try.underlying45 rfl Try.sizeOf42 (by decide)) rfl ?_
      refine Ops.rg rfl (by first | rfl | assumption | exact decide_eq_true (by assumption) | exact decide_eq_false (by assumption) | decide | (simp; done) | (simp; omega) | (simp [*]; done)) (Run.loadA rfl Try.isAgg42 Try.sizeOf42 (hb3.sub 1 [.int .i64 y.m.sec, .int .i64 y.m.zone] rfl) (by first | rfl | (simp; done))) rfl ?_
      refine Ops.rg rfl (by first | rfl | assumption | exact decide_eq_true (by assumption) | exact decide_eq_false (by assumption) | decide | (simp; done) | (simp; omega) | (simp [*]; done)) (Run.eqlAgg rfl rfl (by kernel_rfl) (by kernel_rfl) (by kernel_rfl) (date_eq _ _ _ _ _)) rfl ?_
      by_cases hs15 : x.m.sec = y.m.sec ∧ x.m.zone = y.m.zone
      · skip
        refine Ops.r (Run.pickT rfl rfl (by first | rfl | assumption | exact decide_eq_true (by assumption) | exact decide_eq_false (by assumption) | decide | (simp; done) | (simp; omega) | (simp [*]; done))) rfl ?_
        refine Ops.r (Run.mv rfl) rfl ?_
        refine Ops.rg rfl (by first | rfl | assumption | exact decide_eq_true (by assumption) | exact decide_eq_false (by assumption) | decide | (simp; done) | (simp; omega) | (simp [*]; done)) (Run.fieldAddr rfl Try.underlying45 rfl Try.sizeOf3 (by decide)) rfl ?_
        refine Ops.rg rfl (by first | rfl | assumption | exact decide_eq_true (by assumption) | exact decide_eq_false (by assumption) | decide | (simp; done) | (simp; omega) | (simp [*]; done)) (Run.load rfl Try.isAgg3 (hb2.cell 3)) rfl ?_
        refine Ops.rg rfl (by first | rfl | assumption | exact decide_eq_true (by assumption) | exact decide_eq_false (by assumption) | decide | (simp; done) | (simp; omega) | (simp [*]; done)) (Run.fieldAddr rfl Try.underlying45 rfl Try.sizeOf3 (by decide)) rfl ?_
        refine Ops.rg rfl (by first | rfl | assumption | exact decide_eq_true (by assumption) | exact decide_eq_false (by assumption) | decide | (simp; done) | (simp; omega) | (simp [*]; done)) (Run.load rfl Try.isAgg3 (hb3.cell 3)) rfl ?_
        refine Ops.rg rfl (by first | rfl | assumption | exact decide_eq_true (by assumption) | exact decide_eq_false (by assumption) | decide | (simp; done) | (simp; omega) | (simp [*]; done)) (Run.bin rfl rfl (Bin.eql _ _)) rfl ?_
        by_cases hs22 : x.m.size = y.m.size
        · skip
          refine Ops.r (Run.pickT rfl rfl (by first | rfl | assumption | exact decide_eq_true (by assumption) | exact decide_eq_false (by assumption) | decide | (simp; done) | (simp; omega) | (simp [*]; done))) rfl ?_
          refine Ops.r (Run.mv rfl) rfl ?_
          refine Ops.rg rfl (by first | rfl | assumption | exact decide_eq_true (by assumption) | exact decide_eq_false (by assumption) | decide | (simp; done) | (simp; omega) | (simp [*]; done)) (Run.fieldAddr rfl Try.underlying45 rfl Try.sizeOf38 (by decide)) rfl ?_
          refine Ops.rg rfl (by first | rfl | assumption | exact decide_eq_true (by assumption) | exact decide_eq_false (by assumption) | decide | (simp; done) | (simp; omega) | (simp [*]; done)) (Run.load rfl Try.isAgg38 (hb2.cell 4)) rfl ?_
          refine Ops.rg rfl (by first | rfl | assumption | exact decide_eq_true (by assumption) | exact decide_eq_false (by assumption) | decide | (simp; done) | (simp; omega) | (simp [*]; done)) (Run.fieldAddr rfl Try.underlying45 rfl Try.sizeOf38 (by decide)) rfl ?_
          refine Ops.rg rfl (by first | rfl | assumption | exact decide_eq_true (by assumption) | exact decide_eq_false (by assumption) | decide | (simp; done) | (simp; omega) | (simp [*]; done)) (Run.load rfl Try.isAgg38 (hb3.cell 4)) rfl ?_
          refine Ops.rg rfl (by first | rfl | assumption | exact decide_eq_true (by assumption) | exact decide_eq_false (by assumption) | decide | (simp; done) | (simp; omega) | (simp [*]; done)) (Run.bin rfl rfl (Bin.eqlN _ _)) rfl ?_
          by_cases hs29 : x.m.blob = y.m.blob
          · skip
            refine Ops.r (Run.pickT rfl rfl (by first | rfl | assumption | exact decide_eq_true (by assumption) | exact decide_eq_false (by assumption) | decide | (simp; done) | (simp; omega) | (simp [*]; done))) rfl ?_
            refine Ops.r (Run.mv rfl) rfl ?_
            refine Ops.rg rfl (by first | rfl | assumption | exact decide_eq_true (by assumption) | exact decide_eq_false (by assumption) | decide | (simp; done) | (simp; omega) | (simp [*]; done)) (Run.fieldAddr rfl Try.underlying45 rfl Try.sizeOf43 (by decide)) rfl ?_
            refine Ops.rg rfl (by first | rfl | assumption | exact decide_eq_true (by assumption) | exact decide_eq_false (by assumption) | decide | (simp; done) | (simp; omega) | (simp [*]; done)) (Run.load rfl Try.isAgg43 (hb2.cell 5)) rfl ?_
            refine Ops.rg rfl (by first | rfl | assumption | exact decide_eq_true (by assumption) | exact decide_eq_false (by assumption) | decide | (simp; done) | (simp; omega) | (simp [*]; done)) (Run.fieldAddr rfl Try.underlying45 rfl Try.sizeOf43 (by decide)) rfl ?_
            refine Ops.rg rfl (by first | rfl | assumption | exact decide_eq_true (by assumption) | exact decide_eq_false (by assumption) | decide | (simp; done) | (simp; omega) | (simp [*]; done)) (Run.load rfl Try.isAgg43 (hb3.cell 5)) rfl ?_
            refine Ops.clg rfl (by first | rfl | assumption | exact decide_eq_true (by assumption) | exact decide_eq_false (by assumption) | decide | (simp; done) | (simp; omega) | (simp [*]; done)) (Enters.fn (evs.cons rfl (evs.cons rfl evs.nil)) Try.call42) (equal_spec x.A y.A x.c y.c x.m.flags y.m.flags _ (hx.frm hf3 (by simp)).rd (hy.frm hf3 (by simp)).rd (by have := hx.n; omega) (by have := hy.n; omega)) rfl ?_
            rintro e w4 ⟨rfl, hd4⟩
            refine ⟨_, rfl, ?_⟩
            have hfr4 := hf3.drawn hd4
            by_cases hs36 : x.m.flags = y.m.flags
            · skip
              refine Ops.r (Run.pickT rfl rfl (by first | rfl | assumption | exact decide_eq_true (by assumption) | exact decide_eq_false (by assumption) | decide | (simp; done) | (simp; omega) | (simp [*]; done))) rfl ?_
              refine Ops.r (Run.asg rfl) rfl ?_
              refine Ops.nil ?_
              refine thenQ_n ⟨(.cons (congrArg (fun b => some (Value.bool b)) (Eq.symm (by simp [hme, *]))) .nil), (by first | exact hfr4 | exact hf3)⟩
            · skip
              refine Ops.r (Run.pickT rfl rfl (by first | rfl | assumption | exact decide_eq_true (by assumption) | exact decide_eq_false (by assumption) | decide | (simp; done) | (simp; omega) | (simp [*]; done))) rfl ?_
              refine Ops.r (Run.asg rfl) rfl ?_
              refine Ops.nil ?_
              refine thenQ_n ⟨(.cons (congrArg (fun b => some (Value.bool b)) (Eq.symm (by simp [hme, *]))) .nil), (by first | exact hfr4 | exact hf3)⟩
          · skip
            refine Ops.r (Run.pickT rfl rfl (by first | rfl | assumption | exact decide_eq_true (by assumption) | exact decide_eq_false (by assumption) | decide | (simp; done) | (simp; omega) | (simp [*]; done))) rfl ?_
            refine Ops.r (Run.mv rfl) rfl ?_
            refine Ops.sk rfl (by first | rfl | assumption | exact decide_eq_true (by assumption) | exact decide_eq_false (by assumption) | decide | (simp; done) | (simp; omega) | (simp [*]; done)) rfl ?_
            refine Ops.sk rfl (by first | rfl | assumption | exact decide_eq_true (by assumption) | exact decide_eq_false (by assumption) | decide | (simp; done) | (simp; omega) | (simp [*]; done)) rfl ?_
            refine Ops.sk rfl (by first | rfl | assumption | exact decide_eq_true (by assumption) | exact decide_eq_false (by assumption) | decide | (simp; done) | (simp; omega) | (simp [*]; done)) rfl ?_
            refine Ops.sk rfl (by first | rfl | assumption | exact decide_eq_true (by assumption) | exact decide_eq_false (by assumption) | decide | (simp; done) | (simp; omega) | (simp [*]; done)) rfl ?_
            refine Ops.sk rfl (by first | rfl | assumption | exact decide_eq_true (by assumption) | exact decide_eq_false (by assumption) | decide | (simp; done) | (simp; omega) | (simp [*]; done)) rfl ?_
            refine Ops.r (Run.pickF rfl rfl (by first | rfl | assumption | exact decide_eq_true (by assumption) | exact decide_eq_false (by assumption) | decide | (simp; done) | (simp; omega) | (simp [*]; done))) rfl ?_
            refine Ops.r (Run.asg rfl) rfl ?_
            refine Ops.nil ?_
            refine thenQ_n ⟨(.cons (congrArg (fun b => some (Value.bool b)) (Eq.symm (by simp [hme, *]))) .nil), (by first | exact hfr4 | exact hf3)⟩
        · skip
          refine Ops.r (Run.pickT rfl rfl (by first | rfl | assumption | exact decide_eq_true (by assumption) | exact decide_eq_false (by assumption) | decide | (simp; done) | (simp; omega) | (simp [*]; done))) rfl ?_
          refine Ops.r (Run.mv rfl) rfl ?_
          refine Ops.sk rfl (by first | rfl | assumption | exact decide_eq_true (by assumption) | exact decide_eq_false (by assumption) | decide | (simp; done) | (simp; omega) | (simp [*]; done)) rfl ?_
          refine Ops.sk rfl (by first | rfl | assumption | exact decide_eq_true (by assumption) | exact decide_eq_false (by assumption) | decide | (simp; done) | (simp; omega) | (simp [*]; done)) rfl ?_
          refine Ops.sk rfl (by first | rfl | assumption | exact decide_eq_true (by assumption) | exact decide_eq_false (by assumption) | decide | (simp; done) | (simp; omega) | (simp [*]; done)) rfl ?_
          refine Ops.sk rfl (by first | rfl | assumption | exact decide_eq_true (by assumption) | exact decide_eq_false (by assumption) | decide | (simp; done) | (simp; omega) | (simp [*]; done)) rfl ?_
          refine Ops.sk rfl (by first | rfl | assumption | exact decide_eq_true (by assumption) | exact decide_eq_false (by assumption) | decide | (simp; done) | (simp; omega) | (simp [*]; done)) rfl ?_
          refine Ops.r (Run.pickF rfl rfl (by first | rfl | assumption | exact decide_eq_true (by assumption) | exact decide_eq_false (by assumption) | decide | (simp; done) | (simp; omega) | (simp [*]; done))) rfl ?_
          refine Ops.r (Run.mv rfl) rfl ?_
          refine Ops.sk rfl (by first | rfl | assumption | exact decide_eq_true (by assumption) | exact decide_eq_false (by assumption) | decide | (simp; done) | (simp; omega) | (simp [*]; done)) rfl ?_
          refine Ops.sk rfl (by first | rfl | assumption | exact decide_eq_true (by assumption) | exact decide_eq_false (by assumption) | decide | (simp; done) | (simp; omega) | (simp [*]; done)) rfl ?_
          refine Ops.sk rfl (by first | rfl | assumption | exact decide_eq_true (by assumption) | exact decide_eq_false (by assumption) | decide | (simp; done) | (simp; omega) | (simp [*]; done)) rfl ?_
          refine Ops.sk rfl (by first | rfl | assumption | exact decide_eq_true (by assumption) | exact decide_eq_false (by assumption) | decide | (simp; done) | (simp; omega) | (simp [*]; done)) rfl ?_
          refine Ops.sk rfl (by first | rfl | assumption | exact decide_eq_true (by assumption) | exact decide_eq_false (by assumption) | decide | (simp; done) | (simp; omega) | (simp [*]; done)) rfl ?_
          refine Ops.r (Run.pickF rfl rfl (by first | rfl | assumption | exact decide_eq_true (by assumption) | exact decide_eq_false (by assumption) | decide | (simp; done) | (simp; omega) | (simp [*]; done))) rfl ?_
          refine Ops.r (Run.asg rfl) rfl ?_
          refine Ops.nil ?_
          refine thenQ_n ⟨(.cons (congrArg (fun b => some (Value.bool b)) (Eq.symm (by simp [hme, *]))) .nil), (by first | exact hfr4 | exact hf3)⟩
      · skip
        refine Ops.r (Run.pickT rfl rfl (by first | rfl | assumption | exact decide_eq_true (by assumption) | exact decide_eq_false (by assumption) | decide | (simp; done) | (simp; omega) | (simp [*]; done))) rfl ?_
        refine Ops.r (Run.mv rfl) rfl ?_
        refine Ops.sk rfl (by first | rfl | assumption | exact decide_eq_true (by assumption) | exact decide_eq_false (by assumption) | decide | (simp; done) | (simp; omega) | (simp [*]; done)) rfl ?_
        refine Ops.sk rfl (by first | rfl | assumption | exact decide_eq_true (by assumption) | exact decide_eq_false (by assumption) | decide | (simp; done) | (simp; omega) | (simp [*]; done)) rfl ?_
        refine Ops.sk rfl (by first | rfl | assumption | exact decide_eq_true (by assumption) | exact decide_eq_false (by assumption) | decide | (simp; done) | (simp; omega) | (simp [*]; done)) rfl ?_
        refine Ops.sk rfl (by first | rfl | assumption | exact decide_eq_true (by assumption) | exact decide_eq_false (by assumption) | decide | (simp; done) | (simp; omega) | (simp [*]; done)) rfl ?_
        refine Ops.sk rfl (by first | rfl | assumption | exact decide_eq_true (by assumption) | exact decide_eq_false (by assumption) | decide | (simp; done) | (simp; omega) | (simp [*]; done)) rfl ?_
        refine Ops.r (Run.pickF rfl rfl (by first | rfl | assumption | exact decide_eq_true (by assumption) | exact decide_eq_false (by assumption) | decide | (simp; done) | (simp; omega) | (simp [*]; done))) rfl ?_
        refine Ops.r (Run.mv rfl) rfl ?_
        refine Ops.sk rfl (by first | rfl | assumption | exact decide_eq_true (by assumption) | exact decide_eq_false (by assumption) | decide | (simp; done) | (simp; omega) | (simp [*]; done)) rfl ?_
        refine Ops.sk rfl (by first | rfl | assumption | exact decide_eq_true (by assumption) | exact decide_eq_false (by assumption) | decide | (simp; done) | (simp; omega) | (simp [*]; done)) rfl ?_
        refine Ops.sk rfl (by first | rfl | assumption | exact decide_eq_true (by assumption) | exact decide_eq_false (by assumption) | decide | (simp; done) | (simp; omega) | (simp [*]; done)) rfl ?_
        refine Ops.sk rfl (by first | rfl | assumption | exact decide_eq_true (by assumption) | exact decide_eq_false (by assumption) | decide | (simp; done) | (simp; omega) | (simp [*]; done)) rfl ?_
        refine Ops.sk rfl (by first | rfl | assumption | exact decide_eq_true (by assumption) | exact decide_eq_false (by assumption) | decide | (simp; done) | (simp; omega) | (simp [*]; done)) rfl ?_
        refine Ops.r (Run.pickF rfl rfl (by first | rfl | assumption | exact decide_eq_true (by assumption) | exact decide_eq_false (by assumption) | decide | (simp; done) | (simp; omega) | (simp [*]; done))) rfl ?_
        refine Ops.r (Run.mv rfl) rfl ?_
        refine Ops.sk rfl (by first | rfl | assumption | exact decide_eq_true (by assumption) | exact decide_eq_false (by assumption) | decide | (simp; done) | (simp; omega) | (simp [*]; done)) rfl ?_
        refine Ops.sk rfl (by first | rfl | assumption | exact decide_eq_true (by assumption) | exact decide_eq_false (by assumption) | decide | (simp; done) | (simp; omega) | (simp [*]; done)) rfl ?_
        refine Ops.sk rfl (by first | rfl | assumption | exact decide_eq_true (by assumption) | exact decide_eq_false (by assumption) | decide | (simp; done) | (simp; omega) | (simp [*]; done)) rfl ?_
        refine Ops.sk rfl (by first | rfl | assumption | exact decide_eq_true (by assumption) | exact decide_eq_false (by assumption) | decide | (simp; done) | (simp; omega) | (simp [*]; done)) rfl ?_
        refine Ops.sk rfl (by first | rfl | assumption | exact decide_eq_true (by assumption) | exact decide_eq_false (by assumption) | decide | (simp; done) | (simp; omega) | (simp [*]; done)) rfl ?_
        refine Ops.r (Run.pickF rfl rfl (by first | rfl | assumption | exact decide_eq_true (by assumption) | exact decide_eq_false (by assumption) | decide | (simp; done) | (simp; omega) | (simp [*]; done))) rfl ?_
        refine Ops.r (Run.asg rfl) rfl ?_
        refine Ops.nil ?_
        refine thenQ_n ⟨(.cons (congrArg (fun b => some (Value.bool b)) (Eq.symm (by simp [hme, *]))) .nil), (by first | exact hfr4 | exact hf3)⟩
    · skip
      refine Ops.r (Run.mv rfl) rfl ?_
      refine Ops.sk rfl (by first | rfl | assumption | exact decide_eq_true (by assumption) | exact decide_eq_false (by assumption) | decide | (simp; done) | (simp; omega) | (simp [*]; done)) rfl ?_
      refine Ops.sk rfl (by first | rfl | assumption | exact decide_eq_true (by assumption) | exact decide_eq_false (by assumption) | decide | (simp; done) | (simp; omega) | (simp [*]; done)) rfl ?_
      refine Ops.sk rfl (by first | rfl | assumption | exact decide_eq_true (by assumption) | exact decide_eq_false (by assumption) | decide | (simp; done) | (simp; omega) | (simp [*]; done)) rfl ?_
      refine Ops.sk rfl (by first | rfl | assumption | exact decide_eq_true (by assumption) | exact decide_eq_false (by assumption) | decide | (simp; done) | (simp; omega) | (simp [*]; done)) rfl ?_
      refine Ops.sk rfl (by first | rfl | assumption | exact decide_eq_true (by assumption) | exact decide_eq_false (by assumption) | decide | (simp; done) | (simp; omega) | (simp [*]; done)) rfl ?_
      refine Ops.r (Run.pickF rfl rfl (by first | rfl | assumption | exact decide_eq_true (by assumption) | exact decide_eq_false (by assumption) | decide | (simp; done) | (simp; omega) | (simp [*]; done))) rfl ?_
      refine Ops.r (Run.mv rfl) rfl ?_
      refine Ops.sk rfl (by first | rfl | assumption | exact decide_eq_true (by assumption) | exact decide_eq_false (by assumption) | decide | (simp; done) | (simp; omega) | (simp [*]; done)) rfl ?_
      refine Ops.sk rfl (by first | rfl | assumption | exact decide_eq_true (by assumption) | exact decide_eq_false (by assumption) | decide | (simp; done) | (simp; omega) | (simp [*]; done)) rfl ?_
      refine Ops.sk rfl (by first | rfl | assumption | exact decide_eq_true (by assumption) | exact decide_eq_false (by assumption) | decide | (simp; done) | (simp; omega) | (simp [*]; done)) rfl ?_
      refine Ops.sk rfl (by first | rfl | assumption | exact decide_eq_true (by assumption) | exact decide_eq_false (by assumption) | decide | (simp; done) | (simp; omega) | (simp [*]; done)) rfl ?_
      refine Ops.sk rfl (by first | rfl | assumption | exact decide_eq_true (by assumption) | exact decide_eq_false (by assumption) | decide | (simp; done) | (simp; omega) | (simp [*]; done)) rfl ?_
      refine Ops.r (Run.pickF rfl rfl (by first | rfl | assumption | exact decide_eq_true (by assumption) | exact decide_eq_false (by assumption) | decide | (simp; done) | (simp; omega) | (simp [*]; done))) rfl ?_
      refine Ops.r (Run.mv rfl) rfl ?_
      refine Ops.sk rfl (by first | rfl | assumption | exact decide_eq_true (by assumption) | exact decide_eq_false (by assumption) | decide | (simp; done) | (simp; omega) | (simp [*]; done)) rfl ?_
      refine Ops.sk rfl (by first | rfl | assumption | exact decide_eq_true (by assumption) | exact decide_eq_false (by assumption) | decide | (simp; done) | (simp; omega) | (simp [*]; done)) rfl ?_
      refine Ops.sk rfl (by first | rfl | assumption | exact decide_eq_true (by assumption) | exact decide_eq_false (by assumption) | decide | (simp; done) | (simp; omega) | (simp [*]; done)) rfl ?_
      refine Ops.sk rfl (by first | rfl | assumption | exact decide_eq_true (by assumption) | exact decide_eq_false (by assumption) | decide | (simp; done) | (simp; omega) | (simp [*]; done)) rfl ?_
      refine Ops.sk rfl (by first | rfl | assumption | exact decide_eq_true (by assumption) | exact decide_eq_false (by assumption) | decide | (simp; done) | (simp; omega) | (simp [*]; done)) rfl ?_
      refine Ops.r (Run.pickF rfl rfl (by first | rfl | assumption | exact decide_eq_true (by assumption) | exact decide_eq_false (by assumption) | decide | (simp; done) | (simp; omega) | (simp [*]; done))) rfl ?_
      refine Ops.r (Run.mv rfl) rfl ?_
      refine Ops.sk rfl (by first | rfl | assumption | exact decide_eq_true (by assumption) | exact decide_eq_false (by assumption) | decide | (simp; done) | (simp; omega) | (simp [*]; done)) rfl ?_
      refine Ops.sk rfl (by first | rfl | assumption | exact decide_eq_true (by assumption) | exact decide_eq_false (by assumption) | decide | (simp; done) | (simp; omega) | (simp [*]; done)) rfl ?_
      refine Ops.sk rfl (by first | rfl | assumption | exact decide_eq_true (by assumption) | exact decide_eq_false (by assumption) | decide | (simp; done) | (simp; omega) | (simp [*]; done)) rfl ?_
      refine Ops.sk rfl (by first | rfl | assumption | exact decide_eq_true (by assumption) | exact decide_eq_false (by assumption) | decide | (simp; done) | (simp; omega) | (simp [*]; done)) rfl ?_
      refine Ops.sk rfl (by first | rfl | assumption | exact decide_eq_true (by assumption) | exact decide_eq_false (by assumption) | decide | (simp; done) | (simp; omega) | (simp [*]; done)) rfl ?_
      refine Ops.r (Run.pickF rfl rfl (by first | rfl | assumption | exact decide_eq_true (by assumption) | exact decide_eq_false (by assumption) | decide | (simp; done) | (simp; omega) | (simp [*]; done))) rfl ?_
      refine Ops.r (Run.asg rfl) rfl ?_
      refine Ops.nil ?_
      refine thenQ_n ⟨(.cons (congrArg (fun b => some (Value.bool b)) (Eq.symm (by simp [hme, *]))) .nil), (by first | exact hfr4 | exact hf3)⟩
  · intro Γ wR hΓ hR
    refine thenQ_n (VC.sub _ hΓ ?_)
    refine VC.ret ?_
    refine end1 rfl ?_
    exact ⟨rfl, hR⟩

set_option maxRecDepth 100000 in
theorem equalM_spec (A B : Option Addr) (c d : Nat) (l l2 : List Mc) (w : World) (hl : RdM w A l) (hl2 : RdM w B l2) (hn : l.length ≤ 1000000) (hn2 : l2.length ≤ 1000000) :
    Calls Try.prog 40 #[.slice A l.length c, .slice B l2.length d, .func (.func 41) #[] #[]] w fun e w' => e = .returned (.bool (decide (Ms l = Ms l2))) ∧ Frm [] w w' := by
  refine VC.calls (nt := 32) (res := #[.tmp 6]) Try.func40 rfl Try.ntmps40 Try.results40 rfl ?_
  refine VC.seq ?_
  refine VC.region ?_
  refine Ops.r (Run.asg rfl) rfl ?_
  refine Ops.nil ?_
  refine thenQ_n ?_
  refine VC.sub [(0, _), (1, _), (2, _)] (.cons rfl (.cons rfl (.cons rfl .nil))) ?_
  refine VC.seq ?_
  refine VC.seq ?_
  refine VC.region ?_
  refine Ops.r (Run.mv rfl) rfl ?_
  refine Ops.r (Run.lenS rfl Try.underlying22) rfl ?_
  refine Ops.r (Run.mv rfl) rfl ?_
  refine Ops.r (Run.lenS rfl Try.underlying22) rfl ?_
  refine Ops.r (Run.bin rfl rfl (Bin.neqN _ _)) rfl ?_
  refine Ops.nil ?_
  refine thenQ_n ?_
  refine VC.sub [(0, _), (1, _), (2, _), (14, _)] (.cons rfl (.cons rfl (.cons rfl (.cons rfl .nil)))) ?_
  refine VC.condD rfl (fun hc1 => ?_) (fun hc1 => ?_)
  · skip
    refine VC.seq ?_
    refine VC.region ?_
    refine Ops.r (Run.asg rfl) rfl ?_
    refine Ops.nil ?_
    refine thenQ_n ?_
    refine VC.sub [(6, _)] (.cons rfl .nil) ?_
    refine VC.ret ?_
    refine thenQ_r (end1 rfl ?_)
    refine ⟨?_, Frm.refl _ _⟩
    rw [decide_eq_false]
    intro h
    have := congrArg List.length h
    simp [Ms] at this
    exact hc1 this
  · skip
    have hll : l.length = l2.length := Classical.not_not.1 hc1
    refine VC.skip ?_
    refine thenQ_n ?_
    refine VC.sub [(0, _), (1, _), (2, _)] (.cons rfl (.cons rfl (.cons rfl .nil))) ?_
    refine VC.seq ?_
    refine VC.seq ?_
    refine VC.region ?_
    refine Ops.r (Run.mv rfl) rfl ?_
    refine Ops.r (Run.lenS rfl Try.underlying22) rfl ?_
    refine Ops.r (v := .int .i64 ((0 : Nat) : Int)) (Run.mv rfl) rfl ?_
    refine Ops.nil ?_
    refine thenQ_n ?_
    refine VC.sub [(1, _), (2, _), (15, _), (16, _), (17, _)] (.cons rfl (.cons rfl (.cons rfl (.cons rfl (.cons rfl .nil))))) ?_
    refine VC.block ?_
    refine VC.loop (σ := Nat) (fun s => [(1, .slice B l2.length d), (2, .func (.func 41) #[] #[]), (15, .slice A l.length c), (16, .int .i64 ((l.length : Nat) : Int)), (17, .int .i64 ((s : Nat) : Int))]) (fun s wr => s ≤ l.length ∧ Frm [] w wr ∧ Ms (l.take s) = Ms (l2.take s)) (fun s => l.length - s) 0 (.cons rfl (.cons rfl (.cons rfl (.cons rfl (.cons rfl .nil))))) ⟨by omega, Frm.refl _ _, by simp⟩ ?_
    rintro i wr ⟨hi, hfr, hsm⟩
    refine VC.seq ?_
    refine VC.region ?_
    refine Ops.r (Run.bin rfl rfl (Bin.lssN _ _)) rfl ?_
    refine Ops.nil ?_
    refine thenQ_n ?_
    refine VC.seq ?_
    refine VC.condD rfl (fun hc2 => ?_) (fun hc2 => ?_)
    · skip
      obtain ⟨ad, rfl, hcell⟩ := (hl.frm hfr).elem hc2
      have hxa := (hl.frm hfr).fl (l[i]) (List.getElem_mem hc2)
      have hc2' : i < l2.length := by omega
      have hms := Ms_take hc2
      have hms2 := Ms_take hc2'
      have hya0 := (hl2.frm hfr).fl (l2[i]) (List.getElem_mem hc2')
      generalize hx : l[i] = x at *
      refine VC.skip ?_
      refine thenQ_n ?_
      refine VC.sub [(1, _), (2, _), (15, _), (16, _), (17, _)] (.cons rfl (.cons rfl (.cons rfl (.cons rfl (.cons rfl .nil))))) ?_
      refine VC.seq ?_
      refine VC.block ?_
      refine VC.seq ?_
      refine VC.region ?_
      refine Ops.r (Run.mv rfl) rfl ?_
      refine Ops.r (Run.indexS i rfl rfl Try.underlying22 Try.sizeOf45 hc2) rfl ?_
      refine Ops.r (Run.loadA rfl Try.isAgg45 Try.sizeOf45 hcell (by first | rfl | (simp; done))) rfl ?_
      refine Ops.m (Does.alloc zero45) rfl ?_
      rintro _ w2 ⟨rfl, hF2⟩
      have hb2 := hF2.blk
      have hf2 := hF2.frm
      have hsz2 : wr.heap.size ≤ wr.heap.size := Nat.le_refl _
      have hfs := hfr.size
      generalize hg2 : wr.heap.size = g2 at hb2 hsz2 hfs ⊢
      refine Ops.r (Run.asg rfl) rfl ?_
      refine Ops.st (Acts.storeA rfl rfl Try.sizeOf45 hb2 rfl x.cells_one) ?_
      rintro w3 ⟨hb3, hf3, hs3⟩
      have hfr3 : Frm [] wr w3 := hf2.own hf3 (fun y hy => by simp at hy; omega)
      obtain ⟨ad2, rfl, hcell2⟩ := (hl2.frm (hfr.trans hfr3 (by simp))).elem hc2'
      have hya := hya0.frm hfr3 (by simp)
      generalize hy : l2[i] = y at *
      refine Ops.nil ?_
      refine thenQ_n ?_
      refine VC.sub [(1, _), (2, _), (7, _), (8, _), (15, _), (16, _), (17, _)] (.cons rfl (.cons rfl (.cons rfl (.cons rfl (.cons rfl (.cons rfl (.cons rfl .nil))))))) ?_
      refine VC.seq ?_
      refine VC.region ?_
      refine Ops.r (Run.mv rfl) rfl ?_
      refine Ops.r (Run.mv rfl) rfl ?_
      refine Ops.r (Run.indexS i rfl rfl Try.underlying22 Try.sizeOf45 hc2') rfl ?_
      refine Ops.r (Run.loadA rfl Try.isAgg45 Try.sizeOf45 hcell2 (by first | rfl | (simp; done))) rfl ?_
      refine Ops.m (Does.alloc zero45) rfl ?_
      rintro _ w4 ⟨rfl, hF4⟩
      have hb4 := hF4.blk
      have hb34 := hb3.frm hF4.frm (by simp)
      have hf4 := hfr3.trans hF4.frm (by simp)
      have hsz4 : wr.heap.size ≤ w3.heap.size := hfr3.size
      have hn4 : g2 < w3.heap.size := hb3.lt
      generalize hg4 : w3.heap.size = g4 at hb4 hsz4 hn4 ⊢
      refine Ops.st (Acts.storeA rfl rfl Try.sizeOf45 hb4 rfl y.cells_one) ?_
      rintro w5 ⟨hb5, hf5, hs5⟩
      have hfr5 : Frm [] wr w5 := hf4.own hf5 (fun y hy => by simp at hy; omega)
      have hb35 := hb34.frm hf5 (by simp; omega)
      refine Ops.nil ?_
      refine thenQ_n ?_
      refine VC.sub [(1, _), (2, _), (8, _), (9, _), (15, _), (16, _), (17, _)] (.cons rfl (.cons rfl (.cons rfl (.cons rfl (.cons rfl (.cons rfl (.cons rfl .nil))))))) ?_
      refine VC.seq ?_
      refine VC.region ?_
      refine Ops.r (Run.mv rfl) rfl ?_
      refine Ops.r (Run.loadA rfl Try.isAgg45 Try.sizeOf45 (fun j v hj => hb35.cells j v hj) (by first | rfl | (simp; done))) rfl ?_
      refine Ops.r (Run.loadA rfl Try.isAgg45 Try.sizeOf45 (fun j v hj => hb5.cells j v hj) (by first | rfl | (simp; done))) rfl ?_
      refine Ops.cl (Enters.dyn rfl (evs.cons rfl (evs.cons rfl evs.nil)) Try.call41) (sameC_spec x y _ (hxa.frm hfr5 (by simp)) (by exact hya0.frm hfr5 (by simp))) rfl ?_
      rintro e w6 ⟨rfl, hf6⟩
      refine ⟨_, rfl, ?_⟩
      have hfr6 := hfr5.trans hf6 (by simp)
      refine Ops.r (Run.not rfl) rfl ?_
      refine Ops.nil ?_
      refine thenQ_n ?_
      refine VC.sub [(1, _), (2, _), (15, _), (16, _), (17, _), (30, _)] (.cons rfl (.cons rfl (.cons rfl (.cons rfl (.cons rfl (.cons rfl .nil)))))) ?_
      refine VC.condB rfl (fun hc3 => ?_) (fun hc3 => ?_)
      · skip
        refine VC.seq ?_
        refine VC.region ?_
        refine Ops.r (Run.asg rfl) rfl ?_
        refine Ops.nil ?_
        refine thenQ_n ?_
        refine VC.sub [(6, _)] (.cons rfl .nil) ?_
        refine VC.ret ?_
        refine blockQ_r (thenQ_r (thenQ_r (blockQ_r (thenQ_r (end1 rfl ?_)))))
        refine ⟨?_, hfr.trans hfr6 (by simp)⟩
        rw [decide_eq_false]
        intro h
        have hne : x.m ≠ y.m := by simpa using hc3
        have h1 := congrArg (fun z => z[i]?) h
        simp only [Ms, List.getElem?_map, List.getElem?_eq_getElem hc2, List.getElem?_eq_getElem hc2', Option.map_some, Option.some.injEq] at h1
        rw [hx, hy] at h1
        exact hne h1
      · skip
        refine VC.skip ?_
        refine blockQ_n (thenQ_n ?_)
        refine VC.sub [(1, _), (2, _), (15, _), (16, _), (17, _)] (.cons rfl (.cons rfl (.cons rfl (.cons rfl (.cons rfl .nil))))) ?_
        refine VC.region ?_
        refine Ops.r (Run.bin rfl rfl (Bin.add_i64 _ 1 (by omega))) rfl ?_
        refine Ops.r (Run.mv rfl) rfl ?_
        refine Ops.nil ?_
        refine thenQ_n ⟨(i + 1), (.cons rfl (.cons rfl (.cons rfl (.cons rfl (.cons rfl .nil))))), ?_, ?_⟩
        · skip
          have hxy : x.m = y.m := by simpa using hc3
          exact ⟨hc2, hfr.trans hfr6 (by simp), by rw [hms, hms2, hsm, hxy]⟩
        · skip
          first | omega | (dsimp only; omega)
    · skip
      refine VC.exit ?_
      refine thenQ_x (thenQ_x (blockQ_x ?_))
      refine thenQ_n ?_
      refine VC.sub [] .nil ?_
      refine VC.seq ?_
      refine VC.region ?_
      refine Ops.r (Run.asg rfl) rfl ?_
      refine Ops.nil ?_
      refine thenQ_n ?_
      refine VC.ret ?_
      refine end1 rfl ?_
      refine ⟨?_, hfr⟩
      have hil : i = l.length := by omega
      subst hil
      rw [List.take_length, hll, List.take_length] at hsm
      rw [decide_eq_true hsm]

set_option maxRecDepth 100000 in
theorem bsame_spec (v n v2 n2 : Int) (A B : Option Addr) (c d : Nat) (l l2 : List Mc) (w : World) (hl : RdM w A l) (hl2 : RdM w B l2) :
    Calls Try.prog 23 #[.agg #[.int .i64 v, .int .i64 n, .slice A l.length c], .agg #[.int .i64 v2, .int .i64 n2, .slice B l2.length d]] w fun e w' => e = .returned (.bool (decide (mayB ⟨v, n, Ms l⟩ ∧ mayB ⟨v2, n2, Ms l2⟩ ∧ v = v2 ∧ n = n2 ∧ Ms l = Ms l2))) ∧ Frm [] w w' := by
  refine VC.calls (nt := 32) (res := #[.tmp 4]) Try.func23 rfl Try.ntmps23 Try.results23 rfl ?_
  refine VC.seq ?_
  refine VC.region ?_
  refine Ops.m (Does.box rfl) rfl ?_
  rintro _ w1 ⟨rfl, hF2⟩
  have hb2 := hF2.blk
  have hf2 := hF2.frm
  have hs2 : w.heap.size ≤ w.heap.size := Nat.le_refl _
  generalize hg2 : w.heap.size = g2 at hb2 ⊢
  refine Ops.m (Does.box rfl) rfl ?_
  rintro _ w2 ⟨rfl, hF3⟩
  have hb3 := hF3.blk
  have hb2 := hb2.frm hF3.frm (by simp)
  have hf3 := hf2.trans hF3.frm (by simp)
  have hs3 : w.heap.size ≤ w1.heap.size := hf2.size
  generalize hg3 : w1.heap.size = g3 at hb3 hs3 ⊢
  refine Ops.r (Run.asg rfl) rfl ?_
  refine Ops.nil ?_
  refine thenQ_n ?_
  refine VC.sub [(2, _), (3, _)] (.cons rfl (.cons rfl .nil)) ?_
  refine VC.seq ?_
  refine VC.splitR [] (Frm [] w) 4 (.bool (decide (mayB ⟨v, n, Ms l⟩ ∧ mayB ⟨v2, n2, Ms l2⟩ ∧ v = v2 ∧ n = n2 ∧ Ms l = Ms l2))) ?_ ?_
  · refine VC.region ?_
    refine Ops.r (Run.loadA rfl Try.isAgg24 Try.sizeOf24 (fun j v hj => hb2.cells j v hj) (by first | rfl | (simp; done))) rfl ?_
    refine Ops.cl (Enters.fn (evs.cons rfl evs.nil) Try.call17) (may_spec v n A c l _ (hl.frm hf3)) rfl ?_
    rintro e w4 ⟨rfl, hf4⟩
    refine ⟨_, rfl, ?_⟩
    have hfr4 := hf3.trans hf4 (by simp)
    have hb2 := hb2.frm hf4 (by simp)
    have hb3 := hb3.frm hf4 (by simp)
    by_cases hs6 : mayB ⟨v, n, Ms l⟩
    · skip
      refine Ops.r (Run.mv rfl) rfl ?_
      refine Ops.rg rfl (by first | rfl | assumption | exact decide_eq_true (by assumption) | exact decide_eq_false (by assumption) | decide | (simp; done) | (simp; omega) | (simp [*]; done)) (Run.loadA rfl Try.isAgg24 Try.sizeOf24 (fun j v hj => hb3.cells j v hj) (by first | rfl | (simp; done))) rfl ?_
      refine Ops.clg rfl (by first | rfl | assumption | exact decide_eq_true (by assumption) | exact decide_eq_false (by assumption) | decide | (simp; done) | (simp; omega) | (simp [*]; done)) (Enters.fn (evs.cons rfl evs.nil) Try.call17) (may_spec v2 n2 B d l2 _ (hl2.frm hfr4)) rfl ?_
      rintro e w5 ⟨rfl, hf5⟩
      refine ⟨_, rfl, ?_⟩
      have hfr5 := hfr4.trans hf5 (by simp)
      have hb2 := hb2.frm hf5 (by simp)
      have hb3 := hb3.frm hf5 (by simp)
      by_cases hs9 : mayB ⟨v2, n2, Ms l2⟩
      · skip
        refine Ops.r (Run.pickT rfl rfl (by first | rfl | assumption | exact decide_eq_true (by assumption) | exact decide_eq_false (by assumption) | decide | (simp; done) | (simp; omega) | (simp [*]; done))) rfl ?_
        refine Ops.r (Run.mv rfl) rfl ?_
        refine Ops.rg rfl (by first | rfl | assumption | exact decide_eq_true (by assumption) | exact decide_eq_false (by assumption) | decide | (simp; done) | (simp; omega) | (simp [*]; done)) (Run.fieldAddr rfl Try.underlying24 rfl Try.sizeOf3 (by decide)) rfl ?_
        refine Ops.rg rfl (by first | rfl | assumption | exact decide_eq_true (by assumption) | exact decide_eq_false (by assumption) | decide | (simp; done) | (simp; omega) | (simp [*]; done)) (Run.load rfl Try.isAgg3 (hb2.cell 0)) rfl ?_
        refine Ops.rg rfl (by first | rfl | assumption | exact decide_eq_true (by assumption) | exact decide_eq_false (by assumption) | decide | (simp; done) | (simp; omega) | (simp [*]; done)) (Run.fieldAddr rfl Try.underlying24 rfl Try.sizeOf3 (by decide)) rfl ?_
        refine Ops.rg rfl (by first | rfl | assumption | exact decide_eq_true (by assumption) | exact decide_eq_false (by assumption) | decide | (simp; done) | (simp; omega) | (simp [*]; done)) (Run.load rfl Try.isAgg3 (hb3.cell 0)) rfl ?_
        refine Ops.rg rfl (by first | rfl | assumption | exact decide_eq_true (by assumption) | exact decide_eq_false (by assumption) | decide | (simp; done) | (simp; omega) | (simp [*]; done)) (Run.bin rfl rfl (Bin.eql _ _)) rfl ?_
        by_cases hs16 : v = v2
        · skip
          refine Ops.r (Run.pickT rfl rfl (by first | rfl | assumption | exact decide_eq_true (by assumption) | exact decide_eq_false (by assumption) | decide | (simp; done) | (simp; omega) | (simp [*]; done))) rfl ?_
          refine Ops.r (Run.mv rfl) rfl ?_
          refine Ops.rg rfl (by first | rfl | assumption | exact decide_eq_true (by assumption) | exact decide_eq_false (by assumption) | decide | (simp; done) | (simp; omega) | (simp [*]; done)) (Run.fieldAddr rfl Try.underlying24 rfl Try.sizeOf3 (by decide)) rfl ?_
          refine Ops.rg rfl (by first | rfl | assumption | exact decide_eq_true (by assumption) | exact decide_eq_false (by assumption) | decide | (simp; done) | (simp; omega) | (simp [*]; done)) (Run.load rfl Try.isAgg3 (hb2.cell 1)) rfl ?_
          refine Ops.rg rfl (by first | rfl | assumption | exact decide_eq_true (by assumption) | exact decide_eq_false (by assumption) | decide | (simp; done) | (simp; omega) | (simp [*]; done)) (Run.fieldAddr rfl Try.underlying24 rfl Try.sizeOf3 (by decide)) rfl ?_
          refine Ops.rg rfl (by first | rfl | assumption | exact decide_eq_true (by assumption) | exact decide_eq_false (by assumption) | decide | (simp; done) | (simp; omega) | (simp [*]; done)) (Run.load rfl Try.isAgg3 (hb3.cell 1)) rfl ?_
          refine Ops.rg rfl (by first | rfl | assumption | exact decide_eq_true (by assumption) | exact decide_eq_false (by assumption) | decide | (simp; done) | (simp; omega) | (simp [*]; done)) (Run.bin rfl rfl (Bin.eql _ _)) rfl ?_
          by_cases hs23 : n = n2
          · skip
            refine Ops.r (Run.pickT rfl rfl (by first | rfl | assumption | exact decide_eq_true (by assumption) | exact decide_eq_false (by assumption) | decide | (simp; done) | (simp; omega) | (simp [*]; done))) rfl ?_
            refine Ops.r (Run.mv rfl) rfl ?_
            refine Ops.rg rfl (by first | rfl | assumption | exact decide_eq_true (by assumption) | exact decide_eq_false (by assumption) | decide | (simp; done) | (simp; omega) | (simp [*]; done)) (Run.fieldAddr rfl Try.underlying24 rfl Try.sizeOf22 (by decide)) rfl ?_
            refine Ops.rg rfl (by first | rfl | assumption | exact decide_eq_true (by assumption) | exact decide_eq_false (by assumption) | decide | (simp; done) | (simp; omega) | (simp [*]; done)) (Run.load rfl Try.isAgg22 (hb2.cell 2)) rfl ?_
            refine Ops.rg rfl (by first | rfl | assumption | exact decide_eq_true (by assumption) | exact decide_eq_false (by assumption) | decide | (simp; done) | (simp; omega) | (simp [*]; done)) (Run.fieldAddr rfl Try.underlying24 rfl Try.sizeOf22 (by decide)) rfl ?_
            refine Ops.rg rfl (by first | rfl | assumption | exact decide_eq_true (by assumption) | exact decide_eq_false (by assumption) | decide | (simp; done) | (simp; omega) | (simp [*]; done)) (Run.load rfl Try.isAgg22 (hb3.cell 2)) rfl ?_
            refine Ops.clg rfl (by first | rfl | assumption | exact decide_eq_true (by assumption) | exact decide_eq_false (by assumption) | decide | (simp; done) | (simp; omega) | (simp [*]; done)) (Enters.fn (evs.cons rfl (evs.cons rfl (evs.cons rfl evs.nil))) Try.call40) (equalM_spec A B c d l l2 _ (hl.frm hfr5) (hl2.frm hfr5) (by have := (may_at hs6).1; omega) (by have := (may_at hs9).1; omega)) rfl ?_
            rintro e w6 ⟨rfl, hf6⟩
            refine ⟨_, rfl, ?_⟩
            have hfr6 := hfr5.trans hf6 (by simp)
            by_cases hs30 : Ms l = Ms l2
            · skip
              refine Ops.r (Run.pickT rfl rfl (by first | rfl | assumption | exact decide_eq_true (by assumption) | exact decide_eq_false (by assumption) | decide | (simp; done) | (simp; omega) | (simp [*]; done))) rfl ?_
              refine Ops.r (Run.asg rfl) rfl ?_
              refine Ops.nil ?_
              refine thenQ_n ⟨(.cons (congrArg (fun b => some (Value.bool b)) (Eq.symm (by simp [*]))) .nil), (by first | exact hfr6 | exact hfr5 | exact hfr4)⟩
            · skip
              refine Ops.r (Run.pickT rfl rfl (by first | rfl | assumption | exact decide_eq_true (by assumption) | exact decide_eq_false (by assumption) | decide | (simp; done) | (simp; omega) | (simp [*]; done))) rfl ?_
              refine Ops.r (Run.asg rfl) rfl ?_
              refine Ops.nil ?_
              refine thenQ_n ⟨(.cons (congrArg (fun b => some (Value.bool b)) (Eq.symm (by simp [*]))) .nil), (by first | exact hfr6 | exact hfr5 | exact hfr4)⟩
          · skip
            refine Ops.r (Run.pickT rfl rfl (by first | rfl | assumption | exact decide_eq_true (by assumption) | exact decide_eq_false (by assumption) | decide | (simp; done) | (simp; omega) | (simp [*]; done))) rfl ?_
            refine Ops.r (Run.mv rfl) rfl ?_
            refine Ops.sk rfl (by first | rfl | assumption | exact decide_eq_true (by assumption) | exact decide_eq_false (by assumption) | decide | (simp; done) | (simp; omega) | (simp [*]; done)) rfl ?_
            refine Ops.sk rfl (by first | rfl | assumption | exact decide_eq_true (by assumption) | exact decide_eq_false (by assumption) | decide | (simp; done) | (simp; omega) | (simp [*]; done)) rfl ?_
            refine Ops.sk rfl (by first | rfl | assumption | exact decide_eq_true (by assumption) | exact decide_eq_false (by assumption) | decide | (simp; done) | (simp; omega) | (simp [*]; done)) rfl ?_
            refine Ops.sk rfl (by first | rfl | assumption | exact decide_eq_true (by assumption) | exact decide_eq_false (by assumption) | decide | (simp; done) | (simp; omega) | (simp [*]; done)) rfl ?_
            refine Ops.sk rfl (by first | rfl | assumption | exact decide_eq_true (by assumption) | exact decide_eq_false (by assumption) | decide | (simp; done) | (simp; omega) | (simp [*]; done)) rfl ?_
            refine Ops.r (Run.pickF rfl rfl (by first | rfl | assumption | exact decide_eq_true (by assumption) | exact decide_eq_false (by assumption) | decide | (simp; done) | (simp; omega) | (simp [*]; done))) rfl ?_
            refine Ops.r (Run.asg rfl) rfl ?_
            refine Ops.nil ?_
            refine thenQ_n ⟨(.cons (congrArg (fun b => some (Value.bool b)) (Eq.symm (by simp [*]))) .nil), (by first | exact hfr6 | exact hfr5 | exact hfr4)⟩
        · skip
          refine Ops.r (Run.pickT rfl rfl (by first | rfl | assumption | exact decide_eq_true (by assumption) | exact decide_eq_false (by assumption) | decide | (simp; done) | (simp; omega) | (simp [*]; done))) rfl ?_
          refine Ops.r (Run.mv rfl) rfl ?_
          refine Ops.sk rfl (by first | rfl | assumption | exact decide_eq_true (by assumption) | exact decide_eq_false (by assumption) | decide | (simp; done) | (simp; omega) | (simp [*]; done)) rfl ?_
          refine Ops.sk rfl (by first | rfl | assumption | exact decide_eq_true (by assumption) | exact decide_eq_false (by assumption) | decide | (simp; done) | (simp; omega) | (simp [*]; done)) rfl ?_
          refine Ops.sk rfl (by first | rfl | assumption | exact decide_eq_true (by assumption) | exact decide_eq_false (by assumption) | decide | (simp; done) | (simp; omega) | (simp [*]; done)) rfl ?_
          refine Ops.sk rfl (by first | rfl | assumption | exact decide_eq_true (by assumption) | exact decide_eq_false (by assumption) | decide | (simp; done) | (simp; omega) | (simp [*]; done)) rfl ?_
          refine Ops.sk rfl (by first | rfl | assumption | exact decide_eq_true (by assumption) | exact decide_eq_false (by assumption) | decide | (simp; done) | (simp; omega) | (simp [*]; done)) rfl ?_
          refine Ops.r (Run.pickF rfl rfl (by first | rfl | assumption | exact decide_eq_true (by assumption) | exact decide_eq_false (by assumption) | decide | (simp; done) | (simp; omega) | (simp [*]; done))) rfl ?_
          refine Ops.r (Run.mv rfl) rfl ?_
          refine Ops.sk rfl (by first | rfl | assumption | exact decide_eq_true (by assumption) | exact decide_eq_false (by assumption) | decide | (simp; done) | (simp; omega) | (simp [*]; done)) rfl ?_
          refine Ops.sk rfl (by first | rfl | assumption | exact decide_eq_true (by assumption) | exact decide_eq_false (by assumption) | decide | (simp; done) | (simp; omega) | (simp [*]; done)) rfl ?_
          refine Ops.sk rfl (by first | rfl | assumption | exact decide_eq_true (by assumption) | exact decide_eq_false (by assumption) | decide | (simp; done) | (simp; omega) | (simp [*]; done)) rfl ?_
          refine Ops.sk rfl (by first | rfl | assumption | exact decide_eq_true (by assumption) | exact decide_eq_false (by assumption) | decide | (simp; done) | (simp; omega) | (simp [*]; done)) rfl ?_
          refine Ops.sk rfl (by first | rfl | assumption | exact decide_eq_true (by assumption) | exact decide_eq_false (by assumption) | decide | (simp; done) | (simp; omega) | (simp [*]; done)) rfl ?_
          refine Ops.r (Run.pickF rfl rfl (by first | rfl | assumption | exact decide_eq_true (by assumption) | exact decide_eq_false (by assumption) | decide | (simp; done) | (simp; omega) | (simp [*]; done))) rfl ?_
          refine Ops.r (Run.asg rfl) rfl ?_
          refine Ops.nil ?_
          refine thenQ_n ⟨(.cons (congrArg (fun b => some (Value.bool b)) (Eq.symm (by simp [*]))) .nil), (by first | exact hfr6 | exact hfr5 | exact hfr4)⟩
      · skip
        refine Ops.r (Run.pickT rfl rfl (by first | rfl | assumption | exact decide_eq_true (by assumption) | exact decide_eq_false (by assumption) | decide | (simp; done) | (simp; omega) | (simp [*]; done))) rfl ?_
        refine Ops.r (Run.mv rfl) rfl ?_
        refine Ops.sk rfl (by first | rfl | assumption | exact decide_eq_true (by assumption) | exact decide_eq_false (by assumption) | decide | (simp; done) | (simp; omega) | (simp [*]; done)) rfl ?_
        refine Ops.sk rfl (by first | rfl | assumption | exact decide_eq_true (by assumption) | exact decide_eq_false (by assumption) | decide | (simp; done) | (simp; omega) | (simp [*]; done)) rfl ?_
        refine Ops.sk rfl (by first | rfl | assumption | exact decide_eq_true (by assumption) | exact decide_eq_false (by assumption) | decide | (simp; done) | (simp; omega) | (simp [*]; done)) rfl ?_
        refine Ops.sk rfl (by first | rfl | assumption | exact decide_eq_true (by assumption) | exact decide_eq_false (by assumption) | decide | (simp; done) | (simp; omega) | (simp [*]; done)) rfl ?_
        refine Ops.sk rfl (by first | rfl | assumption | exact decide_eq_true (by assumption) | exact decide_eq_false (by assumption) | decide | (simp; done) | (simp; omega) | (simp [*]; done)) rfl ?_
        refine Ops.r (Run.pickF rfl rfl (by first | rfl | assumption | exact decide_eq_true (by assumption) | exact decide_eq_false (by assumption) | decide | (simp; done) | (simp; omega) | (simp [*]; done))) rfl ?_
        refine Ops.r (Run.mv rfl) rfl ?_
        refine Ops.sk rfl (by first | rfl | assumption | exact decide_eq_true (by assumption) | exact decide_eq_false (by assumption) | decide | (simp; done) | (simp; omega) | (simp [*]; done)) rfl ?_
        refine Ops.sk rfl (by first | rfl | assumption | exact decide_eq_true (by assumption) | exact decide_eq_false (by assumption) | decide | (simp; done) | (simp; omega) | (simp [*]; done)) rfl ?_
        refine Ops.sk rfl (by first | rfl | assumption | exact decide_eq_true (by assumption) | exact decide_eq_false (by assumption) | decide | (simp; done) | (simp; omega) | (simp [*]; done)) rfl ?_
        refine Ops.sk rfl (by first | rfl | assumption | exact decide_eq_true (by assumption) | exact decide_eq_false (by assumption) | decide | (simp; done) | (simp; omega) | (simp [*]; done)) rfl ?_
        refine Ops.sk rfl (by first | rfl | assumption | exact decide_eq_true (by assumption) | exact decide_eq_false (by assumption) | decide | (simp; done) | (simp; omega) | (simp [*]; done)) rfl ?_
        refine Ops.r (Run.pickF rfl rfl (by first | rfl | assumption | exact decide_eq_true (by assumption) | exact decide_eq_false (by assumption) | decide | (simp; done) | (simp; omega) | (simp [*]; done))) rfl ?_
        refine Ops.r (Run.mv rfl) rfl ?_
        refine Ops.sk rfl (by first | rfl | assumption | exact decide_eq_true (by assumption) | exact decide_eq_false (by assumption) | decide | (simp; done) | (simp; omega) | (simp [*]; done)) rfl ?_
        refine Ops.sk rfl (by first | rfl | assumption | exact decide_eq_true (by assumption) | exact decide_eq_false (by assumption) | decide | (simp; done) | (simp; omega) | (simp [*]; done)) rfl ?_
        refine Ops.sk rfl (by first | rfl | assumption | exact decide_eq_true (by assumption) | exact decide_eq_false (by assumption) | decide | (simp; done) | (simp; omega) | (simp [*]; done)) rfl ?_
        refine Ops.sk rfl (by first | rfl | assumption | exact decide_eq_true (by assumption) | exact decide_eq_false (by assumption) | decide | (simp; done) | (simp; omega) | (simp [*]; done)) rfl ?_
        refine Ops.sk rfl (by first | rfl | assumption | exact decide_eq_true (by assumption) | exact decide_eq_false (by assumption) | decide | (simp; done) | (simp; omega) | (simp [*]; done)) rfl ?_
        refine Ops.r (Run.pickF rfl rfl (by first | rfl | assumption | exact decide_eq_true (by assumption) | exact decide_eq_false (by assumption) | decide | (simp; done) | (simp; omega) | (simp [*]; done))) rfl ?_
        refine Ops.r (Run.asg rfl) rfl ?_
        refine Ops.nil ?_
        refine thenQ_n ⟨(.cons (congrArg (fun b => some (Value.bool b)) (Eq.symm (by simp [*]))) .nil), (by first | exact hfr6 | exact hfr5 | exact hfr4)⟩
    · skip
      refine Ops.r (Run.mv rfl) rfl ?_
      refine Ops.sk rfl (by first | rfl | assumption | exact decide_eq_true (by assumption) | exact decide_eq_false (by assumption) | decide | (simp; done) | (simp; omega) | (simp [*]; done)) rfl ?_
      refine Ops.sk rfl (by first | rfl | assumption | exact decide_eq_true (by assumption) | exact decide_eq_false (by assumption) | decide | (simp; done) | (simp; omega) | (simp [*]; done)) rfl ?_
      refine Ops.r (Run.pickF rfl rfl (by first | rfl | assumption | exact decide_eq_true (by assumption) | exact decide_eq_false (by assumption) | decide | (simp; done) | (simp; omega) | (simp [*]; done))) rfl ?_
      refine Ops.r (Run.mv rfl) rfl ?_
      refine Ops.sk rfl (by first | rfl | assumption | exact decide_eq_true (by assumption) | exact decide_eq_false (by assumption) | decide | (simp; done) | (simp; omega) | (simp [*]; done)) rfl ?_
      refine Ops.sk rfl (by first | rfl | assumption | exact decide_eq_true (by assumption) | exact decide_eq_false (by assumption) | decide | (simp; done) | (simp; omega) | (simp [*]; done)) rfl ?_
      refine Ops.sk rfl (by first | rfl | assumption | exact decide_eq_true (by assumption) | exact decide_eq_false (by assumption) | decide | (simp; done) | (simp; omega) | (simp [*]; done)) rfl ?_
      refine Ops.sk rfl (by first | rfl | assumption | exact decide_eq_true (by assumption) | exact decide_eq_false (by assumption) | decide | (simp; done) | (simp; omega) | (simp [*]; done)) rfl ?_
      refine Ops.sk rfl (by first | rfl | assumption | exact decide_eq_true (by assumption) | exact decide_eq_false (by assumption) | decide | (simp; done) | (simp; omega) | (simp [*]; done)) rfl ?_
      refine Ops.r (Run.pickF rfl rfl (by first | rfl | assumption | exact decide_eq_true (by assumption) | exact decide_eq_false (by assumption) | decide | (simp; done) | (simp; omega) | (simp [*]; done))) rfl ?_
      refine Ops.r (Run.mv rfl) rfl ?_
      refine Ops.sk rfl (by first | rfl | assumption | exact decide_eq_true (by assumption) | exact decide_eq_false (by assumption) | decide | (simp; done) | (simp; omega) | (simp [*]; done)) rfl ?_
      refine Ops.sk rfl (by first | rfl | assumption | exact decide_eq_true (by assumption) | exact decide_eq_false (by assumption) | decide | (simp; done) | (simp; omega) | (simp [*]; done)) rfl ?_
      refine Ops.sk rfl (by first | rfl | assumption | exact decide_eq_true (by assumption) | exact decide_eq_false (by assumption) | decide | (simp; done) | (simp; omega) | (simp [*]; done)) rfl ?_
      refine Ops.sk rfl (by first | rfl | assumption | exact decide_eq_true (by assumption) | exact decide_eq_false (by assumption) | decide | (simp; done) | (simp; omega) | (simp [*]; done)) rfl ?_
      refine Ops.sk rfl (by first | rfl | assumption | exact decide_eq_true (by assumption) | exact decide_eq_false (by assumption) | decide | (simp; done) | (simp; omega) | (simp [*]; done)) rfl ?_
      refine Ops.r (Run.pickF rfl rfl (by first | rfl | assumption | exact decide_eq_true (by assumption) | exact decide_eq_false (by assumption) | decide | (simp; done) | (simp; omega) | (simp [*]; done))) rfl ?_
      refine Ops.r (Run.mv rfl) rfl ?_
      refine Ops.sk rfl (by first | rfl | assumption | exact decide_eq_true (by assumption) | exact decide_eq_false (by assumption) | decide | (simp; done) | (simp; omega) | (simp [*]; done)) rfl ?_
      refine Ops.sk rfl (by first | rfl | assumption | exact decide_eq_true (by assumption) | exact decide_eq_false (by assumption) | decide | (simp; done) | (simp; omega) | (simp [*]; done)) rfl ?_
      refine Ops.sk rfl (by first | rfl | assumption | exact decide_eq_true (by assumption) | exact decide_eq_false (by assumption) | decide | (simp; done) | (simp; omega) | (simp [*]; done)) rfl ?_
      refine Ops.sk rfl (by first | rfl | assumption | exact decide_eq_true (by assumption) | exact decide_eq_false (by assumption) | decide | (simp; done) | (simp; omega) | (simp [*]; done)) rfl ?_
      refine Ops.sk rfl (by first | rfl | assumption | exact decide_eq_true (by assumption) | exact decide_eq_false (by assumption) | decide | (simp; done) | (simp; omega) | (simp [*]; done)) rfl ?_
      refine Ops.r (Run.pickF rfl rfl (by first | rfl | assumption | exact decide_eq_true (by assumption) | exact decide_eq_false (by assumption) | decide | (simp; done) | (simp; omega) | (simp [*]; done))) rfl ?_
      refine Ops.r (Run.asg rfl) rfl ?_
      refine Ops.nil ?_
      refine thenQ_n ⟨(.cons (congrArg (fun b => some (Value.bool b)) (Eq.symm (by simp [*]))) .nil), (by first | exact hfr6 | exact hfr5 | exact hfr4)⟩
  · intro Γ wR hΓ hR
    refine thenQ_n (VC.sub _ hΓ ?_)
    refine VC.ret ?_
    refine end1 rfl ?_
    exact ⟨rfl, hR⟩

end Go.Proofs.Ytmfglifjnoilnaa

