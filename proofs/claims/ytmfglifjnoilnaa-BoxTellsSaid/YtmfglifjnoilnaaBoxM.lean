/-
  The walks of box: which are marked, which are without a flag, their numbers.
-/
import Derived.Test.YtmfglifjnoilnaaBoxD
namespace Go.Proofs.Ytmfglifjnoilnaa
open Go.RowKit Go.Sort

/-- Numbers that came back. -/
def IsI (w0 w' : World) (e : Ending) (r : List Int) : Prop := ∃ C d, e = .returned (.slice C r.length d) ∧ Own w' 3 1 C r.length d (IB r) ∧ ∀ b ∈ ob C, w0.heap.size ≤ b
theorem hrdI {w w' : World} {t : TypeId} {z : Int} (h : Fresh w w' t #[.int .i64 z]) : Rd w' 1 (some ⟨w.heap.size, 0, none⟩) 1 (IB [z]) := Rd.of_blk (n := 1) (size := 1) h.blk rfl
theorem IB_append (a b : List Int) : IB (a ++ b) = IB a ++ IB b := by simp [IB]
/-- The places that a test names, of a box that may be. -/
def namedB (q : MsgP → Bool) (b : BoxV) : List Int := if mayB b then (marksQ q 0 b.l).map fun x : Nat => (x : Int) else []
def nidsB (b : BoxV) : List Int := if mayB b then b.l.map MsgP.uid else []
/-- What the loops have: the places of the first ones. -/
def nmI (q : MsgP → Bool) (l : List Mc) (i : Nat) : List Int := (marksQ q 0 (Ms (l.take i))).map fun x : Nat => (x : Int)
theorem nmI_succ (q : MsgP → Bool) {l : List Mc} {i : Nat} (h : i < l.length) : nmI q l (i + 1) = nmI q l i ++ if q (l[i]).m = true then [((i + 1 : Nat) : Int)] else [] := by
  unfold nmI
  rw [Ms_take h, marksQ_snoc, List.map_append]
  have e : (Ms (l.take i)).length = i := by simp [Ms]; omega
  rw [e, Nat.zero_add]
  split <;> rfl
theorem nmI_len (q : MsgP → Bool) (l : List Mc) (i : Nat) : (nmI q l i).length ≤ l.length := by
  unfold nmI
  have := marksQ_len q (Ms (l.take i)) 0
  simp only [List.length_map] at *
  rw [List.length_take] at this
  omega

set_option maxRecDepth 100000 in
theorem marked_spec (v n : Int) (A : Option Addr) (c : Nat) (l : List Mc) (every : Bool) (O : Option Addr) (co : Nat) (only : List Int) (w : World) (hl : RdM w A l) (ho : Rd w 1 O only.length (IB only)) (hon : only.length ≤ 1000000) :
    Calls Try.prog 10 #[.agg #[.int .i64 v, .int .i64 n, .slice A l.length c], .bool every, .slice O only.length co] w fun e w' => Frm [] w w' ∧ IsI w w' e (namedB (goesQ every only) ⟨v, n, Ms l⟩) := by
  refine VC.calls (nt := 32) (res := #[.tmp 6]) Try.func10 rfl Try.ntmps10 Try.results10 rfl ?_
  refine VC.seq ?_
  refine VC.region ?_
  refine Ops.m (Does.box rfl) rfl ?_
  rintro _ w1 ⟨rfl, hF1⟩
  have hb1 := hF1.blk
  have hf1 := hF1.frm
  generalize hg1 : w.heap.size = g1 at *
  refine Ops.r (Run.asg rfl) rfl ?_
  refine Ops.nil ?_
  refine thenQ_n ?_
  refine VC.sub [(1, _), (2, _), (3, _)] (.cons rfl (.cons rfl (.cons rfl .nil))) ?_
  refine VC.seq ?_
  refine VC.seq ?_
  refine VC.region ?_
  refine Ops.r (Run.loadA rfl Try.isAgg24 Try.sizeOf24 (fun j v hj => hb1.cells j v hj) (by first | rfl | (simp; done))) rfl ?_
  refine Ops.cl (Enters.fn (evs.cons rfl evs.nil) Try.call17) (may_spec v n A c l _ (hl.frm hf1)) rfl ?_
  rintro e w2 ⟨rfl, hf2⟩
  refine ⟨_, rfl, ?_⟩
  have hb12 := hb1.frm hf2 (by simp)
  have hfr0 := hf1.trans hf2 (by simp)
  refine Ops.r (Run.not rfl) rfl ?_
  refine Ops.nil ?_
  refine thenQ_n ?_
  refine VC.sub [(1, _), (2, _), (3, _), (12, _)] (.cons rfl (.cons rfl (.cons rfl (.cons rfl .nil)))) ?_
  refine VC.condB rfl (fun hc1 => ?_) (fun hc1 => ?_)
  · skip
    have hm : ¬ mayB ⟨v, n, Ms l⟩ := by simpa using hc1
    refine VC.seq ?_
    refine VC.region ?_
    refine Ops.r (Run.asg rfl) rfl ?_
    refine Ops.nil ?_
    refine thenQ_n ?_
    refine VC.sub [(6, _)] (.cons rfl .nil) ?_
    refine VC.ret ?_
    refine thenQ_r (end1 rfl ?_)
    refine ⟨hfr0, none, 0, ?_, ?_, by simp [ob]⟩
    · unfold namedB; rw [if_neg hm]; rfl
    · unfold namedB; rw [if_neg hm]; exact Own.nil _ _ _
  · skip
    have hm : mayB ⟨v, n, Ms l⟩ := by simpa using hc1
    have hl128 := (may_at hm).1.2.2.2.2
    generalize hq : goesQ every only = q at *
    refine VC.skip ?_
    refine thenQ_n ?_
    refine VC.sub [(1, _), (2, _), (3, _)] (.cons rfl (.cons rfl (.cons rfl .nil))) ?_
    refine VC.seq ?_
    refine VC.region ?_
    refine Ops.r (Run.asg rfl) rfl ?_
    refine Ops.nil ?_
    refine thenQ_n ?_
    refine VC.seq ?_
    refine VC.seq ?_
    refine VC.region ?_
    refine Ops.r (Run.fieldAddr rfl Try.underlying24 rfl Try.sizeOf22 (by decide)) rfl ?_
    refine Ops.r (Run.load rfl Try.isAgg22 (hb12.cell 2)) rfl ?_
    refine Ops.r (Run.lenS rfl Try.underlying22) rfl ?_
    refine Ops.r (v := .int .i64 ((0 : Nat) : Int)) (Run.mv rfl) rfl ?_
    refine Ops.nil ?_
    refine thenQ_n ?_
    refine VC.sub [(1, _), (2, _), (7, _), (14, _), (15, _), (16, _)] (.cons rfl (.cons rfl (.cons rfl (.cons rfl (.cons rfl (.cons rfl .nil)))))) ?_
    refine VC.block ?_
    refine VC.loop (σ := Nat × Option Addr × Nat) (fun s => [(1, .bool every), (2, .slice O only.length co), (7, .slice s.2.1 (nmI q l s.1).length s.2.2), (14, .slice A l.length c), (15, .int .i64 ((l.length : Nat) : Int)), (16, .int .i64 ((s.1 : Nat) : Int))]) (fun s wr => s.1 ≤ l.length ∧ Own wr 3 1 s.2.1 (nmI q l s.1).length s.2.2 (IB (nmI q l s.1)) ∧ (∀ b ∈ ob s.2.1, w.heap.size ≤ b) ∧ Frm [] w wr) (fun s => l.length - s.1) (0, none, 0) (.cons rfl (.cons rfl (.cons rfl (.cons rfl (.cons rfl (.cons rfl .nil)))))) ⟨by omega, Own.nil _ _ _, by simp [ob], hfr0⟩ ?_
    rintro ⟨i, C, d⟩ wr ⟨hi, hown, hge, hfr⟩
    dsimp only at hi hown hge ⊢
    have hnl := nmI_len q l i
    refine VC.seq ?_
    refine VC.region ?_
    refine Ops.r (Run.bin rfl rfl (Bin.lssN _ _)) rfl ?_
    refine Ops.nil ?_
    refine thenQ_n ?_
    refine VC.seq ?_
    refine VC.condD rfl (fun hc2 => ?_) (fun hc2 => ?_)
    · skip
      obtain ⟨ad, rfl, hcell⟩ := (hl.frm hfr).elem hc2
      have hxa := (hl.frm hfr).fl (l[i]) (List.getElem_mem hc2)
      have hsx := nmI_succ q hc2
      generalize hx : l[i] = x at *
      refine VC.skip ?_
      refine thenQ_n ?_
      refine VC.sub [(1, _), (2, _), (7, _), (14, _), (15, _), (16, _)] (.cons rfl (.cons rfl (.cons rfl (.cons rfl (.cons rfl (.cons rfl .nil)))))) ?_
      refine VC.seq ?_
      refine VC.block ?_
      refine VC.seq ?_
      refine VC.region ?_
      refine Ops.r (Run.mv rfl) rfl ?_
      refine Ops.r (Run.indexS i rfl rfl Try.underlying22 Try.sizeOf45 hc2) rfl ?_
      refine Ops.r (Run.loadA rfl Try.isAgg45 Try.sizeOf45 hcell (by first | rfl | (simp; done))) rfl ?_
      refine Ops.m (Does.alloc zero45) rfl ?_
      rintro _ w2 ⟨rfl, hF2⟩
      have hb2 := hF2.blk
      have hf2 := hF2.frm
      have hsz2 : wr.heap.size ≤ wr.heap.size := Nat.le_refl _
      have hfs := hfr.size
      generalize hg2 : wr.heap.size = g2 at hb2 hsz2 hfs ⊢
      refine Ops.r (Run.asg rfl) rfl ?_
      refine Ops.st (Acts.storeA rfl rfl Try.sizeOf45 hb2 rfl x.cells_one) ?_
      rintro w3 ⟨hb3, hf3, hs3⟩
      have hfr3 : Frm [] wr w3 := hf2.own hf3 (fun y hy => by simp at hy; omega)
      refine Ops.nil ?_
      refine thenQ_n ?_
      refine VC.sub [(1, _), (2, _), (7, _), (8, _), (9, _), (14, _), (15, _), (16, _)] (.cons rfl (.cons rfl (.cons rfl (.cons rfl (.cons rfl (.cons rfl (.cons rfl (.cons rfl .nil)))))))) ?_
      refine VC.seq ?_
      refine VC.region ?_
      refine Ops.r (Run.loadA rfl Try.isAgg45 Try.sizeOf45 (fun j v hj => hb3.cells j v hj) (by first | rfl | (simp; done))) rfl ?_
      refine Ops.r (Run.mv rfl) rfl ?_
      refine Ops.r (Run.mv rfl) rfl ?_
      refine Ops.cl (Enters.fn (evs.cons rfl (evs.cons rfl (evs.cons rfl evs.nil))) Try.call32) (goes_spec x every O co only _ (hxa.frm hfr3 (by simp)) (ho.frm (hfr.trans hfr3 (by simp)) (by simp)) hon) rfl ?_
      rintro e w4 ⟨rfl, hf4⟩
      refine ⟨_, rfl, ?_⟩
      have hqx : q x.m = decide (goesB every only x.m) := by rw [← hq]; rfl
      have hown := hown
      refine Ops.nil ?_
      refine thenQ_n ?_
      refine VC.sub [(1, _), (2, _), (7, _), (8, _), (14, _), (15, _), (16, _), (24, _)] (.cons rfl (.cons rfl (.cons rfl (.cons rfl (.cons rfl (.cons rfl (.cons rfl (.cons rfl .nil)))))))) ?_
      refine VC.condB rfl (fun hc3 => ?_) (fun hc3 => ?_)
      · skip
        refine VC.region ?_
        refine Ops.r (Run.mv rfl) rfl ?_
        refine Ops.r (Run.mv rfl) rfl ?_
        refine Ops.r (Run.bin rfl rfl (Bin.add_i64 _ 1 (by omega))) rfl ?_
        refine Ops.m (Does.buildS1 rfl Try.underlying25 Try.sizeOf3 zero3 (by decide) (by decide) rfl rfl) rfl ?_
        rintro _ w5 ⟨rfl, hF5⟩
        have hfr5 := (hfr3.trans hf4 (by simp)).trans hF5.frm (by simp)
        have hown5 := hown.frm hfr5 (by simp)
        refine Ops.m (Does.app rfl rfl Try.underlying25 (info3) rfl (by decide) hown5 (hrdI hF5) (IB_one _) (by omega) (by omega)) rfl ?_
        rintro _ w6 ⟨A6, c6, rfl, hown6, hf6, hob6⟩
        rw [← IB_append] at hown6
        have hge6 := up_app hge hob6 (Nat.le_trans hfr.size hfr5.size)
        have hfr6 := (hfr.trans hfr5 (by simp)).own hf6 hge
        refine Ops.r (Run.asg rfl) rfl ?_
        refine Ops.nil ?_
        refine blockQ_n (thenQ_n ?_)
        refine VC.sub [(1, _), (2, _), (7, _), (14, _), (15, _), (16, _)] (.cons rfl (.cons rfl (.cons rfl (.cons rfl (.cons rfl (.cons rfl .nil)))))) ?_
        refine VC.region ?_
        refine Ops.r (Run.bin rfl rfl (Bin.add_i64 _ 1 (by omega))) rfl ?_
        refine Ops.r (Run.mv rfl) rfl ?_
        refine Ops.nil ?_
        refine thenQ_n ⟨(i + 1, A6, c6), (.cons rfl (.cons rfl (.cons (by rw [hsx, hqx, if_pos hc3, List.length_append]; rfl) (.cons rfl (.cons rfl (.cons rfl .nil)))))), ?_, ?_⟩
        · skip
          refine ⟨hc2, ?_, hge6, hfr6⟩
          rw [hsx, hqx, if_pos hc3, List.length_append]
          exact hown6
        · skip
          first | omega | (dsimp only; omega)
      · skip
        refine VC.skip ?_
        refine blockQ_n (thenQ_n ?_)
        refine VC.sub [(1, _), (2, _), (7, _), (14, _), (15, _), (16, _)] (.cons rfl (.cons rfl (.cons rfl (.cons rfl (.cons rfl (.cons rfl .nil)))))) ?_
        refine VC.region ?_
        refine Ops.r (Run.bin rfl rfl (Bin.add_i64 _ 1 (by omega))) rfl ?_
        refine Ops.r (Run.mv rfl) rfl ?_
        refine Ops.nil ?_
        refine thenQ_n ⟨(i + 1, C, d), (.cons rfl (.cons rfl (.cons (by rw [hsx, hqx, if_neg (by rw [hc3]; decide), List.append_nil]; rfl) (.cons rfl (.cons rfl (.cons rfl .nil)))))), ?_, ?_⟩
        · skip
          have hfr4 := hfr3.trans hf4 (by simp)
          refine ⟨hc2, ?_, hge, hfr.trans hfr4 (by simp)⟩
          rw [hsx, hqx, if_neg (by rw [hc3]; decide), List.append_nil]
          exact hown.frm hfr4 (by simp)
        · skip
          first | omega | (dsimp only; omega)
    · skip
      refine VC.exit ?_
      refine thenQ_x (thenQ_x (blockQ_x ?_))
      refine thenQ_n ?_
      refine VC.sub [(7, _)] (.cons rfl .nil) ?_
      refine VC.seq ?_
      refine VC.region ?_
      refine Ops.r (Run.mv rfl) rfl ?_
      refine Ops.r (Run.asg rfl) rfl ?_
      refine Ops.nil ?_
      refine thenQ_n ?_
      refine VC.sub [(6, _)] (.cons rfl .nil) ?_
      refine VC.ret ?_
      refine end1 rfl ?_
      have hil : i = l.length := by omega
      subst hil
      have e : nmI q l l.length = namedB q ⟨v, n, Ms l⟩ := by unfold namedB nmI; rw [if_pos hm, List.take_length]
      rw [← e]
      exact ⟨hfr, C, d, rfl, hown, hge⟩

set_option maxRecDepth 100000 in
theorem without_spec (v n : Int) (A : Option Addr) (c : Nat) (l : List Mc) (sx : Tx) (w : World) (hl : RdM w A l) (hs : sx.length ≤ 1000000) :
    Calls Try.prog 28 #[.agg #[.int .i64 v, .int .i64 n, .slice A l.length c], encStr sx] w fun e w' => Frm [] w w' ∧ IsI w w' e (namedB (fun m => !decide (hasF m.flags sx)) ⟨v, n, Ms l⟩) := by
  refine VC.calls (nt := 31) (res := #[.tmp 4]) Try.func28 rfl Try.ntmps28 Try.results28 rfl ?_
  refine VC.seq ?_
  refine VC.region ?_
  refine Ops.m (Does.box rfl) rfl ?_
  rintro _ w1 ⟨rfl, hF1⟩
  have hb1 := hF1.blk
  have hf1 := hF1.frm
  generalize hg1 : w.heap.size = g1 at *
  refine Ops.r (Run.asg rfl) rfl ?_
  refine Ops.nil ?_
  refine thenQ_n ?_
  refine VC.sub [(1, _), (2, _)] (.cons rfl (.cons rfl .nil)) ?_
  refine VC.seq ?_
  refine VC.seq ?_
  refine VC.region ?_
  refine Ops.r (Run.loadA rfl Try.isAgg24 Try.sizeOf24 (fun j v hj => hb1.cells j v hj) (by first | rfl | (simp; done))) rfl ?_
  refine Ops.cl (Enters.fn (evs.cons rfl evs.nil) Try.call17) (may_spec v n A c l _ (hl.frm hf1)) rfl ?_
  rintro e w2 ⟨rfl, hf2⟩
  refine ⟨_, rfl, ?_⟩
  have hb12 := hb1.frm hf2 (by simp)
  have hfr0 := hf1.trans hf2 (by simp)
  refine Ops.r (Run.not rfl) rfl ?_
  refine Ops.nil ?_
  refine thenQ_n ?_
  refine VC.sub [(1, _), (2, _), (10, _)] (.cons rfl (.cons rfl (.cons rfl .nil))) ?_
  refine VC.condB rfl (fun hc1 => ?_) (fun hc1 => ?_)
  · skip
    have hm : ¬ mayB ⟨v, n, Ms l⟩ := by simpa using hc1
    refine VC.seq ?_
    refine VC.region ?_
    refine Ops.r (Run.asg rfl) rfl ?_
    refine Ops.nil ?_
    refine thenQ_n ?_
    refine VC.sub [(4, _)] (.cons rfl .nil) ?_
    refine VC.ret ?_
    refine thenQ_r (end1 rfl ?_)
    refine ⟨hfr0, none, 0, ?_, ?_, by simp [ob]⟩
    · unfold namedB; rw [if_neg hm]; rfl
    · unfold namedB; rw [if_neg hm]; exact Own.nil _ _ _
  · skip
    have hm : mayB ⟨v, n, Ms l⟩ := by simpa using hc1
    have hl128 := (may_at hm).1.2.2.2.2
    generalize hq : (fun m : MsgP => !decide (hasF m.flags sx)) = q at *
    refine VC.skip ?_
    refine thenQ_n ?_
    refine VC.sub [(1, _), (2, _)] (.cons rfl (.cons rfl .nil)) ?_
    refine VC.seq ?_
    refine VC.region ?_
    refine Ops.r (Run.asg rfl) rfl ?_
    refine Ops.nil ?_
    refine thenQ_n ?_
    refine VC.seq ?_
    refine VC.seq ?_
    refine VC.region ?_
    refine Ops.r (Run.fieldAddr rfl Try.underlying24 rfl Try.sizeOf22 (by decide)) rfl ?_
    refine Ops.r (Run.load rfl Try.isAgg22 (hb12.cell 2)) rfl ?_
    refine Ops.r (Run.lenS rfl Try.underlying22) rfl ?_
    refine Ops.r (v := .int .i64 ((0 : Nat) : Int)) (Run.mv rfl) rfl ?_
    refine Ops.nil ?_
    refine thenQ_n ?_
    refine VC.sub [(1, _), (5, _), (12, _), (13, _), (14, _)] (.cons rfl (.cons rfl (.cons rfl (.cons rfl (.cons rfl .nil))))) ?_
    refine VC.block ?_
    refine VC.loop (σ := Nat × Option Addr × Nat) (fun s => [(1, encStr sx), (5, .slice s.2.1 (nmI q l s.1).length s.2.2), (12, .slice A l.length c), (13, .int .i64 ((l.length : Nat) : Int)), (14, .int .i64 ((s.1 : Nat) : Int))]) (fun s wr => s.1 ≤ l.length ∧ Own wr 3 1 s.2.1 (nmI q l s.1).length s.2.2 (IB (nmI q l s.1)) ∧ (∀ b ∈ ob s.2.1, w.heap.size ≤ b) ∧ Frm [] w wr) (fun s => l.length - s.1) (0, none, 0) (.cons rfl (.cons rfl (.cons rfl (.cons rfl (.cons rfl .nil))))) ⟨by omega, Own.nil _ _ _, by simp [ob], hfr0⟩ ?_
    rintro ⟨i, C, d⟩ wr ⟨hi, hown, hge, hfr⟩
    dsimp only at hi hown hge ⊢
    have hnl := nmI_len q l i
    refine VC.seq ?_
    refine VC.region ?_
    refine Ops.r (Run.bin rfl rfl (Bin.lssN _ _)) rfl ?_
    refine Ops.nil ?_
    refine thenQ_n ?_
    refine VC.seq ?_
    refine VC.condD rfl (fun hc2 => ?_) (fun hc2 => ?_)
    · skip
      obtain ⟨ad, rfl, hcell⟩ := (hl.frm hfr).elem hc2
      have hxa := (hl.frm hfr).fl (l[i]) (List.getElem_mem hc2)
      have hsx := nmI_succ q hc2
      generalize hx : l[i] = x at *
      refine VC.skip ?_
      refine thenQ_n ?_
      refine VC.sub [(1, _), (5, _), (12, _), (13, _), (14, _)] (.cons rfl (.cons rfl (.cons rfl (.cons rfl (.cons rfl .nil))))) ?_
      refine VC.seq ?_
      refine VC.block ?_
      refine VC.seq ?_
      refine VC.region ?_
      refine Ops.r (Run.mv rfl) rfl ?_
      refine Ops.r (Run.indexS i rfl rfl Try.underlying22 Try.sizeOf45 hc2) rfl ?_
      refine Ops.r (Run.loadA rfl Try.isAgg45 Try.sizeOf45 hcell (by first | rfl | (simp; done))) rfl ?_
      refine Ops.m (Does.alloc zero45) rfl ?_
      rintro _ w2 ⟨rfl, hF2⟩
      have hb2 := hF2.blk
      have hf2 := hF2.frm
      have hsz2 : wr.heap.size ≤ wr.heap.size := Nat.le_refl _
      have hfs := hfr.size
      generalize hg2 : wr.heap.size = g2 at hb2 hsz2 hfs ⊢
      refine Ops.r (Run.asg rfl) rfl ?_
      refine Ops.st (Acts.storeA rfl rfl Try.sizeOf45 hb2 rfl x.cells_one) ?_
      rintro w3 ⟨hb3, hf3, hs3⟩
      have hfr3 : Frm [] wr w3 := hf2.own hf3 (fun y hy => by simp at hy; omega)
      refine Ops.nil ?_
      refine thenQ_n ?_
      refine VC.sub [(1, _), (5, _), (6, _), (7, _), (12, _), (13, _), (14, _)] (.cons rfl (.cons rfl (.cons rfl (.cons rfl (.cons rfl (.cons rfl (.cons rfl .nil))))))) ?_
      refine VC.seq ?_
      refine VC.region ?_
      refine Ops.r (Run.fieldAddr rfl Try.underlying45 rfl Try.sizeOf43 (by decide)) rfl ?_
      refine Ops.r (Run.load rfl Try.isAgg43 (hb3.cell 5)) rfl ?_
      refine Ops.r (Run.mv rfl) rfl ?_
      refine Ops.cl (Enters.fn (evs.cons rfl (evs.cons rfl evs.nil)) Try.call45) (fhas_spec x.A x.c x.m.flags sx _ (by have := hxa.n; omega) hs (hxa.frm hfr3 (by simp)).rd) rfl ?_
      rintro e w4 ⟨rfl, hf4⟩
      refine ⟨_, rfl, ?_⟩
      have hqx : q x.m = !decide (hasF x.m.flags sx) := by rw [← hq]
      refine Ops.r (Run.not rfl) rfl ?_
      refine Ops.nil ?_
      refine thenQ_n ?_
      refine VC.sub [(1, _), (5, _), (6, _), (12, _), (13, _), (14, _), (23, _)] (.cons rfl (.cons rfl (.cons rfl (.cons rfl (.cons rfl (.cons rfl (.cons rfl .nil))))))) ?_
      refine VC.condB rfl (fun hc3 => ?_) (fun hc3 => ?_)
      · skip
        refine VC.region ?_
        refine Ops.r (Run.mv rfl) rfl ?_
        refine Ops.r (Run.mv rfl) rfl ?_
        refine Ops.r (Run.bin rfl rfl (Bin.add_i64 _ 1 (by omega))) rfl ?_
        refine Ops.m (Does.buildS1 rfl Try.underlying25 Try.sizeOf3 zero3 (by decide) (by decide) rfl rfl) rfl ?_
        rintro _ w5 ⟨rfl, hF5⟩
        have hfr5 := (hfr3.trans hf4 (by simp)).trans hF5.frm (by simp)
        have hown5 := hown.frm hfr5 (by simp)
        refine Ops.m (Does.app rfl rfl Try.underlying25 (info3) rfl (by decide) hown5 (hrdI hF5) (IB_one _) (by omega) (by omega)) rfl ?_
        rintro _ w6 ⟨A6, c6, rfl, hown6, hf6, hob6⟩
        rw [← IB_append] at hown6
        have hge6 := up_app hge hob6 (Nat.le_trans hfr.size hfr5.size)
        have hfr6 := (hfr.trans hfr5 (by simp)).own hf6 hge
        refine Ops.r (Run.asg rfl) rfl ?_
        refine Ops.nil ?_
        refine blockQ_n (thenQ_n ?_)
        refine VC.sub [(1, _), (5, _), (12, _), (13, _), (14, _)] (.cons rfl (.cons rfl (.cons rfl (.cons rfl (.cons rfl .nil))))) ?_
        refine VC.region ?_
        refine Ops.r (Run.bin rfl rfl (Bin.add_i64 _ 1 (by omega))) rfl ?_
        refine Ops.r (Run.mv rfl) rfl ?_
        refine Ops.nil ?_
        refine thenQ_n ⟨(i + 1, A6, c6), (.cons rfl (.cons (by rw [hsx, hqx, if_pos hc3, List.length_append]; rfl) (.cons rfl (.cons rfl (.cons rfl .nil))))), ?_, ?_⟩
        · skip
          refine ⟨hc2, ?_, hge6, hfr6⟩
          rw [hsx, hqx, if_pos hc3, List.length_append]
          exact hown6
        · skip
          first | omega | (dsimp only; omega)
      · skip
        refine VC.skip ?_
        refine blockQ_n (thenQ_n ?_)
        refine VC.sub [(1, _), (5, _), (12, _), (13, _), (14, _)] (.cons rfl (.cons rfl (.cons rfl (.cons rfl (.cons rfl .nil))))) ?_
        refine VC.region ?_
        refine Ops.r (Run.bin rfl rfl (Bin.add_i64 _ 1 (by omega))) rfl ?_
        refine Ops.r (Run.mv rfl) rfl ?_
        refine Ops.nil ?_
        refine thenQ_n ⟨(i + 1, C, d), (.cons rfl (.cons (by rw [hsx, hqx, if_neg (by rw [hc3]; decide), List.append_nil]; rfl) (.cons rfl (.cons rfl (.cons rfl .nil))))), ?_, ?_⟩
        · skip
          have hfr4 := hfr3.trans hf4 (by simp)
          refine ⟨hc2, ?_, hge, hfr.trans hfr4 (by simp)⟩
          rw [hsx, hqx, if_neg (by rw [hc3]; decide), List.append_nil]
          exact hown.frm hfr4 (by simp)
        · skip
          first | omega | (dsimp only; omega)
    · skip
      refine VC.exit ?_
      refine thenQ_x (thenQ_x (blockQ_x ?_))
      refine thenQ_n ?_
      refine VC.sub [(5, _)] (.cons rfl .nil) ?_
      refine VC.seq ?_
      refine VC.region ?_
      refine Ops.r (Run.mv rfl) rfl ?_
      refine Ops.r (Run.asg rfl) rfl ?_
      refine Ops.nil ?_
      refine thenQ_n ?_
      refine VC.sub [(4, _)] (.cons rfl .nil) ?_
      refine VC.ret ?_
      refine end1 rfl ?_
      have hil : i = l.length := by omega
      subst hil
      have e : nmI q l l.length = namedB q ⟨v, n, Ms l⟩ := by unfold namedB nmI; rw [if_pos hm, List.take_length]
      rw [← e]
      exact ⟨hfr, C, d, rfl, hown, hge⟩

set_option maxRecDepth 100000 in
theorem uids_spec (v n : Int) (A : Option Addr) (c : Nat) (l : List Mc) (w : World) (hl : RdM w A l) :
    Calls Try.prog 26 #[.agg #[.int .i64 v, .int .i64 n, .slice A l.length c]] w fun e w' => Frm [] w w' ∧ IsI w w' e (nidsB ⟨v, n, Ms l⟩) := by
  refine VC.calls (nt := 23) (res := #[.tmp 2]) Try.func26 rfl Try.ntmps26 Try.results26 rfl ?_
  refine VC.seq ?_
  refine VC.region ?_
  refine Ops.m (Does.box rfl) rfl ?_
  rintro _ w1 ⟨rfl, hF1⟩
  have hb1 := hF1.blk
  have hf1 := hF1.frm
  generalize hg1 : w.heap.size = g1 at *
  refine Ops.r (Run.asg rfl) rfl ?_
  refine Ops.nil ?_
  refine thenQ_n ?_
  refine VC.sub [(1, _)] (.cons rfl .nil) ?_
  refine VC.seq ?_
  refine VC.seq ?_
  refine VC.region ?_
  refine Ops.r (Run.loadA rfl Try.isAgg24 Try.sizeOf24 (fun j v hj => hb1.cells j v hj) (by first | rfl | (simp; done))) rfl ?_
  refine Ops.cl (Enters.fn (evs.cons rfl evs.nil) Try.call17) (may_spec v n A c l _ (hl.frm hf1)) rfl ?_
  rintro e w2 ⟨rfl, hf2⟩
  refine ⟨_, rfl, ?_⟩
  have hb12 := hb1.frm hf2 (by simp)
  have hfr0 := hf1.trans hf2 (by simp)
  refine Ops.r (Run.not rfl) rfl ?_
  refine Ops.nil ?_
  refine thenQ_n ?_
  refine VC.sub [(1, _), (8, _)] (.cons rfl (.cons rfl .nil)) ?_
  refine VC.condB rfl (fun hc1 => ?_) (fun hc1 => ?_)
  · skip
    have hm : ¬ mayB ⟨v, n, Ms l⟩ := by simpa using hc1
    refine VC.seq ?_
    refine VC.region ?_
    refine Ops.r (Run.asg rfl) rfl ?_
    refine Ops.nil ?_
    refine thenQ_n ?_
    refine VC.sub [(2, _)] (.cons rfl .nil) ?_
    refine VC.ret ?_
    refine thenQ_r (end1 rfl ?_)
    refine ⟨hfr0, none, 0, ?_, ?_, by simp [ob]⟩
    · unfold nidsB; rw [if_neg hm]; rfl
    · unfold nidsB; rw [if_neg hm]; exact Own.nil _ _ _
  · skip
    have hm : mayB ⟨v, n, Ms l⟩ := by simpa using hc1
    have hl128 := (may_at hm).1.2.2.2.2
    refine VC.skip ?_
    refine thenQ_n ?_
    refine VC.sub [(1, _)] (.cons rfl .nil) ?_
    refine VC.seq ?_
    refine VC.region ?_
    refine Ops.r (Run.asg rfl) rfl ?_
    refine Ops.nil ?_
    refine thenQ_n ?_
    refine VC.seq ?_
    refine VC.seq ?_
    refine VC.region ?_
    refine Ops.r (Run.fieldAddr rfl Try.underlying24 rfl Try.sizeOf22 (by decide)) rfl ?_
    refine Ops.r (Run.load rfl Try.isAgg22 (hb12.cell 2)) rfl ?_
    refine Ops.r (Run.lenS rfl Try.underlying22) rfl ?_
    refine Ops.r (v := .int .i64 ((0 : Nat) : Int)) (Run.mv rfl) rfl ?_
    refine Ops.nil ?_
    refine thenQ_n ?_
    refine VC.sub [(3, _), (10, _), (11, _), (12, _)] (.cons rfl (.cons rfl (.cons rfl (.cons rfl .nil)))) ?_
    refine VC.block ?_
    refine VC.loop (σ := Nat × Option Addr × Nat) (fun s => [(3, .slice s.2.1 ((Ms (l.take s.1)).map MsgP.uid).length s.2.2), (10, .slice A l.length c), (11, .int .i64 ((l.length : Nat) : Int)), (12, .int .i64 ((s.1 : Nat) : Int))]) (fun s wr => s.1 ≤ l.length ∧ Own wr 3 1 s.2.1 ((Ms (l.take s.1)).map MsgP.uid).length s.2.2 (IB ((Ms (l.take s.1)).map MsgP.uid)) ∧ (∀ b ∈ ob s.2.1, w.heap.size ≤ b) ∧ Frm [] w wr) (fun s => l.length - s.1) (0, none, 0) (.cons rfl (.cons rfl (.cons rfl (.cons rfl .nil)))) ⟨by omega, Own.nil _ _ _, by simp [ob], hfr0⟩ ?_
    rintro ⟨i, C, d⟩ wr ⟨hi, hown, hge, hfr⟩
    dsimp only at hi hown hge ⊢
    have hnl : ((Ms (l.take i)).map MsgP.uid).length ≤ l.length := by simp [Ms]; omega
    refine VC.seq ?_
    refine VC.region ?_
    refine Ops.r (Run.bin rfl rfl (Bin.lssN _ _)) rfl ?_
    refine Ops.nil ?_
    refine thenQ_n ?_
    refine VC.seq ?_
    refine VC.condD rfl (fun hc2 => ?_) (fun hc2 => ?_)
    · skip
      obtain ⟨ad, rfl, hcell⟩ := (hl.frm hfr).elem hc2
      have hxa := (hl.frm hfr).fl (l[i]) (List.getElem_mem hc2)
      have hsx : (Ms (l.take (i + 1))).map MsgP.uid = (Ms (l.take i)).map MsgP.uid ++ [(l[i]).m.uid] := by rw [Ms_take hc2, List.map_append]; rfl
      generalize hx : l[i] = x at *
      refine VC.skip ?_
      refine thenQ_n ?_
      refine VC.sub [(3, _), (10, _), (11, _), (12, _)] (.cons rfl (.cons rfl (.cons rfl (.cons rfl .nil)))) ?_
      refine VC.seq ?_
      refine VC.block ?_
      refine VC.seq ?_
      refine VC.region ?_
      refine Ops.r (Run.indexS i rfl rfl Try.underlying22 Try.sizeOf45 hc2) rfl ?_
      refine Ops.r (Run.loadA rfl Try.isAgg45 Try.sizeOf45 hcell (by first | rfl | (simp; done))) rfl ?_
      refine Ops.m (Does.alloc zero45) rfl ?_
      rintro _ w2 ⟨rfl, hF2⟩
      have hb2 := hF2.blk
      have hf2 := hF2.frm
      have hsz2 : wr.heap.size ≤ wr.heap.size := Nat.le_refl _
      have hfs := hfr.size
      generalize hg2 : wr.heap.size = g2 at hb2 hsz2 hfs ⊢
      refine Ops.st (Acts.storeA rfl rfl Try.sizeOf45 hb2 rfl x.cells_one) ?_
      rintro w3 ⟨hb3, hf3, hs3⟩
      have hfr3 : Frm [] wr w3 := hf2.own hf3 (fun y hy => by simp at hy; omega)
      refine Ops.nil ?_
      refine thenQ_n ?_
      refine VC.sub [(3, _), (5, _), (10, _), (11, _), (12, _)] (.cons rfl (.cons rfl (.cons rfl (.cons rfl (.cons rfl .nil))))) ?_
      refine VC.region ?_
      refine Ops.r (Run.mv rfl) rfl ?_
      refine Ops.r (Run.fieldAddr rfl Try.underlying45 rfl Try.sizeOf3 (by decide)) rfl ?_
      refine Ops.r (Run.load rfl Try.isAgg3 (hb3.cell 0)) rfl ?_
      refine Ops.m (Does.buildS1 rfl Try.underlying25 Try.sizeOf3 zero3 (by decide) (by decide) rfl rfl) rfl ?_
      rintro _ w5 ⟨rfl, hF5⟩
      have hfr5 := (hfr3).trans hF5.frm (by simp)
      have hown5 := hown.frm hfr5 (by simp)
      refine Ops.m (Does.app rfl rfl Try.underlying25 (info3) rfl (by decide) hown5 (hrdI hF5) (IB_one _) (by omega) (by omega)) rfl ?_
      rintro _ w6 ⟨A6, c6, rfl, hown6, hf6, hob6⟩
      rw [← IB_append] at hown6
      have hge6 := up_app hge hob6 (Nat.le_trans hfr.size hfr5.size)
      have hfr6 := (hfr.trans hfr5 (by simp)).own hf6 hge
      refine Ops.r (Run.asg rfl) rfl ?_
      refine Ops.nil ?_
      refine blockQ_n (thenQ_n ?_)
      refine VC.sub [(3, _), (10, _), (11, _), (12, _)] (.cons rfl (.cons rfl (.cons rfl (.cons rfl .nil)))) ?_
      refine VC.region ?_
      refine Ops.r (Run.bin rfl rfl (Bin.add_i64 _ 1 (by omega))) rfl ?_
      refine Ops.r (Run.mv rfl) rfl ?_
      refine Ops.nil ?_
      refine thenQ_n ⟨(i + 1, A6, c6), (.cons (by rw [hsx, List.length_append]; rfl) (.cons rfl (.cons rfl (.cons rfl .nil)))), ?_, ?_⟩
      · skip
        refine ⟨hc2, ?_, hge6, hfr6⟩
        rw [hsx, List.length_append]
        exact hown6
      · skip
        first | omega | (dsimp only; omega)
    · skip
      refine VC.exit ?_
      refine thenQ_x (thenQ_x (blockQ_x ?_))
      refine thenQ_n ?_
      refine VC.sub [(3, _)] (.cons rfl .nil) ?_
      refine VC.seq ?_
      refine VC.region ?_
      refine Ops.r (Run.mv rfl) rfl ?_
      refine Ops.r (Run.asg rfl) rfl ?_
      refine Ops.nil ?_
      refine thenQ_n ?_
      refine VC.sub [(2, _)] (.cons rfl .nil) ?_
      refine VC.ret ?_
      refine end1 rfl ?_
      have hil : i = l.length := by omega
      subst hil
      have e : (Ms (l.take l.length)).map MsgP.uid = nidsB ⟨v, n, Ms l⟩ := by unfold nidsB; rw [if_pos hm, List.take_length]
      rw [← e]
      exact ⟨hfr, C, d, rfl, hown, hge⟩

end Go.Proofs.Ytmfglifjnoilnaa
