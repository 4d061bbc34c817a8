/-
  The walk of flag: a set with others, or without.
-/
import Derived.Test.YtmfglifjnoilnaaFlagN
namespace Go.Proofs.Ytmfglifjnoilnaa
open Go.RowKit Go.Sort

theorem one_enc : OneCell encStr := fun _ => rfl
/-- Thinned out. -/
theorem deletef_spec (g gt c d : Nat) (A : Option Addr) (ts zs : List Tx) (w : World) (hn : ts.length ≤ 1000000) (hz : zs.length ≤ 1000000) (hb : Blk w gt 43 #[.slice A ts.length c]) (hr : Rd w 1 A ts.length (SB ts))
    (ho : Own w 9 1 (some ⟨g, 0, none⟩) zs.length d (SB zs)) (hg : g ≠ gt) (hgA : ∀ x ∈ ob A, x ≠ g) :
    Calls Try.prog 55 #[.slice (some ⟨g, 0, none⟩) zs.length d, .func (.func 56) #[] #[.pointer (some ⟨gt, 0, none⟩)]] w fun e w' =>
      e = .returned (.slice (some ⟨g, 0, none⟩) (zs.filter (fun x => !decide (x ∈ ts))).length d) ∧ Own w' 9 1 (some ⟨g, 0, none⟩) (zs.filter (fun x => !decide (x ∈ ts))).length d (SB (zs.filter (fun x => !decide (x ∈ ts)))) ∧ Frm [g] w w' := by
  obtain ⟨h1, h2⟩ := ho.holds
  have gives : ∀ W x, Frm [g] w W → FnGives Try.prog 56 #[.pointer (some ⟨gt, 0, none⟩)] #[encStr x] (.bool (decide (x ∈ ts))) W := by
    intro W x hf
    exact (changeC_spec gt c A ts x W hn (hb.frm hf (by simp; exact hg.symm)) (hr.frm hf (fun _ y hy => by simp; exact hgA y hy))).mono fun e w' ⟨he, hw⟩ => ⟨he, 0, by rw [← hw]; rfl⟩
  refine (Try.slices_DeleteFunc encStr one_enc (fun x => decide (x ∈ ts)) 56 #[.pointer (some ⟨gt, 0, none⟩)] Try.call56 [] zero9 g 0 d zs.toArray w ?_ ?_ h1 (by simp; omega) (by simpa using ho.le)).mono fun e w' ⟨he, m, hw⟩ => ?_
  · intro W x hbl
    exact gives W x ((Frm.of_below hbl).mono (by simp))
  · intro m os dk x hdk
    refine gives _ x ?_
    have := Frm.grown (grownBy_sorted (w := w) (g := g) (n := m) (os := os) dk)
    simpa [sortWorld] using this
  · have hle : (zs.filter (fun x => !decide (x ∈ ts))).length ≤ zs.length := List.length_filter_le _ _
    obtain ⟨h3, h4⟩ := ho.put (m := m) (os := #[]) (ts := zs.filter (fun x => !decide (x ∈ ts)) ++ List.replicate (zs.length - (zs.filter (fun x => !decide (x ∈ ts))).length) []) (by rw [List.length_append, List.length_replicate]; omega)
    have hgw : grow (putRow encStr (Sort.ahead w m) g 0 (zs.filter (fun x => !decide (x ∈ ts)) ++ List.replicate (zs.length - (zs.filter (fun x => !decide (x ∈ ts))).length) []).toArray) #[] = w' := by rw [hw, grow_nil]; rfl
    rw [hgw] at h3 h4
    refine ⟨he, ?_, h4⟩
    have h5 := h3.short (k := (zs.filter (fun x => !decide (x ∈ ts))).length) hle
    rw [SB_append, Nat.mul_one, List.take_append_of_le_length (by rw [SB_len]; exact Nat.le_refl _), List.take_of_length_le (by rw [SB_len]; exact Nat.le_refl _)] at h5
    exact h5

set_option maxRecDepth 100000 in
theorem deletef_none (A : Option Addr) (d : Nat) (f : Value) (w : World) : Calls Try.prog 55 #[.slice A 0 d, f] w fun e w' => e = .returned (.slice A 0 d) ∧ w = w' := by
  refine VC.calls (nt := 42) (res := #[.tmp 4]) Try.func55 rfl Try.ntmps55 Try.results55 rfl ?_
  refine VC.seq ?_
  refine VC.region ?_
  refine Ops.r (Run.asg rfl) rfl ?_
  refine Ops.nil ?_
  refine thenQ_n ?_
  refine VC.sub [(0, _), (1, _)] (.cons rfl (.cons rfl .nil)) ?_
  refine VC.seq ?_
  refine VC.region ?_
  refine Ops.r (Run.mv rfl) rfl ?_
  refine Ops.r (Run.mv rfl) rfl ?_
  refine Ops.cl (Enters.fn (evs.cons rfl (evs.cons rfl evs.nil)) Try.call75) (Try.slices_IndexFunc_empty (α := Tx) A d f w) rfl ?_
  rintro e w0 ⟨rfl, hw0⟩
  obtain rfl : w = w0 := hw0.symm
  refine ⟨_, rfl, ?_⟩
  refine Ops.r (Run.asg rfl) rfl ?_
  refine Ops.nil ?_
  refine thenQ_n ?_
  refine VC.sub [(0, _), (1, _), (5, _)] (.cons rfl (.cons rfl (.cons rfl .nil))) ?_
  refine VC.seq ?_
  refine VC.seq ?_
  refine VC.region ?_
  refine Ops.r (Run.mv rfl) rfl ?_
  refine Ops.r (Run.bin rfl rfl (Bin.eql _ (-1))) rfl ?_
  refine Ops.nil ?_
  refine thenQ_n ?_
  refine VC.sub [(0, _), (1, _), (5, _), (12, _)] (.cons rfl (.cons rfl (.cons rfl (.cons rfl .nil)))) ?_
  refine VC.condT rfl (rfl) ?_
  refine VC.seq ?_
  refine VC.region ?_
  refine Ops.r (Run.mv rfl) rfl ?_
  refine Ops.r (Run.asg rfl) rfl ?_
  refine Ops.nil ?_
  refine thenQ_n ?_
  refine VC.sub [(4, _)] (.cons rfl .nil) ?_
  refine VC.ret ?_
  refine thenQ_r (end1 rfl ?_)
  exact ⟨rfl, rfl⟩

theorem filter_len {l ts : List Tx} : (l.filter (fun x => !decide (x ∈ ts))).length ≤ l.length := List.length_filter_le _ _
/-- What is told behind the kinds of change. -/
def allF (op : Int) (l ts : List Tx) : List Tx := if op = 1 then ts ++ l else if op = 2 then l.filter (fun x => !decide (x ∈ ts)) else ts
theorem allF_facts {op : Int} {l ts : List Tx} (hl : l.length ≤ 16 ∧ ∀ s ∈ l, toldF s = some s) (ht : ts.length ≤ 1000000) (htt : ∀ t ∈ ts, toldF t = some t) : (allF op l ts).length ≤ ts.length + 16 ∧ ∀ q ∈ allF op l ts, q.length ≤ 20 := by
  have key : ∀ q : Tx, toldF q = some q → q.length ≤ 20 := fun q h => (toldF_len h).2
  unfold allF
  split
  · refine ⟨by rw [List.length_append]; omega, fun q hq => ?_⟩
    rcases List.mem_append.1 hq with h | h
    · exact key q (htt q h)
    · exact key q (hl.2 q h)
  split
  · refine ⟨by have := filter_len (l := l) (ts := ts); omega, fun q hq => key q (hl.2 q (List.mem_filter.1 hq).1)⟩
  · exact ⟨by omega, fun q hq => key q (htt q hq)⟩

theorem delD_spec {g8 d dd : Nat} {C D : Option Addr} {ts l : List Tx} {w0 w : World} (hb : Blk w g8 43 #[.slice C ts.length d]) (ho : Own w 9 1 C ts.length d (SB ts)) (hD : Own w 9 1 D l.length dd (SB l)) (h1 : ts.length ≤ 1000000) (h2 : l.length ≤ 1000000)
    (hC : ∀ x ∈ ob C, x < w0.heap.size) (hg : g8 < w0.heap.size) (hDg : ∀ x ∈ ob D, w0.heap.size ≤ x) :
    Calls Try.prog 55 #[.slice D l.length dd, .func (.func 56) #[] #[.pointer (some ⟨g8, 0, none⟩)]] w fun e w' =>
      e = .returned (.slice D (l.filter (fun x => !decide (x ∈ ts))).length dd) ∧ Own w' 9 1 D (l.filter (fun x => !decide (x ∈ ts))).length dd (SB (l.filter (fun x => !decide (x ∈ ts)))) ∧ Frm (ob D) w w' := by
  rcases hD.cases with ⟨rfl, h3, h4, h5⟩ | ⟨g, cur, rfl, _⟩
  · have : l = [] := List.eq_nil_of_length_eq_zero h3
    subst this
    exact (deletef_none none dd _ w).mono fun e w' ⟨he, hw⟩ => by subst hw; exact ⟨he, hD, Frm.refl _ _⟩
  · have hgg := hDg g (by simp [ob])
    exact deletef_spec g g8 d dd C ts l w h1 h2 hb ho.rd hD (by omega) (fun x hx => by have := hC x hx; omega)

set_option maxRecDepth 100000 in
theorem fchange_spec (A : Option Addr) (c0 : Nat) (l : List Tx) (op : Int) (B : Option Addr) (d0 : Nat) (more : List Tx) (w : World) (hn : l.length ≤ 1000000) (hq : ∀ q ∈ l, q.length ≤ 1000000) (hr : Rd w 1 A l.length (SB l))
    (hn2 : more.length ≤ 900000) (hq2 : ∀ q ∈ more, q.length ≤ 1000000) (hr2 : Rd w 1 B more.length (SB more)) :
    Calls Try.prog 38 #[.slice A l.length c0, .int .i64 op, .slice B more.length d0] w fun e w' => Frm [] w w' ∧ ∃ C d r k, IsN w w' e (changeF l op more) C d r k := by
  refine VC.calls (nt := 59) (res := #[.tmp 6, .tmp 7]) Try.func38 rfl Try.ntmps38 Try.results38 rfl ?_
  refine VC.seq ?_
  refine VC.region ?_
  refine Ops.r (Run.asg rfl) rfl ?_
  refine Ops.r (v := .int .i64 ((0 : Nat) : Int)) (Run.asg rfl) rfl ?_
  refine Ops.nil ?_
  refine thenQ_n ?_
  refine VC.sub [(0, _), (1, _), (2, _)] (.cons rfl (.cons rfl (.cons rfl .nil))) ?_
  refine VC.seq ?_
  refine VC.seq ?_
  refine VC.splitR [(0, .slice A l.length c0), (1, .int .i64 op), (2, .slice B more.length d0)] (Frm [] w) 23 (.bool (decide (¬ checkF l ∨ op < 0 ∨ 2 < op))) ?_ ?_
  · refine VC.region ?_
    refine Ops.r (Run.mv rfl) rfl ?_
    refine Ops.cl (Enters.fn (evs.cons rfl evs.nil) Try.call52) (fcheck_spec A c0 l _ hn hq hr) rfl ?_
    rintro e w1 ⟨rfl, hf1⟩
    refine ⟨_, rfl, ?_⟩
    by_cases hs14 : checkF l
    · skip
      refine Ops.r (Run.not rfl) rfl ?_
      refine Ops.r (Run.mv rfl) rfl ?_
      refine Ops.rg rfl (by first | rfl | assumption | exact decide_eq_true (by assumption) | exact decide_eq_false (by assumption) | decide | (simp; done) | (simp; omega) | (simp [*]; done)) (Run.mv rfl) rfl ?_
      refine Ops.rg rfl (by first | rfl | assumption | exact decide_eq_true (by assumption) | exact decide_eq_false (by assumption) | decide | (simp; done) | (simp; omega) | (simp [*]; done)) (Run.bin rfl rfl (Bin.lss _ 0)) rfl ?_
      by_cases hs18 : op < 0
      · skip
        refine Ops.r (Run.pickF rfl rfl (by first | rfl | assumption | exact decide_eq_true (by assumption) | exact decide_eq_false (by assumption) | decide | (simp; done) | (simp; omega) | (simp [*]; done))) rfl ?_
        refine Ops.r (Run.mv rfl) rfl ?_
        refine Ops.sk rfl (by first | rfl | assumption | exact decide_eq_true (by assumption) | exact decide_eq_false (by assumption) | decide | (simp; done) | (simp; omega) | (simp [*]; done)) rfl ?_
        refine Ops.sk rfl (by first | rfl | assumption | exact decide_eq_true (by assumption) | exact decide_eq_false (by assumption) | decide | (simp; done) | (simp; omega) | (simp [*]; done)) rfl ?_
        refine Ops.r (Run.pickT rfl rfl (by first | rfl | assumption | exact decide_eq_true (by assumption) | exact decide_eq_false (by assumption) | decide | (simp; done) | (simp; omega) | (simp [*]; done))) rfl ?_
        refine Ops.nil ?_
        refine thenQ_n ⟨(.cons (congrArg (fun b => some (Value.bool b)) (Eq.symm (by simp [*]))) (.cons rfl (.cons rfl (.cons rfl .nil)))), (hf1)⟩
      · skip
        refine Ops.r (Run.pickF rfl rfl (by first | rfl | assumption | exact decide_eq_true (by assumption) | exact decide_eq_false (by assumption) | decide | (simp; done) | (simp; omega) | (simp [*]; done))) rfl ?_
        refine Ops.r (Run.mv rfl) rfl ?_
        refine Ops.rg rfl (by first | rfl | assumption | exact decide_eq_true (by assumption) | exact decide_eq_false (by assumption) | decide | (simp; done) | (simp; omega) | (simp [*]; done)) (Run.mv rfl) rfl ?_
        refine Ops.rg rfl (by first | rfl | assumption | exact decide_eq_true (by assumption) | exact decide_eq_false (by assumption) | decide | (simp; done) | (simp; omega) | (simp [*]; done)) (Run.bin rfl rfl (Bin.gtr _ 2)) rfl ?_
        by_cases hs22 : 2 < op
        · skip
          refine Ops.r (Run.pickF rfl rfl (by first | rfl | assumption | exact decide_eq_true (by assumption) | exact decide_eq_false (by assumption) | decide | (simp; done) | (simp; omega) | (simp [*]; done))) rfl ?_
          refine Ops.nil ?_
          refine thenQ_n ⟨(.cons (congrArg (fun b => some (Value.bool b)) (Eq.symm (by simp [*]))) (.cons rfl (.cons rfl (.cons rfl .nil)))), (hf1)⟩
        · skip
          refine Ops.r (Run.pickF rfl rfl (by first | rfl | assumption | exact decide_eq_true (by assumption) | exact decide_eq_false (by assumption) | decide | (simp; done) | (simp; omega) | (simp [*]; done))) rfl ?_
          refine Ops.nil ?_
          refine thenQ_n ⟨(.cons (congrArg (fun b => some (Value.bool b)) (Eq.symm (by simp [*]))) (.cons rfl (.cons rfl (.cons rfl .nil)))), (hf1)⟩
    · skip
      refine Ops.r (Run.not rfl) rfl ?_
      refine Ops.r (Run.mv rfl) rfl ?_
      refine Ops.sk rfl (by first | rfl | assumption | exact decide_eq_true (by assumption) | exact decide_eq_false (by assumption) | decide | (simp; done) | (simp; omega) | (simp [*]; done)) rfl ?_
      refine Ops.sk rfl (by first | rfl | assumption | exact decide_eq_true (by assumption) | exact decide_eq_false (by assumption) | decide | (simp; done) | (simp; omega) | (simp [*]; done)) rfl ?_
      refine Ops.r (Run.pickT rfl rfl (by first | rfl | assumption | exact decide_eq_true (by assumption) | exact decide_eq_false (by assumption) | decide | (simp; done) | (simp; omega) | (simp [*]; done))) rfl ?_
      refine Ops.r (Run.mv rfl) rfl ?_
      refine Ops.sk rfl (by first | rfl | assumption | exact decide_eq_true (by assumption) | exact decide_eq_false (by assumption) | decide | (simp; done) | (simp; omega) | (simp [*]; done)) rfl ?_
      refine Ops.sk rfl (by first | rfl | assumption | exact decide_eq_true (by assumption) | exact decide_eq_false (by assumption) | decide | (simp; done) | (simp; omega) | (simp [*]; done)) rfl ?_
      refine Ops.r (Run.pickT rfl rfl (by first | rfl | assumption | exact decide_eq_true (by assumption) | exact decide_eq_false (by assumption) | decide | (simp; done) | (simp; omega) | (simp [*]; done))) rfl ?_
      refine Ops.nil ?_
      refine thenQ_n ⟨(.cons (congrArg (fun b => some (Value.bool b)) (Eq.symm (by simp [*]))) (.cons rfl (.cons rfl (.cons rfl .nil)))), (hf1)⟩
  · intro Γ w2 hΓ hf2
    refine thenQ_n (VC.sub _ hΓ ?_)
    refine VC.condD rfl (fun hc1 => ?_) (fun hc1 => ?_)
    · skip
      refine VC.seq ?_
      refine VC.region ?_
      refine Ops.r (Run.asg rfl) rfl ?_
      refine Ops.r (v := .int .i64 ((1 : Nat) : Int)) (Run.asg rfl) rfl ?_
      refine Ops.nil ?_
      refine thenQ_n ?_
      refine VC.sub [(6, _), (7, _)] (.cons rfl (.cons rfl .nil)) ?_
      refine VC.ret ?_
      refine thenQ_r (end2 rfl rfl ?_)
      exact ⟨hf2, none, 0, [], 1, rfl, Own.nil _ _ _, by simp [ob], .inr ⟨by decide, rfl, if_pos hc1⟩⟩
    · skip
      have hcl : checkF l := Classical.not_not.1 fun h => hc1 (.inl h)
      have hop1 : ¬ op < 0 := fun h => hc1 (.inr (.inl h))
      have hop2 : ¬ 2 < op := fun h => hc1 (.inr (.inr h))
      have hlf := checkF_facts hcl
      have hcf : changeF l op more = match toldL more with
          | none => .error 18
          | some ts => normF (allF op l ts) := if_neg hc1
      refine VC.skip ?_
      refine thenQ_n ?_
      refine VC.sub [(0, _), (1, _), (2, _)] (.cons rfl (.cons rfl (.cons rfl .nil))) ?_
      refine VC.seq ?_
      refine VC.region ?_
      refine Ops.m (Does.alloc zero43) rfl ?_
      rintro _ w3 ⟨rfl, hF3⟩
      have hb3 := hF3.blk
      have hfr3 := hf2.trans hF3.frm (by simp)
      have hge8 : w.heap.size ≤ w2.heap.size := hf2.size
      generalize hg8 : w2.heap.size = g8 at *
      refine Ops.nil ?_
      refine thenQ_n ?_
      refine VC.seq ?_
      refine VC.seq ?_
      refine VC.region ?_
      refine Ops.r (Run.mv rfl) rfl ?_
      refine Ops.r (Run.lenS rfl Try.underlying43) rfl ?_
      refine Ops.r (v := .int .i64 ((0 : Nat) : Int)) (Run.mv rfl) rfl ?_
      refine Ops.nil ?_
      refine thenQ_n ?_
      refine VC.sub [(0, _), (1, _), (8, _), (24, _), (25, _), (26, _)] (.cons rfl (.cons rfl (.cons rfl (.cons rfl (.cons rfl (.cons rfl .nil)))))) ?_
      refine VC.block ?_
      refine VC.loop (σ := Nat × Option Addr × Nat × List Tx) (fun s => [(0, .slice A l.length c0), (1, .int .i64 op), (8, .pointer (some ⟨g8, 0, none⟩)), (24, .slice B more.length d0), (25, .int .i64 ((more.length : Nat) : Int)), (26, .int .i64 ((s.1 : Nat) : Int))]) (fun s wr => s.1 ≤ more.length ∧ Blk wr g8 43 #[.slice s.2.1 s.2.2.2.length s.2.2.1] ∧ Own wr 9 1 s.2.1 s.2.2.2.length s.2.2.1 (SB s.2.2.2) ∧ (∀ x ∈ ob s.2.1, w.heap.size ≤ x) ∧ Frm [] w wr ∧ toldL (more.take s.1) = some s.2.2.2) (fun s => more.length - s.1) (0, none, 0, []) (.cons rfl (.cons rfl (.cons rfl (.cons rfl (.cons rfl (.cons rfl .nil)))))) ⟨by omega, hb3, Own.nil _ _ _, by simp [ob], hfr3, rfl⟩ ?_
      rintro ⟨i, C, d, ts⟩ wr ⟨hi, hb, hown, hge, hfr, htl⟩
      dsimp only at hi hb hown hge htl ⊢
      have htsl : ts.length = i := by rw [toldL_len htl]; simp; omega
      refine VC.seq ?_
      refine VC.region ?_
      refine Ops.r (Run.bin rfl rfl (Bin.lssN _ _)) rfl ?_
      refine Ops.nil ?_
      refine thenQ_n ?_
      refine VC.seq ?_
      refine VC.condD rfl (fun hc2 => ?_) (fun hc2 => ?_)
      · skip
        obtain ⟨ad, rfl, hcell⟩ := SB_at (hr2.frm hfr (by simp)) hc2
        refine VC.skip ?_
        refine thenQ_n ?_
        refine VC.sub [(0, _), (1, _), (8, _), (24, _), (25, _), (26, _)] (.cons rfl (.cons rfl (.cons rfl (.cons rfl (.cons rfl (.cons rfl .nil)))))) ?_
        refine VC.seq ?_
        refine VC.block ?_
        refine VC.seq ?_
        refine VC.region ?_
        refine Ops.r (Run.index1 i rfl rfl Try.underlying43 Try.sizeOf9 hc2) rfl ?_
        refine Ops.r (Run.load rfl Try.isAgg9 hcell) rfl ?_
        refine Ops.r (Run.asg rfl) rfl ?_
        refine Ops.nil ?_
        refine thenQ_n ?_
        refine VC.sub [(0, _), (1, _), (8, _), (10, _), (24, _), (25, _), (26, _)] (.cons rfl (.cons rfl (.cons rfl (.cons rfl (.cons rfl (.cons rfl (.cons rfl .nil))))))) ?_
        refine VC.seq ?_
        refine VC.region ?_
        refine Ops.r (Run.mv rfl) rfl ?_
        refine Ops.cl (Enters.fn (evs.cons rfl evs.nil) Try.call54) (told_spec more[i] _ (hq2 _ (List.getElem_mem hc2))) rfl ?_
        rintro e w4 ⟨rfl, hf4⟩
        refine ⟨_, rfl, ?_⟩
        have hfr4 := hfr.trans hf4 (by simp)
        have hown4 := hown.frm hf4 (by simp)
        have hb4 := hb.frm hf4 (by simp)
        have htc := told_cases more[i]
        generalize hq0 : more[i] = q at *
        refine Ops.r (Run.mv rfl) rfl ?_
        refine Ops.r (Run.extract rfl rfl) rfl ?_
        refine Ops.r (Run.extract rfl rfl) rfl ?_
        refine Ops.r (Run.asg rfl) rfl ?_
        refine Ops.r (Run.asg rfl) rfl ?_
        refine Ops.nil ?_
        refine thenQ_n ?_
        refine VC.sub [(0, _), (1, _), (8, _), (11, _), (12, _), (24, _), (25, _), (26, _)] (.cons rfl (.cons rfl (.cons rfl (.cons rfl (.cons rfl (.cons rfl (.cons rfl (.cons rfl .nil)))))))) ?_
        refine VC.seq ?_
        refine VC.seq ?_
        refine VC.region ?_
        refine Ops.r (Run.mv rfl) rfl ?_
        refine Ops.r (Run.bin rfl rfl (Bin.neqN _ 0)) rfl ?_
        refine Ops.nil ?_
        refine thenQ_n ?_
        refine VC.sub [(0, _), (1, _), (8, _), (11, _), (12, _), (24, _), (25, _), (26, _), (36, _)] (.cons rfl (.cons rfl (.cons rfl (.cons rfl (.cons rfl (.cons rfl (.cons rfl (.cons rfl (.cons rfl .nil))))))))) ?_
        refine VC.condD rfl (fun hc3 => ?_) (fun hc3 => ?_)
        · skip
          have ht0 : toldF q = none ∧ toldV q = ([], 18) := by
            rcases htc with ⟨t, _, h⟩ | h
            · rw [h] at hc3; exact absurd rfl hc3
            · exact h
          have hnf : changeF l op more = .error 18 := by
            rw [hcf, toldL_none (hq0 ▸ List.getElem_mem hc2) ht0.1]
          refine VC.seq ?_
          refine VC.region ?_
          refine Ops.r (Run.mv rfl) rfl ?_
          refine Ops.r (Run.asg rfl) rfl ?_
          refine Ops.r (Run.asg rfl) rfl ?_
          refine Ops.nil ?_
          refine thenQ_n ?_
          refine VC.sub [(6, _), (7, _)] (.cons rfl (.cons rfl .nil)) ?_
          refine VC.ret ?_
          refine thenQ_r (blockQ_r (thenQ_r (thenQ_r (blockQ_r (thenQ_r (end2 rfl rfl ?_))))))
          rw [ht0.2]
          exact ⟨hfr4, none, 0, [], 18, rfl, Own.nil _ _ _, by simp [ob], .inr ⟨by decide, rfl, hnf⟩⟩
        · skip
          obtain ⟨t, ht0, hv0⟩ : ∃ t, toldF q = some t ∧ toldV q = (t, 0) := by
            rcases htc with h | ⟨_, h⟩
            · exact h
            · rw [h] at hc3; exact absurd (by decide) hc3
          rw [hv0]
          refine VC.skip ?_
          refine thenQ_n ?_
          refine VC.sub [(0, _), (1, _), (8, _), (11, _), (24, _), (25, _), (26, _)] (.cons rfl (.cons rfl (.cons rfl (.cons rfl (.cons rfl (.cons rfl (.cons rfl .nil))))))) ?_
          refine VC.region ?_
          refine Ops.r (Run.load rfl Try.isAgg43 (hb4.cell 0)) rfl ?_
          refine Ops.r (Run.mv rfl) rfl ?_
          refine Ops.m (Does.buildS1 rfl Try.underlying43 Try.sizeOf9 zero9 (by decide) (by decide) rfl rfl) rfl ?_
          rintro _ w5 ⟨rfl, hF5⟩
          have hfr5 := hfr4.trans hF5.frm (by simp)
          have hown5 := hown4.frm hF5.frm (by simp)
          have hb5 := hb4.frm hF5.frm (by simp)
          refine Ops.m (Does.app rfl rfl Try.underlying43 (info9) rfl (by decide) hown5 (hrd1 hF5) (SB_one _) (by omega) (by omega)) rfl ?_
          rintro _ w6 ⟨A6, c6, rfl, hown6, hfr6, hob6⟩
          rw [← SB_append] at hown6
          have hb6 := hb5.frm hfr6 (hown5.ne_blk hb5 (by decide))
          have hge6 := up_app hge hob6 hfr5.size
          have hfr6' := hfr5.own hfr6 hge
          refine Ops.st (Acts.store rfl rfl Try.sizeOf43 hb6 rfl rfl) ?_
          rintro w7 ⟨hb7, hfr7, hs7⟩
          have hown7 := hown6.frm hfr7 (fun x hx => by simp; rintro rfl; exact hown6.ne_blk hb6 (by decide) hx)
          have hfr7' := hfr6'.own hfr7 (fun x hx => by simp at hx; omega)
          refine Ops.nil ?_
          refine blockQ_n (thenQ_n ?_)
          refine VC.sub [(0, _), (1, _), (8, _), (24, _), (25, _), (26, _)] (.cons rfl (.cons rfl (.cons rfl (.cons rfl (.cons rfl (.cons rfl .nil)))))) ?_
          refine VC.region ?_
          refine Ops.r (Run.bin rfl rfl (Bin.add_i64 _ 1 (by omega))) rfl ?_
          refine Ops.r (Run.mv rfl) rfl ?_
          refine Ops.nil ?_
          refine thenQ_n ⟨(i + 1, A6, c6, ts ++ [t]), (.cons rfl (.cons rfl (.cons rfl (.cons rfl (.cons rfl (.cons rfl .nil)))))), ?_, ?_⟩
          · skip
            exact ⟨hc2, by simpa using hb7, by simpa using hown7, hge6, hfr7', by rw [take_snoc hc2, toldL_snoc, htl, hq0, ht0]⟩
          · skip
            first | omega | (dsimp only; omega)
      · skip
        refine VC.exit ?_
        refine thenQ_x (thenQ_x (blockQ_x ?_))
        refine thenQ_n ?_
        refine VC.sub [(0, _), (1, _), (8, _)] (.cons rfl (.cons rfl (.cons rfl .nil))) ?_
        refine VC.seq ?_
        refine VC.seq ?_
        refine VC.region ?_
        refine Ops.r (Run.mv rfl) rfl ?_
        have him : i = more.length := by omega
        subst him
        rw [List.take_length] at htl
        have hcf2 : changeF l op more = normF (allF op l ts) := by rw [hcf, htl]
        have haf := allF_facts (op := op) ⟨hlf.2.1, hlf.2.2.2⟩ (by omega) (toldL_told htl)
        refine Ops.nil ?_
        refine thenQ_n ?_
        refine VC.sub [(0, _), (8, _), (43, _)] (.cons rfl (.cons rfl (.cons rfl .nil))) ?_
        refine VC.block ?_
        refine VC.seq ?_
        refine VC.region ?_
        refine Ops.r (Run.bin rfl rfl (Bin.eql _ 1)) rfl ?_
        refine Ops.r (Run.asg rfl) rfl ?_
        refine Ops.nil ?_
        refine thenQ_n ?_
        refine VC.sub [(0, _), (8, _), (43, _), (44, _)] (.cons rfl (.cons rfl (.cons rfl (.cons rfl .nil)))) ?_
        refine VC.meet (σ := Unit) (fun s => [(8, .pointer (some ⟨g8, 0, none⟩))]) (fun s wm => Frm [] w wm ∧ ∃ C2 d2, Blk wm g8 43 #[.slice C2 (allF op l ts).length d2] ∧ Rd wm 1 C2 (allF op l ts).length (SB (allF op l ts))) ?_ ?_
        · skip
          refine VC.condD rfl (fun hc4 => ?_) (fun hc4 => ?_)
          · skip
            refine VC.region ?_
            refine Ops.r (Run.load rfl Try.isAgg43 (hb.cell 0)) rfl ?_
            refine Ops.r (Run.mv rfl) rfl ?_
            refine Ops.m (Does.app rfl rfl Try.underlying43 (info9) rfl (by decide) hown (hr.frm hfr (by simp)) (SB_one _) (by omega) (by omega)) rfl ?_
            rintro _ w6 ⟨A6, c6, rfl, hown6, hfr6, hob6⟩
            rw [← SB_append] at hown6
            have hb6 := hb.frm hfr6 (hown.ne_blk hb (by decide))
            have hfr6' := hfr.own hfr6 hge
            refine Ops.st (Acts.store rfl rfl Try.sizeOf43 hb6 rfl rfl) ?_
            rintro w7 ⟨hb7, hfr7, hs7⟩
            have hown7 := hown6.frm hfr7 (fun x hx => by simp; rintro rfl; exact hown6.ne_blk hb6 (by decide) hx)
            have hfr7' := hfr6'.own hfr7 (fun x hx => by simp at hx; omega)
            refine Ops.nil ?_
            refine thenQ_n ⟨(), (.cons rfl .nil), ?_⟩
            refine ⟨hfr7', A6, c6, ?_, ?_⟩
            · rw [show allF op l ts = ts ++ l from if_pos hc4, List.length_append]; simpa using hb7
            · rw [show allF op l ts = ts ++ l from if_pos hc4, List.length_append]; exact hown7.rd
          · skip
            refine VC.seq ?_
            refine VC.region ?_
            refine Ops.r (Run.bin rfl rfl (Bin.eql _ 2)) rfl ?_
            refine Ops.r (Run.asg rfl) rfl ?_
            refine Ops.nil ?_
            refine thenQ_n ?_
            refine VC.sub [(0, _), (8, _), (49, _)] (.cons rfl (.cons rfl (.cons rfl .nil))) ?_
            refine VC.condD rfl (fun hc5 => ?_) (fun hc5 => ?_)
            · skip
              refine VC.region ?_
              refine Ops.r (Run.mv rfl) rfl ?_
              refine Ops.cl (Enters.fn (evs.cons rfl evs.nil) Try.call53) (clone_spec A c0 l _ (hr.frm hfr (by simp)) (by omega)) rfl ?_
              rintro e w6 ⟨D, dd, rfl, hownD, hgeD, hf6⟩
              refine ⟨_, rfl, ?_⟩
              have hb6 := hb.frm hf6 (by simp)
              have hown6 := hown.frm hf6 (by simp)
              have hfr6 := hfr.trans hf6 (by simp)
              refine Ops.r (Run.mkFunc evs.nil (evs.cons rfl evs.nil)) rfl ?_
              refine Ops.cl (Enters.fn (evs.cons rfl (evs.cons rfl evs.nil)) Try.call55) (delD_spec hb6 hown6 hownD (by omega) (by omega) (fun x hx => hown.lt x hx) hb.lt hgeD) rfl ?_
              rintro e w7 ⟨rfl, hown7, hfr7⟩
              refine ⟨_, rfl, ?_⟩
              have hgeD' : ∀ x ∈ ob D, w.heap.size ≤ x := fun x hx => Nat.le_trans hfr.size (hgeD x hx)
              have hb7 := hb6.frm hfr7 (hownD.ne_blk hb6 (by decide))
              have hfr7' := hfr6.own hfr7 hgeD'
              refine Ops.st (Acts.store rfl rfl Try.sizeOf43 hb7 rfl rfl) ?_
              rintro w8 ⟨hb8, hfr8, hs8⟩
              have hown8 := hown7.frm hfr8 (fun x hx => by simp; rintro rfl; exact hown7.ne_blk hb7 (by decide) hx)
              have hfr8' := hfr7'.own hfr8 (fun x hx => by simp at hx; omega)
              refine Ops.nil ?_
              refine thenQ_n ⟨(), (.cons rfl .nil), ?_⟩
              have e : allF op l ts = l.filter (fun x => !decide (x ∈ ts)) := by unfold allF; rw [if_neg hc4, if_pos hc5]
              rw [e]
              exact ⟨hfr8', D, dd, by simpa using hb8, hown8.rd⟩
            · skip
              refine VC.skip ?_
              refine thenQ_n ⟨(), (.cons rfl .nil), ?_⟩
              have e : allF op l ts = ts := by unfold allF; rw [if_neg hc4, if_neg hc5]
              rw [e]
              exact ⟨hfr, C, d, hb, hown.rd⟩
        · skip
          rintro _ wm ⟨hfrm, C2, d2, hbm, hrm⟩ Γ hΓ
          refine blockQ_n (thenQ_n (VC.sub _ hΓ ?_))
          refine VC.seq ?_
          refine VC.region ?_
          refine Ops.r (Run.load rfl Try.isAgg43 (hbm.cell 0)) rfl ?_
          refine Ops.cl (Enters.fn (evs.cons rfl evs.nil) Try.call58) (fnorm_spec C2 d2 (allF op l ts) _ (by omega) (fun q hq => by have := haf.2 q hq; omega) hrm) rfl ?_
          rintro e w9 ⟨hf9, D9, d9, r9, k9, rfl, ho9, hge9, hN9⟩
          refine ⟨_, rfl, ?_⟩
          have hfr9 := hfrm.trans hf9 (by simp)
          refine Ops.r (Run.extract rfl rfl) rfl ?_
          refine Ops.r (Run.extract rfl rfl) rfl ?_
          refine Ops.r (Run.asg rfl) rfl ?_
          refine Ops.r (Run.asg rfl) rfl ?_
          refine Ops.nil ?_
          refine thenQ_n ?_
          refine VC.sub [(6, _), (7, _)] (.cons rfl (.cons rfl .nil)) ?_
          refine VC.ret ?_
          refine end2 rfl rfl ?_
          exact ⟨hfr9, D9, d9, r9, k9, rfl, ho9, fun x hx => Nat.le_trans hfrm.size (hge9 x hx), by rw [hcf2]; exact hN9⟩

end Go.Proofs.Ytmfglifjnoilnaa
