/-
  The document's flags: a set with others, or without.
-/
import Derived.Test.YtmfglifjnoilnaaFlagT
namespace Go.Proofs.Ytmfglifjnoilnaa
open Go.RowKit Go.Sort

theorem take_filt {l : List Tx} {ts : List Tx} (hl : checkF l) : normF (l.filter (fun x => !decide (x ∈ ts))) = .ok (l.filter (fun x => !decide (x ∈ ts))) := by
  obtain ⟨h1, h2, _, h4⟩ := checkF_facts hl
  exact checkF_iff.2 ⟨h1.filter _, Nat.le_trans (List.length_filter_le _ _) h2, fun s hs => h4 s (List.mem_filter.1 hs).1⟩
theorem normF_told {ts : List Tx} (h : ∀ t ∈ ts, toldF t = some t) : normF ts = if 16 < (nub ts).length then .error 5 else .ok (nub ts) := by
  unfold normF
  rw [toldL_all h]

set_option maxRecDepth 100000 in
theorem rchange_spec (A : Option Addr) (c0 : Nat) (l : List Tx) (op : Int) (B : Option Addr) (d0 : Nat) (more : List Tx) (w : World) (hn : l.length ≤ 900000) (hq : ∀ q ∈ l, q.length ≤ 1000000) (hr : Rd w 1 A l.length (SB l))
    (hn2 : more.length ≤ 800000) (hq2 : ∀ q ∈ more, q.length ≤ 1000000) (hr2 : Rd w 1 B more.length (SB more)) :
    Calls Try.prog 39 #[.slice A l.length c0, .int .i64 op, .slice B more.length d0] w fun e w' => Frm [] w w' ∧ ∃ C d r k, IsN w w' e (changeF l op more) C d r k := by
  refine VC.calls (nt := 82) (res := #[.tmp 6, .tmp 7]) Try.func39 rfl Try.ntmps39 Try.results39 rfl ?_
  refine VC.seq ?_
  refine VC.region ?_
  refine Ops.r (Run.asg rfl) rfl ?_
  refine Ops.r (v := .int .i64 ((0 : Nat) : Int)) (Run.asg rfl) rfl ?_
  refine Ops.nil ?_
  refine thenQ_n ?_
  refine VC.sub [(0, _), (1, _), (2, _)] (.cons rfl (.cons rfl (.cons rfl .nil))) ?_
  refine VC.seq ?_
  refine VC.seq ?_
  refine VC.splitR [(0, .slice A l.length c0), (1, .int .i64 op), (2, .slice B more.length d0)] (Frm [] w) 24 (.bool (decide (¬ checkF l ∨ op < 0 ∨ 2 < op))) ?_ ?_
  · refine VC.region ?_
    refine Ops.r (Run.mv rfl) rfl ?_
    refine Ops.cl (Enters.fn (evs.cons rfl evs.nil) Try.call49) (rcheck_spec A c0 l _ hn hq hr) rfl ?_
    rintro e w1 ⟨rfl, hf1⟩
    refine ⟨_, rfl, ?_⟩
    by_cases hs15 : checkF l
    · skip
      refine Ops.r (Run.not rfl) rfl ?_
      refine Ops.r (Run.mv rfl) rfl ?_
      refine Ops.rg rfl (by first | rfl | assumption | exact decide_eq_true (by assumption) | exact decide_eq_false (by assumption) | decide | (simp; done) | (simp; omega) | (simp [*]; done)) (Run.mv rfl) rfl ?_
      refine Ops.rg rfl (by first | rfl | assumption | exact decide_eq_true (by assumption) | exact decide_eq_false (by assumption) | decide | (simp; done) | (simp; omega) | (simp [*]; done)) (Run.bin rfl rfl (Bin.lss _ 0)) rfl ?_
      by_cases hs19 : op < 0
      · skip
        refine Ops.r (Run.pickF rfl rfl (by first | rfl | assumption | exact decide_eq_true (by assumption) | exact decide_eq_false (by assumption) | decide | (simp; done) | (simp; omega) | (simp [*]; done))) rfl ?_
        refine Ops.r (Run.mv rfl) rfl ?_
        refine Ops.sk rfl (by first | rfl | assumption | exact decide_eq_true (by assumption) | exact decide_eq_false (by assumption) | decide | (simp; done) | (simp; omega) | (simp [*]; done)) rfl ?_
        refine Ops.sk rfl (by first | rfl | assumption | exact decide_eq_true (by assumption) | exact decide_eq_false (by assumption) | decide | (simp; done) | (simp; omega) | (simp [*]; done)) rfl ?_
        refine Ops.r (Run.pickT rfl rfl (by first | rfl | assumption | exact decide_eq_true (by assumption) | exact decide_eq_false (by assumption) | decide | (simp; done) | (simp; omega) | (simp [*]; done))) rfl ?_
        refine Ops.nil ?_
        refine thenQ_n ⟨(.cons (congrArg (fun b => some (Value.bool b)) (Eq.symm (by simp [*]))) (.cons rfl (.cons rfl (.cons rfl .nil)))), (hf1)⟩
      · skip
        refine Ops.r (Run.pickF rfl rfl (by first | rfl | assumption | exact decide_eq_true (by assumption) | exact decide_eq_false (by assumption) | decide | (simp; done) | (simp; omega) | (simp [*]; done))) rfl ?_
        refine Ops.r (Run.mv rfl) rfl ?_
        refine Ops.rg rfl (by first | rfl | assumption | exact decide_eq_true (by assumption) | exact decide_eq_false (by assumption) | decide | (simp; done) | (simp; omega) | (simp [*]; done)) (Run.mv rfl) rfl ?_
        refine Ops.rg rfl (by first | rfl | assumption | exact decide_eq_true (by assumption) | exact decide_eq_false (by assumption) | decide | (simp; done) | (simp; omega) | (simp [*]; done)) (Run.bin rfl rfl (Bin.gtr _ 2)) rfl ?_
        by_cases hs23 : 2 < op
        · skip
          refine Ops.r (Run.pickF rfl rfl (by first | rfl | assumption | exact decide_eq_true (by assumption) | exact decide_eq_false (by assumption) | decide | (simp; done) | (simp; omega) | (simp [*]; done))) rfl ?_
          refine Ops.nil ?_
          refine thenQ_n ⟨(.cons (congrArg (fun b => some (Value.bool b)) (Eq.symm (by simp [*]))) (.cons rfl (.cons rfl (.cons rfl .nil)))), (hf1)⟩
        · skip
          refine Ops.r (Run.pickF rfl rfl (by first | rfl | assumption | exact decide_eq_true (by assumption) | exact decide_eq_false (by assumption) | decide | (simp; done) | (simp; omega) | (simp [*]; done))) rfl ?_
          refine Ops.nil ?_
          refine thenQ_n ⟨(.cons (congrArg (fun b => some (Value.bool b)) (Eq.symm (by simp [*]))) (.cons rfl (.cons rfl (.cons rfl .nil)))), (hf1)⟩
    · skip
      refine Ops.r (Run.not rfl) rfl ?_
      refine Ops.r (Run.mv rfl) rfl ?_
      refine Ops.sk rfl (by first | rfl | assumption | exact decide_eq_true (by assumption) | exact decide_eq_false (by assumption) | decide | (simp; done) | (simp; omega) | (simp [*]; done)) rfl ?_
      refine Ops.sk rfl (by first | rfl | assumption | exact decide_eq_true (by assumption) | exact decide_eq_false (by assumption) | decide | (simp; done) | (simp; omega) | (simp [*]; done)) rfl ?_
      refine Ops.r (Run.pickT rfl rfl (by first | rfl | assumption | exact decide_eq_true (by assumption) | exact decide_eq_false (by assumption) | decide | (simp; done) | (simp; omega) | (simp [*]; done))) rfl ?_
      refine Ops.r (Run.mv rfl) rfl ?_
      refine Ops.sk rfl (by first | rfl | assumption | exact decide_eq_true (by assumption) | exact decide_eq_false (by assumption) | decide | (simp; done) | (simp; omega) | (simp [*]; done)) rfl ?_
      refine Ops.sk rfl (by first | rfl | assumption | exact decide_eq_true (by assumption) | exact decide_eq_false (by assumption) | decide | (simp; done) | (simp; omega) | (simp [*]; done)) rfl ?_
      refine Ops.r (Run.pickT rfl rfl (by first | rfl | assumption | exact decide_eq_true (by assumption) | exact decide_eq_false (by assumption) | decide | (simp; done) | (simp; omega) | (simp [*]; done))) rfl ?_
      refine Ops.nil ?_
      refine thenQ_n ⟨(.cons (congrArg (fun b => some (Value.bool b)) (Eq.symm (by simp [*]))) (.cons rfl (.cons rfl (.cons rfl .nil)))), (hf1)⟩
  · intro Γ w2 hΓ hf2
    refine thenQ_n (VC.sub _ hΓ ?_)
    refine VC.condD rfl (fun hc1 => ?_) (fun hc1 => ?_)
    · skip
      refine VC.seq ?_
      refine VC.region ?_
      refine Ops.r (Run.asg rfl) rfl ?_
      refine Ops.r (v := .int .i64 ((1 : Nat) : Int)) (Run.asg rfl) rfl ?_
      refine Ops.nil ?_
      refine thenQ_n ?_
      refine VC.sub [(6, _), (7, _)] (.cons rfl (.cons rfl .nil)) ?_
      refine VC.ret ?_
      refine thenQ_r (end2 rfl rfl ?_)
      exact ⟨hf2, none, 0, [], 1, rfl, Own.nil _ _ _, by simp [ob], .inr ⟨by decide, rfl, if_pos hc1⟩⟩
    · skip
      have hcl : checkF l := Classical.not_not.1 fun h => hc1 (.inl h)
      have hlf := checkF_facts hcl
      have hcf : changeF l op more = match toldL more with
          | none => .error 18
          | some ts => normF (allF op l ts) := if_neg hc1
      refine VC.skip ?_
      refine thenQ_n ?_
      refine VC.sub [(0, _), (1, _), (2, _)] (.cons rfl (.cons rfl (.cons rfl .nil))) ?_
      refine VC.seq ?_
      refine VC.region ?_
      refine Ops.r (Run.asg rfl) rfl ?_
      refine Ops.nil ?_
      refine thenQ_n ?_
      refine VC.seq ?_
      refine VC.seq ?_
      refine VC.region ?_
      refine Ops.r (v := .int .i64 ((0 : Nat) : Int)) (Run.asg rfl) rfl ?_
      refine Ops.nil ?_
      refine thenQ_n ?_
      refine VC.block ?_
      refine VC.loop (σ := Nat × Option Addr × Nat × List Tx) (fun s => [(0, .slice A l.length c0), (1, .int .i64 op), (2, .slice B more.length d0), (8, .slice s.2.1 (nub s.2.2.2).length s.2.2.1), (9, .int .i64 ((s.1 : Nat) : Int))]) (fun s wr => s.1 ≤ more.length ∧ Own wr 9 1 s.2.1 (nub s.2.2.2).length s.2.2.1 (SB (nub s.2.2.2)) ∧ (∀ x ∈ ob s.2.1, w.heap.size ≤ x) ∧ Frm [] w wr ∧ toldL (more.take s.1) = some s.2.2.2) (fun s => more.length - s.1) (0, none, 0, []) (.cons rfl (.cons rfl (.cons rfl (.cons (by rw [show nub [] = [] from nub_self (by simp)]; rfl) (.cons rfl .nil))))) ⟨by omega, (by rw [show nub [] = [] from nub_self (by simp)]; exact Own.nil _ _ _), by simp [ob], hf2, rfl⟩ ?_
      rintro ⟨i, C, d, ts⟩ wr ⟨hi, hown, hge, hfr, htl⟩
      dsimp only at hi hown hge htl ⊢
      have htsl : ts.length = i := by rw [toldL_len htl]; simp; omega
      have hnl := nub_len ts
      refine VC.seq ?_
      refine VC.seq ?_
      refine VC.region ?_
      refine Ops.r (Run.mv rfl) rfl ?_
      refine Ops.r (Run.mv rfl) rfl ?_
      refine Ops.r (Run.lenS rfl Try.underlying43) rfl ?_
      refine Ops.r (Run.bin rfl rfl (Bin.lssN _ _)) rfl ?_
      refine Ops.nil ?_
      refine thenQ_n ?_
      refine VC.sub [(0, _), (1, _), (2, _), (8, _), (9, _), (28, _)] (.cons rfl (.cons rfl (.cons rfl (.cons rfl (.cons rfl (.cons rfl .nil)))))) ?_
      refine VC.condD rfl (fun hc2 => ?_) (fun hc2 => ?_)
      · skip
        obtain ⟨ad, rfl, hcell⟩ := SB_at (hr2.frm hfr (by simp)) hc2
        refine VC.skip ?_
        refine thenQ_n ?_
        refine VC.sub [(0, _), (1, _), (2, _), (8, _), (9, _)] (.cons rfl (.cons rfl (.cons rfl (.cons rfl (.cons rfl .nil))))) ?_
        refine VC.seq ?_
        refine VC.block ?_
        refine VC.seq ?_
        refine VC.region ?_
        refine Ops.r (Run.mv rfl) rfl ?_
        refine Ops.r (Run.mv rfl) rfl ?_
        refine Ops.r (Run.index1 i rfl rfl Try.underlying43 Try.sizeOf9 hc2) rfl ?_
        refine Ops.r (Run.load rfl Try.isAgg9 hcell) rfl ?_
        refine Ops.cl (Enters.fn (evs.cons rfl evs.nil) Try.call43) (rtold_spec more[i] _ (hq2 _ (List.getElem_mem hc2))) rfl ?_
        rintro e w4 ⟨rfl, hf4⟩
        refine ⟨_, rfl, ?_⟩
        have hfr4 := hfr.trans hf4 (by simp)
        have hown4 := hown.frm hf4 (by simp)
        have htc := told_cases more[i]
        generalize hq0 : more[i] = q at *
        refine Ops.r (Run.asg rfl) rfl ?_
        refine Ops.nil ?_
        refine thenQ_n ?_
        refine VC.sub [(0, _), (1, _), (2, _), (8, _), (9, _), (10, _)] (.cons rfl (.cons rfl (.cons rfl (.cons rfl (.cons rfl (.cons rfl .nil)))))) ?_
        refine VC.seq ?_
        refine VC.seq ?_
        refine VC.region ?_
        refine Ops.r (Run.mv rfl) rfl ?_
        refine Ops.r (Run.eqlT rfl rfl) rfl ?_
        refine Ops.nil ?_
        refine thenQ_n ?_
        refine VC.sub [(0, _), (1, _), (2, _), (8, _), (9, _), (10, _), (37, _)] (.cons rfl (.cons rfl (.cons rfl (.cons rfl (.cons rfl (.cons rfl (.cons rfl .nil))))))) ?_
        refine VC.condD rfl (fun hc3 => ?_) (fun hc3 => ?_)
        · skip
          have ht0 : toldF q = none := by
            rcases htc with ⟨t, h, h2⟩ | ⟨h, _⟩
            · rw [h2] at hc3; exact absurd hc3 (toldF_ne h)
            · exact h
          have hnf : changeF l op more = .error 18 := by
            rw [hcf, toldL_none (hq0 ▸ List.getElem_mem hc2) ht0]
          refine VC.seq ?_
          refine VC.region ?_
          refine Ops.r (Run.asg rfl) rfl ?_
          refine Ops.r (v := .int .i64 ((18 : Nat) : Int)) (Run.asg rfl) rfl ?_
          refine Ops.nil ?_
          refine thenQ_n ?_
          refine VC.sub [(6, _), (7, _)] (.cons rfl (.cons rfl .nil)) ?_
          refine VC.ret ?_
          refine thenQ_r (blockQ_r (thenQ_r (thenQ_r (blockQ_r (thenQ_r (end2 rfl rfl ?_))))))
          exact ⟨hfr4, none, 0, [], 18, rfl, Own.nil _ _ _, by simp [ob], .inr ⟨by decide, rfl, hnf⟩⟩
        · skip
          obtain ⟨t, ht0, hv0⟩ : ∃ t, toldF q = some t ∧ toldV q = (t, 0) := by
            rcases htc with h | ⟨_, h⟩
            · exact h
            · rw [h] at hc3; exact absurd rfl hc3
          rw [hv0]
          refine VC.skip ?_
          refine thenQ_n ?_
          refine VC.sub [(0, _), (1, _), (2, _), (8, _), (9, _), (10, _)] (.cons rfl (.cons rfl (.cons rfl (.cons rfl (.cons rfl (.cons rfl .nil)))))) ?_
          refine VC.region ?_
          refine Ops.r (Run.mv rfl) rfl ?_
          refine Ops.r (Run.mv rfl) rfl ?_
          refine Ops.cl (Enters.fn (evs.cons rfl (evs.cons rfl evs.nil)) Try.call59) (lay_spec C d (nub ts) t _ (by omega) hown4.rd) rfl ?_
          rintro e w5 ⟨hf5, D, d5, rfl, hown5, hge5⟩
          refine ⟨_, rfl, ?_⟩
          have hfr5 := hfr4.trans hf5 (by simp)
          have hnt : layF (nub ts) t = nub (ts ++ [t]) := by rw [← laysF_nub, ← laysF_nub, laysF_snoc]
          rw [hnt] at hown5 ⊢
          refine Ops.r (Run.asg rfl) rfl ?_
          refine Ops.nil ?_
          refine blockQ_n (thenQ_n ?_)
          refine VC.sub [(0, _), (1, _), (2, _), (8, _), (9, _)] (.cons rfl (.cons rfl (.cons rfl (.cons rfl (.cons rfl .nil))))) ?_
          refine VC.region ?_
          refine Ops.r (Run.mv rfl) rfl ?_
          refine Ops.r (Run.bin rfl rfl (Bin.add_i64 _ 1 (by omega))) rfl ?_
          refine Ops.r (Run.asg rfl) rfl ?_
          refine Ops.nil ?_
          refine thenQ_n ⟨(i + 1, D, d5, ts ++ [t]), (.cons rfl (.cons rfl (.cons rfl (.cons rfl (.cons rfl .nil))))), ?_, ?_⟩
          · skip
            exact ⟨hc2, hown5, fun x hx => Nat.le_trans hfr4.size (hge5 x hx), hfr5, by rw [take_snoc hc2, toldL_snoc, htl, hq0, ht0]⟩
          · skip
            first | omega | (dsimp only; omega)
      · skip
        have him : i = more.length := by omega
        subst him
        rw [List.take_length] at htl
        have hcf2 : changeF l op more = normF (allF op l ts) := by rw [hcf, htl]
        have haf := allF_facts (op := op) ⟨hlf.2.1, hlf.2.2.2⟩ (by omega) (toldL_told htl)
        have htt := toldL_told htl
        have hl16 := hlf.2.1
        refine VC.exit ?_
        refine thenQ_x (thenQ_x (blockQ_x ?_))
        refine thenQ_n ?_
        refine VC.sub [(0, _), (1, _), (8, _)] (.cons rfl (.cons rfl (.cons rfl .nil))) ?_
        refine VC.seq ?_
        refine VC.seq ?_
        refine VC.region ?_
        refine Ops.r (Run.mv rfl) rfl ?_
        refine Ops.r (Run.bin rfl rfl (Bin.eql _ 1)) rfl ?_
        refine Ops.nil ?_
        refine thenQ_n ?_
        refine VC.sub [(0, _), (1, _), (8, _), (42, _)] (.cons rfl (.cons rfl (.cons rfl (.cons rfl .nil)))) ?_
        refine VC.meet (σ := Option Addr × Nat) (fun s => [(0, .slice A l.length c0), (1, .int .i64 op), (8, .slice s.1 (nub (if op = 1 then ts ++ l else ts)).length s.2)]) (fun s wm => Own wm 9 1 s.1 (nub (if op = 1 then ts ++ l else ts)).length s.2 (SB (nub (if op = 1 then ts ++ l else ts))) ∧ (∀ x ∈ ob s.1, w.heap.size ≤ x) ∧ Frm [] w wm) ?_ ?_
        · skip
          refine VC.condD rfl (fun hc4 => ?_) (fun hc4 => ?_)
          · skip
            refine VC.seq ?_
            refine VC.region ?_
            refine Ops.r (v := .int .i64 ((0 : Nat) : Int)) (Run.asg rfl) rfl ?_
            refine Ops.nil ?_
            refine thenQ_n ?_
            refine VC.sub [(0, _), (1, _), (8, _), (11, _)] (.cons rfl (.cons rfl (.cons rfl (.cons rfl .nil)))) ?_
            refine VC.block ?_
            refine VC.loop (σ := Nat × Option Addr × Nat) (fun s => [(0, .slice A l.length c0), (1, .int .i64 op), (8, .slice s.2.1 (nub (ts ++ l.take s.1)).length s.2.2), (11, .int .i64 ((s.1 : Nat) : Int))]) (fun s wr => s.1 ≤ l.length ∧ Own wr 9 1 s.2.1 (nub (ts ++ l.take s.1)).length s.2.2 (SB (nub (ts ++ l.take s.1))) ∧ (∀ x ∈ ob s.2.1, w.heap.size ≤ x) ∧ Frm [] w wr) (fun s => l.length - s.1) (0, C, d) (.cons rfl (.cons rfl (.cons (by rw [List.take_zero, List.append_nil]; rfl) (.cons rfl .nil)))) ⟨by omega, by simpa using hown, hge, hfr⟩ ?_
            rintro ⟨j, E, de⟩ wr2 ⟨hj, hownE, hgeE, hfrE⟩
            dsimp only at hj hownE hgeE ⊢
            have hnlE := nub_len (ts ++ l.take j)
            have hleE : (ts ++ l.take j).length ≤ 850000 := by simp only [List.length_append, List.length_take]; omega
            refine VC.seq ?_
            refine VC.seq ?_
            refine VC.region ?_
            refine Ops.r (Run.mv rfl) rfl ?_
            refine Ops.r (Run.mv rfl) rfl ?_
            refine Ops.r (Run.lenS rfl Try.underlying43) rfl ?_
            refine Ops.r (Run.bin rfl rfl (Bin.lssN _ _)) rfl ?_
            refine Ops.nil ?_
            refine thenQ_n ?_
            refine VC.sub [(0, _), (1, _), (8, _), (11, _), (46, _)] (.cons rfl (.cons rfl (.cons rfl (.cons rfl (.cons rfl .nil))))) ?_
            refine VC.condD rfl (fun hc5 => ?_) (fun hc5 => ?_)
            · skip
              obtain ⟨ad, rfl, hcell⟩ := SB_at (hr.frm hfrE (by simp)) hc5
              refine VC.skip ?_
              refine thenQ_n ?_
              refine VC.sub [(0, _), (1, _), (8, _), (11, _)] (.cons rfl (.cons rfl (.cons rfl (.cons rfl .nil)))) ?_
              refine VC.seq ?_
              refine VC.block ?_
              refine VC.region ?_
              refine Ops.r (Run.mv rfl) rfl ?_
              refine Ops.r (Run.mv rfl) rfl ?_
              refine Ops.r (Run.mv rfl) rfl ?_
              refine Ops.r (Run.index1 j rfl rfl Try.underlying43 Try.sizeOf9 hc5) rfl ?_
              refine Ops.r (Run.load rfl Try.isAgg9 hcell) rfl ?_
              refine Ops.cl (Enters.fn (evs.cons rfl (evs.cons rfl evs.nil)) Try.call59) (lay_spec E de (nub (ts ++ l.take j)) l[j] _ (by omega) hownE.rd) rfl ?_
              rintro e w5 ⟨hf5, D, d5, rfl, hown5, hge5⟩
              refine ⟨_, rfl, ?_⟩
              have hfr5 := hfrE.trans hf5 (by simp)
              have hnt : layF (nub (ts ++ l.take j)) l[j] = nub (ts ++ l.take (j + 1)) := by rw [← laysF_nub, ← laysF_nub, laysF_snoc, take_snoc hc5, List.append_assoc]
              rw [hnt] at hown5 ⊢
              refine Ops.r (Run.asg rfl) rfl ?_
              refine Ops.nil ?_
              refine blockQ_n (thenQ_n ?_)
              refine VC.sub [(0, _), (1, _), (8, _), (11, _)] (.cons rfl (.cons rfl (.cons rfl (.cons rfl .nil)))) ?_
              refine VC.region ?_
              refine Ops.r (Run.mv rfl) rfl ?_
              refine Ops.r (Run.bin rfl rfl (Bin.add_i64 _ 1 (by omega))) rfl ?_
              refine Ops.r (Run.asg rfl) rfl ?_
              refine Ops.nil ?_
              refine thenQ_n ⟨(j + 1, D, d5), (.cons rfl (.cons rfl (.cons rfl (.cons rfl .nil)))), ?_, ?_⟩
              · skip
                exact ⟨hc5, hown5, fun x hx => Nat.le_trans hfrE.size (hge5 x hx), hfr5⟩
              · skip
                first | omega | (dsimp only; omega)
            · skip
              have hjm : j = l.length := by omega
              subst hjm
              rw [List.take_length] at hownE ⊢
              refine VC.exit ?_
              refine thenQ_x (thenQ_x (blockQ_x ?_))
              refine thenQ_n ⟨(E, de), (.cons rfl (.cons rfl (.cons (by rw [if_pos hc4]; rfl) .nil))), ?_⟩
              rw [if_pos hc4]
              exact ⟨hownE, hgeE, hfrE⟩
          · skip
            refine VC.skip ?_
            refine thenQ_n ⟨(C, d), (.cons rfl (.cons rfl (.cons (by rw [if_neg hc4]; rfl) .nil))), ?_⟩
            rw [if_neg hc4]
            exact ⟨hown, hge, hfr⟩
        · skip
          rintro ⟨C2, d2⟩ wm ⟨hownm, hgem, hfrm⟩ Γ hΓ
          dsimp only at hownm hgem hΓ
          refine thenQ_n (VC.sub _ hΓ ?_)
          refine VC.seq ?_
          refine VC.seq ?_
          refine VC.region ?_
          refine Ops.r (Run.mv rfl) rfl ?_
          refine Ops.r (Run.bin rfl rfl (Bin.eql _ 2)) rfl ?_
          refine Ops.nil ?_
          refine thenQ_n ?_
          refine VC.sub [(0, _), (8, _), (56, _)] (.cons rfl (.cons rfl (.cons rfl .nil))) ?_
          refine VC.condD rfl (fun hc6 => ?_) (fun hc6 => ?_)
          · skip
            subst hc6
            rw [if_neg (by decide)] at hownm
            have hmem : ∀ x ∈ l, hasF (nub ts) x ↔ x ∈ ts := fun x hx => by rw [hasF_self (hlf.2.2.2 x hx), (nub_spec ts).2]
            have eall : allF 2 l ts = l.filter (fun x => !decide (x ∈ ts)) := rfl
            refine VC.seq ?_
            refine VC.region ?_
            refine Ops.r (Run.asg rfl) rfl ?_
            refine Ops.nil ?_
            refine thenQ_n ?_
            refine VC.sub [(0, _), (8, _), (12, _)] (.cons rfl (.cons rfl (.cons rfl .nil))) ?_
            refine VC.seq ?_
            refine VC.seq ?_
            refine VC.region ?_
            refine Ops.r (v := .int .i64 ((0 : Nat) : Int)) (Run.asg rfl) rfl ?_
            refine Ops.nil ?_
            refine thenQ_n ?_
            refine VC.block ?_
            refine VC.loop (σ := Nat × Option Addr × Nat) (fun s => [(0, .slice A l.length c0), (8, .slice C2 (nub ts).length d2), (12, .slice s.2.1 ((l.take s.1).filter (fun x => !decide (x ∈ ts))).length s.2.2), (13, .int .i64 ((s.1 : Nat) : Int))]) (fun s wr => s.1 ≤ l.length ∧ Own wr 9 1 s.2.1 ((l.take s.1).filter (fun x => !decide (x ∈ ts))).length s.2.2 (SB ((l.take s.1).filter (fun x => !decide (x ∈ ts)))) ∧ (∀ x ∈ ob s.2.1, wm.heap.size ≤ x) ∧ Frm [] wm wr) (fun s => l.length - s.1) (0, none, 0) (.cons rfl (.cons rfl (.cons rfl (.cons rfl .nil)))) ⟨by omega, Own.nil _ _ _, by simp [ob], Frm.refl _ _⟩ ?_
            rintro ⟨j, E, de⟩ wr2 ⟨hj, hownE, hgeE, hfrE⟩
            dsimp only at hj hownE hgeE ⊢
            have hrE := hownm.rd.frm hfrE (by simp)
            have hfrEw := hfrm.trans hfrE (by simp)
            have hfl := filt_le (p := fun x => !decide (x ∈ ts)) l j
            refine VC.seq ?_
            refine VC.seq ?_
            refine VC.region ?_
            refine Ops.r (Run.mv rfl) rfl ?_
            refine Ops.r (Run.mv rfl) rfl ?_
            refine Ops.r (Run.lenS rfl Try.underlying43) rfl ?_
            refine Ops.r (Run.bin rfl rfl (Bin.lssN _ _)) rfl ?_
            refine Ops.nil ?_
            refine thenQ_n ?_
            refine VC.sub [(0, _), (8, _), (12, _), (13, _), (60, _)] (.cons rfl (.cons rfl (.cons rfl (.cons rfl (.cons rfl .nil))))) ?_
            refine VC.condD rfl (fun hc7 => ?_) (fun hc7 => ?_)
            · skip
              obtain ⟨ad, rfl, hcell⟩ := SB_at (hr.frm hfrEw (by simp)) hc7
              have hfs := filt_snoc (p := fun x => !decide (x ∈ ts)) hc7
              have hmx := hmem l[j] (List.getElem_mem hc7)
              have hlx : l[j].length ≤ 1000000 := hq _ (List.getElem_mem hc7)
              generalize hq0 : l[j] = x at *
              refine VC.skip ?_
              refine thenQ_n ?_
              refine VC.sub [(0, _), (8, _), (12, _), (13, _)] (.cons rfl (.cons rfl (.cons rfl (.cons rfl .nil)))) ?_
              refine VC.seq ?_
              refine VC.block ?_
              refine VC.seq ?_
              refine VC.region ?_
              refine Ops.r (Run.mv rfl) rfl ?_
              refine Ops.r (Run.mv rfl) rfl ?_
              refine Ops.r (Run.mv rfl) rfl ?_
              refine Ops.r (Run.index1 j rfl rfl Try.underlying43 Try.sizeOf9 hc7) rfl ?_
              refine Ops.r (Run.load rfl Try.isAgg9 hcell) rfl ?_
              refine Ops.cl (Enters.fn (evs.cons rfl (evs.cons rfl evs.nil)) Try.call25) (rhas_spec C2 d2 (nub ts) x _ (by omega) hlx hrE) rfl ?_
              rintro e w6 ⟨rfl, hf6⟩
              refine ⟨_, rfl, ?_⟩
              have hfr6 := hfrE.trans hf6 (by simp)
              have hown6 := hownE.frm hf6 (by simp)
              have hcell6 : w6.cell? (ad.add j) = some (encStr x) := by
                obtain ⟨ad2, hA, h⟩ := SB_at (hr.frm (hfrm.trans hfr6 (by simp)) (by simp)) hc7
                injection hA with hA
                rw [hA, ← hq0]
                exact h
              refine Ops.r (Run.not rfl) rfl ?_
              refine Ops.nil ?_
              refine thenQ_n ?_
              refine VC.sub [(0, _), (8, _), (12, _), (13, _), (69, _)] (.cons rfl (.cons rfl (.cons rfl (.cons rfl (.cons rfl .nil))))) ?_
              refine VC.meet (σ := Option Addr × Nat) (fun s => [(0, .slice (some ad) l.length c0), (8, .slice C2 (nub ts).length d2), (12, .slice s.1 ((l.take (j + 1)).filter (fun x => !decide (x ∈ ts))).length s.2), (13, .int .i64 ((j : Nat) : Int))]) (fun s wn => Own wn 9 1 s.1 ((l.take (j + 1)).filter (fun x => !decide (x ∈ ts))).length s.2 (SB ((l.take (j + 1)).filter (fun x => !decide (x ∈ ts)))) ∧ (∀ x ∈ ob s.1, wm.heap.size ≤ x) ∧ Frm [] wm wn) ?_ ?_
              · skip
                refine VC.condB rfl (fun hc8 => ?_) (fun hc8 => ?_)
                · skip
                  refine VC.region ?_
                  refine Ops.r (Run.mv rfl) rfl ?_
                  refine Ops.r (Run.mv rfl) rfl ?_
                  refine Ops.r (Run.mv rfl) rfl ?_
                  refine Ops.r (Run.index1 j rfl rfl Try.underlying43 Try.sizeOf9 hc7) rfl ?_
                  refine Ops.r (Run.load rfl Try.isAgg9 hcell6) rfl ?_
                  refine Ops.m (Does.buildS1 rfl Try.underlying43 Try.sizeOf9 zero9 (by decide) (by decide) rfl rfl) rfl ?_
                  rintro _ w8 ⟨rfl, hF8⟩
                  have hfr8 := hfr6.trans hF8.frm (by simp)
                  refine Ops.m (Does.app rfl rfl Try.underlying43 (info9) rfl (by decide) (hown6.frm hF8.frm (by simp)) (hrd1 hF8) (SB_one _) (by omega) (by omega)) rfl ?_
                  rintro _ w9 ⟨A9, c9, rfl, hown9, hfr9, hob9⟩
                  rw [← SB_append] at hown9
                  have hge9 := up_app hgeE hob9 hfr8.size
                  have hfr9' := hfr8.own hfr9 hgeE
                  refine Ops.r (Run.asg rfl) rfl ?_
                  refine Ops.nil ?_
                  have hx8 : (!decide (x ∈ ts)) = true := by have h8 := hc8; simp only [hmx] at h8; simpa using h8
                  refine thenQ_n ⟨(A9, c9), (.cons rfl (.cons rfl (.cons (by rw [hfs, if_pos hx8, List.length_append (bs := [x])]; rfl) (.cons rfl .nil)))), ?_⟩
                  rw [hfs, if_pos hx8, List.length_append (bs := [x])]
                  exact ⟨hown9, hge9, hfr9'⟩
                · skip
                  refine VC.skip ?_
                  have hx8 : ¬ (!decide (x ∈ ts)) = true := by have h8 := hc8; simp only [hmx] at h8; simpa using h8
                  refine thenQ_n ⟨(E, de), (.cons rfl (.cons rfl (.cons (by rw [hfs, if_neg hx8, List.append_nil]; rfl) (.cons rfl .nil)))), ?_⟩
                  rw [hfs, if_neg hx8, List.append_nil]
                  exact ⟨hown6, hgeE, hfr6⟩
              · skip
                rintro ⟨B2, e2⟩ wm2 ⟨hown9, hge9, hfr9⟩ Γ hΓ
                refine blockQ_n (thenQ_n (VC.sub _ hΓ ?_))
                refine VC.region ?_
                refine Ops.r (Run.mv rfl) rfl ?_
                refine Ops.r (Run.bin rfl rfl (Bin.add_i64 _ 1 (by omega))) rfl ?_
                refine Ops.r (Run.asg rfl) rfl ?_
                refine Ops.nil ?_
                refine thenQ_n ⟨(j + 1, B2, e2), (.cons rfl (.cons rfl (.cons rfl (.cons rfl .nil)))), ?_, ?_⟩
                · skip
                  exact ⟨hc7, hown9, hge9, hfr9⟩
                · skip
                  first | omega | (dsimp only; omega)
            · skip
              have hjm : j = l.length := by omega
              subst hjm
              rw [List.take_length] at hownE ⊢
              refine VC.exit ?_
              refine thenQ_x (thenQ_x (blockQ_x ?_))
              refine thenQ_n ?_
              refine VC.sub [(12, _)] (.cons rfl .nil) ?_
              refine VC.seq ?_
              refine VC.region ?_
              refine Ops.r (Run.mv rfl) rfl ?_
              refine Ops.r (Run.asg rfl) rfl ?_
              refine Ops.r (v := .int .i64 ((0 : Nat) : Int)) (Run.asg rfl) rfl ?_
              refine Ops.nil ?_
              refine thenQ_n ?_
              refine VC.sub [(6, _), (7, _)] (.cons rfl (.cons rfl .nil)) ?_
              refine VC.ret ?_
              refine thenQ_r (end2 rfl rfl ?_)
              exact ⟨hfrEw, E, de, _, 0, rfl, hownE, fun x hx => Nat.le_trans hfrm.size (hgeE x hx), .inl ⟨rfl, by rw [hcf2, eall]; exact take_filt hcl⟩⟩
          · skip
            have eall : allF op l ts = if op = 1 then ts ++ l else ts := by
              unfold allF
              by_cases h1 : op = 1
              · rw [if_pos h1, if_pos h1]
              · rw [if_neg h1, if_neg h1, if_neg hc6]
            have ttl : ∀ t ∈ allF op l ts, toldF t = some t := by
              rw [eall]
              intro t ht
              split at ht
              · rcases List.mem_append.1 ht with h | h
                · exact htt t h
                · exact hlf.2.2.2 t h
              · exact htt t ht
            rw [← eall] at hownm ⊢
            have hnf2 := normF_told ttl
            refine VC.skip ?_
            refine thenQ_n ?_
            refine VC.sub [(8, _)] (.cons rfl .nil) ?_
            refine VC.seq ?_
            refine VC.seq ?_
            refine VC.region ?_
            refine Ops.r (Run.mv rfl) rfl ?_
            refine Ops.r (Run.lenS rfl Try.underlying43) rfl ?_
            refine Ops.r (Run.bin rfl rfl (Bin.gtrN _ 16)) rfl ?_
            refine Ops.nil ?_
            refine thenQ_n ?_
            refine VC.sub [(8, _), (80, _)] (.cons rfl (.cons rfl .nil)) ?_
            refine VC.condD rfl (fun hc9 => ?_) (fun hc9 => ?_)
            · skip
              refine VC.seq ?_
              refine VC.region ?_
              refine Ops.r (Run.asg rfl) rfl ?_
              refine Ops.r (v := .int .i64 ((5 : Nat) : Int)) (Run.asg rfl) rfl ?_
              refine Ops.nil ?_
              refine thenQ_n ?_
              refine VC.sub [(6, _), (7, _)] (.cons rfl (.cons rfl .nil)) ?_
              refine VC.ret ?_
              refine thenQ_r (end2 rfl rfl ?_)
              exact ⟨hfrm, none, 0, [], 5, rfl, Own.nil _ _ _, by simp [ob], .inr ⟨by decide, rfl, by rw [hcf2, hnf2]; exact if_pos hc9⟩⟩
            · skip
              refine VC.skip ?_
              refine thenQ_n ?_
              refine VC.sub [(8, _)] (.cons rfl .nil) ?_
              refine VC.seq ?_
              refine VC.region ?_
              refine Ops.r (Run.mv rfl) rfl ?_
              refine Ops.r (Run.asg rfl) rfl ?_
              refine Ops.r (v := .int .i64 ((0 : Nat) : Int)) (Run.asg rfl) rfl ?_
              refine Ops.nil ?_
              refine thenQ_n ?_
              refine VC.sub [(6, _), (7, _)] (.cons rfl (.cons rfl .nil)) ?_
              refine VC.ret ?_
              refine end2 rfl rfl ?_
              exact ⟨hfrm, C2, d2, _, 0, rfl, hownm, hgem, .inl ⟨rfl, by rw [hcf2, hnf2]; exact if_neg hc9⟩⟩

end Go.Proofs.Ytmfglifjnoilnaa
