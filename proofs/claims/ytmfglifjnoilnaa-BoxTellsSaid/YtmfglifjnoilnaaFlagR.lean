/-
  The document's flags: how a text is told as one.
-/
import Derived.Test.YtmfglifjnoilnaaFlagC
namespace Go.Proofs.Ytmfglifjnoilnaa
open Go.RowKit Go.Sort

set_option maxRecDepth 100000 in
theorem rsmall_spec (c : UInt8) (w : World) : Calls Try.prog 79 #[.int .u8 ((c.toNat : Nat) : Int)] w fun e w' => e = .returned (.int .u8 (((low c).toNat : Nat) : Int)) ∧ w = w' := by
  refine VC.calls (nt := 12) (res := #[.tmp 2]) Try.func79 rfl Try.ntmps79 Try.results79 rfl ?_
  refine VC.seq ?_
  refine VC.region ?_
  refine Ops.r (v := .int .u8 ((0 : Nat) : Int)) (Run.asg rfl) rfl ?_
  refine Ops.nil ?_
  refine thenQ_n ?_
  refine VC.sub [(0, _)] (.cons rfl .nil) ?_
  refine VC.seq ?_
  refine VC.seq ?_
  refine VC.split1 [(0, _)] (.cons rfl .nil) 8 (.bool (decide ((65 ≤ c.toNat) ∧ (c.toNat ≤ 90)))) ?_ ?_
  · by_cases hs0 : 65 ≤ c.toNat
    · skip
      refine VC.region ?_
      refine Ops.r (Run.mv rfl) rfl ?_
      refine Ops.r (Run.bin rfl rfl (Bin.leqN 65 _)) rfl ?_
      refine Ops.r (Run.mv rfl) rfl ?_
      refine Ops.rg rfl (by first | rfl | assumption | exact decide_eq_true (by assumption) | exact decide_eq_false (by assumption) | decide | (simp; done) | (simp; omega) | (simp [*]; done)) (Run.mv rfl) rfl ?_
      refine Ops.rg rfl (by first | rfl | assumption | exact decide_eq_true (by assumption) | exact decide_eq_false (by assumption) | decide | (simp; done) | (simp; omega) | (simp [*]; done)) (Run.bin rfl rfl (Bin.leqN _ 90)) rfl ?_
      refine Ops.r (Run.pickT rfl rfl (by first | rfl | assumption | exact decide_eq_true (by assumption) | exact decide_eq_false (by assumption) | decide | (simp; done) | (simp; omega) | (simp [*]; done))) rfl ?_
      refine Ops.nil ?_
      refine thenQ_n ⟨(.cons (by rw [dand1 hs0]; rfl) (.cons rfl .nil)), rfl⟩
    · skip
      refine VC.region ?_
      refine Ops.r (Run.mv rfl) rfl ?_
      refine Ops.r (Run.bin rfl rfl (Bin.leqN 65 _)) rfl ?_
      refine Ops.r (Run.mv rfl) rfl ?_
      refine Ops.sk rfl (by first | rfl | assumption | exact decide_eq_true (by assumption) | exact decide_eq_false (by assumption) | decide | (simp; done) | (simp; omega) | (simp [*]; done)) rfl ?_
      refine Ops.sk rfl (by first | rfl | assumption | exact decide_eq_true (by assumption) | exact decide_eq_false (by assumption) | decide | (simp; done) | (simp; omega) | (simp [*]; done)) rfl ?_
      refine Ops.r (Run.pickF rfl rfl (by first | rfl | assumption | exact decide_eq_true (by assumption) | exact decide_eq_false (by assumption) | decide | (simp; done) | (simp; omega) | (simp [*]; done))) rfl ?_
      refine Ops.nil ?_
      refine thenQ_n ⟨(.cons (by rw [dand0 hs0]; rfl) (.cons rfl .nil)), rfl⟩
  · intro Γ hΓ
    refine thenQ_n (VC.sub _ hΓ ?_)
    refine VC.condD rfl (fun hc1 => ?_) (fun hc1 => ?_)
    · skip
      refine VC.seq ?_
      refine VC.region ?_
      refine Ops.r (Run.mv rfl) rfl ?_
      refine Ops.r (Run.bin rfl rfl (Bin.add_u8 _ 32 (by omega))) rfl ?_
      refine Ops.r (Run.asg rfl) rfl ?_
      refine Ops.nil ?_
      refine thenQ_n ?_
      refine VC.sub [(2, _)] (.cons rfl .nil) ?_
      refine VC.ret ?_
      refine thenQ_r (end1 rfl ?_)
      exact ⟨by rw [low_nat, if_pos hc1], rfl⟩
    · skip
      refine VC.skip ?_
      refine thenQ_n ?_
      refine VC.sub [(0, _)] (.cons rfl .nil) ?_
      refine VC.seq ?_
      refine VC.region ?_
      refine Ops.r (Run.mv rfl) rfl ?_
      refine Ops.r (Run.asg rfl) rfl ?_
      refine Ops.nil ?_
      refine thenQ_n ?_
      refine VC.sub [(2, _)] (.cons rfl .nil) ?_
      refine VC.ret ?_
      refine end1 rfl ?_
      exact ⟨by rw [low_nat, if_neg hc1], rfl⟩

set_option maxRecDepth 100000 in
theorem alike_spec (a b : Tx) (w : World) (ha : a.length ≤ 1000000) (hb : b.length ≤ 1000000) : Calls Try.prog 60 #[encStr a, encStr b] w fun e w' => e = .returned (.bool (decide (smallS a = smallS b))) ∧ Drawn w w' := by
  refine VC.calls (nt := 26) (res := #[.tmp 4]) Try.func60 rfl Try.ntmps60 Try.results60 rfl ?_
  refine VC.seq ?_
  refine VC.region ?_
  refine Ops.r (Run.asg rfl) rfl ?_
  refine Ops.nil ?_
  refine thenQ_n ?_
  refine VC.sub [(0, _), (1, _)] (.cons rfl (.cons rfl .nil)) ?_
  refine VC.seq ?_
  refine VC.seq ?_
  refine VC.region ?_
  refine Ops.r (Run.mv rfl) rfl ?_
  refine Ops.r (Run.lenT rfl Try.underlying9) rfl ?_
  refine Ops.r (Run.mv rfl) rfl ?_
  refine Ops.r (Run.lenT rfl Try.underlying9) rfl ?_
  refine Ops.r (Run.bin rfl rfl (Bin.neqN _ _)) rfl ?_
  refine Ops.nil ?_
  refine thenQ_n ?_
  refine VC.sub [(0, _), (1, _), (10, _)] (.cons rfl (.cons rfl (.cons rfl .nil))) ?_
  refine VC.condD rfl (fun hc1 => ?_) (fun hc1 => ?_)
  · skip
    have hne : ¬ smallS a = smallS b := fun h => hc1 (by have := congrArg List.length h; simpa [smallS_len] using this)
    refine VC.seq ?_
    refine VC.region ?_
    refine Ops.r (Run.asg rfl) rfl ?_
    refine Ops.nil ?_
    refine thenQ_n ?_
    refine VC.sub [(4, _)] (.cons rfl .nil) ?_
    refine VC.ret ?_
    refine thenQ_r (end1 rfl ?_)
    exact ⟨by simp [hne], Drawn.refl _⟩
  · skip
    have hll : a.length = b.length := Classical.not_not.1 hc1
    refine VC.skip ?_
    refine thenQ_n ?_
    refine VC.sub [(0, _), (1, _)] (.cons rfl (.cons rfl .nil)) ?_
    refine VC.seq ?_
    refine VC.seq ?_
    refine VC.region ?_
    refine Ops.r (v := .int .i64 ((0 : Nat) : Int)) (Run.asg rfl) rfl ?_
    refine Ops.nil ?_
    refine thenQ_n ?_
    refine VC.block ?_
    refine VC.loop (σ := Nat) (fun s => [(0, encStr a), (1, encStr b), (5, .int .i64 ((s : Nat) : Int))]) (fun s wr => s ≤ a.length ∧ smallS (a.take s) = smallS (b.take s) ∧ Drawn w wr) (fun s => a.length - s) 0 (.cons rfl (.cons rfl (.cons rfl .nil))) ⟨by omega, rfl, Drawn.refl _⟩ ?_
    rintro i wr ⟨hi, htk, hd⟩
    refine VC.seq ?_
    refine VC.seq ?_
    refine VC.region ?_
    refine Ops.r (Run.mv rfl) rfl ?_
    refine Ops.r (Run.mv rfl) rfl ?_
    refine Ops.r (Run.lenT rfl Try.underlying9) rfl ?_
    refine Ops.r (Run.bin rfl rfl (Bin.lssN _ _)) rfl ?_
    refine Ops.nil ?_
    refine thenQ_n ?_
    refine VC.sub [(0, _), (1, _), (5, _), (14, _)] (.cons rfl (.cons rfl (.cons rfl (.cons rfl .nil)))) ?_
    refine VC.condD rfl (fun hc2 => ?_) (fun hc2 => ?_)
    · skip
      have hib : i < b.length := by omega
      have hta : a.take (i + 1) = a.take i ++ [a[i]] := take_snoc hc2
      have htb : b.take (i + 1) = b.take i ++ [b[i]] := take_snoc hib
      have hab : smallS a = smallS b → low a[i] = low b[i] := fun h => by
        have h1 : (smallS a)[i]? = (smallS b)[i]? := by rw [h]
        simpa [smallS, List.getElem?_eq_getElem, hc2, hib] using h1
      have hga : a[i]? = some a[i] := List.getElem?_eq_getElem hc2
      have hgb : b[i]? = some b[i] := List.getElem?_eq_getElem hib
      generalize a[i] = x at *
      generalize b[i] = y at *
      refine VC.skip ?_
      refine thenQ_n ?_
      refine VC.sub [(0, _), (1, _), (5, _)] (.cons rfl (.cons rfl (.cons rfl .nil))) ?_
      refine VC.seq ?_
      refine VC.block ?_
      refine VC.seq ?_
      refine VC.still (by kernel_rfl) (by kernel_rfl) ?_
      refine SOps.r (Run.mv rfl) rfl ?_
      refine SOps.r (Run.mv rfl) rfl ?_
      refine SOps.r (Run.indexT _ rfl rfl Try.underlying9 hga) rfl ?_
      refine SOps.call (Enters.fn (evs.cons rfl evs.nil) Try.call79) (rsmall_spec x _) trivial rfl rfl ?_
      refine SOps.r (Run.mv rfl) rfl ?_
      refine SOps.r (Run.mv rfl) rfl ?_
      refine SOps.r (Run.indexT _ rfl rfl Try.underlying9 hgb) rfl ?_
      refine SOps.call (Enters.fn (evs.cons rfl evs.nil) Try.call79) (rsmall_spec y _) trivial rfl rfl ?_
      refine SOps.r (Run.bin rfl rfl (Bin.neqN _ _)) rfl ?_
      refine SOps.nil ?_
      refine thenQ_n ?_
      refine VC.sub [(0, _), (1, _), (5, _), (25, _)] (.cons rfl (.cons rfl (.cons rfl (.cons rfl .nil)))) ?_
      refine VC.condD rfl (fun hc3 => ?_) (fun hc3 => ?_)
      · skip
        have hne : ¬ smallS a = smallS b := fun h => hc3 (by rw [hab h])
        refine VC.seq ?_
        refine VC.region ?_
        refine Ops.r (Run.asg rfl) rfl ?_
        refine Ops.nil ?_
        refine thenQ_n ?_
        refine VC.sub [(4, _)] (.cons rfl .nil) ?_
        refine VC.ret ?_
        refine blockQ_r (thenQ_r (thenQ_r (blockQ_r (thenQ_r (end1 rfl ?_)))))
        exact ⟨by simp [hne], hd.trans (Drawn.drew _)⟩
      · skip
        have hxy : low x = low y := UInt8.toNat_inj.1 (Classical.not_not.1 hc3)
        refine VC.skip ?_
        refine blockQ_n (thenQ_n ?_)
        refine VC.sub [(0, _), (1, _), (5, _)] (.cons rfl (.cons rfl (.cons rfl .nil))) ?_
        refine VC.region ?_
        refine Ops.r (Run.mv rfl) rfl ?_
        refine Ops.r (Run.bin rfl rfl (Bin.add_i64 _ 1 (by omega))) rfl ?_
        refine Ops.r (Run.asg rfl) rfl ?_
        refine Ops.nil ?_
        refine thenQ_n ⟨(i + 1), (.cons rfl (.cons rfl (.cons rfl .nil))), ?_, ?_⟩
        · skip
          refine ⟨hc2, ?_, hd.trans (Drawn.drew _)⟩
          rw [hta, htb]
          show (_ ++ _ : Tx).map low = (_ ++ _ : Tx).map low
          rw [List.map_append, List.map_append]
          show smallS _ ++ [low x] = smallS _ ++ [low y]
          rw [htk, hxy]
        · skip
          first | omega | (dsimp only; omega)
    · skip
      have heq : smallS a = smallS b := by
        have hil : i = a.length := by omega
        subst hil
        rw [List.take_length, hll, List.take_length] at htk
        exact htk
      refine VC.exit ?_
      refine thenQ_x (thenQ_x (blockQ_x ?_))
      refine thenQ_n ?_
      refine VC.sub [] .nil ?_
      refine VC.seq ?_
      refine VC.region ?_
      refine Ops.r (Run.asg rfl) rfl ?_
      refine Ops.nil ?_
      refine thenQ_n ?_
      refine VC.ret ?_
      refine end1 rfl ?_
      exact ⟨by simp [heq], hd⟩

theorem low92 {c : UInt8} (h : low c = 92) : c = 92 := by
  have h1 := congrArg UInt8.toNat h
  rw [low_nat] at h1
  apply UInt8.toNat_inj.1
  have e : (92 : UInt8).toNat = 92 := rfl
  rw [e] at h1 ⊢
  split at h1 <;> omega
theorem alike_slash {q f : Tx} (hf : f ∈ fiveL) (h : smallS f = smallS q) : ([92] : Tx).isPrefixOf q = true := by
  have h0 : (smallS f)[0]? = some 92 := by
    have key : ∀ f ∈ fiveL, (smallS f)[0]? = some 92 := by decide
    exact key f hf
  rw [h] at h0
  cases q with
  | nil => cases h0
  | cons c r =>
    simp only [smallS, List.map_cons, List.getElem?_cons_zero, Option.some.injEq] at h0
    rw [low92 h0]
    simp [List.isPrefixOf]
theorem told_five {q : Tx} {i : Nat} (hi : i < fiveL.length) (hn : ∀ f ∈ fiveL.take i, smallS q ≠ smallS f) (h : smallS q = smallS fiveL[i]) : toldV q = (fiveL[i], 0) := by
  unfold toldV toldF
  rw [if_pos (alike_slash (List.getElem_mem hi) h.symm), find_at hi (fun f hf e => hn f hf e.symm) h.symm]
theorem told_bad {q : Tx} (hn : ∀ f ∈ fiveL, smallS q ≠ smallS f) {c : UInt8} (hc : c ∈ q) (hs : ¬ SignN (low c).toNat) : toldV q = ([], 18) := by
  unfold toldV toldF
  split
  · rename_i h
    split at h
    · rw [List.find?_eq_none.2 (fun f hf => by simpa using fun e => hn f hf e.symm)] at h; cases h
    · rw [if_pos (.inr (.inr ⟨low c, List.mem_map.2 ⟨c, hc, rfl⟩, hs⟩))] at h; cases h
  · rfl
theorem told_noslash {q : Tx} (hs : ∀ c ∈ q, SignN (low c).toNat) : ¬ ([92] : Tx).isPrefixOf q = true := by
  intro h
  cases q with
  | nil => simp at h
  | cons c r =>
    simp [List.isPrefixOf] at h
    have := hs c (by simp)
    rw [← h] at this
    exact absurd this (by decide)
theorem told_long {q : Tx} (hs : ∀ c ∈ q, SignN (low c).toNat) (hl : 20 < q.length) : toldV q = ([], 18) := by
  unfold toldV toldF
  rw [if_neg (told_noslash hs), if_pos (.inr (.inl hl))]
theorem told_word {q : Tx} (hs : ∀ c ∈ q, SignN (low c).toNat) (hl : ¬ 20 < q.length) : (toldV q).1 = smallS q := by
  unfold toldV toldF
  rw [if_neg (told_noslash hs)]
  by_cases h : smallS q = []
  · rw [if_pos (.inl h), h]
  · rw [if_neg]
    rintro (h1 | h1 | ⟨c, hc, h1⟩)
    · exact h h1
    · exact hl h1
    · obtain ⟨d, hd, rfl⟩ := List.mem_map.1 hc
      exact h1 (hs d hd)

set_option maxRecDepth 100000 in
theorem rtold_spec (q : Tx) (w : World) (hq : q.length ≤ 1000000) : Calls Try.prog 43 #[encStr q] w fun e w' => e = .returned (encStr (toldV q).1) ∧ Frm [] w w' := by
  refine VC.calls (nt := 80) (res := #[.tmp 2]) Try.func43 rfl Try.ntmps43 Try.results43 rfl ?_
  refine VC.seq ?_
  refine VC.region ?_
  refine Ops.r (Run.asg rfl) rfl ?_
  refine Ops.nil ?_
  refine thenQ_n ?_
  refine VC.sub [(0, _)] (.cons rfl .nil) ?_
  refine VC.seq ?_
  refine VC.region ?_
  refine Ops.m (Does.buildN (cells := (SB fiveL).toArray) (evs.cons rfl (evs.cons rfl (evs.cons rfl (evs.cons rfl (evs.cons rfl evs.nil))))) Try.underlying43 Try.sizeOf9 zero9 rfl rfl (by kernel_rfl)) rfl ?_
  rintro _ w1 ⟨rfl, hF1⟩
  have hr1 : Rd w1 1 (some ⟨w.heap.size, 0, none⟩) fiveL.length (SB fiveL) := Rd.of_blk (n := 5) (size := 1) hF1.blk rfl
  have hf1 := hF1.frm
  generalize w.heap.size = g1 at *
  refine Ops.r (Run.asg rfl) rfl ?_
  refine Ops.nil ?_
  refine thenQ_n ?_
  refine VC.sub [(0, _), (3, _)] (.cons rfl (.cons rfl .nil)) ?_
  refine VC.seq ?_
  refine VC.seq ?_
  refine VC.region ?_
  refine Ops.r (v := .int .i64 ((0 : Nat) : Int)) (Run.asg rfl) rfl ?_
  refine Ops.nil ?_
  refine thenQ_n ?_
  refine VC.block ?_
  refine VC.loop (σ := Nat) (fun s => [(0, encStr q), (3, .slice (some ⟨g1, 0, none⟩) 5 5), (4, .int .i64 ((s : Nat) : Int))]) (fun s wr => s ≤ 5 ∧ Frm [] w1 wr ∧ ∀ f ∈ fiveL.take s, smallS q ≠ smallS f) (fun s => 5 - s) 0 (.cons rfl (.cons rfl (.cons rfl .nil))) ⟨by omega, Frm.refl _ _, by simp⟩ ?_
  rintro i wr ⟨hi, hfr, hn⟩
  refine VC.seq ?_
  refine VC.seq ?_
  refine VC.region ?_
  refine Ops.r (Run.mv rfl) rfl ?_
  refine Ops.r (Run.bin rfl rfl (Bin.lssN _ 5)) rfl ?_
  refine Ops.nil ?_
  refine thenQ_n ?_
  refine VC.sub [(0, _), (3, _), (4, _), (10, _)] (.cons rfl (.cons rfl (.cons rfl (.cons rfl .nil)))) ?_
  refine VC.condD rfl (fun hc1 => ?_) (fun hc1 => ?_)
  · skip
    have hi5 : i < fiveL.length := hc1
    obtain ⟨ad, hA, hcell⟩ := SB_at (hr1.frm hfr (by simp)) hi5
    cases hA
    refine VC.skip ?_
    refine thenQ_n ?_
    refine VC.sub [(0, _), (3, _), (4, _)] (.cons rfl (.cons rfl (.cons rfl .nil))) ?_
    refine VC.seq ?_
    refine VC.block ?_
    refine VC.seq ?_
    refine VC.region ?_
    refine Ops.r (Run.mv rfl) rfl ?_
    refine Ops.r (Run.mv rfl) rfl ?_
    refine Ops.r (Run.mv rfl) rfl ?_
    refine Ops.r (Run.index1 i rfl rfl Try.underlying43 Try.sizeOf9 hc1) rfl ?_
    refine Ops.r (Run.load rfl Try.isAgg9 hcell) rfl ?_
    refine Ops.cl (Enters.fn (evs.cons rfl (evs.cons rfl evs.nil)) Try.call60) (alike_spec q fiveL[i] _ hq (by have := toldF_len (toldF_five _ (List.getElem_mem hi5)); omega)) rfl ?_
    rintro e w2 ⟨rfl, hd2⟩
    refine ⟨_, rfl, ?_⟩
    have hfr2 := hfr.drawn hd2
    refine Ops.nil ?_
    refine thenQ_n ?_
    refine VC.sub [(0, _), (3, _), (4, _), (18, _)] (.cons rfl (.cons rfl (.cons rfl (.cons rfl .nil)))) ?_
    refine VC.condB rfl (fun hc2 => ?_) (fun hc2 => ?_)
    · skip
      obtain ⟨ad2, hA2, hcell2⟩ := SB_at (hr1.frm hfr2 (by simp)) hi5
      cases hA2
      refine VC.seq ?_
      refine VC.region ?_
      refine Ops.r (Run.mv rfl) rfl ?_
      refine Ops.r (Run.mv rfl) rfl ?_
      refine Ops.r (Run.index1 i rfl rfl Try.underlying43 Try.sizeOf9 hc1) rfl ?_
      refine Ops.r (Run.load rfl Try.isAgg9 hcell2) rfl ?_
      refine Ops.r (Run.asg rfl) rfl ?_
      refine Ops.nil ?_
      refine thenQ_n ?_
      refine VC.sub [(2, _)] (.cons rfl .nil) ?_
      refine VC.ret ?_
      refine blockQ_r (thenQ_r (thenQ_r (blockQ_r (thenQ_r (end1 rfl ?_)))))
      exact ⟨by rw [told_five hi5 hn (of_decide_eq_true hc2)], hf1.trans hfr2 (by simp)⟩
    · skip
      refine VC.skip ?_
      refine blockQ_n (thenQ_n ?_)
      refine VC.sub [(0, _), (3, _), (4, _)] (.cons rfl (.cons rfl (.cons rfl .nil))) ?_
      refine VC.region ?_
      refine Ops.r (Run.mv rfl) rfl ?_
      refine Ops.r (Run.bin rfl rfl (Bin.add_i64 _ 1 (by omega))) rfl ?_
      refine Ops.r (Run.asg rfl) rfl ?_
      refine Ops.nil ?_
      refine thenQ_n ⟨(i + 1), (.cons rfl (.cons rfl (.cons rfl .nil))), ?_, ?_⟩
      · skip
        refine ⟨hc1, hfr2, fun f hf => ?_⟩
        rw [take_snoc hi5] at hf
        rcases List.mem_append.1 hf with h | h
        · exact hn f h
        · simp only [List.mem_singleton] at h
          rw [h]; exact of_decide_eq_false (by simpa using hc2)
      · skip
        first | omega | (dsimp only; omega)
  · skip
    refine VC.exit ?_
    refine thenQ_x (thenQ_x (blockQ_x ?_))
    refine thenQ_n ?_
    refine VC.sub [(0, _)] (.cons rfl .nil) ?_
    refine VC.seq ?_
    refine VC.region ?_
    refine Ops.r (Run.asg rfl) rfl ?_
    refine Ops.nil ?_
    refine thenQ_n ?_
    refine VC.seq ?_
    refine VC.seq ?_
    refine VC.region ?_
    refine Ops.r (v := .int .i64 ((0 : Nat) : Int)) (Run.asg rfl) rfl ?_
    refine Ops.nil ?_
    refine thenQ_n ?_
    refine VC.block ?_
    have hn5 : ∀ f ∈ fiveL, smallS q ≠ smallS f := by
      have him : i = 5 := by omega
      subst him
      exact hn
    refine VC.loop (σ := Nat) (fun s => [(0, encStr q), (5, encStr (smallS (q.take s))), (6, .int .i64 ((s : Nat) : Int))]) (fun s wr => s ≤ q.length ∧ Frm [] w wr ∧ ∀ c ∈ q.take s, SignN (low c).toNat) (fun s => q.length - s) 0 (.cons rfl (.cons rfl (.cons rfl .nil))) ⟨by omega, hf1.trans hfr (by simp), by simp⟩ ?_
    rintro j wr ⟨hj, hfr, hsg⟩
    refine VC.seq ?_
    refine VC.seq ?_
    refine VC.region ?_
    refine Ops.r (Run.mv rfl) rfl ?_
    refine Ops.r (Run.mv rfl) rfl ?_
    refine Ops.r (Run.lenT rfl Try.underlying9) rfl ?_
    refine Ops.r (Run.bin rfl rfl (Bin.lssN _ _)) rfl ?_
    refine Ops.nil ?_
    refine thenQ_n ?_
    refine VC.sub [(0, _), (5, _), (6, _), (26, _)] (.cons rfl (.cons rfl (.cons rfl (.cons rfl .nil)))) ?_
    refine VC.condD rfl (fun hc3 => ?_) (fun hc3 => ?_)
    · skip
      have hgq : q[j]? = some q[j] := List.getElem?_eq_getElem hc3
      have htq : q.take (j + 1) = q.take j ++ [q[j]] := take_snoc hc3
      have hmq : q[j] ∈ q := List.getElem_mem hc3
      generalize q[j] = c at *
      refine VC.skip ?_
      refine thenQ_n ?_
      refine VC.sub [(0, _), (5, _), (6, _)] (.cons rfl (.cons rfl (.cons rfl .nil))) ?_
      refine VC.seq ?_
      refine VC.block ?_
      refine VC.seq ?_
      refine VC.region ?_
      refine Ops.r (Run.mv rfl) rfl ?_
      refine Ops.r (Run.mv rfl) rfl ?_
      refine Ops.r (Run.indexT _ rfl rfl Try.underlying9 hgq) rfl ?_
      refine Ops.r (Run.asg rfl) rfl ?_
      refine Ops.nil ?_
      refine thenQ_n ?_
      refine VC.sub [(0, _), (5, _), (6, _), (7, _)] (.cons rfl (.cons rfl (.cons rfl (.cons rfl .nil)))) ?_
      refine VC.seq ?_
      refine VC.seq ?_
      refine VC.split1 [(0, _), (5, _), (6, _), (7, _)] (.cons rfl (.cons rfl (.cons rfl (.cons rfl .nil)))) 37 (.bool (decide ((65 ≤ c.toNat) ∧ (c.toNat ≤ 90)))) ?_ ?_
      · by_cases hs0 : 65 ≤ c.toNat
        · skip
          refine VC.region ?_
          refine Ops.r (Run.mv rfl) rfl ?_
          refine Ops.r (Run.bin rfl rfl (Bin.leqN 65 _)) rfl ?_
          refine Ops.r (Run.mv rfl) rfl ?_
          refine Ops.rg rfl (by first | rfl | assumption | exact decide_eq_true (by assumption) | exact decide_eq_false (by assumption) | decide | (simp; done) | (simp; omega) | (simp [*]; done)) (Run.mv rfl) rfl ?_
          refine Ops.rg rfl (by first | rfl | assumption | exact decide_eq_true (by assumption) | exact decide_eq_false (by assumption) | decide | (simp; done) | (simp; omega) | (simp [*]; done)) (Run.bin rfl rfl (Bin.leqN _ 90)) rfl ?_
          refine Ops.r (Run.pickT rfl rfl (by first | rfl | assumption | exact decide_eq_true (by assumption) | exact decide_eq_false (by assumption) | decide | (simp; done) | (simp; omega) | (simp [*]; done))) rfl ?_
          refine Ops.nil ?_
          refine thenQ_n ⟨(.cons (by rw [dand1 hs0]; rfl) (.cons rfl (.cons rfl (.cons rfl (.cons rfl .nil))))), rfl⟩
        · skip
          refine VC.region ?_
          refine Ops.r (Run.mv rfl) rfl ?_
          refine Ops.r (Run.bin rfl rfl (Bin.leqN 65 _)) rfl ?_
          refine Ops.r (Run.mv rfl) rfl ?_
          refine Ops.sk rfl (by first | rfl | assumption | exact decide_eq_true (by assumption) | exact decide_eq_false (by assumption) | decide | (simp; done) | (simp; omega) | (simp [*]; done)) rfl ?_
          refine Ops.sk rfl (by first | rfl | assumption | exact decide_eq_true (by assumption) | exact decide_eq_false (by assumption) | decide | (simp; done) | (simp; omega) | (simp [*]; done)) rfl ?_
          refine Ops.r (Run.pickF rfl rfl (by first | rfl | assumption | exact decide_eq_true (by assumption) | exact decide_eq_false (by assumption) | decide | (simp; done) | (simp; omega) | (simp [*]; done))) rfl ?_
          refine Ops.nil ?_
          refine thenQ_n ⟨(.cons (by rw [dand0 hs0]; rfl) (.cons rfl (.cons rfl (.cons rfl (.cons rfl .nil))))), rfl⟩
      · intro Γ hΓ
        refine thenQ_n (VC.sub _ hΓ ?_)
        refine VC.meet (σ := Unit) (fun s => [(0, encStr q), (5, encStr (smallS (q.take j))), (6, .int .i64 ((j : Nat) : Int)), (7, .int .u8 (((low c).toNat : Nat) : Int))]) (fun s wm => wr = wm) ?_ ?_
        · skip
          refine VC.condD rfl (fun hc4 => ?_) (fun hc4 => ?_)
          · skip
            refine VC.region ?_
            refine Ops.r (Run.mv rfl) rfl ?_
            refine Ops.r (Run.bin rfl rfl (Bin.add_u8 _ 32 (by omega))) rfl ?_
            refine Ops.r (Run.asg rfl) rfl ?_
            refine Ops.nil ?_
            refine thenQ_n ⟨(), (.cons rfl (.cons rfl (.cons rfl (.cons (by rw [low_nat, if_pos hc4]; rfl) .nil)))), ?_⟩
            rfl
          · skip
            refine VC.skip ?_
            refine thenQ_n ⟨(), (.cons rfl (.cons rfl (.cons rfl (.cons (by rw [low_nat, if_neg hc4]; rfl) .nil)))), ?_⟩
            rfl
        · skip
          rintro _ _ rfl Γ hΓ
          refine thenQ_n (VC.sub _ hΓ ?_)
          refine VC.seq ?_
          refine VC.seq ?_
          refine VC.split1 [(0, _), (5, _), (6, _), (7, _)] (.cons rfl (.cons rfl (.cons rfl (.cons rfl .nil)))) 70 (.bool (decide (¬ SignN (low c).toNat))) ?_ ?_
          · refine VC.region ?_
            refine Ops.r (Run.mv rfl) rfl ?_
            refine Ops.r (Run.bin rfl rfl (Bin.leqN 97 _)) rfl ?_
            by_cases hs41 : 97 ≤ (low c).toNat
            · skip
              refine Ops.r (Run.mv rfl) rfl ?_
              refine Ops.rg rfl (by first | rfl | assumption | exact decide_eq_true (by assumption) | exact decide_eq_false (by assumption) | decide | (simp; done) | (simp; omega) | (simp [*]; done)) (Run.mv rfl) rfl ?_
              refine Ops.rg rfl (by first | rfl | assumption | exact decide_eq_true (by assumption) | exact decide_eq_false (by assumption) | decide | (simp; done) | (simp; omega) | (simp [*]; done)) (Run.bin rfl rfl (Bin.leqN _ 122)) rfl ?_
              by_cases hs44 : (low c).toNat ≤ 122
              · skip
                refine Ops.r (Run.pickT rfl rfl (by first | rfl | assumption | exact decide_eq_true (by assumption) | exact decide_eq_false (by assumption) | decide | (simp; done) | (simp; omega) | (simp [*]; done))) rfl ?_
                refine Ops.r (Run.mv rfl) rfl ?_
                refine Ops.sk rfl (by first | rfl | assumption | exact decide_eq_true (by assumption) | exact decide_eq_false (by assumption) | decide | (simp; done) | (simp; omega) | (simp [*]; done)) rfl ?_
                refine Ops.sk rfl (by first | rfl | assumption | exact decide_eq_true (by assumption) | exact decide_eq_false (by assumption) | decide | (simp; done) | (simp; omega) | (simp [*]; done)) rfl ?_
                refine Ops.sk rfl (by first | rfl | assumption | exact decide_eq_true (by assumption) | exact decide_eq_false (by assumption) | decide | (simp; done) | (simp; omega) | (simp [*]; done)) rfl ?_
                refine Ops.skU rfl rfl ?_
                refine Ops.skU rfl rfl ?_
                refine Ops.sk rfl (by first | rfl | assumption | exact decide_eq_true (by assumption) | exact decide_eq_false (by assumption) | decide | (simp; done) | (simp; omega) | (simp [*]; done)) rfl ?_
                refine Ops.r (Run.pickT rfl rfl (by first | rfl | assumption | exact decide_eq_true (by assumption) | exact decide_eq_false (by assumption) | decide | (simp; done) | (simp; omega) | (simp [*]; done))) rfl ?_
                refine Ops.r (Run.mv rfl) rfl ?_
                refine Ops.sk rfl (by first | rfl | assumption | exact decide_eq_true (by assumption) | exact decide_eq_false (by assumption) | decide | (simp; done) | (simp; omega) | (simp [*]; done)) rfl ?_
                refine Ops.sk rfl (by first | rfl | assumption | exact decide_eq_true (by assumption) | exact decide_eq_false (by assumption) | decide | (simp; done) | (simp; omega) | (simp [*]; done)) rfl ?_
                refine Ops.r (Run.pickT rfl rfl (by first | rfl | assumption | exact decide_eq_true (by assumption) | exact decide_eq_false (by assumption) | decide | (simp; done) | (simp; omega) | (simp [*]; done))) rfl ?_
                refine Ops.r (Run.mv rfl) rfl ?_
                refine Ops.sk rfl (by first | rfl | assumption | exact decide_eq_true (by assumption) | exact decide_eq_false (by assumption) | decide | (simp; done) | (simp; omega) | (simp [*]; done)) rfl ?_
                refine Ops.sk rfl (by first | rfl | assumption | exact decide_eq_true (by assumption) | exact decide_eq_false (by assumption) | decide | (simp; done) | (simp; omega) | (simp [*]; done)) rfl ?_
                refine Ops.r (Run.pickT rfl rfl (by first | rfl | assumption | exact decide_eq_true (by assumption) | exact decide_eq_false (by assumption) | decide | (simp; done) | (simp; omega) | (simp [*]; done))) rfl ?_
                refine Ops.r (Run.mv rfl) rfl ?_
                refine Ops.sk rfl (by first | rfl | assumption | exact decide_eq_true (by assumption) | exact decide_eq_false (by assumption) | decide | (simp; done) | (simp; omega) | (simp [*]; done)) rfl ?_
                refine Ops.sk rfl (by first | rfl | assumption | exact decide_eq_true (by assumption) | exact decide_eq_false (by assumption) | decide | (simp; done) | (simp; omega) | (simp [*]; done)) rfl ?_
                refine Ops.r (Run.pickT rfl rfl (by first | rfl | assumption | exact decide_eq_true (by assumption) | exact decide_eq_false (by assumption) | decide | (simp; done) | (simp; omega) | (simp [*]; done))) rfl ?_
                refine Ops.r (Run.mv rfl) rfl ?_
                refine Ops.sk rfl (by first | rfl | assumption | exact decide_eq_true (by assumption) | exact decide_eq_false (by assumption) | decide | (simp; done) | (simp; omega) | (simp [*]; done)) rfl ?_
                refine Ops.sk rfl (by first | rfl | assumption | exact decide_eq_true (by assumption) | exact decide_eq_false (by assumption) | decide | (simp; done) | (simp; omega) | (simp [*]; done)) rfl ?_
                refine Ops.r (Run.pickT rfl rfl (by first | rfl | assumption | exact decide_eq_true (by assumption) | exact decide_eq_false (by assumption) | decide | (simp; done) | (simp; omega) | (simp [*]; done))) rfl ?_
                refine Ops.r (Run.not rfl) rfl ?_
                refine Ops.nil ?_
                refine thenQ_n ⟨(.cons (congrArg (fun b => some (Value.bool b)) (Eq.symm (by unfold SignN; grind))) (.cons rfl (.cons rfl (.cons rfl (.cons rfl .nil))))), rfl⟩
              · skip
                refine Ops.r (Run.pickT rfl rfl (by first | rfl | assumption | exact decide_eq_true (by assumption) | exact decide_eq_false (by assumption) | decide | (simp; done) | (simp; omega) | (simp [*]; done))) rfl ?_
                refine Ops.r (Run.mv rfl) rfl ?_
                refine Ops.rg rfl (by first | rfl | assumption | exact decide_eq_true (by assumption) | exact decide_eq_false (by assumption) | decide | (simp; done) | (simp; omega) | (simp [*]; done)) (Run.mv rfl) rfl ?_
                refine Ops.rg rfl (by first | rfl | assumption | exact decide_eq_true (by assumption) | exact decide_eq_false (by assumption) | decide | (simp; done) | (simp; omega) | (simp [*]; done)) (Run.bin rfl rfl (Bin.leqN 48 _)) rfl ?_
                by_cases hs48 : 48 ≤ (low c).toNat
                · skip
                  refine Ops.rg rfl (by first | rfl | assumption | exact decide_eq_true (by assumption) | exact decide_eq_false (by assumption) | decide | (simp; done) | (simp; omega) | (simp [*]; done)) (Run.mv rfl) rfl ?_
                  refine Ops.rg rfl (by first | rfl | assumption | exact decide_eq_true (by assumption) | exact decide_eq_false (by assumption) | decide | (simp; done) | (simp; omega) | (simp [*]; done)) (Run.mv rfl) rfl ?_
                  refine Ops.rg rfl (by first | rfl | assumption | exact decide_eq_true (by assumption) | exact decide_eq_false (by assumption) | decide | (simp; done) | (simp; omega) | (simp [*]; done)) (Run.bin rfl rfl (Bin.leqN _ 57)) rfl ?_
                  by_cases hs51 : (low c).toNat ≤ 57
                  · skip
                    refine Ops.rg rfl (by first | rfl | assumption | exact decide_eq_true (by assumption) | exact decide_eq_false (by assumption) | decide | (simp; done) | (simp; omega) | (simp [*]; done)) (Run.pickT rfl rfl (by first | rfl | assumption | exact decide_eq_true (by assumption) | exact decide_eq_false (by assumption) | decide | (simp; done) | (simp; omega) | (simp [*]; done))) rfl ?_
                    refine Ops.r (Run.pickF rfl rfl (by first | rfl | assumption | exact decide_eq_true (by assumption) | exact decide_eq_false (by assumption) | decide | (simp; done) | (simp; omega) | (simp [*]; done))) rfl ?_
                    refine Ops.r (Run.mv rfl) rfl ?_
                    refine Ops.sk rfl (by first | rfl | assumption | exact decide_eq_true (by assumption) | exact decide_eq_false (by assumption) | decide | (simp; done) | (simp; omega) | (simp [*]; done)) rfl ?_
                    refine Ops.sk rfl (by first | rfl | assumption | exact decide_eq_true (by assumption) | exact decide_eq_false (by assumption) | decide | (simp; done) | (simp; omega) | (simp [*]; done)) rfl ?_
                    refine Ops.r (Run.pickT rfl rfl (by first | rfl | assumption | exact decide_eq_true (by assumption) | exact decide_eq_false (by assumption) | decide | (simp; done) | (simp; omega) | (simp [*]; done))) rfl ?_
                    refine Ops.r (Run.mv rfl) rfl ?_
                    refine Ops.sk rfl (by first | rfl | assumption | exact decide_eq_true (by assumption) | exact decide_eq_false (by assumption) | decide | (simp; done) | (simp; omega) | (simp [*]; done)) rfl ?_
                    refine Ops.sk rfl (by first | rfl | assumption | exact decide_eq_true (by assumption) | exact decide_eq_false (by assumption) | decide | (simp; done) | (simp; omega) | (simp [*]; done)) rfl ?_
                    refine Ops.r (Run.pickT rfl rfl (by first | rfl | assumption | exact decide_eq_true (by assumption) | exact decide_eq_false (by assumption) | decide | (simp; done) | (simp; omega) | (simp [*]; done))) rfl ?_
                    refine Ops.r (Run.mv rfl) rfl ?_
                    refine Ops.sk rfl (by first | rfl | assumption | exact decide_eq_true (by assumption) | exact decide_eq_false (by assumption) | decide | (simp; done) | (simp; omega) | (simp [*]; done)) rfl ?_
                    refine Ops.sk rfl (by first | rfl | assumption | exact decide_eq_true (by assumption) | exact decide_eq_false (by assumption) | decide | (simp; done) | (simp; omega) | (simp [*]; done)) rfl ?_
                    refine Ops.r (Run.pickT rfl rfl (by first | rfl | assumption | exact decide_eq_true (by assumption) | exact decide_eq_false (by assumption) | decide | (simp; done) | (simp; omega) | (simp [*]; done))) rfl ?_
                    refine Ops.r (Run.mv rfl) rfl ?_
                    refine Ops.sk rfl (by first | rfl | assumption | exact decide_eq_true (by assumption) | exact decide_eq_false (by assumption) | decide | (simp; done) | (simp; omega) | (simp [*]; done)) rfl ?_
                    refine Ops.sk rfl (by first | rfl | assumption | exact decide_eq_true (by assumption) | exact decide_eq_false (by assumption) | decide | (simp; done) | (simp; omega) | (simp [*]; done)) rfl ?_
                    refine Ops.r (Run.pickT rfl rfl (by first | rfl | assumption | exact decide_eq_true (by assumption) | exact decide_eq_false (by assumption) | decide | (simp; done) | (simp; omega) | (simp [*]; done))) rfl ?_
                    refine Ops.r (Run.not rfl) rfl ?_
                    refine Ops.nil ?_
                    refine thenQ_n ⟨(.cons (congrArg (fun b => some (Value.bool b)) (Eq.symm (by unfold SignN; grind))) (.cons rfl (.cons rfl (.cons rfl (.cons rfl .nil))))), rfl⟩
                  · skip
                    refine Ops.rg rfl (by first | rfl | assumption | exact decide_eq_true (by assumption) | exact decide_eq_false (by assumption) | decide | (simp; done) | (simp; omega) | (simp [*]; done)) (Run.pickT rfl rfl (by first | rfl | assumption | exact decide_eq_true (by assumption) | exact decide_eq_false (by assumption) | decide | (simp; done) | (simp; omega) | (simp [*]; done))) rfl ?_
                    refine Ops.r (Run.pickF rfl rfl (by first | rfl | assumption | exact decide_eq_true (by assumption) | exact decide_eq_false (by assumption) | decide | (simp; done) | (simp; omega) | (simp [*]; done))) rfl ?_
                    refine Ops.r (Run.mv rfl) rfl ?_
                    refine Ops.rg rfl (by first | rfl | assumption | exact decide_eq_true (by assumption) | exact decide_eq_false (by assumption) | decide | (simp; done) | (simp; omega) | (simp [*]; done)) (Run.mv rfl) rfl ?_
                    refine Ops.rg rfl (by first | rfl | assumption | exact decide_eq_true (by assumption) | exact decide_eq_false (by assumption) | decide | (simp; done) | (simp; omega) | (simp [*]; done)) (Run.bin rfl rfl (Bin.eqlN _ 36)) rfl ?_
                    by_cases hs56 : (low c).toNat = 36
                    · skip
                      refine Ops.r (Run.pickF rfl rfl (by first | rfl | assumption | exact decide_eq_true (by assumption) | exact decide_eq_false (by assumption) | decide | (simp; done) | (simp; omega) | (simp [*]; done))) rfl ?_
                      refine Ops.r (Run.mv rfl) rfl ?_
                      refine Ops.sk rfl (by first | rfl | assumption | exact decide_eq_true (by assumption) | exact decide_eq_false (by assumption) | decide | (simp; done) | (simp; omega) | (simp [*]; done)) rfl ?_
                      refine Ops.sk rfl (by first | rfl | assumption | exact decide_eq_true (by assumption) | exact decide_eq_false (by assumption) | decide | (simp; done) | (simp; omega) | (simp [*]; done)) rfl ?_
                      refine Ops.r (Run.pickT rfl rfl (by first | rfl | assumption | exact decide_eq_true (by assumption) | exact decide_eq_false (by assumption) | decide | (simp; done) | (simp; omega) | (simp [*]; done))) rfl ?_
                      refine Ops.r (Run.mv rfl) rfl ?_
                      refine Ops.sk rfl (by first | rfl | assumption | exact decide_eq_true (by assumption) | exact decide_eq_false (by assumption) | decide | (simp; done) | (simp; omega) | (simp [*]; done)) rfl ?_
                      refine Ops.sk rfl (by first | rfl | assumption | exact decide_eq_true (by assumption) | exact decide_eq_false (by assumption) | decide | (simp; done) | (simp; omega) | (simp [*]; done)) rfl ?_
                      refine Ops.r (Run.pickT rfl rfl (by first | rfl | assumption | exact decide_eq_true (by assumption) | exact decide_eq_false (by assumption) | decide | (simp; done) | (simp; omega) | (simp [*]; done))) rfl ?_
                      refine Ops.r (Run.mv rfl) rfl ?_
                      refine Ops.sk rfl (by first | rfl | assumption | exact decide_eq_true (by assumption) | exact decide_eq_false (by assumption) | decide | (simp; done) | (simp; omega) | (simp [*]; done)) rfl ?_
                      refine Ops.sk rfl (by first | rfl | assumption | exact decide_eq_true (by assumption) | exact decide_eq_false (by assumption) | decide | (simp; done) | (simp; omega) | (simp [*]; done)) rfl ?_
                      refine Ops.r (Run.pickT rfl rfl (by first | rfl | assumption | exact decide_eq_true (by assumption) | exact decide_eq_false (by assumption) | decide | (simp; done) | (simp; omega) | (simp [*]; done))) rfl ?_
                      refine Ops.r (Run.not rfl) rfl ?_
                      refine Ops.nil ?_
                      refine thenQ_n ⟨(.cons (congrArg (fun b => some (Value.bool b)) (Eq.symm (by unfold SignN; grind))) (.cons rfl (.cons rfl (.cons rfl (.cons rfl .nil))))), rfl⟩
                    · skip
                      refine Ops.r (Run.pickF rfl rfl (by first | rfl | assumption | exact decide_eq_true (by assumption) | exact decide_eq_false (by assumption) | decide | (simp; done) | (simp; omega) | (simp [*]; done))) rfl ?_
                      refine Ops.r (Run.mv rfl) rfl ?_
                      refine Ops.rg rfl (by first | rfl | assumption | exact decide_eq_true (by assumption) | exact decide_eq_false (by assumption) | decide | (simp; done) | (simp; omega) | (simp [*]; done)) (Run.mv rfl) rfl ?_
                      refine Ops.rg rfl (by first | rfl | assumption | exact decide_eq_true (by assumption) | exact decide_eq_false (by assumption) | decide | (simp; done) | (simp; omega) | (simp [*]; done)) (Run.bin rfl rfl (Bin.eqlN _ 45)) rfl ?_
                      by_cases hs60 : (low c).toNat = 45
                      · skip
                        refine Ops.r (Run.pickF rfl rfl (by first | rfl | assumption | exact decide_eq_true (by assumption) | exact decide_eq_false (by assumption) | decide | (simp; done) | (simp; omega) | (simp [*]; done))) rfl ?_
                        refine Ops.r (Run.mv rfl) rfl ?_
                        refine Ops.sk rfl (by first | rfl | assumption | exact decide_eq_true (by assumption) | exact decide_eq_false (by assumption) | decide | (simp; done) | (simp; omega) | (simp [*]; done)) rfl ?_
                        refine Ops.sk rfl (by first | rfl | assumption | exact decide_eq_true (by assumption) | exact decide_eq_false (by assumption) | decide | (simp; done) | (simp; omega) | (simp [*]; done)) rfl ?_
                        refine Ops.r (Run.pickT rfl rfl (by first | rfl | assumption | exact decide_eq_true (by assumption) | exact decide_eq_false (by assumption) | decide | (simp; done) | (simp; omega) | (simp [*]; done))) rfl ?_
                        refine Ops.r (Run.mv rfl) rfl ?_
                        refine Ops.sk rfl (by first | rfl | assumption | exact decide_eq_true (by assumption) | exact decide_eq_false (by assumption) | decide | (simp; done) | (simp; omega) | (simp [*]; done)) rfl ?_
                        refine Ops.sk rfl (by first | rfl | assumption | exact decide_eq_true (by assumption) | exact decide_eq_false (by assumption) | decide | (simp; done) | (simp; omega) | (simp [*]; done)) rfl ?_
                        refine Ops.r (Run.pickT rfl rfl (by first | rfl | assumption | exact decide_eq_true (by assumption) | exact decide_eq_false (by assumption) | decide | (simp; done) | (simp; omega) | (simp [*]; done))) rfl ?_
                        refine Ops.r (Run.not rfl) rfl ?_
                        refine Ops.nil ?_
                        refine thenQ_n ⟨(.cons (congrArg (fun b => some (Value.bool b)) (Eq.symm (by unfold SignN; grind))) (.cons rfl (.cons rfl (.cons rfl (.cons rfl .nil))))), rfl⟩
                      · skip
                        refine Ops.r (Run.pickF rfl rfl (by first | rfl | assumption | exact decide_eq_true (by assumption) | exact decide_eq_false (by assumption) | decide | (simp; done) | (simp; omega) | (simp [*]; done))) rfl ?_
                        refine Ops.r (Run.mv rfl) rfl ?_
                        refine Ops.rg rfl (by first | rfl | assumption | exact decide_eq_true (by assumption) | exact decide_eq_false (by assumption) | decide | (simp; done) | (simp; omega) | (simp [*]; done)) (Run.mv rfl) rfl ?_
                        refine Ops.rg rfl (by first | rfl | assumption | exact decide_eq_true (by assumption) | exact decide_eq_false (by assumption) | decide | (simp; done) | (simp; omega) | (simp [*]; done)) (Run.bin rfl rfl (Bin.eqlN _ 46)) rfl ?_
                        by_cases hs64 : (low c).toNat = 46
                        · skip
                          refine Ops.r (Run.pickF rfl rfl (by first | rfl | assumption | exact decide_eq_true (by assumption) | exact decide_eq_false (by assumption) | decide | (simp; done) | (simp; omega) | (simp [*]; done))) rfl ?_
                          refine Ops.r (Run.mv rfl) rfl ?_
                          refine Ops.sk rfl (by first | rfl | assumption | exact decide_eq_true (by assumption) | exact decide_eq_false (by assumption) | decide | (simp; done) | (simp; omega) | (simp [*]; done)) rfl ?_
                          refine Ops.sk rfl (by first | rfl | assumption | exact decide_eq_true (by assumption) | exact decide_eq_false (by assumption) | decide | (simp; done) | (simp; omega) | (simp [*]; done)) rfl ?_
                          refine Ops.r (Run.pickT rfl rfl (by first | rfl | assumption | exact decide_eq_true (by assumption) | exact decide_eq_false (by assumption) | decide | (simp; done) | (simp; omega) | (simp [*]; done))) rfl ?_
                          refine Ops.r (Run.not rfl) rfl ?_
                          refine Ops.nil ?_
                          refine thenQ_n ⟨(.cons (congrArg (fun b => some (Value.bool b)) (Eq.symm (by unfold SignN; grind))) (.cons rfl (.cons rfl (.cons rfl (.cons rfl .nil))))), rfl⟩
                        · skip
                          refine Ops.r (Run.pickF rfl rfl (by first | rfl | assumption | exact decide_eq_true (by assumption) | exact decide_eq_false (by assumption) | decide | (simp; done) | (simp; omega) | (simp [*]; done))) rfl ?_
                          refine Ops.r (Run.mv rfl) rfl ?_
                          refine Ops.rg rfl (by first | rfl | assumption | exact decide_eq_true (by assumption) | exact decide_eq_false (by assumption) | decide | (simp; done) | (simp; omega) | (simp [*]; done)) (Run.mv rfl) rfl ?_
                          refine Ops.rg rfl (by first | rfl | assumption | exact decide_eq_true (by assumption) | exact decide_eq_false (by assumption) | decide | (simp; done) | (simp; omega) | (simp [*]; done)) (Run.bin rfl rfl (Bin.eqlN _ 95)) rfl ?_
                          by_cases hs68 : (low c).toNat = 95
                          · skip
                            refine Ops.r (Run.pickF rfl rfl (by first | rfl | assumption | exact decide_eq_true (by assumption) | exact decide_eq_false (by assumption) | decide | (simp; done) | (simp; omega) | (simp [*]; done))) rfl ?_
                            refine Ops.r (Run.not rfl) rfl ?_
                            refine Ops.nil ?_
                            refine thenQ_n ⟨(.cons (congrArg (fun b => some (Value.bool b)) (Eq.symm (by unfold SignN; grind))) (.cons rfl (.cons rfl (.cons rfl (.cons rfl .nil))))), rfl⟩
                          · skip
                            refine Ops.r (Run.pickF rfl rfl (by first | rfl | assumption | exact decide_eq_true (by assumption) | exact decide_eq_false (by assumption) | decide | (simp; done) | (simp; omega) | (simp [*]; done))) rfl ?_
                            refine Ops.r (Run.not rfl) rfl ?_
                            refine Ops.nil ?_
                            refine thenQ_n ⟨(.cons (congrArg (fun b => some (Value.bool b)) (Eq.symm (by unfold SignN; grind))) (.cons rfl (.cons rfl (.cons rfl (.cons rfl .nil))))), rfl⟩
                · skip
                  refine Ops.rg rfl (by first | rfl | assumption | exact decide_eq_true (by assumption) | exact decide_eq_false (by assumption) | decide | (simp; done) | (simp; omega) | (simp [*]; done)) (Run.mv rfl) rfl ?_
                  refine Ops.sk rfl (by first | rfl | assumption | exact decide_eq_true (by assumption) | exact decide_eq_false (by assumption) | decide | (simp; done) | (simp; omega) | (simp [*]; done)) rfl ?_
                  refine Ops.sk rfl (by first | rfl | assumption | exact decide_eq_true (by assumption) | exact decide_eq_false (by assumption) | decide | (simp; done) | (simp; omega) | (simp [*]; done)) rfl ?_
                  refine Ops.rg rfl (by first | rfl | assumption | exact decide_eq_true (by assumption) | exact decide_eq_false (by assumption) | decide | (simp; done) | (simp; omega) | (simp [*]; done)) (Run.pickF rfl rfl (by first | rfl | assumption | exact decide_eq_true (by assumption) | exact decide_eq_false (by assumption) | decide | (simp; done) | (simp; omega) | (simp [*]; done))) rfl ?_
                  refine Ops.r (Run.pickF rfl rfl (by first | rfl | assumption | exact decide_eq_true (by assumption) | exact decide_eq_false (by assumption) | decide | (simp; done) | (simp; omega) | (simp [*]; done))) rfl ?_
                  refine Ops.r (Run.mv rfl) rfl ?_
                  refine Ops.rg rfl (by first | rfl | assumption | exact decide_eq_true (by assumption) | exact decide_eq_false (by assumption) | decide | (simp; done) | (simp; omega) | (simp [*]; done)) (Run.mv rfl) rfl ?_
                  refine Ops.rg rfl (by first | rfl | assumption | exact decide_eq_true (by assumption) | exact decide_eq_false (by assumption) | decide | (simp; done) | (simp; omega) | (simp [*]; done)) (Run.bin rfl rfl (Bin.eqlN _ 36)) rfl ?_
                  by_cases hs56 : (low c).toNat = 36
                  · skip
                    refine Ops.r (Run.pickF rfl rfl (by first | rfl | assumption | exact decide_eq_true (by assumption) | exact decide_eq_false (by assumption) | decide | (simp; done) | (simp; omega) | (simp [*]; done))) rfl ?_
                    refine Ops.r (Run.mv rfl) rfl ?_
                    refine Ops.sk rfl (by first | rfl | assumption | exact decide_eq_true (by assumption) | exact decide_eq_false (by assumption) | decide | (simp; done) | (simp; omega) | (simp [*]; done)) rfl ?_
                    refine Ops.sk rfl (by first | rfl | assumption | exact decide_eq_true (by assumption) | exact decide_eq_false (by assumption) | decide | (simp; done) | (simp; omega) | (simp [*]; done)) rfl ?_
                    refine Ops.r (Run.pickT rfl rfl (by first | rfl | assumption | exact decide_eq_true (by assumption) | exact decide_eq_false (by assumption) | decide | (simp; done) | (simp; omega) | (simp [*]; done))) rfl ?_
                    refine Ops.r (Run.mv rfl) rfl ?_
                    refine Ops.sk rfl (by first | rfl | assumption | exact decide_eq_true (by assumption) | exact decide_eq_false (by assumption) | decide | (simp; done) | (simp; omega) | (simp [*]; done)) rfl ?_
                    refine Ops.sk rfl (by first | rfl | assumption | exact decide_eq_true (by assumption) | exact decide_eq_false (by assumption) | decide | (simp; done) | (simp; omega) | (simp [*]; done)) rfl ?_
                    refine Ops.r (Run.pickT rfl rfl (by first | rfl | assumption | exact decide_eq_true (by assumption) | exact decide_eq_false (by assumption) | decide | (simp; done) | (simp; omega) | (simp [*]; done))) rfl ?_
                    refine Ops.r (Run.mv rfl) rfl ?_
                    refine Ops.sk rfl (by first | rfl | assumption | exact decide_eq_true (by assumption) | exact decide_eq_false (by assumption) | decide | (simp; done) | (simp; omega) | (simp [*]; done)) rfl ?_
                    refine Ops.sk rfl (by first | rfl | assumption | exact decide_eq_true (by assumption) | exact decide_eq_false (by assumption) | decide | (simp; done) | (simp; omega) | (simp [*]; done)) rfl ?_
                    refine Ops.r (Run.pickT rfl rfl (by first | rfl | assumption | exact decide_eq_true (by assumption) | exact decide_eq_false (by assumption) | decide | (simp; done) | (simp; omega) | (simp [*]; done))) rfl ?_
                    refine Ops.r (Run.not rfl) rfl ?_
                    refine Ops.nil ?_
                    refine thenQ_n ⟨(.cons (congrArg (fun b => some (Value.bool b)) (Eq.symm (by unfold SignN; grind))) (.cons rfl (.cons rfl (.cons rfl (.cons rfl .nil))))), rfl⟩
                  · skip
                    refine Ops.r (Run.pickF rfl rfl (by first | rfl | assumption | exact decide_eq_true (by assumption) | exact decide_eq_false (by assumption) | decide | (simp; done) | (simp; omega) | (simp [*]; done))) rfl ?_
                    refine Ops.r (Run.mv rfl) rfl ?_
                    refine Ops.rg rfl (by first | rfl | assumption | exact decide_eq_true (by assumption) | exact decide_eq_false (by assumption) | decide | (simp; done) | (simp; omega) | (simp [*]; done)) (Run.mv rfl) rfl ?_
                    refine Ops.rg rfl (by first | rfl | assumption | exact decide_eq_true (by assumption) | exact decide_eq_false (by assumption) | decide | (simp; done) | (simp; omega) | (simp [*]; done)) (Run.bin rfl rfl (Bin.eqlN _ 45)) rfl ?_
                    by_cases hs60 : (low c).toNat = 45
                    · skip
                      refine Ops.r (Run.pickF rfl rfl (by first | rfl | assumption | exact decide_eq_true (by assumption) | exact decide_eq_false (by assumption) | decide | (simp; done) | (simp; omega) | (simp [*]; done))) rfl ?_
                      refine Ops.r (Run.mv rfl) rfl ?_
                      refine Ops.sk rfl (by first | rfl | assumption | exact decide_eq_true (by assumption) | exact decide_eq_false (by assumption) | decide | (simp; done) | (simp; omega) | (simp [*]; done)) rfl ?_
                      refine Ops.sk rfl (by first | rfl | assumption | exact decide_eq_true (by assumption) | exact decide_eq_false (by assumption) | decide | (simp; done) | (simp; omega) | (simp [*]; done)) rfl ?_
                      refine Ops.r (Run.pickT rfl rfl (by first | rfl | assumption | exact decide_eq_true (by assumption) | exact decide_eq_false (by assumption) | decide | (simp; done) | (simp; omega) | (simp [*]; done))) rfl ?_
                      refine Ops.r (Run.mv rfl) rfl ?_
                      refine Ops.sk rfl (by first | rfl | assumption | exact decide_eq_true (by assumption) | exact decide_eq_false (by assumption) | decide | (simp; done) | (simp; omega) | (simp [*]; done)) rfl ?_
                      refine Ops.sk rfl (by first | rfl | assumption | exact decide_eq_true (by assumption) | exact decide_eq_false (by assumption) | decide | (simp; done) | (simp; omega) | (simp [*]; done)) rfl ?_
                      refine Ops.r (Run.pickT rfl rfl (by first | rfl | assumption | exact decide_eq_true (by assumption) | exact decide_eq_false (by assumption) | decide | (simp; done) | (simp; omega) | (simp [*]; done))) rfl ?_
                      refine Ops.r (Run.not rfl) rfl ?_
                      refine Ops.nil ?_
                      refine thenQ_n ⟨(.cons (congrArg (fun b => some (Value.bool b)) (Eq.symm (by unfold SignN; grind))) (.cons rfl (.cons rfl (.cons rfl (.cons rfl .nil))))), rfl⟩
                    · skip
                      refine Ops.r (Run.pickF rfl rfl (by first | rfl | assumption | exact decide_eq_true (by assumption) | exact decide_eq_false (by assumption) | decide | (simp; done) | (simp; omega) | (simp [*]; done))) rfl ?_
                      refine Ops.r (Run.mv rfl) rfl ?_
                      refine Ops.rg rfl (by first | rfl | assumption | exact decide_eq_true (by assumption) | exact decide_eq_false (by assumption) | decide | (simp; done) | (simp; omega) | (simp [*]; done)) (Run.mv rfl) rfl ?_
                      refine Ops.rg rfl (by first | rfl | assumption | exact decide_eq_true (by assumption) | exact decide_eq_false (by assumption) | decide | (simp; done) | (simp; omega) | (simp [*]; done)) (Run.bin rfl rfl (Bin.eqlN _ 46)) rfl ?_
                      by_cases hs64 : (low c).toNat = 46
                      · skip
                        refine Ops.r (Run.pickF rfl rfl (by first | rfl | assumption | exact decide_eq_true (by assumption) | exact decide_eq_false (by assumption) | decide | (simp; done) | (simp; omega) | (simp [*]; done))) rfl ?_
                        refine Ops.r (Run.mv rfl) rfl ?_
                        refine Ops.sk rfl (by first | rfl | assumption | exact decide_eq_true (by assumption) | exact decide_eq_false (by assumption) | decide | (simp; done) | (simp; omega) | (simp [*]; done)) rfl ?_
                        refine Ops.sk rfl (by first | rfl | assumption | exact decide_eq_true (by assumption) | exact decide_eq_false (by assumption) | decide | (simp; done) | (simp; omega) | (simp [*]; done)) rfl ?_
                        refine Ops.r (Run.pickT rfl rfl (by first | rfl | assumption | exact decide_eq_true (by assumption) | exact decide_eq_false (by assumption) | decide | (simp; done) | (simp; omega) | (simp [*]; done))) rfl ?_
                        refine Ops.r (Run.not rfl) rfl ?_
                        refine Ops.nil ?_
                        refine thenQ_n ⟨(.cons (congrArg (fun b => some (Value.bool b)) (Eq.symm (by unfold SignN; grind))) (.cons rfl (.cons rfl (.cons rfl (.cons rfl .nil))))), rfl⟩
                      · skip
                        refine Ops.r (Run.pickF rfl rfl (by first | rfl | assumption | exact decide_eq_true (by assumption) | exact decide_eq_false (by assumption) | decide | (simp; done) | (simp; omega) | (simp [*]; done))) rfl ?_
                        refine Ops.r (Run.mv rfl) rfl ?_
                        refine Ops.rg rfl (by first | rfl | assumption | exact decide_eq_true (by assumption) | exact decide_eq_false (by assumption) | decide | (simp; done) | (simp; omega) | (simp [*]; done)) (Run.mv rfl) rfl ?_
                        refine Ops.rg rfl (by first | rfl | assumption | exact decide_eq_true (by assumption) | exact decide_eq_false (by assumption) | decide | (simp; done) | (simp; omega) | (simp [*]; done)) (Run.bin rfl rfl (Bin.eqlN _ 95)) rfl ?_
                        by_cases hs68 : (low c).toNat = 95
                        · skip
                          refine Ops.r (Run.pickF rfl rfl (by first | rfl | assumption | exact decide_eq_true (by assumption) | exact decide_eq_false (by assumption) | decide | (simp; done) | (simp; omega) | (simp [*]; done))) rfl ?_
                          refine Ops.r (Run.not rfl) rfl ?_
                          refine Ops.nil ?_
                          refine thenQ_n ⟨(.cons (congrArg (fun b => some (Value.bool b)) (Eq.symm (by unfold SignN; grind))) (.cons rfl (.cons rfl (.cons rfl (.cons rfl .nil))))), rfl⟩
                        · skip
                          refine Ops.r (Run.pickF rfl rfl (by first | rfl | assumption | exact decide_eq_true (by assumption) | exact decide_eq_false (by assumption) | decide | (simp; done) | (simp; omega) | (simp [*]; done))) rfl ?_
                          refine Ops.r (Run.not rfl) rfl ?_
                          refine Ops.nil ?_
                          refine thenQ_n ⟨(.cons (congrArg (fun b => some (Value.bool b)) (Eq.symm (by unfold SignN; grind))) (.cons rfl (.cons rfl (.cons rfl (.cons rfl .nil))))), rfl⟩
            · skip
              refine Ops.r (Run.mv rfl) rfl ?_
              refine Ops.sk rfl (by first | rfl | assumption | exact decide_eq_true (by assumption) | exact decide_eq_false (by assumption) | decide | (simp; done) | (simp; omega) | (simp [*]; done)) rfl ?_
              refine Ops.sk rfl (by first | rfl | assumption | exact decide_eq_true (by assumption) | exact decide_eq_false (by assumption) | decide | (simp; done) | (simp; omega) | (simp [*]; done)) rfl ?_
              refine Ops.r (Run.pickF rfl rfl (by first | rfl | assumption | exact decide_eq_true (by assumption) | exact decide_eq_false (by assumption) | decide | (simp; done) | (simp; omega) | (simp [*]; done))) rfl ?_
              refine Ops.r (Run.mv rfl) rfl ?_
              refine Ops.rg rfl (by first | rfl | assumption | exact decide_eq_true (by assumption) | exact decide_eq_false (by assumption) | decide | (simp; done) | (simp; omega) | (simp [*]; done)) (Run.mv rfl) rfl ?_
              refine Ops.rg rfl (by first | rfl | assumption | exact decide_eq_true (by assumption) | exact decide_eq_false (by assumption) | decide | (simp; done) | (simp; omega) | (simp [*]; done)) (Run.bin rfl rfl (Bin.leqN 48 _)) rfl ?_
              by_cases hs48 : 48 ≤ (low c).toNat
              · skip
                refine Ops.rg rfl (by first | rfl | assumption | exact decide_eq_true (by assumption) | exact decide_eq_false (by assumption) | decide | (simp; done) | (simp; omega) | (simp [*]; done)) (Run.mv rfl) rfl ?_
                refine Ops.rg rfl (by first | rfl | assumption | exact decide_eq_true (by assumption) | exact decide_eq_false (by assumption) | decide | (simp; done) | (simp; omega) | (simp [*]; done)) (Run.mv rfl) rfl ?_
                refine Ops.rg rfl (by first | rfl | assumption | exact decide_eq_true (by assumption) | exact decide_eq_false (by assumption) | decide | (simp; done) | (simp; omega) | (simp [*]; done)) (Run.bin rfl rfl (Bin.leqN _ 57)) rfl ?_
                by_cases hs51 : (low c).toNat ≤ 57
                · skip
                  refine Ops.rg rfl (by first | rfl | assumption | exact decide_eq_true (by assumption) | exact decide_eq_false (by assumption) | decide | (simp; done) | (simp; omega) | (simp [*]; done)) (Run.pickT rfl rfl (by first | rfl | assumption | exact decide_eq_true (by assumption) | exact decide_eq_false (by assumption) | decide | (simp; done) | (simp; omega) | (simp [*]; done))) rfl ?_
                  refine Ops.r (Run.pickF rfl rfl (by first | rfl | assumption | exact decide_eq_true (by assumption) | exact decide_eq_false (by assumption) | decide | (simp; done) | (simp; omega) | (simp [*]; done))) rfl ?_
                  refine Ops.r (Run.mv rfl) rfl ?_
                  refine Ops.sk rfl (by first | rfl | assumption | exact decide_eq_true (by assumption) | exact decide_eq_false (by assumption) | decide | (simp; done) | (simp; omega) | (simp [*]; done)) rfl ?_
                  refine Ops.sk rfl (by first | rfl | assumption | exact decide_eq_true (by assumption) | exact decide_eq_false (by assumption) | decide | (simp; done) | (simp; omega) | (simp [*]; done)) rfl ?_
                  refine Ops.r (Run.pickT rfl rfl (by first | rfl | assumption | exact decide_eq_true (by assumption) | exact decide_eq_false (by assumption) | decide | (simp; done) | (simp; omega) | (simp [*]; done))) rfl ?_
                  refine Ops.r (Run.mv rfl) rfl ?_
                  refine Ops.sk rfl (by first | rfl | assumption | exact decide_eq_true (by assumption) | exact decide_eq_false (by assumption) | decide | (simp; done) | (simp; omega) | (simp [*]; done)) rfl ?_
                  refine Ops.sk rfl (by first | rfl | assumption | exact decide_eq_true (by assumption) | exact decide_eq_false (by assumption) | decide | (simp; done) | (simp; omega) | (simp [*]; done)) rfl ?_
                  refine Ops.r (Run.pickT rfl rfl (by first | rfl | assumption | exact decide_eq_true (by assumption) | exact decide_eq_false (by assumption) | decide | (simp; done) | (simp; omega) | (simp [*]; done))) rfl ?_
                  refine Ops.r (Run.mv rfl) rfl ?_
                  refine Ops.sk rfl (by first | rfl | assumption | exact decide_eq_true (by assumption) | exact decide_eq_false (by assumption) | decide | (simp; done) | (simp; omega) | (simp [*]; done)) rfl ?_
                  refine Ops.sk rfl (by first | rfl | assumption | exact decide_eq_true (by assumption) | exact decide_eq_false (by assumption) | decide | (simp; done) | (simp; omega) | (simp [*]; done)) rfl ?_
                  refine Ops.r (Run.pickT rfl rfl (by first | rfl | assumption | exact decide_eq_true (by assumption) | exact decide_eq_false (by assumption) | decide | (simp; done) | (simp; omega) | (simp [*]; done))) rfl ?_
                  refine Ops.r (Run.mv rfl) rfl ?_
                  refine Ops.sk rfl (by first | rfl | assumption | exact decide_eq_true (by assumption) | exact decide_eq_false (by assumption) | decide | (simp; done) | (simp; omega) | (simp [*]; done)) rfl ?_
                  refine Ops.sk rfl (by first | rfl | assumption | exact decide_eq_true (by assumption) | exact decide_eq_false (by assumption) | decide | (simp; done) | (simp; omega) | (simp [*]; done)) rfl ?_
                  refine Ops.r (Run.pickT rfl rfl (by first | rfl | assumption | exact decide_eq_true (by assumption) | exact decide_eq_false (by assumption) | decide | (simp; done) | (simp; omega) | (simp [*]; done))) rfl ?_
                  refine Ops.r (Run.not rfl) rfl ?_
                  refine Ops.nil ?_
                  refine thenQ_n ⟨(.cons (congrArg (fun b => some (Value.bool b)) (Eq.symm (by unfold SignN; grind))) (.cons rfl (.cons rfl (.cons rfl (.cons rfl .nil))))), rfl⟩
                · skip
                  refine Ops.rg rfl (by first | rfl | assumption | exact decide_eq_true (by assumption) | exact decide_eq_false (by assumption) | decide | (simp; done) | (simp; omega) | (simp [*]; done)) (Run.pickT rfl rfl (by first | rfl | assumption | exact decide_eq_true (by assumption) | exact decide_eq_false (by assumption) | decide | (simp; done) | (simp; omega) | (simp [*]; done))) rfl ?_
                  refine Ops.r (Run.pickF rfl rfl (by first | rfl | assumption | exact decide_eq_true (by assumption) | exact decide_eq_false (by assumption) | decide | (simp; done) | (simp; omega) | (simp [*]; done))) rfl ?_
                  refine Ops.r (Run.mv rfl) rfl ?_
                  refine Ops.rg rfl (by first | rfl | assumption | exact decide_eq_true (by assumption) | exact decide_eq_false (by assumption) | decide | (simp; done) | (simp; omega) | (simp [*]; done)) (Run.mv rfl) rfl ?_
                  refine Ops.rg rfl (by first | rfl | assumption | exact decide_eq_true (by assumption) | exact decide_eq_false (by assumption) | decide | (simp; done) | (simp; omega) | (simp [*]; done)) (Run.bin rfl rfl (Bin.eqlN _ 36)) rfl ?_
                  by_cases hs56 : (low c).toNat = 36
                  · skip
                    refine Ops.r (Run.pickF rfl rfl (by first | rfl | assumption | exact decide_eq_true (by assumption) | exact decide_eq_false (by assumption) | decide | (simp; done) | (simp; omega) | (simp [*]; done))) rfl ?_
                    refine Ops.r (Run.mv rfl) rfl ?_
                    refine Ops.sk rfl (by first | rfl | assumption | exact decide_eq_true (by assumption) | exact decide_eq_false (by assumption) | decide | (simp; done) | (simp; omega) | (simp [*]; done)) rfl ?_
                    refine Ops.sk rfl (by first | rfl | assumption | exact decide_eq_true (by assumption) | exact decide_eq_false (by assumption) | decide | (simp; done) | (simp; omega) | (simp [*]; done)) rfl ?_
                    refine Ops.r (Run.pickT rfl rfl (by first | rfl | assumption | exact decide_eq_true (by assumption) | exact decide_eq_false (by assumption) | decide | (simp; done) | (simp; omega) | (simp [*]; done))) rfl ?_
                    refine Ops.r (Run.mv rfl) rfl ?_
                    refine Ops.sk rfl (by first | rfl | assumption | exact decide_eq_true (by assumption) | exact decide_eq_false (by assumption) | decide | (simp; done) | (simp; omega) | (simp [*]; done)) rfl ?_
                    refine Ops.sk rfl (by first | rfl | assumption | exact decide_eq_true (by assumption) | exact decide_eq_false (by assumption) | decide | (simp; done) | (simp; omega) | (simp [*]; done)) rfl ?_
                    refine Ops.r (Run.pickT rfl rfl (by first | rfl | assumption | exact decide_eq_true (by assumption) | exact decide_eq_false (by assumption) | decide | (simp; done) | (simp; omega) | (simp [*]; done))) rfl ?_
                    refine Ops.r (Run.mv rfl) rfl ?_
                    refine Ops.sk rfl (by first | rfl | assumption | exact decide_eq_true (by assumption) | exact decide_eq_false (by assumption) | decide | (simp; done) | (simp; omega) | (simp [*]; done)) rfl ?_
                    refine Ops.sk rfl (by first | rfl | assumption | exact decide_eq_true (by assumption) | exact decide_eq_false (by assumption) | decide | (simp; done) | (simp; omega) | (simp [*]; done)) rfl ?_
                    refine Ops.r (Run.pickT rfl rfl (by first | rfl | assumption | exact decide_eq_true (by assumption) | exact decide_eq_false (by assumption) | decide | (simp; done) | (simp; omega) | (simp [*]; done))) rfl ?_
                    refine Ops.r (Run.not rfl) rfl ?_
                    refine Ops.nil ?_
                    refine thenQ_n ⟨(.cons (congrArg (fun b => some (Value.bool b)) (Eq.symm (by unfold SignN; grind))) (.cons rfl (.cons rfl (.cons rfl (.cons rfl .nil))))), rfl⟩
                  · skip
                    refine Ops.r (Run.pickF rfl rfl (by first | rfl | assumption | exact decide_eq_true (by assumption) | exact decide_eq_false (by assumption) | decide | (simp; done) | (simp; omega) | (simp [*]; done))) rfl ?_
                    refine Ops.r (Run.mv rfl) rfl ?_
                    refine Ops.rg rfl (by first | rfl | assumption | exact decide_eq_true (by assumption) | exact decide_eq_false (by assumption) | decide | (simp; done) | (simp; omega) | (simp [*]; done)) (Run.mv rfl) rfl ?_
                    refine Ops.rg rfl (by first | rfl | assumption | exact decide_eq_true (by assumption) | exact decide_eq_false (by assumption) | decide | (simp; done) | (simp; omega) | (simp [*]; done)) (Run.bin rfl rfl (Bin.eqlN _ 45)) rfl ?_
                    by_cases hs60 : (low c).toNat = 45
                    · skip
                      refine Ops.r (Run.pickF rfl rfl (by first | rfl | assumption | exact decide_eq_true (by assumption) | exact decide_eq_false (by assumption) | decide | (simp; done) | (simp; omega) | (simp [*]; done))) rfl ?_
                      refine Ops.r (Run.mv rfl) rfl ?_
                      refine Ops.sk rfl (by first | rfl | assumption | exact decide_eq_true (by assumption) | exact decide_eq_false (by assumption) | decide | (simp; done) | (simp; omega) | (simp [*]; done)) rfl ?_
                      refine Ops.sk rfl (by first | rfl | assumption | exact decide_eq_true (by assumption) | exact decide_eq_false (by assumption) | decide | (simp; done) | (simp; omega) | (simp [*]; done)) rfl ?_
                      refine Ops.r (Run.pickT rfl rfl (by first | rfl | assumption | exact decide_eq_true (by assumption) | exact decide_eq_false (by assumption) | decide | (simp; done) | (simp; omega) | (simp [*]; done))) rfl ?_
                      refine Ops.r (Run.mv rfl) rfl ?_
                      refine Ops.sk rfl (by first | rfl | assumption | exact decide_eq_true (by assumption) | exact decide_eq_false (by assumption) | decide | (simp; done) | (simp; omega) | (simp [*]; done)) rfl ?_
                      refine Ops.sk rfl (by first | rfl | assumption | exact decide_eq_true (by assumption) | exact decide_eq_false (by assumption) | decide | (simp; done) | (simp; omega) | (simp [*]; done)) rfl ?_
                      refine Ops.r (Run.pickT rfl rfl (by first | rfl | assumption | exact decide_eq_true (by assumption) | exact decide_eq_false (by assumption) | decide | (simp; done) | (simp; omega) | (simp [*]; done))) rfl ?_
                      refine Ops.r (Run.not rfl) rfl ?_
                      refine Ops.nil ?_
                      refine thenQ_n ⟨(.cons (congrArg (fun b => some (Value.bool b)) (Eq.symm (by unfold SignN; grind))) (.cons rfl (.cons rfl (.cons rfl (.cons rfl .nil))))), rfl⟩
                    · skip
                      refine Ops.r (Run.pickF rfl rfl (by first | rfl | assumption | exact decide_eq_true (by assumption) | exact decide_eq_false (by assumption) | decide | (simp; done) | (simp; omega) | (simp [*]; done))) rfl ?_
                      refine Ops.r (Run.mv rfl) rfl ?_
                      refine Ops.rg rfl (by first | rfl | assumption | exact decide_eq_true (by assumption) | exact decide_eq_false (by assumption) | decide | (simp; done) | (simp; omega) | (simp [*]; done)) (Run.mv rfl) rfl ?_
                      refine Ops.rg rfl (by first | rfl | assumption | exact decide_eq_true (by assumption) | exact decide_eq_false (by assumption) | decide | (simp; done) | (simp; omega) | (simp [*]; done)) (Run.bin rfl rfl (Bin.eqlN _ 46)) rfl ?_
                      by_cases hs64 : (low c).toNat = 46
                      · skip
                        refine Ops.r (Run.pickF rfl rfl (by first | rfl | assumption | exact decide_eq_true (by assumption) | exact decide_eq_false (by assumption) | decide | (simp; done) | (simp; omega) | (simp [*]; done))) rfl ?_
                        refine Ops.r (Run.mv rfl) rfl ?_
                        refine Ops.sk rfl (by first | rfl | assumption | exact decide_eq_true (by assumption) | exact decide_eq_false (by assumption) | decide | (simp; done) | (simp; omega) | (simp [*]; done)) rfl ?_
                        refine Ops.sk rfl (by first | rfl | assumption | exact decide_eq_true (by assumption) | exact decide_eq_false (by assumption) | decide | (simp; done) | (simp; omega) | (simp [*]; done)) rfl ?_
                        refine Ops.r (Run.pickT rfl rfl (by first | rfl | assumption | exact decide_eq_true (by assumption) | exact decide_eq_false (by assumption) | decide | (simp; done) | (simp; omega) | (simp [*]; done))) rfl ?_
                        refine Ops.r (Run.not rfl) rfl ?_
                        refine Ops.nil ?_
                        refine thenQ_n ⟨(.cons (congrArg (fun b => some (Value.bool b)) (Eq.symm (by unfold SignN; grind))) (.cons rfl (.cons rfl (.cons rfl (.cons rfl .nil))))), rfl⟩
                      · skip
                        refine Ops.r (Run.pickF rfl rfl (by first | rfl | assumption | exact decide_eq_true (by assumption) | exact decide_eq_false (by assumption) | decide | (simp; done) | (simp; omega) | (simp [*]; done))) rfl ?_
                        refine Ops.r (Run.mv rfl) rfl ?_
                        refine Ops.rg rfl (by first | rfl | assumption | exact decide_eq_true (by assumption) | exact decide_eq_false (by assumption) | decide | (simp; done) | (simp; omega) | (simp [*]; done)) (Run.mv rfl) rfl ?_
                        refine Ops.rg rfl (by first | rfl | assumption | exact decide_eq_true (by assumption) | exact decide_eq_false (by assumption) | decide | (simp; done) | (simp; omega) | (simp [*]; done)) (Run.bin rfl rfl (Bin.eqlN _ 95)) rfl ?_
                        by_cases hs68 : (low c).toNat = 95
                        · skip
                          refine Ops.r (Run.pickF rfl rfl (by first | rfl | assumption | exact decide_eq_true (by assumption) | exact decide_eq_false (by assumption) | decide | (simp; done) | (simp; omega) | (simp [*]; done))) rfl ?_
                          refine Ops.r (Run.not rfl) rfl ?_
                          refine Ops.nil ?_
                          refine thenQ_n ⟨(.cons (congrArg (fun b => some (Value.bool b)) (Eq.symm (by unfold SignN; grind))) (.cons rfl (.cons rfl (.cons rfl (.cons rfl .nil))))), rfl⟩
                        · skip
                          refine Ops.r (Run.pickF rfl rfl (by first | rfl | assumption | exact decide_eq_true (by assumption) | exact decide_eq_false (by assumption) | decide | (simp; done) | (simp; omega) | (simp [*]; done))) rfl ?_
                          refine Ops.r (Run.not rfl) rfl ?_
                          refine Ops.nil ?_
                          refine thenQ_n ⟨(.cons (congrArg (fun b => some (Value.bool b)) (Eq.symm (by unfold SignN; grind))) (.cons rfl (.cons rfl (.cons rfl (.cons rfl .nil))))), rfl⟩
              · skip
                refine Ops.rg rfl (by first | rfl | assumption | exact decide_eq_true (by assumption) | exact decide_eq_false (by assumption) | decide | (simp; done) | (simp; omega) | (simp [*]; done)) (Run.mv rfl) rfl ?_
                refine Ops.sk rfl (by first | rfl | assumption | exact decide_eq_true (by assumption) | exact decide_eq_false (by assumption) | decide | (simp; done) | (simp; omega) | (simp [*]; done)) rfl ?_
                refine Ops.sk rfl (by first | rfl | assumption | exact decide_eq_true (by assumption) | exact decide_eq_false (by assumption) | decide | (simp; done) | (simp; omega) | (simp [*]; done)) rfl ?_
                refine Ops.rg rfl (by first | rfl | assumption | exact decide_eq_true (by assumption) | exact decide_eq_false (by assumption) | decide | (simp; done) | (simp; omega) | (simp [*]; done)) (Run.pickF rfl rfl (by first | rfl | assumption | exact decide_eq_true (by assumption) | exact decide_eq_false (by assumption) | decide | (simp; done) | (simp; omega) | (simp [*]; done))) rfl ?_
                refine Ops.r (Run.pickF rfl rfl (by first | rfl | assumption | exact decide_eq_true (by assumption) | exact decide_eq_false (by assumption) | decide | (simp; done) | (simp; omega) | (simp [*]; done))) rfl ?_
                refine Ops.r (Run.mv rfl) rfl ?_
                refine Ops.rg rfl (by first | rfl | assumption | exact decide_eq_true (by assumption) | exact decide_eq_false (by assumption) | decide | (simp; done) | (simp; omega) | (simp [*]; done)) (Run.mv rfl) rfl ?_
                refine Ops.rg rfl (by first | rfl | assumption | exact decide_eq_true (by assumption) | exact decide_eq_false (by assumption) | decide | (simp; done) | (simp; omega) | (simp [*]; done)) (Run.bin rfl rfl (Bin.eqlN _ 36)) rfl ?_
                by_cases hs56 : (low c).toNat = 36
                · skip
                  refine Ops.r (Run.pickF rfl rfl (by first | rfl | assumption | exact decide_eq_true (by assumption) | exact decide_eq_false (by assumption) | decide | (simp; done) | (simp; omega) | (simp [*]; done))) rfl ?_
                  refine Ops.r (Run.mv rfl) rfl ?_
                  refine Ops.sk rfl (by first | rfl | assumption | exact decide_eq_true (by assumption) | exact decide_eq_false (by assumption) | decide | (simp; done) | (simp; omega) | (simp [*]; done)) rfl ?_
                  refine Ops.sk rfl (by first | rfl | assumption | exact decide_eq_true (by assumption) | exact decide_eq_false (by assumption) | decide | (simp; done) | (simp; omega) | (simp [*]; done)) rfl ?_
                  refine Ops.r (Run.pickT rfl rfl (by first | rfl | assumption | exact decide_eq_true (by assumption) | exact decide_eq_false (by assumption) | decide | (simp; done) | (simp; omega) | (simp [*]; done))) rfl ?_
                  refine Ops.r (Run.mv rfl) rfl ?_
                  refine Ops.sk rfl (by first | rfl | assumption | exact decide_eq_true (by assumption) | exact decide_eq_false (by assumption) | decide | (simp; done) | (simp; omega) | (simp [*]; done)) rfl ?_
                  refine Ops.sk rfl (by first | rfl | assumption | exact decide_eq_true (by assumption) | exact decide_eq_false (by assumption) | decide | (simp; done) | (simp; omega) | (simp [*]; done)) rfl ?_
                  refine Ops.r (Run.pickT rfl rfl (by first | rfl | assumption | exact decide_eq_true (by assumption) | exact decide_eq_false (by assumption) | decide | (simp; done) | (simp; omega) | (simp [*]; done))) rfl ?_
                  refine Ops.r (Run.mv rfl) rfl ?_
                  refine Ops.sk rfl (by first | rfl | assumption | exact decide_eq_true (by assumption) | exact decide_eq_false (by assumption) | decide | (simp; done) | (simp; omega) | (simp [*]; done)) rfl ?_
                  refine Ops.sk rfl (by first | rfl | assumption | exact decide_eq_true (by assumption) | exact decide_eq_false (by assumption) | decide | (simp; done) | (simp; omega) | (simp [*]; done)) rfl ?_
                  refine Ops.r (Run.pickT rfl rfl (by first | rfl | assumption | exact decide_eq_true (by assumption) | exact decide_eq_false (by assumption) | decide | (simp; done) | (simp; omega) | (simp [*]; done))) rfl ?_
                  refine Ops.r (Run.not rfl) rfl ?_
                  refine Ops.nil ?_
                  refine thenQ_n ⟨(.cons (congrArg (fun b => some (Value.bool b)) (Eq.symm (by unfold SignN; grind))) (.cons rfl (.cons rfl (.cons rfl (.cons rfl .nil))))), rfl⟩
                · skip
                  refine Ops.r (Run.pickF rfl rfl (by first | rfl | assumption | exact decide_eq_true (by assumption) | exact decide_eq_false (by assumption) | decide | (simp; done) | (simp; omega) | (simp [*]; done))) rfl ?_
                  refine Ops.r (Run.mv rfl) rfl ?_
                  refine Ops.rg rfl (by first | rfl | assumption | exact decide_eq_true (by assumption) | exact decide_eq_false (by assumption) | decide | (simp; done) | (simp; omega) | (simp [*]; done)) (Run.mv rfl) rfl ?_
                  refine Ops.rg rfl (by first | rfl | assumption | exact decide_eq_true (by assumption) | exact decide_eq_false (by assumption) | decide | (simp; done) | (simp; omega) | (simp [*]; done)) (Run.bin rfl rfl (Bin.eqlN _ 45)) rfl ?_
                  by_cases hs60 : (low c).toNat = 45
                  · skip
                    refine Ops.r (Run.pickF rfl rfl (by first | rfl | assumption | exact decide_eq_true (by assumption) | exact decide_eq_false (by assumption) | decide | (simp; done) | (simp; omega) | (simp [*]; done))) rfl ?_
                    refine Ops.r (Run.mv rfl) rfl ?_
                    refine Ops.sk rfl (by first | rfl | assumption | exact decide_eq_true (by assumption) | exact decide_eq_false (by assumption) | decide | (simp; done) | (simp; omega) | (simp [*]; done)) rfl ?_
                    refine Ops.sk rfl (by first | rfl | assumption | exact decide_eq_true (by assumption) | exact decide_eq_false (by assumption) | decide | (simp; done) | (simp; omega) | (simp [*]; done)) rfl ?_
                    refine Ops.r (Run.pickT rfl rfl (by first | rfl | assumption | exact decide_eq_true (by assumption) | exact decide_eq_false (by assumption) | decide | (simp; done) | (simp; omega) | (simp [*]; done))) rfl ?_
                    refine Ops.r (Run.mv rfl) rfl ?_
                    refine Ops.sk rfl (by first | rfl | assumption | exact decide_eq_true (by assumption) | exact decide_eq_false (by assumption) | decide | (simp; done) | (simp; omega) | (simp [*]; done)) rfl ?_
                    refine Ops.sk rfl (by first | rfl | assumption | exact decide_eq_true (by assumption) | exact decide_eq_false (by assumption) | decide | (simp; done) | (simp; omega) | (simp [*]; done)) rfl ?_
                    refine Ops.r (Run.pickT rfl rfl (by first | rfl | assumption | exact decide_eq_true (by assumption) | exact decide_eq_false (by assumption) | decide | (simp; done) | (simp; omega) | (simp [*]; done))) rfl ?_
                    refine Ops.r (Run.not rfl) rfl ?_
                    refine Ops.nil ?_
                    refine thenQ_n ⟨(.cons (congrArg (fun b => some (Value.bool b)) (Eq.symm (by unfold SignN; grind))) (.cons rfl (.cons rfl (.cons rfl (.cons rfl .nil))))), rfl⟩
                  · skip
                    refine Ops.r (Run.pickF rfl rfl (by first | rfl | assumption | exact decide_eq_true (by assumption) | exact decide_eq_false (by assumption) | decide | (simp; done) | (simp; omega) | (simp [*]; done))) rfl ?_
                    refine Ops.r (Run.mv rfl) rfl ?_
                    refine Ops.rg rfl (by first | rfl | assumption | exact decide_eq_true (by assumption) | exact decide_eq_false (by assumption) | decide | (simp; done) | (simp; omega) | (simp [*]; done)) (Run.mv rfl) rfl ?_
                    refine Ops.rg rfl (by first | rfl | assumption | exact decide_eq_true (by assumption) | exact decide_eq_false (by assumption) | decide | (simp; done) | (simp; omega) | (simp [*]; done)) (Run.bin rfl rfl (Bin.eqlN _ 46)) rfl ?_
                    by_cases hs64 : (low c).toNat = 46
                    · skip
                      refine Ops.r (Run.pickF rfl rfl (by first | rfl | assumption | exact decide_eq_true (by assumption) | exact decide_eq_false (by assumption) | decide | (simp; done) | (simp; omega) | (simp [*]; done))) rfl ?_
                      refine Ops.r (Run.mv rfl) rfl ?_
                      refine Ops.sk rfl (by first | rfl | assumption | exact decide_eq_true (by assumption) | exact decide_eq_false (by assumption) | decide | (simp; done) | (simp; omega) | (simp [*]; done)) rfl ?_
                      refine Ops.sk rfl (by first | rfl | assumption | exact decide_eq_true (by assumption) | exact decide_eq_false (by assumption) | decide | (simp; done) | (simp; omega) | (simp [*]; done)) rfl ?_
                      refine Ops.r (Run.pickT rfl rfl (by first | rfl | assumption | exact decide_eq_true (by assumption) | exact decide_eq_false (by assumption) | decide | (simp; done) | (simp; omega) | (simp [*]; done))) rfl ?_
                      refine Ops.r (Run.not rfl) rfl ?_
                      refine Ops.nil ?_
                      refine thenQ_n ⟨(.cons (congrArg (fun b => some (Value.bool b)) (Eq.symm (by unfold SignN; grind))) (.cons rfl (.cons rfl (.cons rfl (.cons rfl .nil))))), rfl⟩
                    · skip
                      refine Ops.r (Run.pickF rfl rfl (by first | rfl | assumption | exact decide_eq_true (by assumption) | exact decide_eq_false (by assumption) | decide | (simp; done) | (simp; omega) | (simp [*]; done))) rfl ?_
                      refine Ops.r (Run.mv rfl) rfl ?_
                      refine Ops.rg rfl (by first | rfl | assumption | exact decide_eq_true (by assumption) | exact decide_eq_false (by assumption) | decide | (simp; done) | (simp; omega) | (simp [*]; done)) (Run.mv rfl) rfl ?_
                      refine Ops.rg rfl (by first | rfl | assumption | exact decide_eq_true (by assumption) | exact decide_eq_false (by assumption) | decide | (simp; done) | (simp; omega) | (simp [*]; done)) (Run.bin rfl rfl (Bin.eqlN _ 95)) rfl ?_
                      by_cases hs68 : (low c).toNat = 95
                      · skip
                        refine Ops.r (Run.pickF rfl rfl (by first | rfl | assumption | exact decide_eq_true (by assumption) | exact decide_eq_false (by assumption) | decide | (simp; done) | (simp; omega) | (simp [*]; done))) rfl ?_
                        refine Ops.r (Run.not rfl) rfl ?_
                        refine Ops.nil ?_
                        refine thenQ_n ⟨(.cons (congrArg (fun b => some (Value.bool b)) (Eq.symm (by unfold SignN; grind))) (.cons rfl (.cons rfl (.cons rfl (.cons rfl .nil))))), rfl⟩
                      · skip
                        refine Ops.r (Run.pickF rfl rfl (by first | rfl | assumption | exact decide_eq_true (by assumption) | exact decide_eq_false (by assumption) | decide | (simp; done) | (simp; omega) | (simp [*]; done))) rfl ?_
                        refine Ops.r (Run.not rfl) rfl ?_
                        refine Ops.nil ?_
                        refine thenQ_n ⟨(.cons (congrArg (fun b => some (Value.bool b)) (Eq.symm (by unfold SignN; grind))) (.cons rfl (.cons rfl (.cons rfl (.cons rfl .nil))))), rfl⟩
          · intro Γ hΓ
            refine thenQ_n (VC.sub _ hΓ ?_)
            refine VC.condD rfl (fun hc5 => ?_) (fun hc5 => ?_)
            · skip
              refine VC.seq ?_
              refine VC.region ?_
              refine Ops.r (Run.asg rfl) rfl ?_
              refine Ops.nil ?_
              refine thenQ_n ?_
              refine VC.sub [(2, _)] (.cons rfl .nil) ?_
              refine VC.ret ?_
              refine thenQ_r (blockQ_r (thenQ_r (thenQ_r (blockQ_r (thenQ_r (end1 rfl ?_))))))
              exact ⟨by rw [told_bad hn5 hmq hc5], hfr⟩
            · skip
              refine VC.skip ?_
              refine thenQ_n ?_
              refine VC.sub [(0, _), (5, _), (6, _), (7, _)] (.cons rfl (.cons rfl (.cons rfl (.cons rfl .nil)))) ?_
              refine VC.region ?_
              refine Ops.r (Run.mv rfl) rfl ?_
              refine Ops.r (Run.mv rfl) rfl ?_
              refine Ops.m (Does.buildS1 rfl Try.underlying40 Try.sizeOf5 zero5 (by decide) (by decide) rfl rfl) rfl ?_
              rintro _ w3 ⟨rfl, hF3⟩
              have hfr3 := hfr.trans hF3.frm (by simp)
              have hsc : SignN (low c).toNat := Classical.not_not.1 hc5
              refine Ops.r (Run.strOfT rfl Try.underlying40 Try.underlying5 Try.underlying9 (show Rd w3 1 _ 1 (U8 [low c]) from Rd.of_blk (n := 1) (size := 1) hF3.blk rfl)) rfl ?_
              refine Ops.r (Run.addT rfl rfl (by simp [smallS]; omega)) rfl ?_
              refine Ops.r (Run.asg rfl) rfl ?_
              refine Ops.nil ?_
              refine blockQ_n (thenQ_n ?_)
              refine VC.sub [(0, _), (5, _), (6, _)] (.cons rfl (.cons rfl (.cons rfl .nil))) ?_
              refine VC.region ?_
              refine Ops.r (Run.mv rfl) rfl ?_
              refine Ops.r (Run.bin rfl rfl (Bin.add_i64 _ 1 (by omega))) rfl ?_
              refine Ops.r (Run.asg rfl) rfl ?_
              refine Ops.nil ?_
              refine thenQ_n ⟨(j + 1), (.cons rfl (.cons (by rw [htq]; simp only [smallS, List.map_append, List.map_cons, List.map_nil]; rfl) (.cons rfl .nil))), ?_, ?_⟩
              · skip
                refine ⟨hc3, hfr3, fun d hd => ?_⟩
                rw [htq] at hd
                rcases List.mem_append.1 hd with h | h
                · exact hsg d h
                · simp only [List.mem_singleton] at h
                  rw [h]; exact hsc
              · skip
                first | omega | (dsimp only; omega)
    · skip
      have hjm : j = q.length := by omega
      subst hjm
      rw [List.take_length] at hsg ⊢
      refine VC.exit ?_
      refine thenQ_x (thenQ_x (blockQ_x ?_))
      refine thenQ_n ?_
      refine VC.sub [(5, _)] (.cons rfl .nil) ?_
      refine VC.seq ?_
      refine VC.seq ?_
      refine VC.region ?_
      refine Ops.r (Run.mv rfl) rfl ?_
      refine Ops.r (Run.lenT rfl Try.underlying9) rfl ?_
      refine Ops.r (Run.bin rfl rfl (Bin.gtrN _ 20)) rfl ?_
      rw [smallS_len]
      refine Ops.nil ?_
      refine thenQ_n ?_
      refine VC.sub [(5, _), (78, _)] (.cons rfl (.cons rfl .nil)) ?_
      refine VC.condD rfl (fun hc6 => ?_) (fun hc6 => ?_)
      · skip
        refine VC.seq ?_
        refine VC.region ?_
        refine Ops.r (Run.asg rfl) rfl ?_
        refine Ops.nil ?_
        refine thenQ_n ?_
        refine VC.sub [(2, _)] (.cons rfl .nil) ?_
        refine VC.ret ?_
        refine thenQ_r (end1 rfl ?_)
        exact ⟨by rw [told_long hsg hc6], hfr⟩
      · skip
        refine VC.skip ?_
        refine thenQ_n ?_
        refine VC.sub [(5, _)] (.cons rfl .nil) ?_
        refine VC.seq ?_
        refine VC.region ?_
        refine Ops.r (Run.mv rfl) rfl ?_
        refine Ops.r (Run.asg rfl) rfl ?_
        refine Ops.nil ?_
        refine thenQ_n ?_
        refine VC.sub [(2, _)] (.cons rfl .nil) ?_
        refine VC.ret ?_
        refine end1 rfl ?_
        exact ⟨by rw [told_word hsg hc6], hfr⟩

end Go.Proofs.Ytmfglifjnoilnaa
