/-
  FlagR, FlagS, FlagT, FlagU in one text.
-/
import Derived.Test.YtmfglifjnoilnaaFlagX
/-
  The document's flags: how a text is told as one.
-/
namespace Go.Proofs.Ytmfglifjnoilnaa
open Go.RowKit Go.Sort

set_option maxRecDepth 100000 in
theorem rsmall_spec (c : UInt8) (w : World) : Calls Try.prog 79 #[.int .u8 ((c.toNat : Nat) : Int)] w fun e w' => e = .returned (.int .u8 (((low c).toNat : Nat) : Int)) ∧ w = w' := by
  refine VC.calls (nt := 12) (res := #[.tmp 2]) Try.func79 rfl Try.ntmps79 Try.results79 rfl ?_
  refine VC.seq ?_
  refine VC.region ?_
  refine Ops.r (v := .int .u8 ((0 : Nat) : Int)) (Run.asg rfl) rfl ?_
  refine Ops.nil ?_
  refine thenQ_n ?_
  refine VC.sub [(0, _)] (.cons rfl .nil) ?_
  refine VC.seq ?_
  refine VC.seq ?_
  refine VC.split1 [(0, _)] (.cons rfl .nil) 8 (.bool (decide ((65 ≤ c.toNat) ∧ (c.toNat ≤ 90)))) ?_ ?_
  · by_cases hs0 : 65 ≤ c.toNat
    · skip
      refine VC.region ?_
      refine Ops.r (Run.mv rfl) rfl ?_
      refine Ops.r (Run.bin rfl rfl (Bin.leqN 65 _)) rfl ?_
      refine Ops.r (Run.mv rfl) rfl ?_
      refine Ops.rg rfl (by first | rfl | assumption | exact decide_eq_true (by assumption) | exact decide_eq_false (by assumption) | decide | (simp; done) | (simp; omega) | (simp [*]; done)) (Run.mv rfl) rfl ?_
      refine Ops.rg rfl (by first | rfl | assumption | exact decide_eq_true (by assumption) | exact decide_eq_false (by assumption) | decide | (simp; done) | (simp; omega) | (simp [*]; done)) (Run.bin rfl rfl (Bin.leqN _ 90)) rfl ?_
      refine Ops.r (Run.pickT rfl rfl (by first | rfl | assumption | exact decide_eq_true (by assumption) | exact decide_eq_false (by assumption) | decide | (simp; done) | (simp; omega) | (simp [*]; done))) rfl ?_
      refine Ops.nil ?_
      refine thenQ_n ⟨(.cons (by rw [dand1 hs0]; rfl) (.cons rfl .nil)), rfl⟩
    · skip
      refine VC.region ?_
      refine Ops.r (Run.mv rfl) rfl ?_
      refine Ops.r (Run.bin rfl rfl (Bin.leqN 65 _)) rfl ?_
      refine Ops.r (Run.mv rfl) rfl ?_
      refine Ops.sk rfl (by first | rfl | assumption | exact decide_eq_true (by assumption) | exact decide_eq_false (by assumption) | decide | (simp; done) | (simp; omega) | (simp [*]; done)) rfl ?_
      refine Ops.sk rfl (by first | rfl | assumption | exact decide_eq_true (by assumption) | exact decide_eq_false (by assumption) | decide | (simp; done) | (simp; omega) | (simp [*]; done)) rfl ?_
      refine Ops.r (Run.pickF rfl rfl (by first | rfl | assumption | exact decide_eq_true (by assumption) | exact decide_eq_false (by assumption) | decide | (simp; done) | (simp; omega) | (simp [*]; done))) rfl ?_
      refine Ops.nil ?_
      refine thenQ_n ⟨(.cons (by rw [dand0 hs0]; rfl) (.cons rfl .nil)), rfl⟩
  · intro Γ hΓ
    refine thenQ_n (VC.sub _ hΓ ?_)
    refine VC.condD rfl (fun hc1 => ?_) (fun hc1 => ?_)
    · skip
      refine VC.seq ?_
      refine VC.region ?_
      refine Ops.r (Run.mv rfl) rfl ?_
      refine Ops.r (Run.bin rfl rfl (Bin.add_u8 _ 32 (by omega))) rfl ?_
      refine Ops.r (Run.asg rfl) rfl ?_
      refine Ops.nil ?_
      refine thenQ_n ?_
      refine VC.sub [(2, _)] (.cons rfl .nil) ?_
      refine VC.ret ?_
      refine thenQ_r (end1 rfl ?_)
      exact ⟨by rw [low_nat, if_pos hc1], rfl⟩
    · skip
      refine VC.skip ?_
      refine thenQ_n ?_
      refine VC.sub [(0, _)] (.cons rfl .nil) ?_
      refine VC.seq ?_
      refine VC.region ?_
      refine Ops.r (Run.mv rfl) rfl ?_
      refine Ops.r (Run.asg rfl) rfl ?_
      refine Ops.nil ?_
      refine thenQ_n ?_
      refine VC.sub [(2, _)] (.cons rfl .nil) ?_
      refine VC.ret ?_
      refine end1 rfl ?_
      exact ⟨by rw [low_nat, if_neg hc1], rfl⟩

set_option maxRecDepth 100000 in
theorem alike_spec (a b : Tx) (w : World) (ha : a.length ≤ 1000000) (hb : b.length ≤ 1000000) : Calls Try.prog 60 #[encStr a, encStr b] w fun e w' => e = .returned (.bool (decide (smallS a = smallS b))) ∧ Drawn w w' := by
  refine VC.calls (nt := 26) (res := #[.tmp 4]) Try.func60 rfl Try.ntmps60 Try.results60 rfl ?_
  refine VC.seq ?_
  refine VC.region ?_
  refine Ops.r (Run.asg rfl) rfl ?_
  refine Ops.nil ?_
  refine thenQ_n ?_
  refine VC.sub [(0, _), (1, _)] (.cons rfl (.cons rfl .nil)) ?_
  refine VC.seq ?_
  refine VC.seq ?_
  refine VC.region ?_
  refine Ops.r (Run.mv rfl) rfl ?_
  refine Ops.r (Run.lenT rfl Try.underlying9) rfl ?_
  refine Ops.r (Run.mv rfl) rfl ?_
  refine Ops.r (Run.lenT rfl Try.underlying9) rfl ?_
  refine Ops.r (Run.bin rfl rfl (Bin.neqN _ _)) rfl ?_
  refine Ops.nil ?_
  refine thenQ_n ?_
  refine VC.sub [(0, _), (1, _), (10, _)] (.cons rfl (.cons rfl (.cons rfl .nil))) ?_
  refine VC.condD rfl (fun hc1 => ?_) (fun hc1 => ?_)
  · skip
    have hne : ¬ smallS a = smallS b := fun h => hc1 (by have := congrArg List.length h; simpa [smallS_len] using this)
    refine VC.seq ?_
    refine VC.region ?_
    refine Ops.r (Run.asg rfl) rfl ?_
    refine Ops.nil ?_
    refine thenQ_n ?_
    refine VC.sub [(4, _)] (.cons rfl .nil) ?_
    refine VC.ret ?_
    refine thenQ_r (end1 rfl ?_)
    exact ⟨by simp [hne], Drawn.refl _⟩
  · skip
    have hll : a.length = b.length := Classical.not_not.1 hc1
    refine VC.skip ?_
    refine thenQ_n ?_
    refine VC.sub [(0, _), (1, _)] (.cons rfl (.cons rfl .nil)) ?_
    refine VC.seq ?_
    refine VC.seq ?_
    refine VC.region ?_
    refine Ops.r (v := .int .i64 ((0 : Nat) : Int)) (Run.asg rfl) rfl ?_
    refine Ops.nil ?_
    refine thenQ_n ?_
    refine VC.block ?_
    refine VC.loop (σ := Nat) (fun s => [(0, encStr a), (1, encStr b), (5, .int .i64 ((s : Nat) : Int))]) (fun s wr => s ≤ a.length ∧ smallS (a.take s) = smallS (b.take s) ∧ Drawn w wr) (fun s => a.length - s) 0 (.cons rfl (.cons rfl (.cons rfl .nil))) ⟨by omega, rfl, Drawn.refl _⟩ ?_
    rintro i wr ⟨hi, htk, hd⟩
    refine VC.seq ?_
    refine VC.seq ?_
    refine VC.region ?_
    refine Ops.r (Run.mv rfl) rfl ?_
    refine Ops.r (Run.mv rfl) rfl ?_
    refine Ops.r (Run.lenT rfl Try.underlying9) rfl ?_
    refine Ops.r (Run.bin rfl rfl (Bin.lssN _ _)) rfl ?_
    refine Ops.nil ?_
    refine thenQ_n ?_
    refine VC.sub [(0, _), (1, _), (5, _), (14, _)] (.cons rfl (.cons rfl (.cons rfl (.cons rfl .nil)))) ?_
    refine VC.condD rfl (fun hc2 => ?_) (fun hc2 => ?_)
    · skip
      have hib : i < b.length := by omega
      have hta : a.take (i + 1) = a.take i ++ [a[i]] := take_snoc hc2
      have htb : b.take (i + 1) = b.take i ++ [b[i]] := take_snoc hib
      have hab : smallS a = smallS b → low a[i] = low b[i] := fun h => by
        have h1 : (smallS a)[i]? = (smallS b)[i]? := by rw [h]
        simpa [smallS, List.getElem?_eq_getElem, hc2, hib] using h1
      have hga : a[i]? = some a[i] := List.getElem?_eq_getElem hc2
      have hgb : b[i]? = some b[i] := List.getElem?_eq_getElem hib
      generalize a[i] = x at *
      generalize b[i] = y at *
      refine VC.skip ?_
      refine thenQ_n ?_
      refine VC.sub [(0, _), (1, _), (5, _)] (.cons rfl (.cons rfl (.cons rfl .nil))) ?_
      refine VC.seq ?_
      refine VC.block ?_
      refine VC.seq ?_
      refine VC.still (by kernel_rfl) (by kernel_rfl) ?_
      refine SOps.r (Run.mv rfl) rfl ?_
      refine SOps.r (Run.mv rfl) rfl ?_
      refine SOps.r (Run.indexT _ rfl rfl Try.underlying9 hga) rfl ?_
      refine SOps.call (Enters.fn (evs.cons rfl evs.nil) Try.call79) (rsmall_spec x _) trivial rfl rfl ?_
      refine SOps.r (Run.mv rfl) rfl ?_
      refine SOps.r (Run.mv rfl) rfl ?_
      refine SOps.r (Run.indexT _ rfl rfl Try.underlying9 hgb) rfl ?_
      refine SOps.call (Enters.fn (evs.cons rfl evs.nil) Try.call79) (rsmall_spec y _) trivial rfl rfl ?_
      refine SOps.r (Run.bin rfl rfl (Bin.neqN _ _)) rfl ?_
      refine SOps.nil ?_
      refine thenQ_n ?_
      refine VC.sub [(0, _), (1, _), (5, _), (25, _)] (.cons rfl (.cons rfl (.cons rfl (.cons rfl .nil)))) ?_
      refine VC.condD rfl (fun hc3 => ?_) (fun hc3 => ?_)
      · skip
        have hne : ¬ smallS a = smallS b := fun h => hc3 (by rw [hab h])
        refine VC.seq ?_
        refine VC.region ?_
        refine Ops.r (Run.asg rfl) rfl ?_
        refine Ops.nil ?_
        refine thenQ_n ?_
        refine VC.sub [(4, _)] (.cons rfl .nil) ?_
        refine VC.ret ?_
        refine blockQ_r (thenQ_r (thenQ_r (blockQ_r (thenQ_r (end1 rfl ?_)))))
        exact ⟨by simp [hne], hd.trans (Drawn.drew _)⟩
      · skip
        have hxy : low x = low y := UInt8.toNat_inj.1 (Classical.not_not.1 hc3)
        refine VC.skip ?_
        refine blockQ_n (thenQ_n ?_)
        refine VC.sub [(0, _), (1, _), (5, _)] (.cons rfl (.cons rfl (.cons rfl .nil))) ?_
        refine VC.region ?_
        refine Ops.r (Run.mv rfl) rfl ?_
        refine Ops.r (Run.bin rfl rfl (Bin.add_i64 _ 1 (by omega))) rfl ?_
        refine Ops.r (Run.asg rfl) rfl ?_
        refine Ops.nil ?_
        refine thenQ_n ⟨(i + 1), (.cons rfl (.cons rfl (.cons rfl .nil))), ?_, ?_⟩
        · skip
          refine ⟨hc2, ?_, hd.trans (Drawn.drew _)⟩
          rw [hta, htb]
          show (_ ++ _ : Tx).map low = (_ ++ _ : Tx).map low
          rw [List.map_append, List.map_append]
          show smallS _ ++ [low x] = smallS _ ++ [low y]
          rw [htk, hxy]
        · skip
          first | omega | (dsimp only; omega)
    · skip
      have heq : smallS a = smallS b := by
        have hil : i = a.length := by omega
        subst hil
        rw [List.take_length, hll, List.take_length] at htk
        exact htk
      refine VC.exit ?_
      refine thenQ_x (thenQ_x (blockQ_x ?_))
      refine thenQ_n ?_
      refine VC.sub [] .nil ?_
      refine VC.seq ?_
      refine VC.region ?_
      refine Ops.r (Run.asg rfl) rfl ?_
      refine Ops.nil ?_
      refine thenQ_n ?_
      refine VC.ret ?_
      refine end1 rfl ?_
      exact ⟨by simp [heq], hd⟩

theorem low92 {c : UInt8} (h : low c = 92) : c = 92 := by
  have h1 := congrArg UInt8.toNat h
  rw [low_nat] at h1
  apply UInt8.toNat_inj.1
  have e : (92 : UInt8).toNat = 92 := rfl
  rw [e] at h1 ⊢
  split at h1 <;> omega
theorem alike_slash {q f : Tx} (hf : f ∈ fiveL) (h : smallS f = smallS q) : ([92] : Tx).isPrefixOf q = true := by
  have h0 : (smallS f)[0]? = some 92 := by
    have key : ∀ f ∈ fiveL, (smallS f)[0]? = some 92 := by decide
    exact key f hf
  rw [h] at h0
  cases q with
  | nil => cases h0
  | cons c r =>
    simp only [smallS, List.map_cons, List.getElem?_cons_zero, Option.some.injEq] at h0
    rw [low92 h0]
    simp [List.isPrefixOf]
theorem told_five {q : Tx} {i : Nat} (hi : i < fiveL.length) (hn : ∀ f ∈ fiveL.take i, smallS q ≠ smallS f) (h : smallS q = smallS fiveL[i]) : toldV q = (fiveL[i], 0) := by
  unfold toldV toldF
  rw [if_pos (alike_slash (List.getElem_mem hi) h.symm), find_at hi (fun f hf e => hn f hf e.symm) h.symm]
theorem told_bad {q : Tx} (hn : ∀ f ∈ fiveL, smallS q ≠ smallS f) {c : UInt8} (hc : c ∈ q) (hs : ¬ SignN (low c).toNat) : toldV q = ([], 18) := by
  unfold toldV toldF
  split
  · rename_i h
    split at h
    · rw [List.find?_eq_none.2 (fun f hf => by simpa using fun e => hn f hf e.symm)] at h; cases h
    · rw [if_pos (.inr (.inr ⟨low c, List.mem_map.2 ⟨c, hc, rfl⟩, hs⟩))] at h; cases h
  · rfl
theorem told_noslash {q : Tx} (hs : ∀ c ∈ q, SignN (low c).toNat) : ¬ ([92] : Tx).isPrefixOf q = true := by
  intro h
  cases q with
  | nil => simp at h
  | cons c r =>
    simp [List.isPrefixOf] at h
    have := hs c (by simp)
    rw [← h] at this
    exact absurd this (by decide)
theorem told_long {q : Tx} (hs : ∀ c ∈ q, SignN (low c).toNat) (hl : 20 < q.length) : toldV q = ([], 18) := by
  unfold toldV toldF
  rw [if_neg (told_noslash hs), if_pos (.inr (.inl hl))]
theorem told_word {q : Tx} (hs : ∀ c ∈ q, SignN (low c).toNat) (hl : ¬ 20 < q.length) : (toldV q).1 = smallS q := by
  unfold toldV toldF
  rw [if_neg (told_noslash hs)]
  by_cases h : smallS q = []
  · rw [if_pos (.inl h), h]
  · rw [if_neg]
    rintro (h1 | h1 | ⟨c, hc, h1⟩)
    · exact h h1
    · exact hl h1
    · obtain ⟨d, hd, rfl⟩ := List.mem_map.1 hc
      exact h1 (hs d hd)

set_option maxRecDepth 100000 in
theorem rtold_spec (q : Tx) (w : World) (hq : q.length ≤ 1000000) : Calls Try.prog 43 #[encStr q] w fun e w' => e = .returned (encStr (toldV q).1) ∧ Frm [] w w' := by
  refine VC.calls (nt := 80) (res := #[.tmp 2]) Try.func43 rfl Try.ntmps43 Try.results43 rfl ?_
  refine VC.seq ?_
  refine VC.region ?_
  refine Ops.r (Run.asg rfl) rfl ?_
  refine Ops.nil ?_
  refine thenQ_n ?_
  refine VC.sub [(0, _)] (.cons rfl .nil) ?_
  refine VC.seq ?_
  refine VC.region ?_
  refine Ops.m (Does.buildN (cells := (SB fiveL).toArray) (evs.cons rfl (evs.cons rfl (evs.cons rfl (evs.cons rfl (evs.cons rfl evs.nil))))) Try.underlying43 Try.sizeOf9 zero9 rfl rfl (by kernel_rfl)) rfl ?_
  rintro _ w1 ⟨rfl, hF1⟩
  have hr1 : Rd w1 1 (some ⟨w.heap.size, 0, none⟩) fiveL.length (SB fiveL) := Rd.of_blk (n := 5) (size := 1) hF1.blk rfl
  have hf1 := hF1.frm
  generalize w.heap.size = g1 at *
  refine Ops.r (Run.asg rfl) rfl ?_
  refine Ops.nil ?_
  refine thenQ_n ?_
  refine VC.sub [(0, _), (3, _)] (.cons rfl (.cons rfl .nil)) ?_
  refine VC.seq ?_
  refine VC.seq ?_
  refine VC.region ?_
  refine Ops.r (v := .int .i64 ((0 : Nat) : Int)) (Run.asg rfl) rfl ?_
  refine Ops.nil ?_
  refine thenQ_n ?_
  refine VC.block ?_
  refine VC.loop (σ := Nat) (fun s => [(0, encStr q), (3, .slice (some ⟨g1, 0, none⟩) 5 5), (4, .int .i64 ((s : Nat) : Int))]) (fun s wr => s ≤ 5 ∧ Frm [] w1 wr ∧ ∀ f ∈ fiveL.take s, smallS q ≠ smallS f) (fun s => 5 - s) 0 (.cons rfl (.cons rfl (.cons rfl .nil))) ⟨by omega, Frm.refl _ _, by simp⟩ ?_
  rintro i wr ⟨hi, hfr, hn⟩
  refine VC.seq ?_
  refine VC.seq ?_
  refine VC.region ?_
  refine Ops.r (Run.mv rfl) rfl ?_
  refine Ops.r (Run.bin rfl rfl (Bin.lssN _ 5)) rfl ?_
  refine Ops.nil ?_
  refine thenQ_n ?_
  refine VC.sub [(0, _), (3, _), (4, _), (10, _)] (.cons rfl (.cons rfl (.cons rfl (.cons rfl .nil)))) ?_
  refine VC.condD rfl (fun hc1 => ?_) (fun hc1 => ?_)
  · skip
    have hi5 : i < fiveL.length := hc1
    obtain ⟨ad, hA, hcell⟩ := SB_at (hr1.frm hfr (by simp)) hi5
    cases hA
    refine VC.skip ?_
    refine thenQ_n ?_
    refine VC.sub [(0, _), (3, _), (4, _)] (.cons rfl (.cons rfl (.cons rfl .nil))) ?_
    refine VC.seq ?_
    refine VC.block ?_
    refine VC.seq ?_
    refine VC.region ?_
    refine Ops.r (Run.mv rfl) rfl ?_
    refine Ops.r (Run.mv rfl) rfl ?_
    refine Ops.r (Run.mv rfl) rfl ?_
    refine Ops.r (Run.index1 i rfl rfl Try.underlying43 Try.sizeOf9 hc1) rfl ?_
    refine Ops.r (Run.load rfl Try.isAgg9 hcell) rfl ?_
    refine Ops.cl (Enters.fn (evs.cons rfl (evs.cons rfl evs.nil)) Try.call60) (alike_spec q fiveL[i] _ hq (by have := toldF_len (toldF_five _ (List.getElem_mem hi5)); omega)) rfl ?_
    rintro e w2 ⟨rfl, hd2⟩
    refine ⟨_, rfl, ?_⟩
    have hfr2 := hfr.drawn hd2
    refine Ops.nil ?_
    refine thenQ_n ?_
    refine VC.sub [(0, _), (3, _), (4, _), (18, _)] (.cons rfl (.cons rfl (.cons rfl (.cons rfl .nil)))) ?_
    refine VC.condB rfl (fun hc2 => ?_) (fun hc2 => ?_)
    · skip
      obtain ⟨ad2, hA2, hcell2⟩ := SB_at (hr1.frm hfr2 (by simp)) hi5
      cases hA2
      refine VC.seq ?_
      refine VC.region ?_
      refine Ops.r (Run.mv rfl) rfl ?_
      refine Ops.r (Run.mv rfl) rfl ?_
      refine Ops.r (Run.index1 i rfl rfl Try.underlying43 Try.sizeOf9 hc1) rfl ?_
      refine Ops.r (Run.load rfl Try.isAgg9 hcell2) rfl ?_
      refine Ops.r (Run.asg rfl) rfl ?_
      refine Ops.nil ?_
      refine thenQ_n ?_
      refine VC.sub [(2, _)] (.cons rfl .nil) ?_
      refine VC.ret ?_
      refine blockQ_r (thenQ_r (thenQ_r (blockQ_r (thenQ_r (end1 rfl ?_)))))
      exact ⟨by rw [told_five hi5 hn (of_decide_eq_true hc2)], hf1.trans hfr2 (by simp)⟩
    · skip
      refine VC.skip ?_
      refine blockQ_n (thenQ_n ?_)
      refine VC.sub [(0, _), (3, _), (4, _)] (.cons rfl (.cons rfl (.cons rfl .nil))) ?_
      refine VC.region ?_
      refine Ops.r (Run.mv rfl) rfl ?_
      refine Ops.r (Run.bin rfl rfl (Bin.add_i64 _ 1 (by omega))) rfl ?_
      refine Ops.r (Run.asg rfl) rfl ?_
      refine Ops.nil ?_
      refine thenQ_n ⟨(i + 1), (.cons rfl (.cons rfl (.cons rfl .nil))), ?_, ?_⟩
      · skip
        refine ⟨hc1, hfr2, fun f hf => ?_⟩
        rw [take_snoc hi5] at hf
        rcases List.mem_append.1 hf with h | h
        · exact hn f h
        · simp only [List.mem_singleton] at h
          rw [h]; exact of_decide_eq_false (by simpa using hc2)
      · skip
        first | omega | (dsimp only; omega)
  · skip
    refine VC.exit ?_
    refine thenQ_x (thenQ_x (blockQ_x ?_))
    refine thenQ_n ?_
    refine VC.sub [(0, _)] (.cons rfl .nil) ?_
    refine VC.seq ?_
    refine VC.region ?_
    refine Ops.r (Run.asg rfl) rfl ?_
    refine Ops.nil ?_
    refine thenQ_n ?_
    refine VC.seq ?_
    refine VC.seq ?_
    refine VC.region ?_
    refine Ops.r (v := .int .i64 ((0 : Nat) : Int)) (Run.asg rfl) rfl ?_
    refine Ops.nil ?_
    refine thenQ_n ?_
    refine VC.block ?_
    have hn5 : ∀ f ∈ fiveL, smallS q ≠ smallS f := by
      have him : i = 5 := by omega
      subst him
      exact hn
    refine VC.loop (σ := Nat) (fun s => [(0, encStr q), (5, encStr (smallS (q.take s))), (6, .int .i64 ((s : Nat) : Int))]) (fun s wr => s ≤ q.length ∧ Frm [] w wr ∧ ∀ c ∈ q.take s, SignN (low c).toNat) (fun s => q.length - s) 0 (.cons rfl (.cons rfl (.cons rfl .nil))) ⟨by omega, hf1.trans hfr (by simp), by simp⟩ ?_
    rintro j wr ⟨hj, hfr, hsg⟩
    refine VC.seq ?_
    refine VC.seq ?_
    refine VC.region ?_
    refine Ops.r (Run.mv rfl) rfl ?_
    refine Ops.r (Run.mv rfl) rfl ?_
    refine Ops.r (Run.lenT rfl Try.underlying9) rfl ?_
    refine Ops.r (Run.bin rfl rfl (Bin.lssN _ _)) rfl ?_
    refine Ops.nil ?_
    refine thenQ_n ?_
    refine VC.sub [(0, _), (5, _), (6, _), (26, _)] (.cons rfl (.cons rfl (.cons rfl (.cons rfl .nil)))) ?_
    refine VC.condD rfl (fun hc3 => ?_) (fun hc3 => ?_)
    · skip
      have hgq : q[j]? = some q[j] := List.getElem?_eq_getElem hc3
      have htq : q.take (j + 1) = q.take j ++ [q[j]] := take_snoc hc3
      have hmq : q[j] ∈ q := List.getElem_mem hc3
      generalize q[j] = c at *
      refine VC.skip ?_
      refine thenQ_n ?_
      refine VC.sub [(0, _), (5, _), (6, _)] (.cons rfl (.cons rfl (.cons rfl .nil))) ?_
      refine VC.seq ?_
      refine VC.block ?_
      refine VC.seq ?_
      refine VC.region ?_
      refine Ops.r (Run.mv rfl) rfl ?_
      refine Ops.r (Run.mv rfl) rfl ?_
      refine Ops.r (Run.indexT _ rfl rfl Try.underlying9 hgq) rfl ?_
      refine Ops.r (Run.asg rfl) rfl ?_
      refine Ops.nil ?_
      refine thenQ_n ?_
      refine VC.sub [(0, _), (5, _), (6, _), (7, _)] (.cons rfl (.cons rfl (.cons rfl (.cons rfl .nil)))) ?_
      refine VC.seq ?_
      refine VC.seq ?_
      refine VC.split1 [(0, _), (5, _), (6, _), (7, _)] (.cons rfl (.cons rfl (.cons rfl (.cons rfl .nil)))) 37 (.bool (decide ((65 ≤ c.toNat) ∧ (c.toNat ≤ 90)))) ?_ ?_
      · by_cases hs0 : 65 ≤ c.toNat
        · skip
          refine VC.region ?_
          refine Ops.r (Run.mv rfl) rfl ?_
          refine Ops.r (Run.bin rfl rfl (Bin.leqN 65 _)) rfl ?_
          refine Ops.r (Run.mv rfl) rfl ?_
          refine Ops.rg rfl (by first | rfl | assumption | exact decide_eq_true (by assumption) | exact decide_eq_false (by assumption) | decide | (simp; done) | (simp; omega) | (simp [*]; done)) (Run.mv rfl) rfl ?_
          refine Ops.rg rfl (by first | rfl | assumption | exact decide_eq_true (by assumption) | exact decide_eq_false (by assumption) | decide | (simp; done) | (simp; omega) | (simp [*]; done)) (Run.bin rfl rfl (Bin.leqN _ 90)) rfl ?_
          refine Ops.r (Run.pickT rfl rfl (by first | rfl | assumption | exact decide_eq_true (by assumption) | exact decide_eq_false (by assumption) | decide | (simp; done) | (simp; omega) | (simp [*]; done))) rfl ?_
          refine Ops.nil ?_
          refine thenQ_n ⟨(.cons (by rw [dand1 hs0]; rfl) (.cons rfl (.cons rfl (.cons rfl (.cons rfl .nil))))), rfl⟩
        · skip
          refine VC.region ?_
          refine Ops.r (Run.mv rfl) rfl ?_
          refine Ops.r (Run.bin rfl rfl (Bin.leqN 65 _)) rfl ?_
          refine Ops.r (Run.mv rfl) rfl ?_
          refine Ops.sk rfl (by first | rfl | assumption | exact decide_eq_true (by assumption) | exact decide_eq_false (by assumption) | decide | (simp; done) | (simp; omega) | (simp [*]; done)) rfl ?_
          refine Ops.sk rfl (by first | rfl | assumption | exact decide_eq_true (by assumption) | exact decide_eq_false (by assumption) | decide | (simp; done) | (simp; omega) | (simp [*]; done)) rfl ?_
          refine Ops.r (Run.pickF rfl rfl (by first | rfl | assumption | exact decide_eq_true (by assumption) | exact decide_eq_false (by assumption) | decide | (simp; done) | (simp; omega) | (simp [*]; done))) rfl ?_
          refine Ops.nil ?_
          refine thenQ_n ⟨(.cons (by rw [dand0 hs0]; rfl) (.cons rfl (.cons rfl (.cons rfl (.cons rfl .nil))))), rfl⟩
      · intro Γ hΓ
        refine thenQ_n (VC.sub _ hΓ ?_)
        refine VC.meet (σ := Unit) (fun s => [(0, encStr q), (5, encStr (smallS (q.take j))), (6, .int .i64 ((j : Nat) : Int)), (7, .int .u8 (((low c).toNat : Nat) : Int))]) (fun s wm => wr = wm) ?_ ?_
        · skip
          refine VC.condD rfl (fun hc4 => ?_) (fun hc4 => ?_)
          · skip
            refine VC.region ?_
            refine Ops.r (Run.mv rfl) rfl ?_
            refine Ops.r (Run.bin rfl rfl (Bin.add_u8 _ 32 (by omega))) rfl ?_
            refine Ops.r (Run.asg rfl) rfl ?_
            refine Ops.nil ?_
            refine thenQ_n ⟨(), (.cons rfl (.cons rfl (.cons rfl (.cons (by rw [low_nat, if_pos hc4]; rfl) .nil)))), ?_⟩
            rfl
          · skip
            refine VC.skip ?_
            refine thenQ_n ⟨(), (.cons rfl (.cons rfl (.cons rfl (.cons (by rw [low_nat, if_neg hc4]; rfl) .nil)))), ?_⟩
            rfl
        · skip
          rintro _ _ rfl Γ hΓ
          refine thenQ_n (VC.sub _ hΓ ?_)
          refine VC.seq ?_
          refine VC.seq ?_
          refine VC.split1 [(0, _), (5, _), (6, _), (7, _)] (.cons rfl (.cons rfl (.cons rfl (.cons rfl .nil)))) 70 (.bool (decide (¬ SignN (low c).toNat))) ?_ ?_
          · refine VC.region ?_
            refine Ops.r (Run.mv rfl) rfl ?_
            refine Ops.r (Run.bin rfl rfl (Bin.leqN 97 _)) rfl ?_
            by_cases hs41 : 97 ≤ (low c).toNat
            · skip
              refine Ops.r (Run.mv rfl) rfl ?_
              refine Ops.rg rfl (by first | rfl | assumption | exact decide_eq_true (by assumption) | exact decide_eq_false (by assumption) | decide | (simp; done) | (simp; omega) | (simp [*]; done)) (Run.mv rfl) rfl ?_
              refine Ops.rg rfl (by first | rfl | assumption | exact decide_eq_true (by assumption) | exact decide_eq_false (by assumption) | decide | (simp; done) | (simp; omega) | (simp [*]; done)) (Run.bin rfl rfl (Bin.leqN _ 122)) rfl ?_
              by_cases hs44 : (low c).toNat ≤ 122
              · skip
                refine Ops.r (Run.pickT rfl rfl (by first | rfl | assumption | exact decide_eq_true (by assumption) | exact decide_eq_false (by assumption) | decide | (simp; done) | (simp; omega) | (simp [*]; done))) rfl ?_
                refine Ops.r (Run.mv rfl) rfl ?_
                refine Ops.sk rfl (by first | rfl | assumption | exact decide_eq_true (by assumption) | exact decide_eq_false (by assumption) | decide | (simp; done) | (simp; omega) | (simp [*]; done)) rfl ?_
                refine Ops.sk rfl (by first | rfl | assumption | exact decide_eq_true (by assumption) | exact decide_eq_false (by assumption) | decide | (simp; done) | (simp; omega) | (simp [*]; done)) rfl ?_
                refine Ops.sk rfl (by first | rfl | assumption | exact decide_eq_true (by assumption) | exact decide_eq_false (by assumption) | decide | (simp; done) | (simp; omega) | (simp [*]; done)) rfl ?_
                refine Ops.skU rfl rfl ?_
                refine Ops.skU rfl rfl ?_
                refine Ops.sk rfl (by first | rfl | assumption | exact decide_eq_true (by assumption) | exact decide_eq_false (by assumption) | decide | (simp; done) | (simp; omega) | (simp [*]; done)) rfl ?_
                refine Ops.r (Run.pickT rfl rfl (by first | rfl | assumption | exact decide_eq_true (by assumption) | exact decide_eq_false (by assumption) | decide | (simp; done) | (simp; omega) | (simp [*]; done))) rfl ?_
                refine Ops.r (Run.mv rfl) rfl ?_
                refine Ops.sk rfl (by first | rfl | assumption | exact decide_eq_true (by assumption) | exact decide_eq_false (by assumption) | decide | (simp; done) | (simp; omega) | (simp [*]; done)) rfl ?_
                refine Ops.sk rfl (by first | rfl | assumption | exact decide_eq_true (by assumption) | exact decide_eq_false (by assumption) | decide | (simp; done) | (simp; omega) | (simp [*]; done)) rfl ?_
                refine Ops.r (Run.pickT rfl rfl (by first | rfl | assumption | exact decide_eq_true (by assumption) | exact decide_eq_false (by assumption) | decide | (simp; done) | (simp; omega) | (simp [*]; done))) rfl ?_
                refine Ops.r (Run.mv rfl) rfl ?_
                refine Ops.sk rfl (by first | rfl | assumption | exact decide_eq_true (by assumption) | exact decide_eq_false (by assumption) | decide | (simp; done) | (simp; omega) | (simp [*]; done)) rfl ?_
                refine Ops.sk rfl (by first | rfl | assumption | exact decide_eq_true (by assumption) | exact decide_eq_false (by assumption) | decide | (simp; done) | (simp; omega) | (simp [*]; done)) rfl ?_
                refine Ops.r (Run.pickT rfl rfl (by first | rfl | assumption | exact decide_eq_true (by assumption) | exact decide_eq_false (by assumption) | decide | (simp; done) | (simp; omega) | (simp [*]; done))) rfl ?_
                refine Ops.r (Run.mv rfl) rfl ?_
                refine Ops.sk rfl (by first | rfl | assumption | exact decide_eq_true (by assumption) | exact decide_eq_false (by assumption) | decide | (simp; done) | (simp; omega) | (simp [*]; done)) rfl ?_
                refine Ops.sk rfl (by first | rfl | assumption | exact decide_eq_true (by assumption) | exact decide_eq_false (by assumption) | decide | (simp; done) | (simp; omega) | (simp [*]; done)) rfl ?_
                refine Ops.r (Run.pickT rfl rfl (by first | rfl | assumption | exact decide_eq_true (by assumption) | exact decide_eq_false (by assumption) | decide | (simp; done) | (simp; omega) | (simp [*]; done))) rfl ?_
                refine Ops.r (Run.mv rfl) rfl ?_
                refine Ops.sk rfl (by first | rfl | assumption | exact decide_eq_true (by assumption) | exact decide_eq_false (by assumption) | decide | (simp; done) | (simp; omega) | (simp [*]; done)) rfl ?_
                refine Ops.sk rfl (by first | rfl | assumption | exact decide_eq_true (by assumption) | exact decide_eq_false (by assumption) | decide | (simp; done) | (simp; omega) | (simp [*]; done)) rfl ?_
                refine Ops.r (Run.pickT rfl rfl (by first | rfl | assumption | exact decide_eq_true (by assumption) | exact decide_eq_false (by assumption) | decide | (simp; done) | (simp; omega) | (simp [*]; done))) rfl ?_
                refine Ops.r (Run.not rfl) rfl ?_
                refine Ops.nil ?_
                refine thenQ_n ⟨(.cons (congrArg (fun b => some (Value.bool b)) (Eq.symm (by unfold SignN; grind))) (.cons rfl (.cons rfl (.cons rfl (.cons rfl .nil))))), rfl⟩
              · skip
                refine Ops.r (Run.pickT rfl rfl (by first | rfl | assumption | exact decide_eq_true (by assumption) | exact decide_eq_false (by assumption) | decide | (simp; done) | (simp; omega) | (simp [*]; done))) rfl ?_
                refine Ops.r (Run.mv rfl) rfl ?_
                refine Ops.rg rfl (by first | rfl | assumption | exact decide_eq_true (by assumption) | exact decide_eq_false (by assumption) | decide | (simp; done) | (simp; omega) | (simp [*]; done)) (Run.mv rfl) rfl ?_
                refine Ops.rg rfl (by first | rfl | assumption | exact decide_eq_true (by assumption) | exact decide_eq_false (by assumption) | decide | (simp; done) | (simp; omega) | (simp [*]; done)) (Run.bin rfl rfl (Bin.leqN 48 _)) rfl ?_
                by_cases hs48 : 48 ≤ (low c).toNat
                · skip
                  refine Ops.rg rfl (by first | rfl | assumption | exact decide_eq_true (by assumption) | exact decide_eq_false (by assumption) | decide | (simp; done) | (simp; omega) | (simp [*]; done)) (Run.mv rfl) rfl ?_
                  refine Ops.rg rfl (by first | rfl | assumption | exact decide_eq_true (by assumption) | exact decide_eq_false (by assumption) | decide | (simp; done) | (simp; omega) | (simp [*]; done)) (Run.mv rfl) rfl ?_
                  refine Ops.rg rfl (by first | rfl | assumption | exact decide_eq_true (by assumption) | exact decide_eq_false (by assumption) | decide | (simp; done) | (simp; omega) | (simp [*]; done)) (Run.bin rfl rfl (Bin.leqN _ 57)) rfl ?_
                  by_cases hs51 : (low c).toNat ≤ 57
                  · skip
                    refine Ops.rg rfl (by first | rfl | assumption | exact decide_eq_true (by assumption) | exact decide_eq_false (by assumption) | decide | (simp; done) | (simp; omega) | (simp [*]; done)) (Run.pickT rfl rfl (by first | rfl | assumption | exact decide_eq_true (by assumption) | exact decide_eq_false (by assumption) | decide | (simp; done) | (simp; omega) | (simp [*]; done))) rfl ?_
                    refine Ops.r (Run.pickF rfl rfl (by first | rfl | assumption | exact decide_eq_true (by assumption) | exact decide_eq_false (by assumption) | decide | (simp; done) | (simp; omega) | (simp [*]; done))) rfl ?_
                    refine Ops.r (Run.mv rfl) rfl ?_
                    refine Ops.sk rfl (by first | rfl | assumption | exact decide_eq_true (by assumption) | exact decide_eq_false (by assumption) | decide | (simp; done) | (simp; omega) | (simp [*]; done)) rfl ?_
                    refine Ops.sk rfl (by first | rfl | assumption | exact decide_eq_true (by assumption) | exact decide_eq_false (by assumption) | decide | (simp; done) | (simp; omega) | (simp [*]; done)) rfl ?_
                    refine Ops.r (Run.pickT rfl rfl (by first | rfl | assumption | exact decide_eq_true (by assumption) | exact decide_eq_false (by assumption) | decide | (simp; done) | (simp; omega) | (simp [*]; done))) rfl ?_
                    refine Ops.r (Run.mv rfl) rfl ?_
                    refine Ops.sk rfl (by first | rfl | assumption | exact decide_eq_true (by assumption) | exact decide_eq_false (by assumption) | decide | (simp; done) | (simp; omega) | (simp [*]; done)) rfl ?_
                    refine Ops.sk rfl (by first | rfl | assumption | exact decide_eq_true (by assumption) | exact decide_eq_false (by assumption) | decide | (simp; done) | (simp; omega) | (simp [*]; done)) rfl ?_
                    refine Ops.r (Run.pickT rfl rfl (by first | rfl | assumption | exact decide_eq_true (by assumption) | exact decide_eq_false (by assumption) | decide | (simp; done) | (simp; omega) | (simp [*]; done))) rfl ?_
                    refine Ops.r (Run.mv rfl) rfl ?_
                    refine Ops.sk rfl (by first | rfl | assumption | exact decide_eq_true (by assumption) | exact decide_eq_false (by assumption) | decide | (simp; done) | (simp; omega) | (simp [*]; done)) rfl ?_
                    refine Ops.sk rfl (by first | rfl | assumption | exact decide_eq_true (by assumption) | exact decide_eq_false (by assumption) | decide | (simp; done) | (simp; omega) | (simp [*]; done)) rfl ?_
                    refine Ops.r (Run.pickT rfl rfl (by first | rfl | assumption | exact decide_eq_true (by assumption) | exact decide_eq_false (by assumption) | decide | (simp; done) | (simp; omega) | (simp [*]; done))) rfl ?_
                    refine Ops.r (Run.mv rfl) rfl ?_
                    refine Ops.sk rfl (by first | rfl | assumption | exact decide_eq_true (by assumption) | exact decide_eq_false (by assumption) | decide | (simp; done) | (simp; omega) | (simp [*]; done)) rfl ?_
                    refine Ops.sk rfl (by first | rfl | assumption | exact decide_eq_true (by assumption) | exact decide_eq_false (by assumption) | decide | (simp; done) | (simp; omega) | (simp [*]; done)) rfl ?_
                    refine Ops.r (Run.pickT rfl rfl (by first | rfl | assumption | exact decide_eq_true (by assumption) | exact decide_eq_false (by assumption) | decide | (simp; done) | (simp; omega) | (simp [*]; done))) rfl ?_
                    refine Ops.r (Run.not rfl) rfl ?_
                    refine Ops.nil ?_
                    refine thenQ_n ⟨(.cons (congrArg (fun b => some (Value.bool b)) (Eq.symm (by unfold SignN; grind))) (.cons rfl (.cons rfl (.cons rfl (.cons rfl .nil))))), rfl⟩
                  · skip
                    refine Ops.rg rfl (by first | rfl | assumption | exact decide_eq_true (by assumption) | exact decide_eq_false (by assumption) | decide | (simp; done) | (simp; omega) | (simp [*]; done)) (Run.pickT rfl rfl (by first | rfl | assumption | exact decide_eq_true (by assumption) | exact decide_eq_false (by assumption) | decide | (simp; done) | (simp; omega) | (simp [*]; done))) rfl ?_
                    refine Ops.r (Run.pickF rfl rfl (by first | rfl | assumption | exact decide_eq_true (by assumption) | exact decide_eq_false (by assumption) | decide | (simp; done) | (simp; omega) | (simp [*]; done))) rfl ?_
                    refine Ops.r (Run.mv rfl) rfl ?_
                    refine Ops.rg rfl (by first | rfl | assumption | exact decide_eq_true (by assumption) | exact decide_eq_false (by assumption) | decide | (simp; done) | (simp; omega) | (simp [*]; done)) (Run.mv rfl) rfl ?_
                    refine Ops.rg rfl (by first | rfl | assumption | exact decide_eq_true (by assumption) | exact decide_eq_false (by assumption) | decide | (simp; done) | (simp; omega) | (simp [*]; done)) (Run.bin rfl rfl (Bin.eqlN _ 36)) rfl ?_
                    by_cases hs56 : (low c).toNat = 36
                    · skip
                      refine Ops.r (Run.pickF rfl rfl (by first | rfl | assumption | exact decide_eq_true (by assumption) | exact decide_eq_false (by assumption) | decide | (simp; done) | (simp; omega) | (simp [*]; done))) rfl ?_
                      refine Ops.r (Run.mv rfl) rfl ?_
                      refine Ops.sk rfl (by first | rfl | assumption | exact decide_eq_true (by assumption) | exact decide_eq_false (by assumption) | decide | (simp; done) | (simp; omega) | (simp [*]; done)) rfl ?_
                      refine Ops.sk rfl (by first | rfl | assumption | exact decide_eq_true (by assumption) | exact decide_eq_false (by assumption) | decide | (simp; done) | (simp; omega) | (simp [*]; done)) rfl ?_
                      refine Ops.r (Run.pickT rfl rfl (by first | rfl | assumption | exact decide_eq_true (by assumption) | exact decide_eq_false (by assumption) | decide | (simp; done) | (simp; omega) | (simp [*]; done))) rfl ?_
                      refine Ops.r (Run.mv rfl) rfl ?_
                      refine Ops.sk rfl (by first | rfl | assumption | exact decide_eq_true (by assumption) | exact decide_eq_false (by assumption) | decide | (simp; done) | (simp; omega) | (simp [*]; done)) rfl ?_
                      refine Ops.sk rfl (by first | rfl | assumption | exact decide_eq_true (by assumption) | exact decide_eq_false (by assumption) | decide | (simp; done) | (simp; omega) | (simp [*]; done)) rfl ?_
                      refine Ops.r (Run.pickT rfl rfl (by first | rfl | assumption | exact decide_eq_true (by assumption) | exact decide_eq_false (by assumption) | decide | (simp; done) | (simp; omega) | (simp [*]; done))) rfl ?_
                      refine Ops.r (Run.mv rfl) rfl ?_
                      refine Ops.sk rfl (by first | rfl | assumption | exact decide_eq_true (by assumption) | exact decide_eq_false (by assumption) | decide | (simp; done) | (simp; omega) | (simp [*]; done)) rfl ?_
                      refine Ops.sk rfl (by first | rfl | assumption | exact decide_eq_true (by assumption) | exact decide_eq_false (by assumption) | decide | (simp; done) | (simp; omega) | (simp [*]; done)) rfl ?_
                      refine Ops.r (Run.pickT rfl rfl (by first | rfl | assumption | exact decide_eq_true (by assumption) | exact decide_eq_false (by assumption) | decide | (simp; done) | (simp; omega) | (simp [*]; done))) rfl ?_
                      refine Ops.r (Run.not rfl) rfl ?_
                      refine Ops.nil ?_
                      refine thenQ_n ⟨(.cons (congrArg (fun b => some (Value.bool b)) (Eq.symm (by unfold SignN; grind))) (.cons rfl (.cons rfl (.cons rfl (.cons rfl .nil))))), rfl⟩
                    · skip
                      refine Ops.r (Run.pickF rfl rfl (by first | rfl | assumption | exact decide_eq_true (by assumption) | exact decide_eq_false (by assumption) | decide | (simp; done) | (simp; omega) | (simp [*]; done))) rfl ?_
                      refine Ops.r (Run.mv rfl) rfl ?_
                      refine Ops.rg rfl (by first | rfl | assumption | exact decide_eq_true (by assumption) | exact decide_eq_false (by assumption) | decide | (simp; done) | (simp; omega) | (simp [*]; done)) (Run.mv rfl) rfl ?_
                      refine Ops.rg rfl (by first | rfl | assumption | exact decide_eq_true (by assumption) | exact decide_eq_false (by assumption) | decide | (simp; done) | (simp; omega) | (simp [*]; done)) (Run.bin rfl rfl (Bin.eqlN _ 45)) rfl ?_
                      by_cases hs60 : (low c).toNat = 45
                      · skip
                        refine Ops.r (Run.pickF rfl rfl (by first | rfl | assumption | exact decide_eq_true (by assumption) | exact decide_eq_false (by assumption) | decide | (simp; done) | (simp; omega) | (simp [*]; done))) rfl ?_
                        refine Ops.r (Run.mv rfl) rfl ?_
                        refine Ops.sk rfl (by first | rfl | assumption | exact decide_eq_true (by assumption) | exact decide_eq_false (by assumption) | decide | (simp; done) | (simp; omega) | (simp [*]; done)) rfl ?_
                        refine Ops.sk rfl (by first | rfl | assumption | exact decide_eq_true (by assumption) | exact decide_eq_false (by assumption) | decide | (simp; done) | (simp; omega) | (simp [*]; done)) rfl ?_
                        refine Ops.r (Run.pickT rfl rfl (by first | rfl | assumption | exact decide_eq_true (by assumption) | exact decide_eq_false (by assumption) | decide | (simp; done) | (simp; omega) | (simp [*]; done))) rfl ?_
                        refine Ops.r (Run.mv rfl) rfl ?_
                        refine Ops.sk rfl (by first | rfl | assumption | exact decide_eq_true (by assumption) | exact decide_eq_false (by assumption) | decide | (simp; done) | (simp; omega) | (simp [*]; done)) rfl ?_
                        refine Ops.sk rfl (by first | rfl | assumption | exact decide_eq_true (by assumption) | exact decide_eq_false (by assumption) | decide | (simp; done) | (simp; omega) | (simp [*]; done)) rfl ?_
                        refine Ops.r (Run.pickT rfl rfl (by first | rfl | assumption | exact decide_eq_true (by assumption) | exact decide_eq_false (by assumption) | decide | (simp; done) | (simp; omega) | (simp [*]; done))) rfl ?_
                        refine Ops.r (Run.not rfl) rfl ?_
                        refine Ops.nil ?_
                        refine thenQ_n ⟨(.cons (congrArg (fun b => some (Value.bool b)) (Eq.symm (by unfold SignN; grind))) (.cons rfl (.cons rfl (.cons rfl (.cons rfl .nil))))), rfl⟩
                      · skip
                        refine Ops.r (Run.pickF rfl rfl (by first | rfl | assumption | exact decide_eq_true (by assumption) | exact decide_eq_false (by assumption) | decide | (simp; done) | (simp; omega) | (simp [*]; done))) rfl ?_
                        refine Ops.r (Run.mv rfl) rfl ?_
                        refine Ops.rg rfl (by first | rfl | assumption | exact decide_eq_true (by assumption) | exact decide_eq_false (by assumption) | decide | (simp; done) | (simp; omega) | (simp [*]; done)) (Run.mv rfl) rfl ?_
                        refine Ops.rg rfl (by first | rfl | assumption | exact decide_eq_true (by assumption) | exact decide_eq_false (by assumption) | decide | (simp; done) | (simp; omega) | (simp [*]; done)) (Run.bin rfl rfl (Bin.eqlN _ 46)) rfl ?_
                        by_cases hs64 : (low c).toNat = 46
                        · skip
                          refine Ops.r (Run.pickF rfl rfl (by first | rfl | assumption | exact decide_eq_true (by assumption) | exact decide_eq_false (by assumption) | decide | (simp; done) | (simp; omega) | (simp [*]; done))) rfl ?_
                          refine Ops.r (Run.mv rfl) rfl ?_
                          refine Ops.sk rfl (by first | rfl | assumption | exact decide_eq_true (by assumption) | exact decide_eq_false (by assumption) | decide | (simp; done) | (simp; omega) | (simp [*]; done)) rfl ?_
                          refine Ops.sk rfl (by first | rfl | assumption | exact decide_eq_true (by assumption) | exact decide_eq_false (by assumption) | decide | (simp; done) | (simp; omega) | (simp [*]; done)) rfl ?_
                          refine Ops.r (Run.pickT rfl rfl (by first | rfl | assumption | exact decide_eq_true (by assumption) | exact decide_eq_false (by assumption) | decide | (simp; done) | (simp; omega) | (simp [*]; done))) rfl ?_
                          refine Ops.r (Run.not rfl) rfl ?_
                          refine Ops.nil ?_
                          refine thenQ_n ⟨(.cons (congrArg (fun b => some (Value.bool b)) (Eq.symm (by unfold SignN; grind))) (.cons rfl (.cons rfl (.cons rfl (.cons rfl .nil))))), rfl⟩
                        · skip
                          refine Ops.r (Run.pickF rfl rfl (by first | rfl | assumption | exact decide_eq_true (by assumption) | exact decide_eq_false (by assumption) | decide | (simp; done) | (simp; omega) | (simp [*]; done))) rfl ?_
                          refine Ops.r (Run.mv rfl) rfl ?_
                          refine Ops.rg rfl (by first | rfl | assumption | exact decide_eq_true (by assumption) | exact decide_eq_false (by assumption) | decide | (simp; done) | (simp; omega) | (simp [*]; done)) (Run.mv rfl) rfl ?_
                          refine Ops.rg rfl (by first | rfl | assumption | exact decide_eq_true (by assumption) | exact decide_eq_false (by assumption) | decide | (simp; done) | (simp; omega) | (simp [*]; done)) (Run.bin rfl rfl (Bin.eqlN _ 95)) rfl ?_
                          by_cases hs68 : (low c).toNat = 95
                          · skip
                            refine Ops.r (Run.pickF rfl rfl (by first | rfl | assumption | exact decide_eq_true (by assumption) | exact decide_eq_false (by assumption) | decide | (simp; done) | (simp; omega) | (simp [*]; done))) rfl ?_
                            refine Ops.r (Run.not rfl) rfl ?_
                            refine Ops.nil ?_
                            refine thenQ_n ⟨(.cons (congrArg (fun b => some (Value.bool b)) (Eq.symm (by unfold SignN; grind))) (.cons rfl (.cons rfl (.cons rfl (.cons rfl .nil))))), rfl⟩
                          · skip
                            refine Ops.r (Run.pickF rfl rfl (by first | rfl | assumption | exact decide_eq_true (by assumption) | exact decide_eq_false (by assumption) | decide | (simp; done) | (simp; omega) | (simp [*]; done))) rfl ?_
                            refine Ops.r (Run.not rfl) rfl ?_
                            refine Ops.nil ?_
                            refine thenQ_n ⟨(.cons (congrArg (fun b => some (Value.bool b)) (Eq.symm (by unfold SignN; grind))) (.cons rfl (.cons rfl (.cons rfl (.cons rfl .nil))))), rfl⟩
                · skip
                  refine Ops.rg rfl (by first | rfl | assumption | exact decide_eq_true (by assumption) | exact decide_eq_false (by assumption) | decide | (simp; done) | (simp; omega) | (simp [*]; done)) (Run.mv rfl) rfl ?_
                  refine Ops.sk rfl (by first | rfl | assumption | exact decide_eq_true (by assumption) | exact decide_eq_false (by assumption) | decide | (simp; done) | (simp; omega) | (simp [*]; done)) rfl ?_
                  refine Ops.sk rfl (by first | rfl | assumption | exact decide_eq_true (by assumption) | exact decide_eq_false (by assumption) | decide | (simp; done) | (simp; omega) | (simp [*]; done)) rfl ?_
                  refine Ops.rg rfl (by first | rfl | assumption | exact decide_eq_true (by assumption) | exact decide_eq_false (by assumption) | decide | (simp; done) | (simp; omega) | (simp [*]; done)) (Run.pickF rfl rfl (by first | rfl | assumption | exact decide_eq_true (by assumption) | exact decide_eq_false (by assumption) | decide | (simp; done) | (simp; omega) | (simp [*]; done))) rfl ?_
                  refine Ops.r (Run.pickF rfl rfl (by first | rfl | assumption | exact decide_eq_true (by assumption) | exact decide_eq_false (by assumption) | decide | (simp; done) | (simp; omega) | (simp [*]; done))) rfl ?_
                  refine Ops.r (Run.mv rfl) rfl ?_
                  refine Ops.rg rfl (by first | rfl | assumption | exact decide_eq_true (by assumption) | exact decide_eq_false (by assumption) | decide | (simp; done) | (simp; omega) | (simp [*]; done)) (Run.mv rfl) rfl ?_
                  refine Ops.rg rfl (by first | rfl | assumption | exact decide_eq_true (by assumption) | exact decide_eq_false (by assumption) | decide | (simp; done) | (simp; omega) | (simp [*]; done)) (Run.bin rfl rfl (Bin.eqlN _ 36)) rfl ?_
                  by_cases hs56 : (low c).toNat = 36
                  · skip
                    refine Ops.r (Run.pickF rfl rfl (by first | rfl | assumption | exact decide_eq_true (by assumption) | exact decide_eq_false (by assumption) | decide | (simp; done) | (simp; omega) | (simp [*]; done))) rfl ?_
                    refine Ops.r (Run.mv rfl) rfl ?_
                    refine Ops.sk rfl (by first | rfl | assumption | exact decide_eq_true (by assumption) | exact decide_eq_false (by assumption) | decide | (simp; done) | (simp; omega) | (simp [*]; done)) rfl ?_
                    refine Ops.sk rfl (by first | rfl | assumption | exact decide_eq_true (by assumption) | exact decide_eq_false (by assumption) | decide | (simp; done) | (simp; omega) | (simp [*]; done)) rfl ?_
                    refine Ops.r (Run.pickT rfl rfl (by first | rfl | assumption | exact decide_eq_true (by assumption) | exact decide_eq_false (by assumption) | decide | (simp; done) | (simp; omega) | (simp [*]; done))) rfl ?_
                    refine Ops.r (Run.mv rfl) rfl ?_
                    refine Ops.sk rfl (by first | rfl | assumption | exact decide_eq_true (by assumption) | exact decide_eq_false (by assumption) | decide | (simp; done) | (simp; omega) | (simp [*]; done)) rfl ?_
                    refine Ops.sk rfl (by first | rfl | assumption | exact decide_eq_true (by assumption) | exact decide_eq_false (by assumption) | decide | (simp; done) | (simp; omega) | (simp [*]; done)) rfl ?_
                    refine Ops.r (Run.pickT rfl rfl (by first | rfl | assumption | exact decide_eq_true (by assumption) | exact decide_eq_false (by assumption) | decide | (simp; done) | (simp; omega) | (simp [*]; done))) rfl ?_
                    refine Ops.r (Run.mv rfl) rfl ?_
                    refine Ops.sk rfl (by first | rfl | assumption | exact decide_eq_true (by assumption) | exact decide_eq_false (by assumption) | decide | (simp; done) | (simp; omega) | (simp [*]; done)) rfl ?_
                    refine Ops.sk rfl (by first | rfl | assumption | exact decide_eq_true (by assumption) | exact decide_eq_false (by assumption) | decide | (simp; done) | (simp; omega) | (simp [*]; done)) rfl ?_
                    refine Ops.r (Run.pickT rfl rfl (by first | rfl | assumption | exact decide_eq_true (by assumption) | exact decide_eq_false (by assumption) | decide | (simp; done) | (simp; omega) | (simp [*]; done))) rfl ?_
                    refine Ops.r (Run.not rfl) rfl ?_
                    refine Ops.nil ?_
                    refine thenQ_n ⟨(.cons (congrArg (fun b => some (Value.bool b)) (Eq.symm (by unfold SignN; grind))) (.cons rfl (.cons rfl (.cons rfl (.cons rfl .nil))))), rfl⟩
                  · skip
                    refine Ops.r (Run.pickF rfl rfl (by first | rfl | assumption | exact decide_eq_true (by assumption) | exact decide_eq_false (by assumption) | decide | (simp; done) | (simp; omega) | (simp [*]; done))) rfl ?_
                    refine Ops.r (Run.mv rfl) rfl ?_
                    refine Ops.rg rfl (by first | rfl | assumption | exact decide_eq_true (by assumption) | exact decide_eq_false (by assumption) | decide | (simp; done) | (simp; omega) | (simp [*]; done)) (Run.mv rfl) rfl ?_
                    refine Ops.rg rfl (by first | rfl | assumption | exact decide_eq_true (by assumption) | exact decide_eq_false (by assumption) | decide | (simp; done) | (simp; omega) | (simp [*]; done)) (Run.bin rfl rfl (Bin.eqlN _ 45)) rfl ?_
                    by_cases hs60 : (low c).toNat = 45
                    · skip
                      refine Ops.r (Run.pickF rfl rfl (by first | rfl | assumption | exact decide_eq_true (by assumption) | exact decide_eq_false (by assumption) | decide | (simp; done) | (simp; omega) | (simp [*]; done))) rfl ?_
                      refine Ops.r (Run.mv rfl) rfl ?_
                      refine Ops.sk rfl (by first | rfl | assumption | exact decide_eq_true (by assumption) | exact decide_eq_false (by assumption) | decide | (simp; done) | (simp; omega) | (simp [*]; done)) rfl ?_
                      refine Ops.sk rfl (by first | rfl | assumption | exact decide_eq_true (by assumption) | exact decide_eq_false (by assumption) | decide | (simp; done) | (simp; omega) | (simp [*]; done)) rfl ?_
                      refine Ops.r (Run.pickT rfl rfl (by first | rfl | assumption | exact decide_eq_true (by assumption) | exact decide_eq_false (by assumption) | decide | (simp; done) | (simp; omega) | (simp [*]; done))) rfl ?_
                      refine Ops.r (Run.mv rfl) rfl ?_
                      refine Ops.sk rfl (by first | rfl | assumption | exact decide_eq_true (by assumption) | exact decide_eq_false (by assumption) | decide | (simp; done) | (simp; omega) | (simp [*]; done)) rfl ?_
                      refine Ops.sk rfl (by first | rfl | assumption | exact decide_eq_true (by assumption) | exact decide_eq_false (by assumption) | decide | (simp; done) | (simp; omega) | (simp [*]; done)) rfl ?_
                      refine Ops.r (Run.pickT rfl rfl (by first | rfl | assumption | exact decide_eq_true (by assumption) | exact decide_eq_false (by assumption) | decide | (simp; done) | (simp; omega) | (simp [*]; done))) rfl ?_
                      refine Ops.r (Run.not rfl) rfl ?_
                      refine Ops.nil ?_
                      refine thenQ_n ⟨(.cons (congrArg (fun b => some (Value.bool b)) (Eq.symm (by unfold SignN; grind))) (.cons rfl (.cons rfl (.cons rfl (.cons rfl .nil))))), rfl⟩
                    · skip
                      refine Ops.r (Run.pickF rfl rfl (by first | rfl | assumption | exact decide_eq_true (by assumption) | exact decide_eq_false (by assumption) | decide | (simp; done) | (simp; omega) | (simp [*]; done))) rfl ?_
                      refine Ops.r (Run.mv rfl) rfl ?_
                      refine Ops.rg rfl (by first | rfl | assumption | exact decide_eq_true (by assumption) | exact decide_eq_false (by assumption) | decide | (simp; done) | (simp; omega) | (simp [*]; done)) (Run.mv rfl) rfl ?_
                      refine Ops.rg rfl (by first | rfl | assumption | exact decide_eq_true (by assumption) | exact decide_eq_false (by assumption) | decide | (simp; done) | (simp; omega) | (simp [*]; done)) (Run.bin rfl rfl (Bin.eqlN _ 46)) rfl ?_
                      by_cases hs64 : (low c).toNat = 46
                      · skip
                        refine Ops.r (Run.pickF rfl rfl (by first | rfl | assumption | exact decide_eq_true (by assumption) | exact decide_eq_false (by assumption) | decide | (simp; done) | (simp; omega) | (simp [*]; done))) rfl ?_
                        refine Ops.r (Run.mv rfl) rfl ?_
                        refine Ops.sk rfl (by first | rfl | assumption | exact decide_eq_true (by assumption) | exact decide_eq_false (by assumption) | decide | (simp; done) | (simp; omega) | (simp [*]; done)) rfl ?_
                        refine Ops.sk rfl (by first | rfl | assumption | exact decide_eq_true (by assumption) | exact decide_eq_false (by assumption) | decide | (simp; done) | (simp; omega) | (simp [*]; done)) rfl ?_
                        refine Ops.r (Run.pickT rfl rfl (by first | rfl | assumption | exact decide_eq_true (by assumption) | exact decide_eq_false (by assumption) | decide | (simp; done) | (simp; omega) | (simp [*]; done))) rfl ?_
                        refine Ops.r (Run.not rfl) rfl ?_
                        refine Ops.nil ?_
                        refine thenQ_n ⟨(.cons (congrArg (fun b => some (Value.bool b)) (Eq.symm (by unfold SignN; grind))) (.cons rfl (.cons rfl (.cons rfl (.cons rfl .nil))))), rfl⟩
                      · skip
                        refine Ops.r (Run.pickF rfl rfl (by first | rfl | assumption | exact decide_eq_true (by assumption) | exact decide_eq_false (by assumption) | decide | (simp; done) | (simp; omega) | (simp [*]; done))) rfl ?_
                        refine Ops.r (Run.mv rfl) rfl ?_
                        refine Ops.rg rfl (by first | rfl | assumption | exact decide_eq_true (by assumption) | exact decide_eq_false (by assumption) | decide | (simp; done) | (simp; omega) | (simp [*]; done)) (Run.mv rfl) rfl ?_
                        refine Ops.rg rfl (by first | rfl | assumption | exact decide_eq_true (by assumption) | exact decide_eq_false (by assumption) | decide | (simp; done) | (simp; omega) | (simp [*]; done)) (Run.bin rfl rfl (Bin.eqlN _ 95)) rfl ?_
                        by_cases hs68 : (low c).toNat = 95
                        · skip
                          refine Ops.r (Run.pickF rfl rfl (by first | rfl | assumption | exact decide_eq_true (by assumption) | exact decide_eq_false (by assumption) | decide | (simp; done) | (simp; omega) | (simp [*]; done))) rfl ?_
                          refine Ops.r (Run.not rfl) rfl ?_
                          refine Ops.nil ?_
                          refine thenQ_n ⟨(.cons (congrArg (fun b => some (Value.bool b)) (Eq.symm (by unfold SignN; grind))) (.cons rfl (.cons rfl (.cons rfl (.cons rfl .nil))))), rfl⟩
                        · skip
                          refine Ops.r (Run.pickF rfl rfl (by first | rfl | assumption | exact decide_eq_true (by assumption) | exact decide_eq_false (by assumption) | decide | (simp; done) | (simp; omega) | (simp [*]; done))) rfl ?_
                          refine Ops.r (Run.not rfl) rfl ?_
                          refine Ops.nil ?_
                          refine thenQ_n ⟨(.cons (congrArg (fun b => some (Value.bool b)) (Eq.symm (by unfold SignN; grind))) (.cons rfl (.cons rfl (.cons rfl (.cons rfl .nil))))), rfl⟩
            · skip
              refine Ops.r (Run.mv rfl) rfl ?_
              refine Ops.sk rfl (by first | rfl | assumption | exact decide_eq_true (by assumption) | exact decide_eq_false (by assumption) | decide | (simp; done) | (simp; omega) | (simp [*]; done)) rfl ?_
              refine Ops.sk rfl (by first | rfl | assumption | exact decide_eq_true (by assumption) | exact decide_eq_false (by assumption) | decide | (simp; done) | (simp; omega) | (simp [*]; done)) rfl ?_
              refine Ops.r (Run.pickF rfl rfl (by first | rfl | assumption | exact decide_eq_true (by assumption) | exact decide_eq_false (by assumption) | decide | (simp; done) | (simp; omega) | (simp [*]; done))) rfl ?_
              refine Ops.r (Run.mv rfl) rfl ?_
              refine Ops.rg rfl (by first | rfl | assumption | exact decide_eq_true (by assumption) | exact decide_eq_false (by assumption) | decide | (simp; done) | (simp; omega) | (simp [*]; done)) (Run.mv rfl) rfl ?_
              refine Ops.rg rfl (by first | rfl | assumption | exact decide_eq_true (by assumption) | exact decide_eq_false (by assumption) | decide | (simp; done) | (simp; omega) | (simp [*]; done)) (Run.bin rfl rfl (Bin.leqN 48 _)) rfl ?_
              by_cases hs48 : 48 ≤ (low c).toNat
              · skip
                refine Ops.rg rfl (by first | rfl | assumption | exact decide_eq_true (by assumption) | exact decide_eq_false (by assumption) | decide | (simp; done) | (simp; omega) | (simp [*]; done)) (Run.mv rfl) rfl ?_
                refine Ops.rg rfl (by first | rfl | assumption | exact decide_eq_true (by assumption) | exact decide_eq_false (by assumption) | decide | (simp; done) | (simp; omega) | (simp [*]; done)) (Run.mv rfl) rfl ?_
                refine Ops.rg rfl (by first | rfl | assumption | exact decide_eq_true (by assumption) | exact decide_eq_false (by assumption) | decide | (simp; done) | (simp; omega) | (simp [*]; done)) (Run.bin rfl rfl (Bin.leqN _ 57)) rfl ?_
                by_cases hs51 : (low c).toNat ≤ 57
                · skip
                  refine Ops.rg rfl (by first | rfl | assumption | exact decide_eq_true (by assumption) | exact decide_eq_false (by assumption) | decide | (simp; done) | (simp; omega) | (simp [*]; done)) (Run.pickT rfl rfl (by first | rfl | assumption | exact decide_eq_true (by assumption) | exact decide_eq_false (by assumption) | decide | (simp; done) | (simp; omega) | (simp [*]; done))) rfl ?_
                  refine Ops.r (Run.pickF rfl rfl (by first | rfl | assumption | exact decide_eq_true (by assumption) | exact decide_eq_false (by assumption) | decide | (simp; done) | (simp; omega) | (simp [*]; done))) rfl ?_
                  refine Ops.r (Run.mv rfl) rfl ?_
                  refine Ops.sk rfl (by first | rfl | assumption | exact decide_eq_true (by assumption) | exact decide_eq_false (by assumption) | decide | (simp; done) | (simp; omega) | (simp [*]; done)) rfl ?_
                  refine Ops.sk rfl (by first | rfl | assumption | exact decide_eq_true (by assumption) | exact decide_eq_false (by assumption) | decide | (simp; done) | (simp; omega) | (simp [*]; done)) rfl ?_
                  refine Ops.r (Run.pickT rfl rfl (by first | rfl | assumption | exact decide_eq_true (by assumption) | exact decide_eq_false (by assumption) | decide | (simp; done) | (simp; omega) | (simp [*]; done))) rfl ?_
                  refine Ops.r (Run.mv rfl) rfl ?_
                  refine Ops.sk rfl (by first | rfl | assumption | exact decide_eq_true (by assumption) | exact decide_eq_false (by assumption) | decide | (simp; done) | (simp; omega) | (simp [*]; done)) rfl ?_
                  refine Ops.sk rfl (by first | rfl | assumption | exact decide_eq_true (by assumption) | exact decide_eq_false (by assumption) | decide | (simp; done) | (simp; omega) | (simp [*]; done)) rfl ?_
                  refine Ops.r (Run.pickT rfl rfl (by first | rfl | assumption | exact decide_eq_true (by assumption) | exact decide_eq_false (by assumption) | decide | (simp; done) | (simp; omega) | (simp [*]; done))) rfl ?_
                  refine Ops.r (Run.mv rfl) rfl ?_
                  refine Ops.sk rfl (by first | rfl | assumption | exact decide_eq_true (by assumption) | exact decide_eq_false (by assumption) | decide | (simp; done) | (simp; omega) | (simp [*]; done)) rfl ?_
                  refine Ops.sk rfl (by first | rfl | assumption | exact decide_eq_true (by assumption) | exact decide_eq_false (by assumption) | decide | (simp; done) | (simp; omega) | (simp [*]; done)) rfl ?_
                  refine Ops.r (Run.pickT rfl rfl (by first | rfl | assumption | exact decide_eq_true (by assumption) | exact decide_eq_false (by assumption) | decide | (simp; done) | (simp; omega) | (simp [*]; done))) rfl ?_
                  refine Ops.r (Run.mv rfl) rfl ?_
                  refine Ops.sk rfl (by first | rfl | assumption | exact decide_eq_true (by assumption) | exact decide_eq_false (by assumption) | decide | (simp; done) | (simp; omega) | (simp [*]; done)) rfl ?_
                  refine Ops.sk rfl (by first | rfl | assumption | exact decide_eq_true (by assumption) | exact decide_eq_false (by assumption) | decide | (simp; done) | (simp; omega) | (simp [*]; done)) rfl ?_
                  refine Ops.r (Run.pickT rfl rfl (by first | rfl | assumption | exact decide_eq_true (by assumption) | exact decide_eq_false (by assumption) | decide | (simp; done) | (simp; omega) | (simp [*]; done))) rfl ?_
                  refine Ops.r (Run.not rfl) rfl ?_
                  refine Ops.nil ?_
                  refine thenQ_n ⟨(.cons (congrArg (fun b => some (Value.bool b)) (Eq.symm (by unfold SignN; grind))) (.cons rfl (.cons rfl (.cons rfl (.cons rfl .nil))))), rfl⟩
                · skip
                  refine Ops.rg rfl (by first | rfl | assumption | exact decide_eq_true (by assumption) | exact decide_eq_false (by assumption) | decide | (simp; done) | (simp; omega) | (simp [*]; done)) (Run.pickT rfl rfl (by first | rfl | assumption | exact decide_eq_true (by assumption) | exact decide_eq_false (by assumption) | decide | (simp; done) | (simp; omega) | (simp [*]; done))) rfl ?_
                  refine Ops.r (Run.pickF rfl rfl (by first | rfl | assumption | exact decide_eq_true (by assumption) | exact decide_eq_false (by assumption) | decide | (simp; done) | (simp; omega) | (simp [*]; done))) rfl ?_
                  refine Ops.r (Run.mv rfl) rfl ?_
                  refine Ops.rg rfl (by first | rfl | assumption | exact decide_eq_true (by assumption) | exact decide_eq_false (by assumption) | decide | (simp; done) | (simp; omega) | (simp [*]; done)) (Run.mv rfl) rfl ?_
                  refine Ops.rg rfl (by first | rfl | assumption | exact decide_eq_true (by assumption) | exact decide_eq_false (by assumption) | decide | (simp; done) | (simp; omega) | (simp [*]; done)) (Run.bin rfl rfl (Bin.eqlN _ 36)) rfl ?_
                  by_cases hs56 : (low c).toNat = 36
                  · skip
                    refine Ops.r (Run.pickF rfl rfl (by first | rfl | assumption | exact decide_eq_true (by assumption) | exact decide_eq_false (by assumption) | decide | (simp; done) | (simp; omega) | (simp [*]; done))) rfl ?_
                    refine Ops.r (Run.mv rfl) rfl ?_
                    refine Ops.sk rfl (by first | rfl | assumption | exact decide_eq_true (by assumption) | exact decide_eq_false (by assumption) | decide | (simp; done) | (simp; omega) | (simp [*]; done)) rfl ?_
                    refine Ops.sk rfl (by first | rfl | assumption | exact decide_eq_true (by assumption) | exact decide_eq_false (by assumption) | decide | (simp; done) | (simp; omega) | (simp [*]; done)) rfl ?_
                    refine Ops.r (Run.pickT rfl rfl (by first | rfl | assumption | exact decide_eq_true (by assumption) | exact decide_eq_false (by assumption) | decide | (simp; done) | (simp; omega) | (simp [*]; done))) rfl ?_
                    refine Ops.r (Run.mv rfl) rfl ?_
                    refine Ops.sk rfl (by first | rfl | assumption | exact decide_eq_true (by assumption) | exact decide_eq_false (by assumption) | decide | (simp; done) | (simp; omega) | (simp [*]; done)) rfl ?_
                    refine Ops.sk rfl (by first | rfl | assumption | exact decide_eq_true (by assumption) | exact decide_eq_false (by assumption) | decide | (simp; done) | (simp; omega) | (simp [*]; done)) rfl ?_
                    refine Ops.r (Run.pickT rfl rfl (by first | rfl | assumption | exact decide_eq_true (by assumption) | exact decide_eq_false (by assumption) | decide | (simp; done) | (simp; omega) | (simp [*]; done))) rfl ?_
                    refine Ops.r (Run.mv rfl) rfl ?_
                    refine Ops.sk rfl (by first | rfl | assumption | exact decide_eq_true (by assumption) | exact decide_eq_false (by assumption) | decide | (simp; done) | (simp; omega) | (simp [*]; done)) rfl ?_
                    refine Ops.sk rfl (by first | rfl | assumption | exact decide_eq_true (by assumption) | exact decide_eq_false (by assumption) | decide | (simp; done) | (simp; omega) | (simp [*]; done)) rfl ?_
                    refine Ops.r (Run.pickT rfl rfl (by first | rfl | assumption | exact decide_eq_true (by assumption) | exact decide_eq_false (by assumption) | decide | (simp; done) | (simp; omega) | (simp [*]; done))) rfl ?_
                    refine Ops.r (Run.not rfl) rfl ?_
                    refine Ops.nil ?_
                    refine thenQ_n ⟨(.cons (congrArg (fun b => some (Value.bool b)) (Eq.symm (by unfold SignN; grind))) (.cons rfl (.cons rfl (.cons rfl (.cons rfl .nil))))), rfl⟩
                  · skip
                    refine Ops.r (Run.pickF rfl rfl (by first | rfl | assumption | exact decide_eq_true (by assumption) | exact decide_eq_false (by assumption) | decide | (simp; done) | (simp; omega) | (simp [*]; done))) rfl ?_
                    refine Ops.r (Run.mv rfl) rfl ?_
                    refine Ops.rg rfl (by first | rfl | assumption | exact decide_eq_true (by assumption) | exact decide_eq_false (by assumption) | decide | (simp; done) | (simp; omega) | (simp [*]; done)) (Run.mv rfl) rfl ?_
                    refine Ops.rg rfl (by first | rfl | assumption | exact decide_eq_true (by assumption) | exact decide_eq_false (by assumption) | decide | (simp; done) | (simp; omega) | (simp [*]; done)) (Run.bin rfl rfl (Bin.eqlN _ 45)) rfl ?_
                    by_cases hs60 : (low c).toNat = 45
                    · skip
                      refine Ops.r (Run.pickF rfl rfl (by first | rfl | assumption | exact decide_eq_true (by assumption) | exact decide_eq_false (by assumption) | decide | (simp; done) | (simp; omega) | (simp [*]; done))) rfl ?_
                      refine Ops.r (Run.mv rfl) rfl ?_
                      refine Ops.sk rfl (by first | rfl | assumption | exact decide_eq_true (by assumption) | exact decide_eq_false (by assumption) | decide | (simp; done) | (simp; omega) | (simp [*]; done)) rfl ?_
                      refine Ops.sk rfl (by first | rfl | assumption | exact decide_eq_true (by assumption) | exact decide_eq_false (by assumption) | decide | (simp; done) | (simp; omega) | (simp [*]; done)) rfl ?_
                      refine Ops.r (Run.pickT rfl rfl (by first | rfl | assumption | exact decide_eq_true (by assumption) | exact decide_eq_false (by assumption) | decide | (simp; done) | (simp; omega) | (simp [*]; done))) rfl ?_
                      refine Ops.r (Run.mv rfl) rfl ?_
                      refine Ops.sk rfl (by first | rfl | assumption | exact decide_eq_true (by assumption) | exact decide_eq_false (by assumption) | decide | (simp; done) | (simp; omega) | (simp [*]; done)) rfl ?_
                      refine Ops.sk rfl (by first | rfl | assumption | exact decide_eq_true (by assumption) | exact decide_eq_false (by assumption) | decide | (simp; done) | (simp; omega) | (simp [*]; done)) rfl ?_
                      refine Ops.r (Run.pickT rfl rfl (by first | rfl | assumption | exact decide_eq_true (by assumption) | exact decide_eq_false (by assumption) | decide | (simp; done) | (simp; omega) | (simp [*]; done))) rfl ?_
                      refine Ops.r (Run.not rfl) rfl ?_
                      refine Ops.nil ?_
                      refine thenQ_n ⟨(.cons (congrArg (fun b => some (Value.bool b)) (Eq.symm (by unfold SignN; grind))) (.cons rfl (.cons rfl (.cons rfl (.cons rfl .nil))))), rfl⟩
                    · skip
                      refine Ops.r (Run.pickF rfl rfl (by first | rfl | assumption | exact decide_eq_true (by assumption) | exact decide_eq_false (by assumption) | decide | (simp; done) | (simp; omega) | (simp [*]; done))) rfl ?_
                      refine Ops.r (Run.mv rfl) rfl ?_
                      refine Ops.rg rfl (by first | rfl | assumption | exact decide_eq_true (by assumption) | exact decide_eq_false (by assumption) | decide | (simp; done) | (simp; omega) | (simp [*]; done)) (Run.mv rfl) rfl ?_
                      refine Ops.rg rfl (by first | rfl | assumption | exact decide_eq_true (by assumption) | exact decide_eq_false (by assumption) | decide | (simp; done) | (simp; omega) | (simp [*]; done)) (Run.bin rfl rfl (Bin.eqlN _ 46)) rfl ?_
                      by_cases hs64 : (low c).toNat = 46
                      · skip
                        refine Ops.r (Run.pickF rfl rfl (by first | rfl | assumption | exact decide_eq_true (by assumption) | exact decide_eq_false (by assumption) | decide | (simp; done) | (simp; omega) | (simp [*]; done))) rfl ?_
                        refine Ops.r (Run.mv rfl) rfl ?_
                        refine Ops.sk rfl (by first | rfl | assumption | exact decide_eq_true (by assumption) | exact decide_eq_false (by assumption) | decide | (simp; done) | (simp; omega) | (simp [*]; done)) rfl ?_
                        refine Ops.sk rfl (by first | rfl | assumption | exact decide_eq_true (by assumption) | exact decide_eq_false (by assumption) | decide | (simp; done) | (simp; omega) | (simp [*]; done)) rfl ?_
                        refine Ops.r (Run.pickT rfl rfl (by first | rfl | assumption | exact decide_eq_true (by assumption) | exact decide_eq_false (by assumption) | decide | (simp; done) | (simp; omega) | (simp [*]; done))) rfl ?_
                        refine Ops.r (Run.not rfl) rfl ?_
                        refine Ops.nil ?_
                        refine thenQ_n ⟨(.cons (congrArg (fun b => some (Value.bool b)) (Eq.symm (by unfold SignN; grind))) (.cons rfl (.cons rfl (.cons rfl (.cons rfl .nil))))), rfl⟩
                      · skip
                        refine Ops.r (Run.pickF rfl rfl (by first | rfl | assumption | exact decide_eq_true (by assumption) | exact decide_eq_false (by assumption) | decide | (simp; done) | (simp; omega) | (simp [*]; done))) rfl ?_
                        refine Ops.r (Run.mv rfl) rfl ?_
                        refine Ops.rg rfl (by first | rfl | assumption | exact decide_eq_true (by assumption) | exact decide_eq_false (by assumption) | decide | (simp; done) | (simp; omega) | (simp [*]; done)) (Run.mv rfl) rfl ?_
                        refine Ops.rg rfl (by first | rfl | assumption | exact decide_eq_true (by assumption) | exact decide_eq_false (by assumption) | decide | (simp; done) | (simp; omega) | (simp [*]; done)) (Run.bin rfl rfl (Bin.eqlN _ 95)) rfl ?_
                        by_cases hs68 : (low c).toNat = 95
                        · skip
                          refine Ops.r (Run.pickF rfl rfl (by first | rfl | assumption | exact decide_eq_true (by assumption) | exact decide_eq_false (by assumption) | decide | (simp; done) | (simp; omega) | (simp [*]; done))) rfl ?_
                          refine Ops.r (Run.not rfl) rfl ?_
                          refine Ops.nil ?_
                          refine thenQ_n ⟨(.cons (congrArg (fun b => some (Value.bool b)) (Eq.symm (by unfold SignN; grind))) (.cons rfl (.cons rfl (.cons rfl (.cons rfl .nil))))), rfl⟩
                        · skip
                          refine Ops.r (Run.pickF rfl rfl (by first | rfl | assumption | exact decide_eq_true (by assumption) | exact decide_eq_false (by assumption) | decide | (simp; done) | (simp; omega) | (simp [*]; done))) rfl ?_
                          refine Ops.r (Run.not rfl) rfl ?_
                          refine Ops.nil ?_
                          refine thenQ_n ⟨(.cons (congrArg (fun b => some (Value.bool b)) (Eq.symm (by unfold SignN; grind))) (.cons rfl (.cons rfl (.cons rfl (.cons rfl .nil))))), rfl⟩
              · skip
                refine Ops.rg rfl (by first | rfl | assumption | exact decide_eq_true (by assumption) | exact decide_eq_false (by assumption) | decide | (simp; done) | (simp; omega) | (simp [*]; done)) (Run.mv rfl) rfl ?_
                refine Ops.sk rfl (by first | rfl | assumption | exact decide_eq_true (by assumption) | exact decide_eq_false (by assumption) | decide | (simp; done) | (simp; omega) | (simp [*]; done)) rfl ?_
                refine Ops.sk rfl (by first | rfl | assumption | exact decide_eq_true (by assumption) | exact decide_eq_false (by assumption) | decide | (simp; done) | (simp; omega) | (simp [*]; done)) rfl ?_
                refine Ops.rg rfl (by first | rfl | assumption | exact decide_eq_true (by assumption) | exact decide_eq_false (by assumption) | decide | (simp; done) | (simp; omega) | (simp [*]; done)) (Run.pickF rfl rfl (by first | rfl | assumption | exact decide_eq_true (by assumption) | exact decide_eq_false (by assumption) | decide | (simp; done) | (simp; omega) | (simp [*]; done))) rfl ?_
                refine Ops.r (Run.pickF rfl rfl (by first | rfl | assumption | exact decide_eq_true (by assumption) | exact decide_eq_false (by assumption) | decide | (simp; done) | (simp; omega) | (simp [*]; done))) rfl ?_
                refine Ops.r (Run.mv rfl) rfl ?_
                refine Ops.rg rfl (by first | rfl | assumption | exact decide_eq_true (by assumption) | exact decide_eq_false (by assumption) | decide | (simp; done) | (simp; omega) | (simp [*]; done)) (Run.mv rfl) rfl ?_
                refine Ops.rg rfl (by first | rfl | assumption | exact decide_eq_true (by assumption) | exact decide_eq_false (by assumption) | decide | (simp; done) | (simp; omega) | (simp [*]; done)) (Run.bin rfl rfl (Bin.eqlN _ 36)) rfl ?_
                by_cases hs56 : (low c).toNat = 36
                · skip
                  refine Ops.r (Run.pickF rfl rfl (by first | rfl | assumption | exact decide_eq_true (by assumption) | exact decide_eq_false (by assumption) | decide | (simp; done) | (simp; omega) | (simp [*]; done))) rfl ?_
                  refine Ops.r (Run.mv rfl) rfl ?_
                  refine Ops.sk rfl (by first | rfl | assumption | exact decide_eq_true (by assumption) | exact decide_eq_false (by assumption) | decide | (simp; done) | (simp; omega) | (simp [*]; done)) rfl ?_
                  refine Ops.sk rfl (by first | rfl | assumption | exact decide_eq_true (by assumption) | exact decide_eq_false (by assumption) | decide | (simp; done) | (simp; omega) | (simp [*]; done)) rfl ?_
                  refine Ops.r (Run.pickT rfl rfl (by first | rfl | assumption | exact decide_eq_true (by assumption) | exact decide_eq_false (by assumption) | decide | (simp; done) | (simp; omega) | (simp [*]; done))) rfl ?_
                  refine Ops.r (Run.mv rfl) rfl ?_
                  refine Ops.sk rfl (by first | rfl | assumption | exact decide_eq_true (by assumption) | exact decide_eq_false (by assumption) | decide | (simp; done) | (simp; omega) | (simp [*]; done)) rfl ?_
                  refine Ops.sk rfl (by first | rfl | assumption | exact decide_eq_true (by assumption) | exact decide_eq_false (by assumption) | decide | (simp; done) | (simp; omega) | (simp [*]; done)) rfl ?_
                  refine Ops.r (Run.pickT rfl rfl (by first | rfl | assumption | exact decide_eq_true (by assumption) | exact decide_eq_false (by assumption) | decide | (simp; done) | (simp; omega) | (simp [*]; done))) rfl ?_
                  refine Ops.r (Run.mv rfl) rfl ?_
                  refine Ops.sk rfl (by first | rfl | assumption | exact decide_eq_true (by assumption) | exact decide_eq_false (by assumption) | decide | (simp; done) | (simp; omega) | (simp [*]; done)) rfl ?_
                  refine Ops.sk rfl (by first | rfl | assumption | exact decide_eq_true (by assumption) | exact decide_eq_false (by assumption) | decide | (simp; done) | (simp; omega) | (simp [*]; done)) rfl ?_
                  refine Ops.r (Run.pickT rfl rfl (by first | rfl | assumption | exact decide_eq_true (by assumption) | exact decide_eq_false (by assumption) | decide | (simp; done) | (simp; omega) | (simp [*]; done))) rfl ?_
                  refine Ops.r (Run.not rfl) rfl ?_
                  refine Ops.nil ?_
                  refine thenQ_n ⟨(.cons (congrArg (fun b => some (Value.bool b)) (Eq.symm (by unfold SignN; grind))) (.cons rfl (.cons rfl (.cons rfl (.cons rfl .nil))))), rfl⟩
                · skip
                  refine Ops.r (Run.pickF rfl rfl (by first | rfl | assumption | exact decide_eq_true (by assumption) | exact decide_eq_false (by assumption) | decide | (simp; done) | (simp; omega) | (simp [*]; done))) rfl ?_
                  refine Ops.r (Run.mv rfl) rfl ?_
                  refine Ops.rg rfl (by first | rfl | assumption | exact decide_eq_true (by assumption) | exact decide_eq_false (by assumption) | decide | (simp; done) | (simp; omega) | (simp [*]; done)) (Run.mv rfl) rfl ?_
                  refine Ops.rg rfl (by first | rfl | assumption | exact decide_eq_true (by assumption) | exact decide_eq_false (by assumption) | decide | (simp; done) | (simp; omega) | (simp [*]; done)) (Run.bin rfl rfl (Bin.eqlN _ 45)) rfl ?_
                  by_cases hs60 : (low c).toNat = 45
                  · skip
                    refine Ops.r (Run.pickF rfl rfl (by first | rfl | assumption | exact decide_eq_true (by assumption) | exact decide_eq_false (by assumption) | decide | (simp; done) | (simp; omega) | (simp [*]; done))) rfl ?_
                    refine Ops.r (Run.mv rfl) rfl ?_
                    refine Ops.sk rfl (by first | rfl | assumption | exact decide_eq_true (by assumption) | exact decide_eq_false (by assumption) | decide | (simp; done) | (simp; omega) | (simp [*]; done)) rfl ?_
                    refine Ops.sk rfl (by first | rfl | assumption | exact decide_eq_true (by assumption) | exact decide_eq_false (by assumption) | decide | (simp; done) | (simp; omega) | (simp [*]; done)) rfl ?_
                    refine Ops.r (Run.pickT rfl rfl (by first | rfl | assumption | exact decide_eq_true (by assumption) | exact decide_eq_false (by assumption) | decide | (simp; done) | (simp; omega) | (simp [*]; done))) rfl ?_
                    refine Ops.r (Run.mv rfl) rfl ?_
                    refine Ops.sk rfl (by first | rfl | assumption | exact decide_eq_true (by assumption) | exact decide_eq_false (by assumption) | decide | (simp; done) | (simp; omega) | (simp [*]; done)) rfl ?_
                    refine Ops.sk rfl (by first | rfl | assumption | exact decide_eq_true (by assumption) | exact decide_eq_false (by assumption) | decide | (simp; done) | (simp; omega) | (simp [*]; done)) rfl ?_
                    refine Ops.r (Run.pickT rfl rfl (by first | rfl | assumption | exact decide_eq_true (by assumption) | exact decide_eq_false (by assumption) | decide | (simp; done) | (simp; omega) | (simp [*]; done))) rfl ?_
                    refine Ops.r (Run.not rfl) rfl ?_
                    refine Ops.nil ?_
                    refine thenQ_n ⟨(.cons (congrArg (fun b => some (Value.bool b)) (Eq.symm (by unfold SignN; grind))) (.cons rfl (.cons rfl (.cons rfl (.cons rfl .nil))))), rfl⟩
                  · skip
                    refine Ops.r (Run.pickF rfl rfl (by first | rfl | assumption | exact decide_eq_true (by assumption) | exact decide_eq_false (by assumption) | decide | (simp; done) | (simp; omega) | (simp [*]; done))) rfl ?_
                    refine Ops.r (Run.mv rfl) rfl ?_
                    refine Ops.rg rfl (by first | rfl | assumption | exact decide_eq_true (by assumption) | exact decide_eq_false (by assumption) | decide | (simp; done) | (simp; omega) | (simp [*]; done)) (Run.mv rfl) rfl ?_
                    refine Ops.rg rfl (by first | rfl | assumption | exact decide_eq_true (by assumption) | exact decide_eq_false (by assumption) | decide | (simp; done) | (simp; omega) | (simp [*]; done)) (Run.bin rfl rfl (Bin.eqlN _ 46)) rfl ?_
                    by_cases hs64 : (low c).toNat = 46
                    · skip
                      refine Ops.r (Run.pickF rfl rfl (by first | rfl | assumption | exact decide_eq_true (by assumption) | exact decide_eq_false (by assumption) | decide | (simp; done) | (simp; omega) | (simp [*]; done))) rfl ?_
                      refine Ops.r (Run.mv rfl) rfl ?_
                      refine Ops.sk rfl (by first | rfl | assumption | exact decide_eq_true (by assumption) | exact decide_eq_false (by assumption) | decide | (simp; done) | (simp; omega) | (simp [*]; done)) rfl ?_
                      refine Ops.sk rfl (by first | rfl | assumption | exact decide_eq_true (by assumption) | exact decide_eq_false (by assumption) | decide | (simp; done) | (simp; omega) | (simp [*]; done)) rfl ?_
                      refine Ops.r (Run.pickT rfl rfl (by first | rfl | assumption | exact decide_eq_true (by assumption) | exact decide_eq_false (by assumption) | decide | (simp; done) | (simp; omega) | (simp [*]; done))) rfl ?_
                      refine Ops.r (Run.not rfl) rfl ?_
                      refine Ops.nil ?_
                      refine thenQ_n ⟨(.cons (congrArg (fun b => some (Value.bool b)) (Eq.symm (by unfold SignN; grind))) (.cons rfl (.cons rfl (.cons rfl (.cons rfl .nil))))), rfl⟩
                    · skip
                      refine Ops.r (Run.pickF rfl rfl (by first | rfl | assumption | exact decide_eq_true (by assumption) | exact decide_eq_false (by assumption) | decide | (simp; done) | (simp; omega) | (simp [*]; done))) rfl ?_
                      refine Ops.r (Run.mv rfl) rfl ?_
                      refine Ops.rg rfl (by first | rfl | assumption | exact decide_eq_true (by assumption) | exact decide_eq_false (by assumption) | decide | (simp; done) | (simp; omega) | (simp [*]; done)) (Run.mv rfl) rfl ?_
                      refine Ops.rg rfl (by first | rfl | assumption | exact decide_eq_true (by assumption) | exact decide_eq_false (by assumption) | decide | (simp; done) | (simp; omega) | (simp [*]; done)) (Run.bin rfl rfl (Bin.eqlN _ 95)) rfl ?_
                      by_cases hs68 : (low c).toNat = 95
                      · skip
                        refine Ops.r (Run.pickF rfl rfl (by first | rfl | assumption | exact decide_eq_true (by assumption) | exact decide_eq_false (by assumption) | decide | (simp; done) | (simp; omega) | (simp [*]; done))) rfl ?_
                        refine Ops.r (Run.not rfl) rfl ?_
                        refine Ops.nil ?_
                        refine thenQ_n ⟨(.cons (congrArg (fun b => some (Value.bool b)) (Eq.symm (by unfold SignN; grind))) (.cons rfl (.cons rfl (.cons rfl (.cons rfl .nil))))), rfl⟩
                      · skip
                        refine Ops.r (Run.pickF rfl rfl (by first | rfl | assumption | exact decide_eq_true (by assumption) | exact decide_eq_false (by assumption) | decide | (simp; done) | (simp; omega) | (simp [*]; done))) rfl ?_
                        refine Ops.r (Run.not rfl) rfl ?_
                        refine Ops.nil ?_
                        refine thenQ_n ⟨(.cons (congrArg (fun b => some (Value.bool b)) (Eq.symm (by unfold SignN; grind))) (.cons rfl (.cons rfl (.cons rfl (.cons rfl .nil))))), rfl⟩
          · intro Γ hΓ
            refine thenQ_n (VC.sub _ hΓ ?_)
            refine VC.condD rfl (fun hc5 => ?_) (fun hc5 => ?_)
            · skip
              refine VC.seq ?_
              refine VC.region ?_
              refine Ops.r (Run.asg rfl) rfl ?_
              refine Ops.nil ?_
              refine thenQ_n ?_
              refine VC.sub [(2, _)] (.cons rfl .nil) ?_
              refine VC.ret ?_
              refine thenQ_r (blockQ_r (thenQ_r (thenQ_r (blockQ_r (thenQ_r (end1 rfl ?_))))))
              exact ⟨by rw [told_bad hn5 hmq hc5], hfr⟩
            · skip
              refine VC.skip ?_
              refine thenQ_n ?_
              refine VC.sub [(0, _), (5, _), (6, _), (7, _)] (.cons rfl (.cons rfl (.cons rfl (.cons rfl .nil)))) ?_
              refine VC.region ?_
              refine Ops.r (Run.mv rfl) rfl ?_
              refine Ops.r (Run.mv rfl) rfl ?_
              refine Ops.m (Does.buildS1 rfl Try.underlying40 Try.sizeOf5 zero5 (by decide) (by decide) rfl rfl) rfl ?_
              rintro _ w3 ⟨rfl, hF3⟩
              have hfr3 := hfr.trans hF3.frm (by simp)
              have hsc : SignN (low c).toNat := Classical.not_not.1 hc5
              refine Ops.r (Run.strOfT rfl Try.underlying40 Try.underlying5 Try.underlying9 (show Rd w3 1 _ 1 (U8 [low c]) from Rd.of_blk (n := 1) (size := 1) hF3.blk rfl)) rfl ?_
              refine Ops.r (Run.addT rfl rfl (by simp [smallS]; omega)) rfl ?_
              refine Ops.r (Run.asg rfl) rfl ?_
              refine Ops.nil ?_
              refine blockQ_n (thenQ_n ?_)
              refine VC.sub [(0, _), (5, _), (6, _)] (.cons rfl (.cons rfl (.cons rfl .nil))) ?_
              refine VC.region ?_
              refine Ops.r (Run.mv rfl) rfl ?_
              refine Ops.r (Run.bin rfl rfl (Bin.add_i64 _ 1 (by omega))) rfl ?_
              refine Ops.r (Run.asg rfl) rfl ?_
              refine Ops.nil ?_
              refine thenQ_n ⟨(j + 1), (.cons rfl (.cons (by rw [htq]; simp only [smallS, List.map_append, List.map_cons, List.map_nil]; rfl) (.cons rfl .nil))), ?_, ?_⟩
              · skip
                refine ⟨hc3, hfr3, fun d hd => ?_⟩
                rw [htq] at hd
                rcases List.mem_append.1 hd with h | h
                · exact hsg d h
                · simp only [List.mem_singleton] at h
                  rw [h]; exact hsc
              · skip
                first | omega | (dsimp only; omega)
    · skip
      have hjm : j = q.length := by omega
      subst hjm
      rw [List.take_length] at hsg ⊢
      refine VC.exit ?_
      refine thenQ_x (thenQ_x (blockQ_x ?_))
      refine thenQ_n ?_
      refine VC.sub [(5, _)] (.cons rfl .nil) ?_
      refine VC.seq ?_
      refine VC.seq ?_
      refine VC.region ?_
      refine Ops.r (Run.mv rfl) rfl ?_
      refine Ops.r (Run.lenT rfl Try.underlying9) rfl ?_
      refine Ops.r (Run.bin rfl rfl (Bin.gtrN _ 20)) rfl ?_
      rw [smallS_len]
      refine Ops.nil ?_
      refine thenQ_n ?_
      refine VC.sub [(5, _), (78, _)] (.cons rfl (.cons rfl .nil)) ?_
      refine VC.condD rfl (fun hc6 => ?_) (fun hc6 => ?_)
      · skip
        refine VC.seq ?_
        refine VC.region ?_
        refine Ops.r (Run.asg rfl) rfl ?_
        refine Ops.nil ?_
        refine thenQ_n ?_
        refine VC.sub [(2, _)] (.cons rfl .nil) ?_
        refine VC.ret ?_
        refine thenQ_r (end1 rfl ?_)
        exact ⟨by rw [told_long hsg hc6], hfr⟩
      · skip
        refine VC.skip ?_
        refine thenQ_n ?_
        refine VC.sub [(5, _)] (.cons rfl .nil) ?_
        refine VC.seq ?_
        refine VC.region ?_
        refine Ops.r (Run.mv rfl) rfl ?_
        refine Ops.r (Run.asg rfl) rfl ?_
        refine Ops.nil ?_
        refine thenQ_n ?_
        refine VC.sub [(2, _)] (.cons rfl .nil) ?_
        refine VC.ret ?_
        refine end1 rfl ?_
        exact ⟨by rw [told_word hsg hc6], hfr⟩

end Go.Proofs.Ytmfglifjnoilnaa

/-
  The document's flags: sets.
-/
namespace Go.Proofs.Ytmfglifjnoilnaa
open Go.RowKit Go.Sort

theorem filt_snoc {p : Tx → Bool} {l : List Tx} {i : Nat} (h : i < l.length) : (l.take (i + 1)).filter p = (l.take i).filter p ++ (if p l[i] = true then [l[i]] else []) := by
  rw [take_snoc h, List.filter_append]
  by_cases hp : p l[i] = true <;> simp [hp]
theorem filt_le {p : Tx → Bool} (l : List Tx) (i : Nat) : ((l.take i).filter p).length ≤ l.length := by
  refine Nat.le_trans (List.length_filter_le _ _) ?_
  simp
  omega

set_option maxRecDepth 100000 in
theorem lay_spec (A : Option Addr) (c0 : Nat) (l : List Tx) (q : Tx) (w : World) (hn : l.length ≤ 1000000) (hr : Rd w 1 A l.length (SB l)) :
    Calls Try.prog 59 #[.slice A l.length c0, encStr q] w fun e w' => Frm [] w w' ∧ ∃ B d, e = .returned (.slice B (layF l q).length d) ∧ Own w' 9 1 B (layF l q).length d (SB (layF l q)) ∧ (∀ x ∈ ob B, w.heap.size ≤ x) := by
  refine VC.calls (nt := 51) (res := #[.tmp 4]) Try.func59 rfl Try.ntmps59 Try.results59 rfl ?_
  refine VC.seq ?_
  refine VC.region ?_
  refine Ops.r (Run.asg rfl) rfl ?_
  refine Ops.nil ?_
  refine thenQ_n ?_
  refine VC.sub [(0, _), (1, _)] (.cons rfl (.cons rfl .nil)) ?_
  refine VC.seq ?_
  refine VC.region ?_
  refine Ops.r (Run.asg rfl) rfl ?_
  refine Ops.nil ?_
  refine thenQ_n ?_
  refine VC.seq ?_
  refine VC.seq ?_
  refine VC.region ?_
  refine Ops.r (v := .int .i64 ((0 : Nat) : Int)) (Run.asg rfl) rfl ?_
  refine Ops.nil ?_
  refine thenQ_n ?_
  refine VC.block ?_
  refine VC.loop (σ := Nat × Option Addr × Nat) (fun s => [(0, .slice A l.length c0), (1, encStr q), (5, .slice s.2.1 ((l.take s.1).filter (fun x => decide (x < q))).length s.2.2), (6, .int .i64 ((s.1 : Nat) : Int))]) (fun s wr => s.1 ≤ l.length ∧ Own wr 9 1 s.2.1 ((l.take s.1).filter (fun x => decide (x < q))).length s.2.2 (SB ((l.take s.1).filter (fun x => decide (x < q)))) ∧ (∀ x ∈ ob s.2.1, w.heap.size ≤ x) ∧ Frm [] w wr) (fun s => l.length - s.1) (0, none, 0) (.cons rfl (.cons rfl (.cons rfl (.cons rfl .nil)))) ⟨by omega, Own.nil _ _ _, by simp [ob], Frm.refl _ _⟩ ?_
  rintro ⟨i, B, d⟩ wr ⟨hi, hown, hge, hfr⟩
  dsimp only at hi hown hge ⊢
  have hfl := filt_le (p := fun x => decide (x < q)) l i
  refine VC.seq ?_
  refine VC.seq ?_
  refine VC.region ?_
  refine Ops.r (Run.mv rfl) rfl ?_
  refine Ops.r (Run.mv rfl) rfl ?_
  refine Ops.r (Run.lenS rfl Try.underlying43) rfl ?_
  refine Ops.r (Run.bin rfl rfl (Bin.lssN _ _)) rfl ?_
  refine Ops.nil ?_
  refine thenQ_n ?_
  refine VC.sub [(0, _), (1, _), (5, _), (6, _), (11, _)] (.cons rfl (.cons rfl (.cons rfl (.cons rfl (.cons rfl .nil))))) ?_
  refine VC.condD rfl (fun hc1 => ?_) (fun hc1 => ?_)
  · skip
    obtain ⟨ad, rfl, hcell⟩ := SB_at (hr.frm hfr (by simp)) hc1
    have hfs := filt_snoc (p := fun x => decide (x < q)) hc1
    have hgl : l[i] = l[i] := rfl
    generalize hq0 : l[i] = x at *
    refine VC.skip ?_
    refine thenQ_n ?_
    refine VC.sub [(0, _), (1, _), (5, _), (6, _)] (.cons rfl (.cons rfl (.cons rfl (.cons rfl .nil)))) ?_
    refine VC.seq ?_
    refine VC.block ?_
    refine VC.seq ?_
    refine VC.region ?_
    refine Ops.r (Run.mv rfl) rfl ?_
    refine Ops.r (Run.mv rfl) rfl ?_
    refine Ops.r (Run.index1 i rfl rfl Try.underlying43 Try.sizeOf9 hc1) rfl ?_
    refine Ops.r (Run.load rfl Try.isAgg9 hcell) rfl ?_
    refine Ops.r (Run.mv rfl) rfl ?_
    refine Ops.r (Run.lssT rfl rfl) rfl ?_
    refine Ops.nil ?_
    refine thenQ_n ?_
    refine VC.sub [(0, _), (1, _), (5, _), (6, _), (19, _)] (.cons rfl (.cons rfl (.cons rfl (.cons rfl (.cons rfl .nil))))) ?_
    refine VC.meet (σ := Option Addr × Nat) (fun s => [(0, .slice (some ad) l.length c0), (1, encStr q), (5, .slice s.1 ((l.take (i + 1)).filter (fun x => decide (x < q))).length s.2), (6, .int .i64 ((i : Nat) : Int))]) (fun s wm => Own wm 9 1 s.1 ((l.take (i + 1)).filter (fun x => decide (x < q))).length s.2 (SB ((l.take (i + 1)).filter (fun x => decide (x < q)))) ∧ (∀ x ∈ ob s.1, w.heap.size ≤ x) ∧ Frm [] w wm) ?_ ?_
    · skip
      refine VC.condD rfl (fun hc2 => ?_) (fun hc2 => ?_)
      · skip
        refine VC.region ?_
        refine Ops.r (Run.mv rfl) rfl ?_
        refine Ops.r (Run.mv rfl) rfl ?_
        refine Ops.r (Run.mv rfl) rfl ?_
        refine Ops.r (Run.index1 i rfl rfl Try.underlying43 Try.sizeOf9 hc1) rfl ?_
        refine Ops.r (Run.load rfl Try.isAgg9 hcell) rfl ?_
        refine Ops.m (Does.buildS1 rfl Try.underlying43 Try.sizeOf9 zero9 (by decide) (by decide) rfl rfl) rfl ?_
        rintro _ w2 ⟨rfl, hF2⟩
        have hfr2 := hfr.trans hF2.frm (by simp)
        refine Ops.m (Does.app rfl rfl Try.underlying43 (info9) rfl (by decide) (hown.frm hF2.frm (by simp)) (hrd1 hF2) (SB_one _) (by omega) (by omega)) rfl ?_
        rintro _ w3 ⟨A3, c3, rfl, hown3, hfr3, hob3⟩
        rw [← SB_append] at hown3
        have hge3 := up_app hge hob3 hfr2.size
        have hfr3' := hfr2.own hfr3 hge
        refine Ops.r (Run.asg rfl) rfl ?_
        refine Ops.nil ?_
        refine thenQ_n ⟨(A3, c3), (.cons rfl (.cons rfl (.cons (by rw [hfs, if_pos (decide_eq_true hc2), List.length_append]; rfl) (.cons rfl .nil)))), ?_⟩
        rw [hfs, if_pos (decide_eq_true hc2)]
        exact ⟨by simpa using hown3, hge3, hfr3'⟩
      · skip
        refine VC.skip ?_
        refine thenQ_n ⟨(B, d), (.cons rfl (.cons rfl (.cons (by rw [hfs, if_neg (by simpa using hc2), List.append_nil]; rfl) (.cons rfl .nil)))), ?_⟩
        rw [hfs, if_neg (by simpa using hc2), List.append_nil]
        exact ⟨hown, hge, hfr⟩
    · skip
      rintro ⟨B2, d2⟩ wm ⟨hown2, hge2, hfr2⟩ Γ hΓ
      refine blockQ_n (thenQ_n (VC.sub _ hΓ ?_))
      refine VC.region ?_
      refine Ops.r (Run.mv rfl) rfl ?_
      refine Ops.r (Run.bin rfl rfl (Bin.add_i64 _ 1 (by omega))) rfl ?_
      refine Ops.r (Run.asg rfl) rfl ?_
      refine Ops.nil ?_
      refine thenQ_n ⟨(i + 1, B2, d2), (.cons rfl (.cons rfl (.cons rfl (.cons rfl .nil)))), ?_, ?_⟩
      · skip
        exact ⟨hc1, hown2, hge2, hfr2⟩
      · skip
        first | omega | (dsimp only; omega)
  · skip
    have him : i = l.length := by omega
    subst him
    rw [List.take_length] at hown hfl ⊢
    refine VC.exit ?_
    refine thenQ_x (thenQ_x (blockQ_x ?_))
    refine thenQ_n ?_
    refine VC.sub [(0, _), (1, _), (5, _)] (.cons rfl (.cons rfl (.cons rfl .nil))) ?_
    refine VC.seq ?_
    refine VC.region ?_
    refine Ops.r (Run.mv rfl) rfl ?_
    refine Ops.r (Run.mv rfl) rfl ?_
    refine Ops.m (Does.buildS1 rfl Try.underlying43 Try.sizeOf9 zero9 (by decide) (by decide) rfl rfl) rfl ?_
    rintro _ w4 ⟨rfl, hF4⟩
    have hfr4 := hfr.trans hF4.frm (by simp)
    refine Ops.m (Does.app rfl rfl Try.underlying43 (info9) rfl (by decide) (hown.frm hF4.frm (by simp)) (hrd1 hF4) (SB_one _) (by omega) (by omega)) rfl ?_
    rintro _ w5 ⟨A5, c5, rfl, hown5, hfr5, hob5⟩
    rw [← SB_append] at hown5
    have hge5 := up_app hge hob5 hfr4.size
    have hfr5' := hfr4.own hfr5 hge
    refine Ops.r (Run.asg rfl) rfl ?_
    refine Ops.nil ?_
    refine thenQ_n ?_
    refine VC.sub [(0, _), (1, _), (5, _)] (.cons rfl (.cons rfl (.cons rfl .nil))) ?_
    refine VC.seq ?_
    refine VC.seq ?_
    refine VC.region ?_
    refine Ops.r (v := .int .i64 ((0 : Nat) : Int)) (Run.asg rfl) rfl ?_
    refine Ops.nil ?_
    refine thenQ_n ?_
    refine VC.block ?_
    refine VC.loop (σ := Nat × Option Addr × Nat) (fun s => [(0, .slice A l.length c0), (1, encStr q), (5, .slice s.2.1 (l.filter (fun x => decide (x < q)) ++ [q] ++ (l.take s.1).filter (fun x => decide (q < x))).length s.2.2), (7, .int .i64 ((s.1 : Nat) : Int))]) (fun s wr => s.1 ≤ l.length ∧ Own wr 9 1 s.2.1 (l.filter (fun x => decide (x < q)) ++ [q] ++ (l.take s.1).filter (fun x => decide (q < x))).length s.2.2 (SB (l.filter (fun x => decide (x < q)) ++ [q] ++ (l.take s.1).filter (fun x => decide (q < x)))) ∧ (∀ x ∈ ob s.2.1, w.heap.size ≤ x) ∧ Frm [] w wr) (fun s => l.length - s.1) (0, A5, c5) (.cons rfl (.cons rfl (.cons (by simp; rfl) (.cons rfl .nil)))) ⟨by omega, by simpa using hown5, hge5, hfr5'⟩ ?_
    rintro ⟨j, B, d⟩ wr ⟨hj, hown, hge, hfr⟩
    dsimp only at hj hown hge ⊢
    have hfl2 := filt_le (p := fun x => decide (q < x)) l j
    have hlen2 : (l.filter (fun x => decide (x < q)) ++ [q] ++ (l.take j).filter (fun x => decide (q < x))).length ≤ 3000000 := by simp only [List.length_append, List.length_singleton]; omega
    generalize hP : l.filter (fun x => decide (x < q)) ++ [q] = P0 at *
    refine VC.seq ?_
    refine VC.seq ?_
    refine VC.region ?_
    refine Ops.r (Run.mv rfl) rfl ?_
    refine Ops.r (Run.mv rfl) rfl ?_
    refine Ops.r (Run.lenS rfl Try.underlying43) rfl ?_
    refine Ops.r (Run.bin rfl rfl (Bin.lssN _ _)) rfl ?_
    refine Ops.nil ?_
    refine thenQ_n ?_
    refine VC.sub [(0, _), (1, _), (5, _), (7, _), (34, _)] (.cons rfl (.cons rfl (.cons rfl (.cons rfl (.cons rfl .nil))))) ?_
    refine VC.condD rfl (fun hc3 => ?_) (fun hc3 => ?_)
    · skip
      obtain ⟨ad, rfl, hcell⟩ := SB_at (hr.frm hfr (by simp)) hc3
      have hfs := filt_snoc (p := fun x => decide (q < x)) hc3
      generalize hq0 : l[j] = x at *
      refine VC.skip ?_
      refine thenQ_n ?_
      refine VC.sub [(0, _), (1, _), (5, _), (7, _)] (.cons rfl (.cons rfl (.cons rfl (.cons rfl .nil)))) ?_
      refine VC.seq ?_
      refine VC.block ?_
      refine VC.seq ?_
      refine VC.region ?_
      refine Ops.r (Run.mv rfl) rfl ?_
      refine Ops.r (Run.mv rfl) rfl ?_
      refine Ops.r (Run.index1 j rfl rfl Try.underlying43 Try.sizeOf9 hc3) rfl ?_
      refine Ops.r (Run.load rfl Try.isAgg9 hcell) rfl ?_
      refine Ops.r (Run.mv rfl) rfl ?_
      refine Ops.r (Run.gtrT rfl rfl) rfl ?_
      refine Ops.nil ?_
      refine thenQ_n ?_
      refine VC.sub [(0, _), (1, _), (5, _), (7, _), (42, _)] (.cons rfl (.cons rfl (.cons rfl (.cons rfl (.cons rfl .nil))))) ?_
      refine VC.meet (σ := Option Addr × Nat) (fun s => [(0, .slice (some ad) l.length c0), (1, encStr q), (5, .slice s.1 (P0 ++ (l.take (j + 1)).filter (fun x => decide (q < x))).length s.2), (7, .int .i64 ((j : Nat) : Int))]) (fun s wm => Own wm 9 1 s.1 (P0 ++ (l.take (j + 1)).filter (fun x => decide (q < x))).length s.2 (SB (P0 ++ (l.take (j + 1)).filter (fun x => decide (q < x)))) ∧ (∀ x ∈ ob s.1, w.heap.size ≤ x) ∧ Frm [] w wm) ?_ ?_
      · skip
        refine VC.condD rfl (fun hc4 => ?_) (fun hc4 => ?_)
        · skip
          refine VC.region ?_
          refine Ops.r (Run.mv rfl) rfl ?_
          refine Ops.r (Run.mv rfl) rfl ?_
          refine Ops.r (Run.mv rfl) rfl ?_
          refine Ops.r (Run.index1 j rfl rfl Try.underlying43 Try.sizeOf9 hc3) rfl ?_
          refine Ops.r (Run.load rfl Try.isAgg9 hcell) rfl ?_
          refine Ops.m (Does.buildS1 rfl Try.underlying43 Try.sizeOf9 zero9 (by decide) (by decide) rfl rfl) rfl ?_
          rintro _ w6 ⟨rfl, hF6⟩
          have hfr6 := hfr.trans hF6.frm (by simp)
          refine Ops.m (Does.app rfl rfl Try.underlying43 (info9) rfl (by decide) (hown.frm hF6.frm (by simp)) (hrd1 hF6) (SB_one _) (by omega) (by omega)) rfl ?_
          rintro _ w7 ⟨A7, c7, rfl, hown7, hfr7, hob7⟩
          rw [← SB_append] at hown7
          have hge7 := up_app hge hob7 hfr6.size
          have hfr7' := hfr6.own hfr7 hge
          refine Ops.r (Run.asg rfl) rfl ?_
          refine Ops.nil ?_
          refine thenQ_n ⟨(A7, c7), (.cons rfl (.cons rfl (.cons (by rw [hfs, if_pos (decide_eq_true hc4), ← List.append_assoc, List.length_append (bs := [x])]; rfl) (.cons rfl .nil)))), ?_⟩
          rw [hfs, if_pos (decide_eq_true hc4), ← List.append_assoc, List.length_append (bs := [x])]
          exact ⟨hown7, hge7, hfr7'⟩
        · skip
          refine VC.skip ?_
          refine thenQ_n ⟨(B, d), (.cons rfl (.cons rfl (.cons (by rw [hfs, if_neg (by simpa using hc4), List.append_nil]; rfl) (.cons rfl .nil)))), ?_⟩
          rw [hfs, if_neg (by simpa using hc4), List.append_nil]
          exact ⟨hown, hge, hfr⟩
      · skip
        rintro ⟨B2, d2⟩ wm ⟨hown2, hge2, hfr2⟩ Γ hΓ
        refine blockQ_n (thenQ_n (VC.sub _ hΓ ?_))
        refine VC.region ?_
        refine Ops.r (Run.mv rfl) rfl ?_
        refine Ops.r (Run.bin rfl rfl (Bin.add_i64 _ 1 (by omega))) rfl ?_
        refine Ops.r (Run.asg rfl) rfl ?_
        refine Ops.nil ?_
        refine thenQ_n ⟨(j + 1, B2, d2), (.cons rfl (.cons rfl (.cons rfl (.cons rfl .nil)))), ?_, ?_⟩
        · skip
          exact ⟨hc3, hown2, hge2, hfr2⟩
        · skip
          first | omega | (dsimp only; omega)
    · skip
      refine VC.exit ?_
      refine thenQ_x (thenQ_x (blockQ_x ?_))
      refine thenQ_n ?_
      refine VC.sub [(5, _)] (.cons rfl .nil) ?_
      refine VC.seq ?_
      refine VC.region ?_
      refine Ops.r (Run.mv rfl) rfl ?_
      refine Ops.r (Run.asg rfl) rfl ?_
      refine Ops.nil ?_
      refine thenQ_n ?_
      refine VC.sub [(4, _)] (.cons rfl .nil) ?_
      refine VC.ret ?_
      refine end1 rfl ?_
      have hjm : j = l.length := by omega
      subst hjm
      rw [List.take_length] at hown ⊢
      have e : P0 ++ l.filter (fun x => decide (q < x)) = layF l q := by rw [← hP]; rfl
      rw [e] at hown ⊢
      exact ⟨hfr, B, d, rfl, hown, hge⟩

set_option maxRecDepth 100000 in
theorem rsame_spec (A B : Option Addr) (c d : Nat) (a b : List Tx) (w : World) (hla : a.length ≤ 1000000) (hlb : b.length ≤ 1000000) (ha : Rd w 1 A a.length (SB a)) (hb : Rd w 1 B b.length (SB b)) :
    Calls Try.prog 35 #[.slice A a.length c, .slice B b.length d] w fun e w' => e = .returned (.bool (decide (a = b))) ∧ Drawn w w' := by
  refine VC.calls (nt := 26) (res := #[.tmp 4]) Try.func35 rfl Try.ntmps35 Try.results35 rfl ?_
  refine VC.seq ?_
  refine VC.region ?_
  refine Ops.r (Run.asg rfl) rfl ?_
  refine Ops.nil ?_
  refine thenQ_n ?_
  refine VC.sub [(0, _), (1, _)] (.cons rfl (.cons rfl .nil)) ?_
  refine VC.seq ?_
  refine VC.seq ?_
  refine VC.region ?_
  refine Ops.r (Run.mv rfl) rfl ?_
  refine Ops.r (Run.lenS rfl Try.underlying43) rfl ?_
  refine Ops.r (Run.mv rfl) rfl ?_
  refine Ops.r (Run.lenS rfl Try.underlying43) rfl ?_
  refine Ops.r (Run.bin rfl rfl (Bin.neqN _ _)) rfl ?_
  refine Ops.nil ?_
  refine thenQ_n ?_
  refine VC.sub [(0, _), (1, _), (10, _)] (.cons rfl (.cons rfl (.cons rfl .nil))) ?_
  refine VC.condD rfl (fun hc1 => ?_) (fun hc1 => ?_)
  · skip
    have hne : ¬ a = b := fun h => hc1 (by rw [h])
    refine VC.seq ?_
    refine VC.region ?_
    refine Ops.r (Run.asg rfl) rfl ?_
    refine Ops.nil ?_
    refine thenQ_n ?_
    refine VC.sub [(4, _)] (.cons rfl .nil) ?_
    refine VC.ret ?_
    refine thenQ_r (end1 rfl ?_)
    exact ⟨by simp [hne], Drawn.refl _⟩
  · skip
    have hll : a.length = b.length := Classical.not_not.1 hc1
    refine VC.skip ?_
    refine thenQ_n ?_
    refine VC.sub [(0, _), (1, _)] (.cons rfl (.cons rfl .nil)) ?_
    refine VC.seq ?_
    refine VC.seq ?_
    refine VC.region ?_
    refine Ops.r (v := .int .i64 ((0 : Nat) : Int)) (Run.asg rfl) rfl ?_
    refine Ops.nil ?_
    refine thenQ_n ?_
    refine VC.block ?_
    refine VC.loop (σ := Nat) (fun s => [(0, .slice A a.length c), (1, .slice B b.length d), (5, .int .i64 ((s : Nat) : Int))]) (fun s wr => s ≤ a.length ∧ a.take s = b.take s ∧ Drawn w wr) (fun s => a.length - s) 0 (.cons rfl (.cons rfl (.cons rfl .nil))) ⟨by omega, rfl, Drawn.refl _⟩ ?_
    rintro i wr ⟨hi, htk, hd⟩
    refine VC.seq ?_
    refine VC.seq ?_
    refine VC.region ?_
    refine Ops.r (Run.mv rfl) rfl ?_
    refine Ops.r (Run.mv rfl) rfl ?_
    refine Ops.r (Run.lenS rfl Try.underlying43) rfl ?_
    refine Ops.r (Run.bin rfl rfl (Bin.lssN _ _)) rfl ?_
    refine Ops.nil ?_
    refine thenQ_n ?_
    refine VC.sub [(0, _), (1, _), (5, _), (14, _)] (.cons rfl (.cons rfl (.cons rfl (.cons rfl .nil)))) ?_
    refine VC.condD rfl (fun hc2 => ?_) (fun hc2 => ?_)
    · skip
      have hib : i < b.length := by omega
      obtain ⟨ad, rfl, hcell⟩ := SB_at (ha.drawn (hd.trans (Drawn.drew _))) hc2
      obtain ⟨ad2, rfl, hcell2⟩ := SB_at (hb.drawn (hd.trans (Drawn.drew _))) hib
      have hta : a.take (i + 1) = a.take i ++ [a[i]] := take_snoc hc2
      have htb : b.take (i + 1) = b.take i ++ [b[i]] := take_snoc hib
      have hab : a = b → a[i] = b[i] := by rintro rfl; rfl
      generalize a[i] = x at *
      generalize b[i] = y at *
      refine VC.skip ?_
      refine thenQ_n ?_
      refine VC.sub [(0, _), (1, _), (5, _)] (.cons rfl (.cons rfl (.cons rfl .nil))) ?_
      refine VC.seq ?_
      refine VC.block ?_
      refine VC.seq ?_
      refine VC.still (by kernel_rfl) (by kernel_rfl) ?_
      refine SOps.r (Run.mv rfl) rfl ?_
      refine SOps.r (Run.mv rfl) rfl ?_
      refine SOps.r (Run.index1 i rfl rfl Try.underlying43 Try.sizeOf9 hc2) rfl ?_
      refine SOps.r (Run.load rfl Try.isAgg9 hcell) rfl ?_
      refine SOps.r (Run.mv rfl) rfl ?_
      refine SOps.r (Run.mv rfl) rfl ?_
      refine SOps.r (Run.index1 i rfl rfl Try.underlying43 Try.sizeOf9 hib) rfl ?_
      refine SOps.r (Run.load rfl Try.isAgg9 hcell2) rfl ?_
      refine SOps.r (Run.neqT rfl rfl) rfl ?_
      refine SOps.nil ?_
      refine thenQ_n ?_
      refine VC.sub [(0, _), (1, _), (5, _), (25, _)] (.cons rfl (.cons rfl (.cons rfl (.cons rfl .nil)))) ?_
      refine VC.condD rfl (fun hc3 => ?_) (fun hc3 => ?_)
      · skip
        have hne : ¬ a = b := fun h => hc3 (hab h)
        refine VC.seq ?_
        refine VC.region ?_
        refine Ops.r (Run.asg rfl) rfl ?_
        refine Ops.nil ?_
        refine thenQ_n ?_
        refine VC.sub [(4, _)] (.cons rfl .nil) ?_
        refine VC.ret ?_
        refine blockQ_r (thenQ_r (thenQ_r (blockQ_r (thenQ_r (end1 rfl ?_)))))
        exact ⟨by simp [hne], hd.trans (Drawn.drew _)⟩
      · skip
        have hxy : x = y := Classical.not_not.1 hc3
        refine VC.skip ?_
        refine blockQ_n (thenQ_n ?_)
        refine VC.sub [(0, _), (1, _), (5, _)] (.cons rfl (.cons rfl (.cons rfl .nil))) ?_
        refine VC.region ?_
        refine Ops.r (Run.mv rfl) rfl ?_
        refine Ops.r (Run.bin rfl rfl (Bin.add_i64 _ 1 (by omega))) rfl ?_
        refine Ops.r (Run.asg rfl) rfl ?_
        refine Ops.nil ?_
        refine thenQ_n ⟨(i + 1), (.cons rfl (.cons rfl (.cons rfl .nil))), ?_, ?_⟩
        · skip
          exact ⟨hc2, by rw [hta, htb, htk, hxy], hd.trans (Drawn.drew _)⟩
        · skip
          first | omega | (dsimp only; omega)
    · skip
      have hil : i = a.length := by omega
      subst hil
      have heq : a = b := by
        rw [List.take_length, hll, List.take_length] at htk
        exact htk
      refine VC.exit ?_
      refine thenQ_x (thenQ_x (blockQ_x ?_))
      refine thenQ_n ?_
      refine VC.sub [] .nil ?_
      refine VC.seq ?_
      refine VC.region ?_
      refine Ops.r (Run.asg rfl) rfl ?_
      refine Ops.nil ?_
      refine thenQ_n ?_
      refine VC.ret ?_
      refine end1 rfl ?_
      exact ⟨by simp [heq], hd⟩

end Go.Proofs.Ytmfglifjnoilnaa

/-
  The document's flags: the set of flags, and what is done with sets.
-/
namespace Go.Proofs.Ytmfglifjnoilnaa
open Go.RowKit Go.Sort

set_option maxRecDepth 100000 in
theorem rnorm_spec (A : Option Addr) (c0 : Nat) (l : List Tx) (w : World) (hn : l.length ≤ 900000) (hq : ∀ q ∈ l, q.length ≤ 1000000) (hr : Rd w 1 A l.length (SB l)) :
    Calls Try.prog 65 #[.slice A l.length c0] w fun e w' => Frm [] w w' ∧ ∃ B d r k, IsN w w' e (normF l) B d r k := by
  refine VC.calls (nt := 27) (res := #[.tmp 2, .tmp 3]) Try.func65 rfl Try.ntmps65 Try.results65 rfl ?_
  refine VC.seq ?_
  refine VC.region ?_
  refine Ops.r (Run.asg rfl) rfl ?_
  refine Ops.r (v := .int .i64 ((0 : Nat) : Int)) (Run.asg rfl) rfl ?_
  refine Ops.nil ?_
  refine thenQ_n ?_
  refine VC.sub [(0, _)] (.cons rfl .nil) ?_
  refine VC.seq ?_
  refine VC.region ?_
  refine Ops.r (Run.asg rfl) rfl ?_
  refine Ops.nil ?_
  refine thenQ_n ?_
  refine VC.seq ?_
  refine VC.seq ?_
  refine VC.region ?_
  refine Ops.r (v := .int .i64 ((0 : Nat) : Int)) (Run.asg rfl) rfl ?_
  refine Ops.nil ?_
  refine thenQ_n ?_
  refine VC.block ?_
  refine VC.loop (σ := Nat × Option Addr × Nat × List Tx) (fun s => [(0, .slice A l.length c0), (4, .slice s.2.1 (nub s.2.2.2).length s.2.2.1), (5, .int .i64 ((s.1 : Nat) : Int))]) (fun s wr => s.1 ≤ l.length ∧ Own wr 9 1 s.2.1 (nub s.2.2.2).length s.2.2.1 (SB (nub s.2.2.2)) ∧ (∀ x ∈ ob s.2.1, w.heap.size ≤ x) ∧ Frm [] w wr ∧ toldL (l.take s.1) = some s.2.2.2) (fun s => l.length - s.1) (0, none, 0, []) (.cons rfl (.cons (by rw [show nub [] = [] from nub_self (by simp)]; rfl) (.cons rfl .nil))) ⟨by omega, (by rw [show nub [] = [] from nub_self (by simp)]; exact Own.nil _ _ _), by simp [ob], Frm.refl _ _, rfl⟩ ?_
  rintro ⟨i, B, d, ts⟩ wr ⟨hi, hown, hge, hfr, htl⟩
  dsimp only at hi hown hge htl ⊢
  have htsl : ts.length = i := by rw [toldL_len htl]; simp; omega
  have hnl := nub_len ts
  refine VC.seq ?_
  refine VC.seq ?_
  refine VC.region ?_
  refine Ops.r (Run.mv rfl) rfl ?_
  refine Ops.r (Run.mv rfl) rfl ?_
  refine Ops.r (Run.lenS rfl Try.underlying43) rfl ?_
  refine Ops.r (Run.bin rfl rfl (Bin.lssN _ _)) rfl ?_
  refine Ops.nil ?_
  refine thenQ_n ?_
  refine VC.sub [(0, _), (4, _), (5, _), (10, _)] (.cons rfl (.cons rfl (.cons rfl (.cons rfl .nil)))) ?_
  refine VC.condD rfl (fun hc1 => ?_) (fun hc1 => ?_)
  · skip
    obtain ⟨ad, rfl, hcell⟩ := SB_at (hr.frm hfr (by simp)) hc1
    refine VC.skip ?_
    refine thenQ_n ?_
    refine VC.sub [(0, _), (4, _), (5, _)] (.cons rfl (.cons rfl (.cons rfl .nil))) ?_
    refine VC.seq ?_
    refine VC.block ?_
    refine VC.seq ?_
    refine VC.region ?_
    refine Ops.r (Run.mv rfl) rfl ?_
    refine Ops.r (Run.mv rfl) rfl ?_
    refine Ops.r (Run.index1 i rfl rfl Try.underlying43 Try.sizeOf9 hc1) rfl ?_
    refine Ops.r (Run.load rfl Try.isAgg9 hcell) rfl ?_
    refine Ops.cl (Enters.fn (evs.cons rfl evs.nil) Try.call43) (rtold_spec l[i] _ (hq _ (List.getElem_mem hc1))) rfl ?_
    rintro e w1 ⟨rfl, hf1⟩
    refine ⟨_, rfl, ?_⟩
    have hfr1 := hfr.trans hf1 (by simp)
    have hown1 := hown.frm hf1 (by simp)
    have htc := told_cases l[i]
    generalize hq0 : l[i] = q at *
    refine Ops.r (Run.asg rfl) rfl ?_
    refine Ops.nil ?_
    refine thenQ_n ?_
    refine VC.sub [(0, _), (4, _), (5, _), (6, _)] (.cons rfl (.cons rfl (.cons rfl (.cons rfl .nil)))) ?_
    refine VC.seq ?_
    refine VC.seq ?_
    refine VC.region ?_
    refine Ops.r (Run.mv rfl) rfl ?_
    refine Ops.r (Run.eqlT rfl rfl) rfl ?_
    refine Ops.nil ?_
    refine thenQ_n ?_
    refine VC.sub [(0, _), (4, _), (5, _), (6, _), (19, _)] (.cons rfl (.cons rfl (.cons rfl (.cons rfl (.cons rfl .nil))))) ?_
    refine VC.condD rfl (fun hc2 => ?_) (fun hc2 => ?_)
    · skip
      have ht0 : toldF q = none := by
        rcases htc with ⟨t, h, h2⟩ | ⟨h, _⟩
        · rw [h2] at hc2; exact absurd hc2 (toldF_ne h)
        · exact h
      have hnf : normF l = .error 18 := by
        unfold normF
        rw [toldL_none (hq0 ▸ List.getElem_mem hc1) ht0]
      refine VC.seq ?_
      refine VC.region ?_
      refine Ops.r (Run.asg rfl) rfl ?_
      refine Ops.r (v := .int .i64 ((18 : Nat) : Int)) (Run.asg rfl) rfl ?_
      refine Ops.nil ?_
      refine thenQ_n ?_
      refine VC.sub [(2, _), (3, _)] (.cons rfl (.cons rfl .nil)) ?_
      refine VC.ret ?_
      refine thenQ_r (blockQ_r (thenQ_r (thenQ_r (blockQ_r (thenQ_r (end2 rfl rfl ?_))))))
      exact ⟨hfr1, none, 0, [], 18, rfl, Own.nil _ _ _, by simp [ob], .inr ⟨by decide, rfl, hnf⟩⟩
    · skip
      obtain ⟨t, ht0, hv0⟩ : ∃ t, toldF q = some t ∧ toldV q = (t, 0) := by
        rcases htc with h | ⟨_, h⟩
        · exact h
        · rw [h] at hc2; exact absurd rfl hc2
      rw [hv0]
      refine VC.skip ?_
      refine thenQ_n ?_
      refine VC.sub [(0, _), (4, _), (5, _), (6, _)] (.cons rfl (.cons rfl (.cons rfl (.cons rfl .nil)))) ?_
      refine VC.region ?_
      refine Ops.r (Run.mv rfl) rfl ?_
      refine Ops.r (Run.mv rfl) rfl ?_
      refine Ops.cl (Enters.fn (evs.cons rfl (evs.cons rfl evs.nil)) Try.call59) (lay_spec B d (nub ts) t _ (by omega) hown1.rd) rfl ?_
      rintro e w3 ⟨hf3, D, d3, rfl, hown3, hge3⟩
      refine ⟨_, rfl, ?_⟩
      have hfr3 := hfr1.trans hf3 (by simp)
      have hnt : layF (nub ts) t = nub (ts ++ [t]) := by rw [← laysF_nub, ← laysF_nub, laysF_snoc]
      rw [hnt] at hown3 ⊢
      refine Ops.r (Run.asg rfl) rfl ?_
      refine Ops.nil ?_
      refine blockQ_n (thenQ_n ?_)
      refine VC.sub [(0, _), (4, _), (5, _)] (.cons rfl (.cons rfl (.cons rfl .nil))) ?_
      refine VC.region ?_
      refine Ops.r (Run.mv rfl) rfl ?_
      refine Ops.r (Run.bin rfl rfl (Bin.add_i64 _ 1 (by omega))) rfl ?_
      refine Ops.r (Run.asg rfl) rfl ?_
      refine Ops.nil ?_
      refine thenQ_n ⟨(i + 1, D, d3, ts ++ [t]), (.cons rfl (.cons rfl (.cons rfl .nil))), ?_, ?_⟩
      · skip
        exact ⟨hc1, hown3, fun x hx => Nat.le_trans hfr1.size (hge3 x hx), hfr3, by rw [take_snoc hc1, toldL_snoc, htl, hq0, ht0]⟩
      · skip
        first | omega | (dsimp only; omega)
  · skip
    have him : i = l.length := by omega
    subst him
    rw [List.take_length] at htl
    refine VC.exit ?_
    refine thenQ_x (thenQ_x (blockQ_x ?_))
    refine thenQ_n ?_
    refine VC.sub [(4, _)] (.cons rfl .nil) ?_
    refine VC.seq ?_
    refine VC.seq ?_
    refine VC.region ?_
    refine Ops.r (Run.mv rfl) rfl ?_
    refine Ops.r (Run.lenS rfl Try.underlying43) rfl ?_
    refine Ops.r (Run.bin rfl rfl (Bin.gtrN _ 16)) rfl ?_
    refine Ops.nil ?_
    refine thenQ_n ?_
    refine VC.sub [(4, _), (25, _)] (.cons rfl (.cons rfl .nil)) ?_
    refine VC.condD rfl (fun hc3 => ?_) (fun hc3 => ?_)
    · skip
      refine VC.seq ?_
      refine VC.region ?_
      refine Ops.r (Run.asg rfl) rfl ?_
      refine Ops.r (v := .int .i64 ((5 : Nat) : Int)) (Run.asg rfl) rfl ?_
      refine Ops.nil ?_
      refine thenQ_n ?_
      refine VC.sub [(2, _), (3, _)] (.cons rfl (.cons rfl .nil)) ?_
      refine VC.ret ?_
      refine thenQ_r (end2 rfl rfl ?_)
      exact ⟨hfr, none, 0, [], 5, rfl, Own.nil _ _ _, by simp [ob], .inr ⟨by decide, rfl, by unfold normF; rw [htl]; exact if_pos hc3⟩⟩
    · skip
      refine VC.skip ?_
      refine thenQ_n ?_
      refine VC.sub [(4, _)] (.cons rfl .nil) ?_
      refine VC.seq ?_
      refine VC.region ?_
      refine Ops.r (Run.mv rfl) rfl ?_
      refine Ops.r (Run.asg rfl) rfl ?_
      refine Ops.r (v := .int .i64 ((0 : Nat) : Int)) (Run.asg rfl) rfl ?_
      refine Ops.nil ?_
      refine thenQ_n ?_
      refine VC.sub [(2, _), (3, _)] (.cons rfl (.cons rfl .nil)) ?_
      refine VC.ret ?_
      refine end2 rfl rfl ?_
      exact ⟨hfr, B, d, nub ts, 0, rfl, hown, hge, .inl ⟨rfl, by unfold normF; rw [htl]; exact if_neg hc3⟩⟩

set_option maxRecDepth 100000 in
theorem rcheck_spec (A : Option Addr) (c0 : Nat) (l : List Tx) (w : World) (hn : l.length ≤ 900000) (hq : ∀ q ∈ l, q.length ≤ 1000000) (hr : Rd w 1 A l.length (SB l)) :
    Calls Try.prog 49 #[.slice A l.length c0] w fun e w' => e = .returned (.bool (decide (checkF l))) ∧ Frm [] w w' := by
  refine VC.calls (nt := 17) (res := #[.tmp 2]) Try.func49 rfl Try.ntmps49 Try.results49 rfl ?_
  refine VC.seq ?_
  refine VC.region ?_
  refine Ops.r (Run.asg rfl) rfl ?_
  refine Ops.nil ?_
  refine thenQ_n ?_
  refine VC.sub [(0, _)] (.cons rfl .nil) ?_
  refine VC.seq ?_
  refine VC.region ?_
  refine Ops.r (Run.mv rfl) rfl ?_
  refine Ops.cl (Enters.fn (evs.cons rfl evs.nil) Try.call65) (rnorm_spec A c0 l _ hn hq hr) rfl ?_
  rintro e w1 ⟨hf1, B, d, r, k, rfl, ho1, hge1, hN⟩
  refine ⟨_, rfl, ?_⟩
  have hr1 := hr.frm hf1 (by simp)
  have hck : checkF l ↔ (k = 0 ∧ r = l) := by
    unfold checkF
    rcases hN with ⟨h1, h2⟩ | ⟨h1, _, h2⟩
    · rw [h2]; simp [h1]
    · rw [h2]; simp [h1]
  have hrl : r.length ≤ 1000000 := by
    rcases hN with ⟨h1, h2⟩ | ⟨h1, h2, _⟩
    · have := (checkF_facts (normF_check h2)).2.1; omega
    · subst h2; simp
  refine Ops.r (Run.mv rfl) rfl ?_
  refine Ops.r (Run.extract rfl rfl) rfl ?_
  refine Ops.r (Run.extract rfl rfl) rfl ?_
  refine Ops.r (Run.asg rfl) rfl ?_
  refine Ops.r (Run.asg rfl) rfl ?_
  refine Ops.nil ?_
  refine thenQ_n ?_
  refine VC.sub [(0, _), (3, _), (4, _)] (.cons rfl (.cons rfl (.cons rfl .nil))) ?_
  refine VC.seq ?_
  refine VC.splitR [] (Frm [] w) 2 (.bool (decide (checkF l))) ?_ ?_
  · refine VC.region ?_
    refine Ops.r (Run.mv rfl) rfl ?_
    refine Ops.r (Run.bin rfl rfl (Bin.eqlN _ 0)) rfl ?_
    by_cases hs11 : k = 0
    · skip
      refine Ops.r (Run.mv rfl) rfl ?_
      refine Ops.rg rfl (by first | rfl | assumption | exact decide_eq_true (by assumption) | exact decide_eq_false (by assumption) | decide | (simp; done) | (simp; omega) | (simp [*]; done)) (Run.mv rfl) rfl ?_
      refine Ops.rg rfl (by first | rfl | assumption | exact decide_eq_true (by assumption) | exact decide_eq_false (by assumption) | decide | (simp; done) | (simp; omega) | (simp [*]; done)) (Run.mv rfl) rfl ?_
      refine Ops.clg rfl (by first | rfl | assumption | exact decide_eq_true (by assumption) | exact decide_eq_false (by assumption) | decide | (simp; done) | (simp; omega) | (simp [*]; done)) (Enters.fn (evs.cons rfl (evs.cons rfl evs.nil)) Try.call35) (rsame_spec B A d c0 r l _ (by omega) (by omega) ho1.rd hr1) rfl ?_
      rintro e w2 ⟨rfl, hd2⟩
      refine ⟨_, rfl, ?_⟩
      by_cases hs15 : r = l
      · skip
        refine Ops.r (Run.pickT rfl rfl (by first | rfl | assumption | exact decide_eq_true (by assumption) | exact decide_eq_false (by assumption) | decide | (simp; done) | (simp; omega) | (simp [*]; done))) rfl ?_
        refine Ops.r (Run.asg rfl) rfl ?_
        refine Ops.nil ?_
        refine thenQ_n ⟨(.cons (congrArg (fun b => some (Value.bool b)) (Eq.symm (by simp [hck, *]))) .nil), (by first | exact hf1.drawn hd2 | exact hf1)⟩
      · skip
        refine Ops.r (Run.pickT rfl rfl (by first | rfl | assumption | exact decide_eq_true (by assumption) | exact decide_eq_false (by assumption) | decide | (simp; done) | (simp; omega) | (simp [*]; done))) rfl ?_
        refine Ops.r (Run.asg rfl) rfl ?_
        refine Ops.nil ?_
        refine thenQ_n ⟨(.cons (congrArg (fun b => some (Value.bool b)) (Eq.symm (by simp [hck, *]))) .nil), (by first | exact hf1.drawn hd2 | exact hf1)⟩
    · skip
      refine Ops.r (Run.mv rfl) rfl ?_
      refine Ops.sk rfl (by first | rfl | assumption | exact decide_eq_true (by assumption) | exact decide_eq_false (by assumption) | decide | (simp; done) | (simp; omega) | (simp [*]; done)) rfl ?_
      refine Ops.sk rfl (by first | rfl | assumption | exact decide_eq_true (by assumption) | exact decide_eq_false (by assumption) | decide | (simp; done) | (simp; omega) | (simp [*]; done)) rfl ?_
      refine Ops.sk rfl (by first | rfl | assumption | exact decide_eq_true (by assumption) | exact decide_eq_false (by assumption) | decide | (simp; done) | (simp; omega) | (simp [*]; done)) rfl ?_
      refine Ops.r (Run.pickF rfl rfl (by first | rfl | assumption | exact decide_eq_true (by assumption) | exact decide_eq_false (by assumption) | decide | (simp; done) | (simp; omega) | (simp [*]; done))) rfl ?_
      refine Ops.r (Run.asg rfl) rfl ?_
      refine Ops.nil ?_
      refine thenQ_n ⟨(.cons (congrArg (fun b => some (Value.bool b)) (Eq.symm (by simp [hck, *]))) .nil), (by first | exact hf1.drawn hd2 | exact hf1)⟩
  · intro Γ wR hΓ hR
    refine thenQ_n (VC.sub _ hΓ ?_)
    refine VC.ret ?_
    refine end1 rfl ?_
    exact ⟨rfl, hR⟩

theorem hasF_self {l : List Tx} {q : Tx} (h : toldF q = some q) : hasF l q ↔ q ∈ l := by
  unfold hasF
  rw [h]
  simp
theorem hasF_take {l : List Tx} {q : Tx} {i : Nat} (hi : i < l.length) (hn : ¬ hasF (l.take i) q) (h : ¬ ((toldV q).1 ≠ [] ∧ l[i] = (toldV q).1)) : ¬ hasF (l.take (i + 1)) q := by
  rw [hasF_iff] at hn ⊢
  rw [take_snoc hi]
  rintro ⟨h1, h2⟩
  rcases List.mem_append.1 h2 with h3 | h3
  · exact hn ⟨h1, h3⟩
  · simp only [List.mem_singleton] at h3
    refine h ⟨?_, h3.symm⟩
    rcases told_cases q with ⟨t, h4, h5⟩ | ⟨_, h5⟩
    · rw [h5]; exact toldF_ne h4
    · rw [h5] at h1; cases h1

set_option maxRecDepth 100000 in
theorem rhas_spec (A : Option Addr) (c0 : Nat) (l : List Tx) (q : Tx) (w : World) (hn : l.length ≤ 1000000) (hq : q.length ≤ 1000000) (hr : Rd w 1 A l.length (SB l)) :
    Calls Try.prog 25 #[.slice A l.length c0, encStr q] w fun e w' => e = .returned (.bool (decide (hasF l q))) ∧ Frm [] w w' := by
  refine VC.calls (nt := 25) (res := #[.tmp 4]) Try.func25 rfl Try.ntmps25 Try.results25 rfl ?_
  refine VC.seq ?_
  refine VC.region ?_
  refine Ops.r (Run.asg rfl) rfl ?_
  refine Ops.nil ?_
  refine thenQ_n ?_
  refine VC.sub [(0, _), (1, _)] (.cons rfl (.cons rfl .nil)) ?_
  refine VC.seq ?_
  refine VC.region ?_
  refine Ops.r (Run.mv rfl) rfl ?_
  refine Ops.cl (Enters.fn (evs.cons rfl evs.nil) Try.call43) (rtold_spec q _ hq) rfl ?_
  rintro e w1 ⟨rfl, hf1⟩
  refine ⟨_, rfl, ?_⟩
  refine Ops.r (Run.asg rfl) rfl ?_
  refine Ops.nil ?_
  refine thenQ_n ?_
  refine VC.sub [(0, _), (5, _)] (.cons rfl (.cons rfl .nil)) ?_
  refine VC.seq ?_
  refine VC.seq ?_
  refine VC.region ?_
  refine Ops.r (v := .int .i64 ((0 : Nat) : Int)) (Run.asg rfl) rfl ?_
  refine Ops.nil ?_
  refine thenQ_n ?_
  refine VC.block ?_
  refine VC.loop (σ := Nat) (fun s => [(0, .slice A l.length c0), (5, encStr (toldV q).1), (6, .int .i64 ((s : Nat) : Int))]) (fun s wr => s ≤ l.length ∧ Frm [] w wr ∧ ¬ hasF (l.take s) q) (fun s => l.length - s) 0 (.cons rfl (.cons rfl (.cons rfl .nil))) ⟨by omega, hf1, by rw [hasF_iff]; simp⟩ ?_
  rintro i wr ⟨hi, hfr, hno⟩
  refine VC.seq ?_
  refine VC.seq ?_
  refine VC.region ?_
  refine Ops.r (Run.mv rfl) rfl ?_
  refine Ops.r (Run.mv rfl) rfl ?_
  refine Ops.r (Run.lenS rfl Try.underlying43) rfl ?_
  refine Ops.r (Run.bin rfl rfl (Bin.lssN _ _)) rfl ?_
  refine Ops.nil ?_
  refine thenQ_n ?_
  refine VC.sub [(0, _), (5, _), (6, _), (12, _)] (.cons rfl (.cons rfl (.cons rfl (.cons rfl .nil)))) ?_
  refine VC.condD rfl (fun hc1 => ?_) (fun hc1 => ?_)
  · skip
    obtain ⟨ad, rfl, hcell⟩ := SB_at (hr.frm hfr (by simp)) hc1
    refine VC.skip ?_
    refine thenQ_n ?_
    refine VC.sub [(0, _), (5, _), (6, _)] (.cons rfl (.cons rfl (.cons rfl .nil))) ?_
    refine VC.seq ?_
    refine VC.block ?_
    refine VC.seq ?_
    refine VC.split1 [(0, _), (5, _), (6, _)] (.cons rfl (.cons rfl (.cons rfl .nil))) 24 (.bool (decide (((toldV q).1 ≠ []) ∧ (l[i] = (toldV q).1)))) ?_ ?_
    · by_cases hs0 : (toldV q).1 ≠ []
      · skip
        refine VC.region ?_
        refine Ops.r (Run.mv rfl) rfl ?_
        refine Ops.r (Run.neqT rfl rfl) rfl ?_
        refine Ops.r (Run.mv rfl) rfl ?_
        refine Ops.rg rfl (by first | rfl | assumption | exact decide_eq_true (by assumption) | exact decide_eq_false (by assumption) | decide | (simp; done) | (simp; omega) | (simp [*]; done)) (Run.mv rfl) rfl ?_
        refine Ops.rg rfl (by first | rfl | assumption | exact decide_eq_true (by assumption) | exact decide_eq_false (by assumption) | decide | (simp; done) | (simp; omega) | (simp [*]; done)) (Run.mv rfl) rfl ?_
        refine Ops.rg rfl (by first | rfl | assumption | exact decide_eq_true (by assumption) | exact decide_eq_false (by assumption) | decide | (simp; done) | (simp; omega) | (simp [*]; done)) (Run.index1 i rfl rfl Try.underlying43 Try.sizeOf9 hc1) rfl ?_
        refine Ops.rg rfl (by first | rfl | assumption | exact decide_eq_true (by assumption) | exact decide_eq_false (by assumption) | decide | (simp; done) | (simp; omega) | (simp [*]; done)) (Run.load rfl Try.isAgg9 hcell) rfl ?_
        refine Ops.rg rfl (by first | rfl | assumption | exact decide_eq_true (by assumption) | exact decide_eq_false (by assumption) | decide | (simp; done) | (simp; omega) | (simp [*]; done)) (Run.mv rfl) rfl ?_
        refine Ops.rg rfl (by first | rfl | assumption | exact decide_eq_true (by assumption) | exact decide_eq_false (by assumption) | decide | (simp; done) | (simp; omega) | (simp [*]; done)) (Run.eqlT rfl rfl) rfl ?_
        refine Ops.r (Run.pickT rfl rfl (by first | rfl | assumption | exact decide_eq_true (by assumption) | exact decide_eq_false (by assumption) | decide | (simp; done) | (simp; omega) | (simp [*]; done))) rfl ?_
        refine Ops.nil ?_
        refine thenQ_n ⟨(.cons (by rw [dand1 hs0]; rfl) (.cons rfl (.cons rfl (.cons rfl .nil)))), rfl⟩
      · skip
        refine VC.region ?_
        refine Ops.r (Run.mv rfl) rfl ?_
        refine Ops.r (Run.neqT rfl rfl) rfl ?_
        refine Ops.r (Run.mv rfl) rfl ?_
        refine Ops.sk rfl (by first | rfl | assumption | exact decide_eq_true (by assumption) | exact decide_eq_false (by assumption) | decide | (simp; done) | (simp; omega) | (simp [*]; done)) rfl ?_
        refine Ops.sk rfl (by first | rfl | assumption | exact decide_eq_true (by assumption) | exact decide_eq_false (by assumption) | decide | (simp; done) | (simp; omega) | (simp [*]; done)) rfl ?_
        refine Ops.sk rfl (by first | rfl | assumption | exact decide_eq_true (by assumption) | exact decide_eq_false (by assumption) | decide | (simp; done) | (simp; omega) | (simp [*]; done)) rfl ?_
        refine Ops.sk rfl (by first | rfl | assumption | exact decide_eq_true (by assumption) | exact decide_eq_false (by assumption) | decide | (simp; done) | (simp; omega) | (simp [*]; done)) rfl ?_
        refine Ops.sk rfl (by first | rfl | assumption | exact decide_eq_true (by assumption) | exact decide_eq_false (by assumption) | decide | (simp; done) | (simp; omega) | (simp [*]; done)) rfl ?_
        refine Ops.sk rfl (by first | rfl | assumption | exact decide_eq_true (by assumption) | exact decide_eq_false (by assumption) | decide | (simp; done) | (simp; omega) | (simp [*]; done)) rfl ?_
        refine Ops.r (Run.pickF rfl rfl (by first | rfl | assumption | exact decide_eq_true (by assumption) | exact decide_eq_false (by assumption) | decide | (simp; done) | (simp; omega) | (simp [*]; done))) rfl ?_
        refine Ops.nil ?_
        refine thenQ_n ⟨(.cons (by rw [dand0 hs0]; rfl) (.cons rfl (.cons rfl (.cons rfl .nil)))), rfl⟩
    · intro Γ hΓ
      refine thenQ_n (VC.sub _ hΓ ?_)
      refine VC.condD rfl (fun hc2 => ?_) (fun hc2 => ?_)
      · skip
        refine VC.seq ?_
        refine VC.region ?_
        refine Ops.r (Run.asg rfl) rfl ?_
        refine Ops.nil ?_
        refine thenQ_n ?_
        refine VC.sub [(4, _)] (.cons rfl .nil) ?_
        refine VC.ret ?_
        refine blockQ_r (thenQ_r (thenQ_r (blockQ_r (thenQ_r (end1 rfl ?_)))))
        have hh : hasF l q := by
          rw [hasF_iff]
          refine ⟨?_, hc2.2 ▸ List.getElem_mem hc1⟩
          rcases told_cases q with ⟨t, h4, h5⟩ | ⟨_, h5⟩
          · rw [h5]
          · rw [h5] at hc2; exact absurd rfl hc2.1
        exact ⟨by rw [decide_eq_true hh], hfr⟩
      · skip
        refine VC.skip ?_
        refine blockQ_n (thenQ_n ?_)
        refine VC.sub [(0, _), (5, _), (6, _)] (.cons rfl (.cons rfl (.cons rfl .nil))) ?_
        refine VC.region ?_
        refine Ops.r (Run.mv rfl) rfl ?_
        refine Ops.r (Run.bin rfl rfl (Bin.add_i64 _ 1 (by omega))) rfl ?_
        refine Ops.r (Run.asg rfl) rfl ?_
        refine Ops.nil ?_
        refine thenQ_n ⟨(i + 1), (.cons rfl (.cons rfl (.cons rfl .nil))), ?_, ?_⟩
        · skip
          exact ⟨hc1, hfr, hasF_take hc1 hno hc2⟩
        · skip
          first | omega | (dsimp only; omega)
  · skip
    refine VC.exit ?_
    refine thenQ_x (thenQ_x (blockQ_x ?_))
    refine thenQ_n ?_
    refine VC.sub [] .nil ?_
    refine VC.seq ?_
    refine VC.region ?_
    refine Ops.r (Run.asg rfl) rfl ?_
    refine Ops.nil ?_
    refine thenQ_n ?_
    refine VC.ret ?_
    refine end1 rfl ?_
    have him : i = l.length := by omega
    subst him
    rw [List.take_length] at hno
    exact ⟨by rw [decide_eq_false hno], hfr⟩

end Go.Proofs.Ytmfglifjnoilnaa

/-
  The document's flags: a set with others, or without.
-/
namespace Go.Proofs.Ytmfglifjnoilnaa
open Go.RowKit Go.Sort

theorem take_filt {l : List Tx} {ts : List Tx} (hl : checkF l) : normF (l.filter (fun x => !decide (x ∈ ts))) = .ok (l.filter (fun x => !decide (x ∈ ts))) := by
  obtain ⟨h1, h2, _, h4⟩ := checkF_facts hl
  exact checkF_iff.2 ⟨h1.filter _, Nat.le_trans (List.length_filter_le _ _) h2, fun s hs => h4 s (List.mem_filter.1 hs).1⟩
theorem normF_told {ts : List Tx} (h : ∀ t ∈ ts, toldF t = some t) : normF ts = if 16 < (nub ts).length then .error 5 else .ok (nub ts) := by
  unfold normF
  rw [toldL_all h]

set_option maxRecDepth 100000 in
theorem rchange_spec (A : Option Addr) (c0 : Nat) (l : List Tx) (op : Int) (B : Option Addr) (d0 : Nat) (more : List Tx) (w : World) (hn : l.length ≤ 900000) (hq : ∀ q ∈ l, q.length ≤ 1000000) (hr : Rd w 1 A l.length (SB l))
    (hn2 : more.length ≤ 800000) (hq2 : ∀ q ∈ more, q.length ≤ 1000000) (hr2 : Rd w 1 B more.length (SB more)) :
    Calls Try.prog 39 #[.slice A l.length c0, .int .i64 op, .slice B more.length d0] w fun e w' => Frm [] w w' ∧ ∃ C d r k, IsN w w' e (changeF l op more) C d r k := by
  refine VC.calls (nt := 82) (res := #[.tmp 6, .tmp 7]) Try.func39 rfl Try.ntmps39 Try.results39 rfl ?_
  refine VC.seq ?_
  refine VC.region ?_
  refine Ops.r (Run.asg rfl) rfl ?_
  refine Ops.r (v := .int .i64 ((0 : Nat) : Int)) (Run.asg rfl) rfl ?_
  refine Ops.nil ?_
  refine thenQ_n ?_
  refine VC.sub [(0, _), (1, _), (2, _)] (.cons rfl (.cons rfl (.cons rfl .nil))) ?_
  refine VC.seq ?_
  refine VC.seq ?_
  refine VC.splitR [(0, .slice A l.length c0), (1, .int .i64 op), (2, .slice B more.length d0)] (Frm [] w) 24 (.bool (decide (¬ checkF l ∨ op < 0 ∨ 2 < op))) ?_ ?_
  · refine VC.region ?_
    refine Ops.r (Run.mv rfl) rfl ?_
    refine Ops.cl (Enters.fn (evs.cons rfl evs.nil) Try.call49) (rcheck_spec A c0 l _ hn hq hr) rfl ?_
    rintro e w1 ⟨rfl, hf1⟩
    refine ⟨_, rfl, ?_⟩
    by_cases hs15 : checkF l
    · skip
      refine Ops.r (Run.not rfl) rfl ?_
      refine Ops.r (Run.mv rfl) rfl ?_
      refine Ops.rg rfl (by first | rfl | assumption | exact decide_eq_true (by assumption) | exact decide_eq_false (by assumption) | decide | (simp; done) | (simp; omega) | (simp [*]; done)) (Run.mv rfl) rfl ?_
      refine Ops.rg rfl (by first | rfl | assumption | exact decide_eq_true (by assumption) | exact decide_eq_false (by assumption) | decide | (simp; done) | (simp; omega) | (simp [*]; done)) (Run.bin rfl rfl (Bin.lss _ 0)) rfl ?_
      by_cases hs19 : op < 0
      · skip
        refine Ops.r (Run.pickF rfl rfl (by first | rfl | assumption | exact decide_eq_true (by assumption) | exact decide_eq_false (by assumption) | decide | (simp; done) | (simp; omega) | (simp [*]; done))) rfl ?_
        refine Ops.r (Run.mv rfl) rfl ?_
        refine Ops.sk rfl (by first | rfl | assumption | exact decide_eq_true (by assumption) | exact decide_eq_false (by assumption) | decide | (simp; done) | (simp; omega) | (simp [*]; done)) rfl ?_
        refine Ops.sk rfl (by first | rfl | assumption | exact decide_eq_true (by assumption) | exact decide_eq_false (by assumption) | decide | (simp; done) | (simp; omega) | (simp [*]; done)) rfl ?_
        refine Ops.r (Run.pickT rfl rfl (by first | rfl | assumption | exact decide_eq_true (by assumption) | exact decide_eq_false (by assumption) | decide | (simp; done) | (simp; omega) | (simp [*]; done))) rfl ?_
        refine Ops.nil ?_
        refine thenQ_n ⟨(.cons (congrArg (fun b => some (Value.bool b)) (Eq.symm (by simp [*]))) (.cons rfl (.cons rfl (.cons rfl .nil)))), (hf1)⟩
      · skip
        refine Ops.r (Run.pickF rfl rfl (by first | rfl | assumption | exact decide_eq_true (by assumption) | exact decide_eq_false (by assumption) | decide | (simp; done) | (simp; omega) | (simp [*]; done))) rfl ?_
        refine Ops.r (Run.mv rfl) rfl ?_
        refine Ops.rg rfl (by first | rfl | assumption | exact decide_eq_true (by assumption) | exact decide_eq_false (by assumption) | decide | (simp; done) | (simp; omega) | (simp [*]; done)) (Run.mv rfl) rfl ?_
        refine Ops.rg rfl (by first | rfl | assumption | exact decide_eq_true (by assumption) | exact decide_eq_false (by assumption) | decide | (simp; done) | (simp; omega) | (simp [*]; done)) (Run.bin rfl rfl (Bin.gtr _ 2)) rfl ?_
        by_cases hs23 : 2 < op
        · skip
          refine Ops.r (Run.pickF rfl rfl (by first | rfl | assumption | exact decide_eq_true (by assumption) | exact decide_eq_false (by assumption) | decide | (simp; done) | (simp; omega) | (simp [*]; done))) rfl ?_
          refine Ops.nil ?_
          refine thenQ_n ⟨(.cons (congrArg (fun b => some (Value.bool b)) (Eq.symm (by simp [*]))) (.cons rfl (.cons rfl (.cons rfl .nil)))), (hf1)⟩
        · skip
          refine Ops.r (Run.pickF rfl rfl (by first | rfl | assumption | exact decide_eq_true (by assumption) | exact decide_eq_false (by assumption) | decide | (simp; done) | (simp; omega) | (simp [*]; done))) rfl ?_
          refine Ops.nil ?_
          refine thenQ_n ⟨(.cons (congrArg (fun b => some (Value.bool b)) (Eq.symm (by simp [*]))) (.cons rfl (.cons rfl (.cons rfl .nil)))), (hf1)⟩
    · skip
      refine Ops.r (Run.not rfl) rfl ?_
      refine Ops.r (Run.mv rfl) rfl ?_
      refine Ops.sk rfl (by first | rfl | assumption | exact decide_eq_true (by assumption) | exact decide_eq_false (by assumption) | decide | (simp; done) | (simp; omega) | (simp [*]; done)) rfl ?_
      refine Ops.sk rfl (by first | rfl | assumption | exact decide_eq_true (by assumption) | exact decide_eq_false (by assumption) | decide | (simp; done) | (simp; omega) | (simp [*]; done)) rfl ?_
      refine Ops.r (Run.pickT rfl rfl (by first | rfl | assumption | exact decide_eq_true (by assumption) | exact decide_eq_false (by assumption) | decide | (simp; done) | (simp; omega) | (simp [*]; done))) rfl ?_
      refine Ops.r (Run.mv rfl) rfl ?_
      refine Ops.sk rfl (by first | rfl | assumption | exact decide_eq_true (by assumption) | exact decide_eq_false (by assumption) | decide | (simp; done) | (simp; omega) | (simp [*]; done)) rfl ?_
      refine Ops.sk rfl (by first | rfl | assumption | exact decide_eq_true (by assumption) | exact decide_eq_false (by assumption) | decide | (simp; done) | (simp; omega) | (simp [*]; done)) rfl ?_
      refine Ops.r (Run.pickT rfl rfl (by first | rfl | assumption | exact decide_eq_true (by assumption) | exact decide_eq_false (by assumption) | decide | (simp; done) | (simp; omega) | (simp [*]; done))) rfl ?_
      refine Ops.nil ?_
      refine thenQ_n ⟨(.cons (congrArg (fun b => some (Value.bool b)) (Eq.symm (by simp [*]))) (.cons rfl (.cons rfl (.cons rfl .nil)))), (hf1)⟩
  · intro Γ w2 hΓ hf2
    refine thenQ_n (VC.sub _ hΓ ?_)
    refine VC.condD rfl (fun hc1 => ?_) (fun hc1 => ?_)
    · skip
      refine VC.seq ?_
      refine VC.region ?_
      refine Ops.r (Run.asg rfl) rfl ?_
      refine Ops.r (v := .int .i64 ((1 : Nat) : Int)) (Run.asg rfl) rfl ?_
      refine Ops.nil ?_
      refine thenQ_n ?_
      refine VC.sub [(6, _), (7, _)] (.cons rfl (.cons rfl .nil)) ?_
      refine VC.ret ?_
      refine thenQ_r (end2 rfl rfl ?_)
      exact ⟨hf2, none, 0, [], 1, rfl, Own.nil _ _ _, by simp [ob], .inr ⟨by decide, rfl, if_pos hc1⟩⟩
    · skip
      have hcl : checkF l := Classical.not_not.1 fun h => hc1 (.inl h)
      have hlf := checkF_facts hcl
      have hcf : changeF l op more = match toldL more with
          | none => .error 18
          | some ts => normF (allF op l ts) := if_neg hc1
      refine VC.skip ?_
      refine thenQ_n ?_
      refine VC.sub [(0, _), (1, _), (2, _)] (.cons rfl (.cons rfl (.cons rfl .nil))) ?_
      refine VC.seq ?_
      refine VC.region ?_
      refine Ops.r (Run.asg rfl) rfl ?_
      refine Ops.nil ?_
      refine thenQ_n ?_
      refine VC.seq ?_
      refine VC.seq ?_
      refine VC.region ?_
      refine Ops.r (v := .int .i64 ((0 : Nat) : Int)) (Run.asg rfl) rfl ?_
      refine Ops.nil ?_
      refine thenQ_n ?_
      refine VC.block ?_
      refine VC.loop (σ := Nat × Option Addr × Nat × List Tx) (fun s => [(0, .slice A l.length c0), (1, .int .i64 op), (2, .slice B more.length d0), (8, .slice s.2.1 (nub s.2.2.2).length s.2.2.1), (9, .int .i64 ((s.1 : Nat) : Int))]) (fun s wr => s.1 ≤ more.length ∧ Own wr 9 1 s.2.1 (nub s.2.2.2).length s.2.2.1 (SB (nub s.2.2.2)) ∧ (∀ x ∈ ob s.2.1, w.heap.size ≤ x) ∧ Frm [] w wr ∧ toldL (more.take s.1) = some s.2.2.2) (fun s => more.length - s.1) (0, none, 0, []) (.cons rfl (.cons rfl (.cons rfl (.cons (by rw [show nub [] = [] from nub_self (by simp)]; rfl) (.cons rfl .nil))))) ⟨by omega, (by rw [show nub [] = [] from nub_self (by simp)]; exact Own.nil _ _ _), by simp [ob], hf2, rfl⟩ ?_
      rintro ⟨i, C, d, ts⟩ wr ⟨hi, hown, hge, hfr, htl⟩
      dsimp only at hi hown hge htl ⊢
      have htsl : ts.length = i := by rw [toldL_len htl]; simp; omega
      have hnl := nub_len ts
      refine VC.seq ?_
      refine VC.seq ?_
      refine VC.region ?_
      refine Ops.r (Run.mv rfl) rfl ?_
      refine Ops.r (Run.mv rfl) rfl ?_
      refine Ops.r (Run.lenS rfl Try.underlying43) rfl ?_
      refine Ops.r (Run.bin rfl rfl (Bin.lssN _ _)) rfl ?_
      refine Ops.nil ?_
      refine thenQ_n ?_
      refine VC.sub [(0, _), (1, _), (2, _), (8, _), (9, _), (28, _)] (.cons rfl (.cons rfl (.cons rfl (.cons rfl (.cons rfl (.cons rfl .nil)))))) ?_
      refine VC.condD rfl (fun hc2 => ?_) (fun hc2 => ?_)
      · skip
        obtain ⟨ad, rfl, hcell⟩ := SB_at (hr2.frm hfr (by simp)) hc2
        refine VC.skip ?_
        refine thenQ_n ?_
        refine VC.sub [(0, _), (1, _), (2, _), (8, _), (9, _)] (.cons rfl (.cons rfl (.cons rfl (.cons rfl (.cons rfl .nil))))) ?_
        refine VC.seq ?_
        refine VC.block ?_
        refine VC.seq ?_
        refine VC.region ?_
        refine Ops.r (Run.mv rfl) rfl ?_
        refine Ops.r (Run.mv rfl) rfl ?_
        refine Ops.r (Run.index1 i rfl rfl Try.underlying43 Try.sizeOf9 hc2) rfl ?_
        refine Ops.r (Run.load rfl Try.isAgg9 hcell) rfl ?_
        refine Ops.cl (Enters.fn (evs.cons rfl evs.nil) Try.call43) (rtold_spec more[i] _ (hq2 _ (List.getElem_mem hc2))) rfl ?_
        rintro e w4 ⟨rfl, hf4⟩
        refine ⟨_, rfl, ?_⟩
        have hfr4 := hfr.trans hf4 (by simp)
        have hown4 := hown.frm hf4 (by simp)
        have htc := told_cases more[i]
        generalize hq0 : more[i] = q at *
        refine Ops.r (Run.asg rfl) rfl ?_
        refine Ops.nil ?_
        refine thenQ_n ?_
        refine VC.sub [(0, _), (1, _), (2, _), (8, _), (9, _), (10, _)] (.cons rfl (.cons rfl (.cons rfl (.cons rfl (.cons rfl (.cons rfl .nil)))))) ?_
        refine VC.seq ?_
        refine VC.seq ?_
        refine VC.region ?_
        refine Ops.r (Run.mv rfl) rfl ?_
        refine Ops.r (Run.eqlT rfl rfl) rfl ?_
        refine Ops.nil ?_
        refine thenQ_n ?_
        refine VC.sub [(0, _), (1, _), (2, _), (8, _), (9, _), (10, _), (37, _)] (.cons rfl (.cons rfl (.cons rfl (.cons rfl (.cons rfl (.cons rfl (.cons rfl .nil))))))) ?_
        refine VC.condD rfl (fun hc3 => ?_) (fun hc3 => ?_)
        · skip
          have ht0 : toldF q = none := by
            rcases htc with ⟨t, h, h2⟩ | ⟨h, _⟩
            · rw [h2] at hc3; exact absurd hc3 (toldF_ne h)
            · exact h
          have hnf : changeF l op more = .error 18 := by
            rw [hcf, toldL_none (hq0 ▸ List.getElem_mem hc2) ht0]
          refine VC.seq ?_
          refine VC.region ?_
          refine Ops.r (Run.asg rfl) rfl ?_
          refine Ops.r (v := .int .i64 ((18 : Nat) : Int)) (Run.asg rfl) rfl ?_
          refine Ops.nil ?_
          refine thenQ_n ?_
          refine VC.sub [(6, _), (7, _)] (.cons rfl (.cons rfl .nil)) ?_
          refine VC.ret ?_
          refine thenQ_r (blockQ_r (thenQ_r (thenQ_r (blockQ_r (thenQ_r (end2 rfl rfl ?_))))))
          exact ⟨hfr4, none, 0, [], 18, rfl, Own.nil _ _ _, by simp [ob], .inr ⟨by decide, rfl, hnf⟩⟩
        · skip
          obtain ⟨t, ht0, hv0⟩ : ∃ t, toldF q = some t ∧ toldV q = (t, 0) := by
            rcases htc with h | ⟨_, h⟩
            · exact h
            · rw [h] at hc3; exact absurd rfl hc3
          rw [hv0]
          refine VC.skip ?_
          refine thenQ_n ?_
          refine VC.sub [(0, _), (1, _), (2, _), (8, _), (9, _), (10, _)] (.cons rfl (.cons rfl (.cons rfl (.cons rfl (.cons rfl (.cons rfl .nil)))))) ?_
          refine VC.region ?_
          refine Ops.r (Run.mv rfl) rfl ?_
          refine Ops.r (Run.mv rfl) rfl ?_
          refine Ops.cl (Enters.fn (evs.cons rfl (evs.cons rfl evs.nil)) Try.call59) (lay_spec C d (nub ts) t _ (by omega) hown4.rd) rfl ?_
          rintro e w5 ⟨hf5, D, d5, rfl, hown5, hge5⟩
          refine ⟨_, rfl, ?_⟩
          have hfr5 := hfr4.trans hf5 (by simp)
          have hnt : layF (nub ts) t = nub (ts ++ [t]) := by rw [← laysF_nub, ← laysF_nub, laysF_snoc]
          rw [hnt] at hown5 ⊢
          refine Ops.r (Run.asg rfl) rfl ?_
          refine Ops.nil ?_
          refine blockQ_n (thenQ_n ?_)
          refine VC.sub [(0, _), (1, _), (2, _), (8, _), (9, _)] (.cons rfl (.cons rfl (.cons rfl (.cons rfl (.cons rfl .nil))))) ?_
          refine VC.region ?_
          refine Ops.r (Run.mv rfl) rfl ?_
          refine Ops.r (Run.bin rfl rfl (Bin.add_i64 _ 1 (by omega))) rfl ?_
          refine Ops.r (Run.asg rfl) rfl ?_
          refine Ops.nil ?_
          refine thenQ_n ⟨(i + 1, D, d5, ts ++ [t]), (.cons rfl (.cons rfl (.cons rfl (.cons rfl (.cons rfl .nil))))), ?_, ?_⟩
          · skip
            exact ⟨hc2, hown5, fun x hx => Nat.le_trans hfr4.size (hge5 x hx), hfr5, by rw [take_snoc hc2, toldL_snoc, htl, hq0, ht0]⟩
          · skip
            first | omega | (dsimp only; omega)
      · skip
        have him : i = more.length := by omega
        subst him
        rw [List.take_length] at htl
        have hcf2 : changeF l op more = normF (allF op l ts) := by rw [hcf, htl]
        have haf := allF_facts (op := op) ⟨hlf.2.1, hlf.2.2.2⟩ (by omega) (toldL_told htl)
        have htt := toldL_told htl
        have hl16 := hlf.2.1
        refine VC.exit ?_
        refine thenQ_x (thenQ_x (blockQ_x ?_))
        refine thenQ_n ?_
        refine VC.sub [(0, _), (1, _), (8, _)] (.cons rfl (.cons rfl (.cons rfl .nil))) ?_
        refine VC.seq ?_
        refine VC.seq ?_
        refine VC.region ?_
        refine Ops.r (Run.mv rfl) rfl ?_
        refine Ops.r (Run.bin rfl rfl (Bin.eql _ 1)) rfl ?_
        refine Ops.nil ?_
        refine thenQ_n ?_
        refine VC.sub [(0, _), (1, _), (8, _), (42, _)] (.cons rfl (.cons rfl (.cons rfl (.cons rfl .nil)))) ?_
        refine VC.meet (σ := Option Addr × Nat) (fun s => [(0, .slice A l.length c0), (1, .int .i64 op), (8, .slice s.1 (nub (if op = 1 then ts ++ l else ts)).length s.2)]) (fun s wm => Own wm 9 1 s.1 (nub (if op = 1 then ts ++ l else ts)).length s.2 (SB (nub (if op = 1 then ts ++ l else ts))) ∧ (∀ x ∈ ob s.1, w.heap.size ≤ x) ∧ Frm [] w wm) ?_ ?_
        · skip
          refine VC.condD rfl (fun hc4 => ?_) (fun hc4 => ?_)
          · skip
            refine VC.seq ?_
            refine VC.region ?_
            refine Ops.r (v := .int .i64 ((0 : Nat) : Int)) (Run.asg rfl) rfl ?_
            refine Ops.nil ?_
            refine thenQ_n ?_
            refine VC.sub [(0, _), (1, _), (8, _), (11, _)] (.cons rfl (.cons rfl (.cons rfl (.cons rfl .nil)))) ?_
            refine VC.block ?_
            refine VC.loop (σ := Nat × Option Addr × Nat) (fun s => [(0, .slice A l.length c0), (1, .int .i64 op), (8, .slice s.2.1 (nub (ts ++ l.take s.1)).length s.2.2), (11, .int .i64 ((s.1 : Nat) : Int))]) (fun s wr => s.1 ≤ l.length ∧ Own wr 9 1 s.2.1 (nub (ts ++ l.take s.1)).length s.2.2 (SB (nub (ts ++ l.take s.1))) ∧ (∀ x ∈ ob s.2.1, w.heap.size ≤ x) ∧ Frm [] w wr) (fun s => l.length - s.1) (0, C, d) (.cons rfl (.cons rfl (.cons (by rw [List.take_zero, List.append_nil]; rfl) (.cons rfl .nil)))) ⟨by omega, by simpa using hown, hge, hfr⟩ ?_
            rintro ⟨j, E, de⟩ wr2 ⟨hj, hownE, hgeE, hfrE⟩
            dsimp only at hj hownE hgeE ⊢
            have hnlE := nub_len (ts ++ l.take j)
            have hleE : (ts ++ l.take j).length ≤ 850000 := by simp only [List.length_append, List.length_take]; omega
            refine VC.seq ?_
            refine VC.seq ?_
            refine VC.region ?_
            refine Ops.r (Run.mv rfl) rfl ?_
            refine Ops.r (Run.mv rfl) rfl ?_
            refine Ops.r (Run.lenS rfl Try.underlying43) rfl ?_
            refine Ops.r (Run.bin rfl rfl (Bin.lssN _ _)) rfl ?_
            refine Ops.nil ?_
            refine thenQ_n ?_
            refine VC.sub [(0, _), (1, _), (8, _), (11, _), (46, _)] (.cons rfl (.cons rfl (.cons rfl (.cons rfl (.cons rfl .nil))))) ?_
            refine VC.condD rfl (fun hc5 => ?_) (fun hc5 => ?_)
            · skip
              obtain ⟨ad, rfl, hcell⟩ := SB_at (hr.frm hfrE (by simp)) hc5
              refine VC.skip ?_
              refine thenQ_n ?_
              refine VC.sub [(0, _), (1, _), (8, _), (11, _)] (.cons rfl (.cons rfl (.cons rfl (.cons rfl .nil)))) ?_
              refine VC.seq ?_
              refine VC.block ?_
              refine VC.region ?_
              refine Ops.r (Run.mv rfl) rfl ?_
              refine Ops.r (Run.mv rfl) rfl ?_
              refine Ops.r (Run.mv rfl) rfl ?_
              refine Ops.r (Run.index1 j rfl rfl Try.underlying43 Try.sizeOf9 hc5) rfl ?_
              refine Ops.r (Run.load rfl Try.isAgg9 hcell) rfl ?_
              refine Ops.cl (Enters.fn (evs.cons rfl (evs.cons rfl evs.nil)) Try.call59) (lay_spec E de (nub (ts ++ l.take j)) l[j] _ (by omega) hownE.rd) rfl ?_
              rintro e w5 ⟨hf5, D, d5, rfl, hown5, hge5⟩
              refine ⟨_, rfl, ?_⟩
              have hfr5 := hfrE.trans hf5 (by simp)
              have hnt : layF (nub (ts ++ l.take j)) l[j] = nub (ts ++ l.take (j + 1)) := by rw [← laysF_nub, ← laysF_nub, laysF_snoc, take_snoc hc5, List.append_assoc]
              rw [hnt] at hown5 ⊢
              refine Ops.r (Run.asg rfl) rfl ?_
              refine Ops.nil ?_
              refine blockQ_n (thenQ_n ?_)
              refine VC.sub [(0, _), (1, _), (8, _), (11, _)] (.cons rfl (.cons rfl (.cons rfl (.cons rfl .nil)))) ?_
              refine VC.region ?_
              refine Ops.r (Run.mv rfl) rfl ?_
              refine Ops.r (Run.bin rfl rfl (Bin.add_i64 _ 1 (by omega))) rfl ?_
              refine Ops.r (Run.asg rfl) rfl ?_
              refine Ops.nil ?_
              refine thenQ_n ⟨(j + 1, D, d5), (.cons rfl (.cons rfl (.cons rfl (.cons rfl .nil)))), ?_, ?_⟩
              · skip
                exact ⟨hc5, hown5, fun x hx => Nat.le_trans hfrE.size (hge5 x hx), hfr5⟩
              · skip
                first | omega | (dsimp only; omega)
            · skip
              have hjm : j = l.length := by omega
              subst hjm
              rw [List.take_length] at hownE ⊢
              refine VC.exit ?_
              refine thenQ_x (thenQ_x (blockQ_x ?_))
              refine thenQ_n ⟨(E, de), (.cons rfl (.cons rfl (.cons (by rw [if_pos hc4]; rfl) .nil))), ?_⟩
              rw [if_pos hc4]
              exact ⟨hownE, hgeE, hfrE⟩
          · skip
            refine VC.skip ?_
            refine thenQ_n ⟨(C, d), (.cons rfl (.cons rfl (.cons (by rw [if_neg hc4]; rfl) .nil))), ?_⟩
            rw [if_neg hc4]
            exact ⟨hown, hge, hfr⟩
        · skip
          rintro ⟨C2, d2⟩ wm ⟨hownm, hgem, hfrm⟩ Γ hΓ
          dsimp only at hownm hgem hΓ
          refine thenQ_n (VC.sub _ hΓ ?_)
          refine VC.seq ?_
          refine VC.seq ?_
          refine VC.region ?_
          refine Ops.r (Run.mv rfl) rfl ?_
          refine Ops.r (Run.bin rfl rfl (Bin.eql _ 2)) rfl ?_
          refine Ops.nil ?_
          refine thenQ_n ?_
          refine VC.sub [(0, _), (8, _), (56, _)] (.cons rfl (.cons rfl (.cons rfl .nil))) ?_
          refine VC.condD rfl (fun hc6 => ?_) (fun hc6 => ?_)
          · skip
            subst hc6
            rw [if_neg (by decide)] at hownm
            have hmem : ∀ x ∈ l, hasF (nub ts) x ↔ x ∈ ts := fun x hx => by rw [hasF_self (hlf.2.2.2 x hx), (nub_spec ts).2]
            have eall : allF 2 l ts = l.filter (fun x => !decide (x ∈ ts)) := rfl
            refine VC.seq ?_
            refine VC.region ?_
            refine Ops.r (Run.asg rfl) rfl ?_
            refine Ops.nil ?_
            refine thenQ_n ?_
            refine VC.sub [(0, _), (8, _), (12, _)] (.cons rfl (.cons rfl (.cons rfl .nil))) ?_
            refine VC.seq ?_
            refine VC.seq ?_
            refine VC.region ?_
            refine Ops.r (v := .int .i64 ((0 : Nat) : Int)) (Run.asg rfl) rfl ?_
            refine Ops.nil ?_
            refine thenQ_n ?_
            refine VC.block ?_
            refine VC.loop (σ := Nat × Option Addr × Nat) (fun s => [(0, .slice A l.length c0), (8, .slice C2 (nub ts).length d2), (12, .slice s.2.1 ((l.take s.1).filter (fun x => !decide (x ∈ ts))).length s.2.2), (13, .int .i64 ((s.1 : Nat) : Int))]) (fun s wr => s.1 ≤ l.length ∧ Own wr 9 1 s.2.1 ((l.take s.1).filter (fun x => !decide (x ∈ ts))).length s.2.2 (SB ((l.take s.1).filter (fun x => !decide (x ∈ ts)))) ∧ (∀ x ∈ ob s.2.1, wm.heap.size ≤ x) ∧ Frm [] wm wr) (fun s => l.length - s.1) (0, none, 0) (.cons rfl (.cons rfl (.cons rfl (.cons rfl .nil)))) ⟨by omega, Own.nil _ _ _, by simp [ob], Frm.refl _ _⟩ ?_
            rintro ⟨j, E, de⟩ wr2 ⟨hj, hownE, hgeE, hfrE⟩
            dsimp only at hj hownE hgeE ⊢
            have hrE := hownm.rd.frm hfrE (by simp)
            have hfrEw := hfrm.trans hfrE (by simp)
            have hfl := filt_le (p := fun x => !decide (x ∈ ts)) l j
            refine VC.seq ?_
            refine VC.seq ?_
            refine VC.region ?_
            refine Ops.r (Run.mv rfl) rfl ?_
            refine Ops.r (Run.mv rfl) rfl ?_
            refine Ops.r (Run.lenS rfl Try.underlying43) rfl ?_
            refine Ops.r (Run.bin rfl rfl (Bin.lssN _ _)) rfl ?_
            refine Ops.nil ?_
            refine thenQ_n ?_
            refine VC.sub [(0, _), (8, _), (12, _), (13, _), (60, _)] (.cons rfl (.cons rfl (.cons rfl (.cons rfl (.cons rfl .nil))))) ?_
            refine VC.condD rfl (fun hc7 => ?_) (fun hc7 => ?_)
            · skip
              obtain ⟨ad, rfl, hcell⟩ := SB_at (hr.frm hfrEw (by simp)) hc7
              have hfs := filt_snoc (p := fun x => !decide (x ∈ ts)) hc7
              have hmx := hmem l[j] (List.getElem_mem hc7)
              have hlx : l[j].length ≤ 1000000 := hq _ (List.getElem_mem hc7)
              generalize hq0 : l[j] = x at *
              refine VC.skip ?_
              refine thenQ_n ?_
              refine VC.sub [(0, _), (8, _), (12, _), (13, _)] (.cons rfl (.cons rfl (.cons rfl (.cons rfl .nil)))) ?_
              refine VC.seq ?_
              refine VC.block ?_
              refine VC.seq ?_
              refine VC.region ?_
              refine Ops.r (Run.mv rfl) rfl ?_
              refine Ops.r (Run.mv rfl) rfl ?_
              refine Ops.r (Run.mv rfl) rfl ?_
              refine Ops.r (Run.index1 j rfl rfl Try.underlying43 Try.sizeOf9 hc7) rfl ?_
              refine Ops.r (Run.load rfl Try.isAgg9 hcell) rfl ?_
              refine Ops.cl (Enters.fn (evs.cons rfl (evs.cons rfl evs.nil)) Try.call25) (rhas_spec C2 d2 (nub ts) x _ (by omega) hlx hrE) rfl ?_
              rintro e w6 ⟨rfl, hf6⟩
              refine ⟨_, rfl, ?_⟩
              have hfr6 := hfrE.trans hf6 (by simp)
              have hown6 := hownE.frm hf6 (by simp)
              have hcell6 : w6.cell? (ad.add j) = some (encStr x) := by
                obtain ⟨ad2, hA, h⟩ := SB_at (hr.frm (hfrm.trans hfr6 (by simp)) (by simp)) hc7
                injection hA with hA
                rw [hA, ← hq0]
                exact h
              refine Ops.r (Run.not rfl) rfl ?_
              refine Ops.nil ?_
              refine thenQ_n ?_
              refine VC.sub [(0, _), (8, _), (12, _), (13, _), (69, _)] (.cons rfl (.cons rfl (.cons rfl (.cons rfl (.cons rfl .nil))))) ?_
              refine VC.meet (σ := Option Addr × Nat) (fun s => [(0, .slice (some ad) l.length c0), (8, .slice C2 (nub ts).length d2), (12, .slice s.1 ((l.take (j + 1)).filter (fun x => !decide (x ∈ ts))).length s.2), (13, .int .i64 ((j : Nat) : Int))]) (fun s wn => Own wn 9 1 s.1 ((l.take (j + 1)).filter (fun x => !decide (x ∈ ts))).length s.2 (SB ((l.take (j + 1)).filter (fun x => !decide (x ∈ ts)))) ∧ (∀ x ∈ ob s.1, wm.heap.size ≤ x) ∧ Frm [] wm wn) ?_ ?_
              · skip
                refine VC.condB rfl (fun hc8 => ?_) (fun hc8 => ?_)
                · skip
                  refine VC.region ?_
                  refine Ops.r (Run.mv rfl) rfl ?_
                  refine Ops.r (Run.mv rfl) rfl ?_
                  refine Ops.r (Run.mv rfl) rfl ?_
                  refine Ops.r (Run.index1 j rfl rfl Try.underlying43 Try.sizeOf9 hc7) rfl ?_
                  refine Ops.r (Run.load rfl Try.isAgg9 hcell6) rfl ?_
                  refine Ops.m (Does.buildS1 rfl Try.underlying43 Try.sizeOf9 zero9 (by decide) (by decide) rfl rfl) rfl ?_
                  rintro _ w8 ⟨rfl, hF8⟩
                  have hfr8 := hfr6.trans hF8.frm (by simp)
                  refine Ops.m (Does.app rfl rfl Try.underlying43 (info9) rfl (by decide) (hown6.frm hF8.frm (by simp)) (hrd1 hF8) (SB_one _) (by omega) (by omega)) rfl ?_
                  rintro _ w9 ⟨A9, c9, rfl, hown9, hfr9, hob9⟩
                  rw [← SB_append] at hown9
                  have hge9 := up_app hgeE hob9 hfr8.size
                  have hfr9' := hfr8.own hfr9 hgeE
                  refine Ops.r (Run.asg rfl) rfl ?_
                  refine Ops.nil ?_
                  have hx8 : (!decide (x ∈ ts)) = true := by have h8 := hc8; simp only [hmx] at h8; simpa using h8
                  refine thenQ_n ⟨(A9, c9), (.cons rfl (.cons rfl (.cons (by rw [hfs, if_pos hx8, List.length_append (bs := [x])]; rfl) (.cons rfl .nil)))), ?_⟩
                  rw [hfs, if_pos hx8, List.length_append (bs := [x])]
                  exact ⟨hown9, hge9, hfr9'⟩
                · skip
                  refine VC.skip ?_
                  have hx8 : ¬ (!decide (x ∈ ts)) = true := by have h8 := hc8; simp only [hmx] at h8; simpa using h8
                  refine thenQ_n ⟨(E, de), (.cons rfl (.cons rfl (.cons (by rw [hfs, if_neg hx8, List.append_nil]; rfl) (.cons rfl .nil)))), ?_⟩
                  rw [hfs, if_neg hx8, List.append_nil]
                  exact ⟨hown6, hgeE, hfr6⟩
              · skip
                rintro ⟨B2, e2⟩ wm2 ⟨hown9, hge9, hfr9⟩ Γ hΓ
                refine blockQ_n (thenQ_n (VC.sub _ hΓ ?_))
                refine VC.region ?_
                refine Ops.r (Run.mv rfl) rfl ?_
                refine Ops.r (Run.bin rfl rfl (Bin.add_i64 _ 1 (by omega))) rfl ?_
                refine Ops.r (Run.asg rfl) rfl ?_
                refine Ops.nil ?_
                refine thenQ_n ⟨(j + 1, B2, e2), (.cons rfl (.cons rfl (.cons rfl (.cons rfl .nil)))), ?_, ?_⟩
                · skip
                  exact ⟨hc7, hown9, hge9, hfr9⟩
                · skip
                  first | omega | (dsimp only; omega)
            · skip
              have hjm : j = l.length := by omega
              subst hjm
              rw [List.take_length] at hownE ⊢
              refine VC.exit ?_
              refine thenQ_x (thenQ_x (blockQ_x ?_))
              refine thenQ_n ?_
              refine VC.sub [(12, _)] (.cons rfl .nil) ?_
              refine VC.seq ?_
              refine VC.region ?_
              refine Ops.r (Run.mv rfl) rfl ?_
              refine Ops.r (Run.asg rfl) rfl ?_
              refine Ops.r (v := .int .i64 ((0 : Nat) : Int)) (Run.asg rfl) rfl ?_
              refine Ops.nil ?_
              refine thenQ_n ?_
              refine VC.sub [(6, _), (7, _)] (.cons rfl (.cons rfl .nil)) ?_
              refine VC.ret ?_
              refine thenQ_r (end2 rfl rfl ?_)
              exact ⟨hfrEw, E, de, _, 0, rfl, hownE, fun x hx => Nat.le_trans hfrm.size (hgeE x hx), .inl ⟨rfl, by rw [hcf2, eall]; exact take_filt hcl⟩⟩
          · skip
            have eall : allF op l ts = if op = 1 then ts ++ l else ts := by
              unfold allF
              by_cases h1 : op = 1
              · rw [if_pos h1, if_pos h1]
              · rw [if_neg h1, if_neg h1, if_neg hc6]
            have ttl : ∀ t ∈ allF op l ts, toldF t = some t := by
              rw [eall]
              intro t ht
              split at ht
              · rcases List.mem_append.1 ht with h | h
                · exact htt t h
                · exact hlf.2.2.2 t h
              · exact htt t ht
            rw [← eall] at hownm ⊢
            have hnf2 := normF_told ttl
            refine VC.skip ?_
            refine thenQ_n ?_
            refine VC.sub [(8, _)] (.cons rfl .nil) ?_
            refine VC.seq ?_
            refine VC.seq ?_
            refine VC.region ?_
            refine Ops.r (Run.mv rfl) rfl ?_
            refine Ops.r (Run.lenS rfl Try.underlying43) rfl ?_
            refine Ops.r (Run.bin rfl rfl (Bin.gtrN _ 16)) rfl ?_
            refine Ops.nil ?_
            refine thenQ_n ?_
            refine VC.sub [(8, _), (80, _)] (.cons rfl (.cons rfl .nil)) ?_
            refine VC.condD rfl (fun hc9 => ?_) (fun hc9 => ?_)
            · skip
              refine VC.seq ?_
              refine VC.region ?_
              refine Ops.r (Run.asg rfl) rfl ?_
              refine Ops.r (v := .int .i64 ((5 : Nat) : Int)) (Run.asg rfl) rfl ?_
              refine Ops.nil ?_
              refine thenQ_n ?_
              refine VC.sub [(6, _), (7, _)] (.cons rfl (.cons rfl .nil)) ?_
              refine VC.ret ?_
              refine thenQ_r (end2 rfl rfl ?_)
              exact ⟨hfrm, none, 0, [], 5, rfl, Own.nil _ _ _, by simp [ob], .inr ⟨by decide, rfl, by rw [hcf2, hnf2]; exact if_pos hc9⟩⟩
            · skip
              refine VC.skip ?_
              refine thenQ_n ?_
              refine VC.sub [(8, _)] (.cons rfl .nil) ?_
              refine VC.seq ?_
              refine VC.region ?_
              refine Ops.r (Run.mv rfl) rfl ?_
              refine Ops.r (Run.asg rfl) rfl ?_
              refine Ops.r (v := .int .i64 ((0 : Nat) : Int)) (Run.asg rfl) rfl ?_
              refine Ops.nil ?_
              refine thenQ_n ?_
              refine VC.sub [(6, _), (7, _)] (.cons rfl (.cons rfl .nil)) ?_
              refine VC.ret ?_
              refine end2 rfl rfl ?_
              exact ⟨hfrm, C2, d2, _, 0, rfl, hownm, hgem, .inl ⟨rfl, by rw [hcf2, hnf2]; exact if_neg hc9⟩⟩

end Go.Proofs.Ytmfglifjnoilnaa

