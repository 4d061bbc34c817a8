/-
  The walk of box: a number's place; a search by halves.
-/
import Derived.Test.YtmfglifjnoilnaaBoxM
namespace Go.Proofs.Ytmfglifjnoilnaa
open Go.RowKit Go.Sort

/-- What a test of places answers: whatever world comes. -/
def TestI (w : World) (f : FuncId) (us : List Value) (n : Nat) (q : Nat → Bool) : Prop :=
  (∀ args w, (callFunc f args).run Try.prog w = .ok (.enter f args) w) ∧ ∀ W (i : Nat), Frm [] w W → i < n → Calls Try.prog f (Value.int .i64 ((i : Nat) : Int) :: us).toArray W fun e w' => e = .returned (.bool (q i)) ∧ Frm [] W w'

set_option maxRecDepth 100000 in
theorem search_spec (f : FuncId) (us : List Value) (n : Nat) (q : Nat → Bool) (w : World) (hn : n ≤ 1000000) (hp : TestI w f us n q) (hq : ∀ i j, i ≤ j → j < n → q i = true → q j = true) :
    Calls Try.prog 61 #[.int .i64 ((n : Nat) : Int), .func (.func f) #[] us.toArray] w fun e w' => Frm [] w w' ∧ ∃ k : Nat, e = .returned (.int .i64 ((k : Nat) : Int)) ∧ k ≤ n ∧ (∀ j, j < k → q j = false) ∧ ∀ j, k ≤ j → j < n → q j = true := by
  refine VC.calls (nt := 26) (res := #[.tmp 4]) Try.func61 rfl Try.ntmps61 Try.results61 rfl ?_
  refine VC.seq ?_
  refine VC.region ?_
  refine Ops.r (v := .int .i64 ((0 : Nat) : Int)) (Run.asg rfl) rfl ?_
  refine Ops.nil ?_
  refine thenQ_n ?_
  refine VC.sub [(0, _), (1, _)] (.cons rfl (.cons rfl .nil)) ?_
  refine VC.seq ?_
  refine VC.region ?_
  refine Ops.r (Run.mv rfl) rfl ?_
  refine Ops.r (v := .int .i64 ((0 : Nat) : Int)) (Run.asg rfl) rfl ?_
  refine Ops.r (Run.asg rfl) rfl ?_
  refine Ops.nil ?_
  refine thenQ_n ?_
  refine VC.sub [(1, _), (5, _), (6, _)] (.cons rfl (.cons rfl (.cons rfl .nil))) ?_
  refine VC.seq ?_
  refine VC.block ?_
  refine VC.loop (σ := Nat × Nat) (fun s => [(1, .func (.func f) #[] us.toArray), (5, .int .i64 ((s.1 : Nat) : Int)), (6, .int .i64 ((s.2 : Nat) : Int))]) (fun s wr => s.1 ≤ s.2 ∧ s.2 ≤ n ∧ (∀ j, j < s.1 → q j = false) ∧ (∀ j, s.2 ≤ j → j < n → q j = true) ∧ Frm [] w wr) (fun s => s.2 - s.1) (0, n) (.cons rfl (.cons rfl (.cons rfl .nil))) ⟨by dsimp only; omega, by dsimp only; omega, by simp, fun j h1 h2 => by dsimp only at h1; omega, Frm.refl _ _⟩ ?_
  rintro ⟨i, j⟩ wr ⟨hij, hjn, h1, h2, hfr⟩
  dsimp only at hij hjn h1 h2 ⊢
  refine VC.seq ?_
  refine VC.seq ?_
  refine VC.region ?_
  refine Ops.r (Run.mv rfl) rfl ?_
  refine Ops.r (Run.mv rfl) rfl ?_
  refine Ops.r (Run.bin rfl rfl (Bin.lssN _ _)) rfl ?_
  refine Ops.nil ?_
  refine thenQ_n ?_
  refine VC.sub [(1, _), (5, _), (6, _), (11, _)] (.cons rfl (.cons rfl (.cons rfl (.cons rfl .nil)))) ?_
  refine VC.condD rfl (fun hc1 => ?_) (fun hc1 => ?_)
  · skip
    refine VC.skip ?_
    refine thenQ_n ?_
    refine VC.sub [(1, _), (5, _), (6, _)] (.cons rfl (.cons rfl (.cons rfl .nil))) ?_
    refine VC.block ?_
    refine VC.seq ?_
    refine VC.region ?_
    refine Ops.r (Run.mv rfl) rfl ?_
    refine Ops.r (Run.mv rfl) rfl ?_
    refine Ops.r (Run.bin rfl rfl (Bin.add_i64 _ _ (by omega))) rfl ?_
    refine Ops.r (Run.convN _ rfl Try.underlying3 Try.underlying112 (by simp only [bmax]; omega)) rfl ?_
    have hh : (i + j) / 2 ^ 1 = (i + j) / 2 := rfl
    have hmid : i ≤ (i + j) / 2 := by omega
    refine Ops.r (Run.bin rfl rfl (Bin.shr_u64 _ 1 (by omega))) rfl ?_
    refine Ops.r (Run.convN _ rfl Try.underlying112 Try.underlying3 (by simp only [bmax]; omega)) rfl ?_
    refine Ops.r (Run.asg rfl) rfl ?_
    refine Ops.nil ?_
    refine thenQ_n ?_
    refine VC.sub [(1, _), (5, _), (6, _), (7, _)] (.cons rfl (.cons rfl (.cons rfl (.cons rfl .nil)))) ?_
    refine VC.seq ?_
    refine VC.region ?_
    refine Ops.r (Run.mv rfl) rfl ?_
    refine Ops.r (Run.mv rfl) rfl ?_
    refine Ops.cl (Enters.dyn rfl (evs.cons rfl evs.nil) hp.1) (hp.2 _ ((i + j) / 2) hfr (by omega)) rfl ?_
    rintro e w2 ⟨rfl, hf2⟩
    refine ⟨_, rfl, ?_⟩
    have hfr2 := hfr.trans hf2 (by simp)
    refine Ops.r (Run.not rfl) rfl ?_
    refine Ops.nil ?_
    refine thenQ_n ?_
    refine VC.sub [(1, _), (5, _), (6, _), (7, _), (21, _)] (.cons rfl (.cons rfl (.cons rfl (.cons rfl (.cons rfl .nil))))) ?_
    refine VC.condB rfl (fun hc2 => ?_) (fun hc2 => ?_)
    · skip
      refine VC.region ?_
      refine Ops.r (Run.mv rfl) rfl ?_
      refine Ops.r (Run.bin rfl rfl (Bin.add_i64 _ 1 (by omega))) rfl ?_
      refine Ops.r (Run.asg rfl) rfl ?_
      refine Ops.nil ?_
      refine blockQ_n (thenQ_n ⟨((i + j) / 2 + 1, j), (.cons rfl (.cons rfl (.cons rfl .nil))), ?_, ?_⟩)
      · skip
        have hqf : q ((i + j) / 2) = false := by simpa using hc2
        refine ⟨by dsimp only; omega, hjn, fun k hk => ?_, h2, hfr2⟩
        cases hqk : q k with
        | false => rfl
        | true =>
          have := hq k ((i + j) / 2) (by dsimp only at hk; omega) (by omega) hqk
          rw [hqf] at this; cases this
      · skip
        first | omega | (dsimp only; omega)
    · skip
      refine VC.region ?_
      refine Ops.r (Run.mv rfl) rfl ?_
      refine Ops.r (Run.asg rfl) rfl ?_
      refine Ops.nil ?_
      refine blockQ_n (thenQ_n ⟨(i, (i + j) / 2), (.cons rfl (.cons rfl (.cons rfl .nil))), ?_, ?_⟩)
      · skip
        have hqt : q ((i + j) / 2) = true := by simpa using hc2
        exact ⟨by dsimp only; omega, by dsimp only; omega, h1, fun k hk1 hk2 => hq _ k hk1 hk2 hqt, hfr2⟩
      · skip
        first | omega | (dsimp only; omega)
  · skip
    refine VC.exit ?_
    refine thenQ_x (thenQ_x (blockQ_x ?_))
    refine thenQ_n ?_
    refine VC.sub [(5, _)] (.cons rfl .nil) ?_
    refine VC.seq ?_
    refine VC.region ?_
    refine Ops.r (Run.mv rfl) rfl ?_
    refine Ops.r (Run.asg rfl) rfl ?_
    refine Ops.nil ?_
    refine thenQ_n ?_
    refine VC.sub [(4, _)] (.cons rfl .nil) ?_
    refine VC.ret ?_
    refine end1 rfl ?_
    have hij2 : i = j := by omega
    subst hij2
    exact ⟨hfr, i, rfl, hjn, h1, h2⟩

set_option maxRecDepth 100000 in
theorem searchC_spec (i g1 g2 c : Nat) (A : Option Addr) (zs : List Int) (x : Int) (w : World) (hi : i < zs.length) (hz : Rd w 1 A zs.length (IB zs)) (hb1 : Blk w g1 25 #[.slice A zs.length c]) (hb2 : Blk w g2 3 #[.int .i64 x]) (hzn : zs.length ≤ 1000000) :
    Calls Try.prog 62 #[.int .i64 ((i : Nat) : Int), .pointer (some ⟨g1, 0, none⟩), .pointer (some ⟨g2, 0, none⟩)] w fun e w' => e = .returned (.bool (decide (x ≤ zs[i]))) ∧ Frm [] w w' := by
  obtain ⟨ad, u, rfl, hu, hcell⟩ := hz.at1 hi
  have hcd : ∀ w0, Drawn w w0 → w0.cell? (ad.add i) = some (.int .i64 zs[i]) := fun w0 h0 => by
    obtain ⟨ad', u', hA, hu', hc'⟩ := (hz.drawn h0).at1 hi
    cases hA
    rw [hc', ← hu']
    simp [IB, List.getElem?_eq_getElem hi]
  refine VC.calls (nt := 11) (res := #[.tmp 4]) Try.func62 rfl Try.ntmps62 Try.results62 rfl ?_
  refine VC.seq ?_
  refine VC.region ?_
  refine Ops.r (Run.asg rfl) rfl ?_
  refine Ops.nil ?_
  refine thenQ_n ?_
  refine VC.sub [(0, _), (1, _), (2, _)] (.cons rfl (.cons rfl (.cons rfl .nil))) ?_
  refine VC.seq ?_
  refine VC.quiet (by kernel_rfl) (by kernel_rfl) ?_
  refine QOps.r (fun w0 hw0 => Run.load rfl Try.isAgg25 ((hb1.drawn hw0).cell 0)) rfl ?_
  refine QOps.r (fun w0 hw0 => Run.mv rfl) rfl ?_
  refine QOps.r (fun w0 hw0 => Run.index1 i rfl rfl Try.underlying25 Try.sizeOf3 hi) rfl ?_
  refine QOps.r (fun w0 hw0 => Run.load rfl Try.isAgg3 (hcd _ hw0)) rfl ?_
  refine QOps.r (fun w0 hw0 => Run.load rfl Try.isAgg3 ((hb2.drawn hw0).cell 0)) rfl ?_
  refine QOps.r (fun w0 hw0 => Run.bin rfl rfl (Bin.geq _ _)) rfl ?_
  refine QOps.r (fun w0 hw0 => Run.asg rfl) rfl ?_
  refine QOps.nil ?_
  intro wq hq
  refine thenQ_n ?_
  refine VC.sub [(4, _)] (.cons rfl .nil) ?_
  refine VC.ret ?_
  refine end1 rfl ?_
  exact ⟨rfl, hq.frm⟩

set_option maxRecDepth 100000 in
theorem searchInts_spec (A : Option Addr) (c : Nat) (zs : List Int) (x : Int) (w : World) (hz : Rd w 1 A zs.length (IB zs)) (hzn : zs.length ≤ 1000000) (hs : zs.Pairwise (· < ·)) :
    Calls Try.prog 44 #[.slice A zs.length c, .int .i64 x] w fun e w' => Frm [] w w' ∧ ∃ k : Nat, e = .returned (.int .i64 ((k : Nat) : Int)) ∧ k ≤ zs.length ∧ (∀ j (h : j < zs.length), j < k → zs[j] < x) ∧ ∀ j (h : j < zs.length), k ≤ j → x ≤ zs[j] := by
  refine VC.calls (nt := 9) (res := #[.tmp 4]) Try.func44 rfl Try.ntmps44 Try.results44 rfl ?_
  refine VC.seq ?_
  refine VC.region ?_
  refine Ops.m (Does.box rfl) rfl ?_
  rintro _ w1 ⟨rfl, hF2⟩
  have hb2 := hF2.blk
  have hf2 := hF2.frm
  generalize hg2 : w.heap.size = g2 at *
  refine Ops.m (Does.box rfl) rfl ?_
  rintro _ w3 ⟨rfl, hF3⟩
  have hb3 := hF3.blk
  have hb23 := hb2.frm hF3.frm (by simp)
  have hf3 := hf2.trans hF3.frm (by simp)
  generalize hg3 : w1.heap.size = g3 at hb3 ⊢
  have hTI : TestI w3 62 [.pointer (some ⟨g2, 0, none⟩), .pointer (some ⟨g3, 0, none⟩)] zs.length (fun i => decide (x ≤ zs.getD i 0)) := ⟨Try.call62, fun W i hW hi => by
    have h := searchC_spec i g2 g3 c A zs x W hi (hz.frm (hf3.trans hW (by simp)) (by simp)) (hb23.frm hW (by simp)) (hb3.frm hW (by simp)) hzn
    simpa [List.getD_eq_getElem?_getD, List.getElem?_eq_getElem hi] using h⟩
  have hmo : ∀ i j, i ≤ j → j < zs.length → (fun i => decide (x ≤ zs.getD i 0)) i = true → (fun i => decide (x ≤ zs.getD i 0)) j = true := fun i j hij hj hi => by
    have hi' : i < zs.length := by omega
    simp only [List.getD_eq_getElem?_getD, List.getElem?_eq_getElem hi', List.getElem?_eq_getElem hj, Option.getD_some, decide_eq_true_eq] at hi ⊢
    rcases Nat.lt_or_ge i j with h | h
    · have := List.pairwise_iff_getElem.1 hs i j hi' hj h
      omega
    · obtain rfl : i = j := by omega
      exact hi
  refine Ops.r (v := .int .i64 ((0 : Nat) : Int)) (Run.asg rfl) rfl ?_
  refine Ops.nil ?_
  refine thenQ_n ?_
  refine VC.sub [(2, _), (3, _)] (.cons rfl (.cons rfl .nil)) ?_
  refine VC.seq ?_
  refine VC.region ?_
  refine Ops.r (Run.load rfl Try.isAgg25 (hb23.cell 0)) rfl ?_
  refine Ops.r (Run.lenS rfl Try.underlying25) rfl ?_
  refine Ops.r (Run.mkFunc evs.nil (evs.cons rfl (evs.cons rfl evs.nil))) rfl ?_
  refine Ops.cl (Enters.fn (evs.cons rfl (evs.cons rfl evs.nil)) Try.call61) (search_spec 62 [.pointer (some ⟨g2, 0, none⟩), .pointer (some ⟨g3, 0, none⟩)] zs.length (fun i => decide (x ≤ zs.getD i 0)) _ hzn hTI hmo) rfl ?_
  rintro e w4 ⟨hf4, k, rfl, hk, h1, h2⟩
  refine ⟨_, rfl, ?_⟩
  refine Ops.r (Run.asg rfl) rfl ?_
  refine Ops.nil ?_
  refine thenQ_n ?_
  refine VC.sub [(4, _)] (.cons rfl .nil) ?_
  refine VC.ret ?_
  refine end1 rfl ?_
  refine ⟨hf3.trans hf4 (by simp), k, rfl, hk, fun j hj hjk => ?_, fun j hj hkj => ?_⟩
  · have := h1 j hjk
    simp only [List.getD_eq_getElem?_getD, List.getElem?_eq_getElem hj, Option.getD_some, decide_eq_false_iff_not] at this
    omega
  · have := h2 j hkj hj
    simpa only [List.getD_eq_getElem?_getD, List.getElem?_eq_getElem hj, Option.getD_some, decide_eq_true_eq] using this

theorem rises {v n : Int} {l : List MsgP} (h : mayB ⟨v, n, l⟩) : ∀ i j (hi : i < l.length) (hj : j < l.length), i < j → l[i].uid < l[j].uid := by
  intro i j
  induction j with
  | zero => intro _ _ h; omega
  | succ j ih =>
    intro hi hj hij
    have h1 := (h.2 (j + 1) hj).1
    have e : prevU l (j + 1) = l[j].uid := by simp [prevU, List.getElem?_eq_getElem (show j < l.length by omega)]
    have h2 : l[j].uid < l[j + 1].uid := by rw [← e]; exact h1
    rcases Nat.lt_or_ge i j with h3 | h3
    · have := ih hi (by omega) h3
      omega
    · obtain rfl : i = j := by omega
      exact h2
theorem nids_rises (b : BoxV) : (nidsB b).Pairwise (· < ·) := by
  unfold nidsB
  split
  · rename_i h
    rw [List.pairwise_iff_getElem]
    intro i j hi hj hij
    simp only [List.length_map] at hi hj
    simpa using rises (v := b.valid) (n := b.next) h i j hi hj hij
  · exact List.Pairwise.nil
theorem nids_len (b : BoxV) : (nidsB b).length ≤ 128 := by
  unfold nidsB
  split
  · rename_i h
    simp only [List.length_map]
    exact h.1.2.2.2.2
  · simp

set_option maxRecDepth 100000 in
theorem place_spec (v n : Int) (A : Option Addr) (c : Nat) (l : List Mc) (u : Int) (w : World) (hl : RdM w A l) :
    Calls Try.prog 27 #[.agg #[.int .i64 v, .int .i64 n, .slice A l.length c], .int .i64 u] w fun e w' => Frm [] w w' ∧ ∃ p : Nat, e = .returned (.int .i64 ((p : Nat) : Int)) ∧ ((p = 0 ∧ u ∉ nidsB ⟨v, n, Ms l⟩) ∨ (1 ≤ p ∧ (nidsB ⟨v, n, Ms l⟩)[p - 1]? = some u)) := by
  refine VC.calls (nt := 26) (res := #[.tmp 4]) Try.func27 rfl Try.ntmps27 Try.results27 rfl ?_
  refine VC.seq ?_
  refine VC.region ?_
  refine Ops.m (Does.box rfl) rfl ?_
  rintro _ w1 ⟨rfl, hF1⟩
  have hb1 := hF1.blk
  have hf1 := hF1.frm
  generalize hg1 : w.heap.size = g1 at *
  refine Ops.r (v := .int .i64 ((0 : Nat) : Int)) (Run.asg rfl) rfl ?_
  refine Ops.nil ?_
  refine thenQ_n ?_
  refine VC.sub [(1, _), (2, _)] (.cons rfl (.cons rfl .nil)) ?_
  refine VC.seq ?_
  refine VC.region ?_
  refine Ops.r (Run.loadA rfl Try.isAgg24 Try.sizeOf24 (fun j v hj => hb1.cells j v hj) (by first | rfl | (simp; done))) rfl ?_
  refine Ops.cl (Enters.fn (evs.cons rfl evs.nil) Try.call26) (uids_spec v n A c l _ (hl.frm hf1)) rfl ?_
  rintro e w2 ⟨hf2, C, d, rfl, hownC, hgeC⟩
  refine ⟨_, rfl, ?_⟩
  have hnl := nids_len ⟨v, n, Ms l⟩
  have hnr := nids_rises ⟨v, n, Ms l⟩
  have hfr2 := hf1.trans hf2 (by simp)
  generalize hN : nidsB ⟨v, n, Ms l⟩ = N at *
  refine Ops.r (Run.asg rfl) rfl ?_
  refine Ops.nil ?_
  refine thenQ_n ?_
  refine VC.sub [(1, _), (5, _)] (.cons rfl (.cons rfl .nil)) ?_
  refine VC.seq ?_
  refine VC.seq ?_
  refine VC.region ?_
  refine Ops.r (Run.mv rfl) rfl ?_
  refine Ops.r (Run.mv rfl) rfl ?_
  refine Ops.cl (Enters.fn (evs.cons rfl (evs.cons rfl evs.nil)) Try.call44) (searchInts_spec C d N u _ hownC.rd (by omega) hnr) rfl ?_
  rintro e w3 ⟨hf3, k, rfl, hk, h1, h2⟩
  refine ⟨_, rfl, ?_⟩
  have hfr3 := hfr2.trans hf3 (by simp)
  have hR3 := hownC.rd.frm hf3 (by simp)
  refine Ops.r (Run.asg rfl) rfl ?_
  refine Ops.nil ?_
  refine thenQ_n ?_
  refine VC.sub [(1, _), (5, _), (6, _)] (.cons rfl (.cons rfl (.cons rfl .nil))) ?_
  refine VC.seq ?_
  refine VC.split1 [(6, _)] (.cons rfl .nil) 23 (.bool (decide (∃ h : k < N.length, N[k] = u))) ?_ ?_
  · refine VC.region ?_
    refine Ops.r (Run.mv rfl) rfl ?_
    refine Ops.r (Run.mv rfl) rfl ?_
    refine Ops.r (Run.lenS rfl Try.underlying25) rfl ?_
    refine Ops.r (Run.bin rfl rfl (Bin.lssN _ _)) rfl ?_
    by_cases hs15 : k < N.length
    · skip
      obtain ⟨ad, hu0, rfl, hu1, hcell⟩ := hR3.at1 hs15
      have hu2 : hu0 = .int .i64 N[k] := by simpa [IB, List.getElem?_eq_getElem hs15] using hu1.symm
      subst hu2
      refine Ops.r (Run.mv rfl) rfl ?_
      refine Ops.rg rfl (by first | rfl | assumption | exact decide_eq_true (by assumption) | exact decide_eq_false (by assumption) | decide | (simp; done) | (simp; omega) | (simp [*]; done)) (Run.mv rfl) rfl ?_
      refine Ops.rg rfl (by first | rfl | assumption | exact decide_eq_true (by assumption) | exact decide_eq_false (by assumption) | decide | (simp; done) | (simp; omega) | (simp [*]; done)) (Run.mv rfl) rfl ?_
      refine Ops.rg rfl (by first | rfl | assumption | exact decide_eq_true (by assumption) | exact decide_eq_false (by assumption) | decide | (simp; done) | (simp; omega) | (simp [*]; done)) (Run.index1 k rfl rfl Try.underlying25 Try.sizeOf3 hs15) rfl ?_
      refine Ops.rg rfl (by first | rfl | assumption | exact decide_eq_true (by assumption) | exact decide_eq_false (by assumption) | decide | (simp; done) | (simp; omega) | (simp [*]; done)) (Run.load rfl Try.isAgg3 hcell) rfl ?_
      refine Ops.rg rfl (by first | rfl | assumption | exact decide_eq_true (by assumption) | exact decide_eq_false (by assumption) | decide | (simp; done) | (simp; omega) | (simp [*]; done)) (Run.mv rfl) rfl ?_
      refine Ops.rg rfl (by first | rfl | assumption | exact decide_eq_true (by assumption) | exact decide_eq_false (by assumption) | decide | (simp; done) | (simp; omega) | (simp [*]; done)) (Run.bin rfl rfl (Bin.eql _ _)) rfl ?_
      by_cases hs22 : N[k] = u
      · skip
        refine Ops.r (Run.pickT rfl rfl (by first | rfl | assumption | exact decide_eq_true (by assumption) | exact decide_eq_false (by assumption) | decide | (simp; done) | (simp; omega) | (simp [*]; done))) rfl ?_
        refine Ops.nil ?_
        refine thenQ_n ⟨(.cons (congrArg (fun b => some (Value.bool b)) (Eq.symm (by first | exact decide_eq_decide.2 ⟨fun h => h.2, fun h => ⟨by assumption, h⟩⟩ | exact decide_eq_false (fun h => absurd h.1 (by assumption)) | simp_all))) (.cons rfl .nil)), rfl⟩
      · skip
        refine Ops.r (Run.pickT rfl rfl (by first | rfl | assumption | exact decide_eq_true (by assumption) | exact decide_eq_false (by assumption) | decide | (simp; done) | (simp; omega) | (simp [*]; done))) rfl ?_
        refine Ops.nil ?_
        refine thenQ_n ⟨(.cons (congrArg (fun b => some (Value.bool b)) (Eq.symm (by first | exact decide_eq_decide.2 ⟨fun h => h.2, fun h => ⟨by assumption, h⟩⟩ | exact decide_eq_false (fun h => absurd h.1 (by assumption)) | simp_all))) (.cons rfl .nil)), rfl⟩
    · skip
      refine Ops.r (Run.mv rfl) rfl ?_
      refine Ops.sk rfl (by first | rfl | assumption | exact decide_eq_true (by assumption) | exact decide_eq_false (by assumption) | decide | (simp; done) | (simp; omega) | (simp [*]; done)) rfl ?_
      refine Ops.sk rfl (by first | rfl | assumption | exact decide_eq_true (by assumption) | exact decide_eq_false (by assumption) | decide | (simp; done) | (simp; omega) | (simp [*]; done)) rfl ?_
      refine Ops.sk rfl (by first | rfl | assumption | exact decide_eq_true (by assumption) | exact decide_eq_false (by assumption) | decide | (simp; done) | (simp; omega) | (simp [*]; done)) rfl ?_
      refine Ops.sk rfl (by first | rfl | assumption | exact decide_eq_true (by assumption) | exact decide_eq_false (by assumption) | decide | (simp; done) | (simp; omega) | (simp [*]; done)) rfl ?_
      refine Ops.sk rfl (by first | rfl | assumption | exact decide_eq_true (by assumption) | exact decide_eq_false (by assumption) | decide | (simp; done) | (simp; omega) | (simp [*]; done)) rfl ?_
      refine Ops.sk rfl (by first | rfl | assumption | exact decide_eq_true (by assumption) | exact decide_eq_false (by assumption) | decide | (simp; done) | (simp; omega) | (simp [*]; done)) rfl ?_
      refine Ops.r (Run.pickF rfl rfl (by first | rfl | assumption | exact decide_eq_true (by assumption) | exact decide_eq_false (by assumption) | decide | (simp; done) | (simp; omega) | (simp [*]; done))) rfl ?_
      refine Ops.nil ?_
      refine thenQ_n ⟨(.cons (congrArg (fun b => some (Value.bool b)) (Eq.symm (by first | exact decide_eq_decide.2 ⟨fun h => h.2, fun h => ⟨by assumption, h⟩⟩ | exact decide_eq_false (fun h => absurd h.1 (by assumption)) | simp_all))) (.cons rfl .nil)), rfl⟩
  · intro Γ hΓ
    refine thenQ_n (VC.sub _ hΓ ?_)
    refine VC.condD rfl (fun hc1 => ?_) (fun hc1 => ?_)
    · skip
      refine VC.seq ?_
      refine VC.region ?_
      refine Ops.r (Run.mv rfl) rfl ?_
      refine Ops.r (Run.bin rfl rfl (Bin.add_i64 _ 1 (by omega))) rfl ?_
      refine Ops.r (Run.asg rfl) rfl ?_
      refine Ops.nil ?_
      refine thenQ_n ?_
      refine VC.sub [(4, _)] (.cons rfl .nil) ?_
      refine VC.ret ?_
      refine thenQ_r (end1 rfl ?_)
      obtain ⟨hkl, hku⟩ := hc1
      exact ⟨hfr3, k + 1, rfl, .inr ⟨by omega, by simp [List.getElem?_eq_getElem hkl, hku]⟩⟩
    · skip
      refine VC.skip ?_
      refine thenQ_n ?_
      refine VC.sub [] .nil ?_
      refine VC.seq ?_
      refine VC.region ?_
      refine Ops.r (v := .int .i64 ((0 : Nat) : Int)) (Run.asg rfl) rfl ?_
      refine Ops.nil ?_
      refine thenQ_n ?_
      refine VC.ret ?_
      refine end1 rfl ?_
      refine ⟨hfr3, 0, rfl, .inl ⟨rfl, fun hu => ?_⟩⟩
      obtain ⟨j, hj, hju⟩ := List.getElem_of_mem hu
      rcases Nat.lt_or_ge j k with h | h
      · have := h1 j hj h; omega
      · have hkN : k < N.length := by omega
        have h3 := h2 k hkN (Nat.le_refl _)
        rcases Nat.lt_or_ge k j with h4 | h4
        · have := List.pairwise_iff_getElem.1 hnr k j hkN hj h4
          omega
        · obtain rfl : k = j := by omega
          exact hc1 ⟨hkN, hju⟩

end Go.Proofs.Ytmfglifjnoilnaa
