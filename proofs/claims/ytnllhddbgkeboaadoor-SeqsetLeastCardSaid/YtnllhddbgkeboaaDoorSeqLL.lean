/-
  'SeqsetLeast': the places that a set names rise, are each among as many as there are, and are just those that it has.
-/
import Derived.Test.YtnllhddbgkeboaaDoorSeqLO
namespace Go.Proofs.YtnllhddbgkeboaaDoor
open Go.RowKit Go.Sort

theorem mem_raw (l : List Sp) (m n : Int) : n ∈ rawP l m ↔ ∃ x ∈ l, InQ x m n := by
  unfold rawP InQ
  rw [List.mem_flatMap]
  constructor
  · rintro ⟨x, hx, h⟩; exact ⟨x, hx, (mem_fromTo _ _ _).1 h⟩
  · rintro ⟨x, hx, h⟩; exact ⟨x, hx, (mem_fromTo _ _ _).2 h⟩
theorem mem_places {l : List Sp} {m : Int} (hg : ∀ x ∈ l, ¬ BadP m x) (n : Int) : n ∈ placesQ l m ↔ hasQ l n m := by
  rw [(placesQ_good hg).1, (nubI_spec _).2, mem_raw]
  constructor
  · rintro ⟨x, hx, h1, h2⟩
    have hb := hg x hx
    unfold BadP at hb
    exact ⟨by omega, by omega, x, hx, h1, h2⟩
  · rintro ⟨_, _, x, hx, h⟩
    exact ⟨x, hx, h⟩
theorem places_le {l : List Sp} {m : Int} (hg : ∀ x ∈ l, ¬ BadP m x) {n : Int} (h : n ∈ placesQ l m) : 1 ≤ n ∧ n ≤ m := by
  obtain ⟨h1, h2, x, hx, h3, h4⟩ := (mem_places hg n).1 h
  have hb := hg x hx
  unfold BadP at hb
  omega
theorem places_ss {l : List Sp} {m : Int} (hg : ∀ x ∈ l, ¬ BadP m x) : SSI (placesQ l m) := by
  rw [(placesQ_good hg).1]
  exact (nubI_spec _).1
theorem placesQ_err (l : List Sp) (m : Int) : (errP l m = 4 ∧ placesQ l m = []) ∨ (errP l m = 0 ∧ ∀ x ∈ l, ¬ BadP m x) := by
  by_cases h : ∃ x ∈ l, BadP m x
  · obtain ⟨x, hx, hb⟩ := h
    obtain ⟨h1, h2⟩ := placesQ_bad hx hb
    exact .inl ⟨h2, h1⟩
  · have hg : ∀ x ∈ l, ¬ BadP m x := fun x hx hb => h ⟨x, hx, hb⟩
    exact .inr ⟨(placesQ_good hg).2, hg⟩
/-- The numbers from 1 on, so many. -/
def allQ (j : Nat) : List Int := (List.range j).map fun k : Nat => ((k + 1 : Nat) : Int)
theorem allQ_succ (j : Nat) : allQ (j + 1) = allQ j ++ [((j + 1 : Nat) : Int)] := by simp [allQ, List.range_succ]
theorem allQ_len (j : Nat) : (allQ j).length = j := by simp [allQ]
theorem allQ_getD {j i : Nat} (h : i < j) : (allQ j).getD i 0 = ((i + 1 : Nat) : Int) := by
  rw [getD_of (by rw [allQ_len]; exact h)]
  simp [allQ]
theorem allQ_mem (j : Nat) (n : Int) : n ∈ allQ j ↔ 1 ≤ n ∧ n ≤ j := by
  unfold allQ
  rw [List.mem_map]
  constructor
  · rintro ⟨k, hk, rfl⟩
    rw [List.mem_range] at hk
    omega
  · intro h
    exact ⟨(n - 1).toNat, by rw [List.mem_range]; omega, by omega⟩
theorem allQ_ss (j : Nat) : SSI (allQ j) := by
  unfold allQ
  exact List.pairwise_map.2 (List.pairwise_lt_range.imp (by intro a b h; omega))
theorem allQ_rise (j : Nat) : RiseQ (allQ j) := by
  intro i hi
  rw [allQ_len] at hi
  refine ⟨?_, fun h0 => ?_⟩
  · rw [allQ_getD hi]; omega
  · rw [allQ_getD hi, allQ_getD (by omega)]; omega
theorem allQ_last {j : Nat} (h : 0 < j) : lastQ (allQ j) = (j : Int) := by
  unfold lastQ
  rw [allQ_len, allQ_getD (by omega)]
  omega
theorem of_all {l : List Sp} {m : Nat} (hg : ∀ x ∈ l, ¬ BadP (m : Int) x) : ofQ l (allQ m) = placesQ l m := by
  rw [ofQ_good (allQ_rise m)]
  refine ssI_ext ((allQ_ss m).filter _) (places_ss hg) (fun x => ?_)
  rw [List.mem_filter, allQ_mem]
  constructor
  · rintro ⟨h1, h2⟩
    rw [allQ_last (by omega)] at h2
    exact (mem_places hg x).2 (of_decide_eq_true h2)
  · intro h
    have h1 := places_le hg h
    refine ⟨h1, ?_⟩
    rw [allQ_last (by omega)]
    exact decide_eq_true ((mem_places hg x).1 h)
/-- How many of some numbers that rise are no greater than one. -/
def KInv (p : List Int) (j : Int) (k : Nat) : Prop := k ≤ p.length ∧ (∀ i (h : i < p.length), i < k → p[i] ≤ j) ∧ (∀ i (h : i < p.length), k ≤ i → j < p[i])
theorem k_step {p : List Int} {j : Int} {k : Nat} (hs : SSI p) (h : KInv p j k) : (k < p.length ∧ p.getD k 0 = j + 1) ↔ j + 1 ∈ p := by
  obtain ⟨h1, h2, h3⟩ := h
  constructor
  · rintro ⟨hk, he⟩
    rw [getD_of hk] at he
    rw [← he]
    exact List.getElem_mem hk
  · intro hm
    obtain ⟨i, hi, he⟩ := List.getElem_of_mem hm
    have hki : k ≤ i := by
      rcases Nat.lt_or_ge i k with h | h
      · have := h2 i hi h; omega
      · exact h
    have hk : k < p.length := by omega
    have h5 := h3 k hk (Nat.le_refl _)
    refine ⟨hk, ?_⟩
    rw [getD_of hk]
    rcases Nat.lt_or_ge k i with h | h
    · have := List.pairwise_iff_getElem.1 hs k i hk hi h
      omega
    · have : k = i := by omega
      subst this
      omega
theorem k_yes {p : List Int} {j : Int} {k : Nat} (hs : SSI p) (h : KInv p j k) (hy : k < p.length ∧ p.getD k 0 = j + 1) : KInv p (j + 1) (k + 1) := by
  obtain ⟨h1, h2, h3⟩ := h
  obtain ⟨hk, he⟩ := hy
  rw [getD_of hk] at he
  refine ⟨hk, fun i hi hik => ?_, fun i hi hik => ?_⟩
  · rcases Nat.lt_or_ge i k with h | h
    · have := h2 i hi h; omega
    · have : i = k := by omega
      subst this
      omega
  · have := List.pairwise_iff_getElem.1 hs k i hk hi (by omega)
    omega
theorem k_no {p : List Int} {j : Int} {k : Nat} (hs : SSI p) (h : KInv p j k) (hy : ¬ (k < p.length ∧ p.getD k 0 = j + 1)) : KInv p (j + 1) k := by
  obtain ⟨h1, h2, h3⟩ := h
  refine ⟨h1, fun i hi hik => by have := h2 i hi hik; omega, fun i hi hik => ?_⟩
  have h5 := h3 i hi hik
  by_cases he : p[i] = j + 1
  · exfalso
    rcases Nat.lt_or_ge k i with h | h
    · have hk : k < p.length := by omega
      have h6 := h3 k hk (Nat.le_refl _)
      have h7 := List.pairwise_iff_getElem.1 hs k i hk hi h
      omega
    · have : i = k := by omega
      subst this
      exact hy ⟨hi, by rw [getD_of hi]; exact he⟩
  · omega
theorem kinv0 {p : List Int} (h : ∀ n ∈ p, 1 ≤ n) : KInv p ((0 : Nat) : Int) 0 := ⟨Nat.zero_le _, fun i h hi => absurd hi (by omega), fun i hi _ => by have := h _ (List.getElem_mem hi); omega⟩
theorem few66_le (l : List Sp) : (few66 l).length ≤ 66 := by unfold few66; simp; omega

set_option maxRecDepth 100000 in
theorem least_walk (A : Option Addr) (c : Nat) (l : List Sp) (m : Nat) (w : World) (hc : l.length ≤ c) (hl : Rd w 2 A l.length (SC l)) (hm : m < 256) :
    Calls Tryd.prog 9 #[.slice A l.length c, .int .u8 ((m : Nat) : Int)] w fun e w' => e = .returned (.bool true) ∧ Frm [] w w' := by
  refine VC.calls (nt := 78) (res := #[.tmp 4]) Tryd.func9 rfl Tryd.ntmps9 Tryd.results9 rfl ?_
  refine VC.seq ?_
  refine VC.region ?_
  refine Ops.r (Run.asg rfl) rfl ?_
  refine Ops.nil ?_
  refine thenQ_n ?_
  refine VC.sub [(0, _), (1, _)] (.cons rfl (.cons rfl .nil)) ?_
  refine VC.seq ?_
  refine VC.region ?_
  refine Ops.r (Run.mv rfl) rfl ?_
  refine Ops.cl (Enters.fn (evs.cons rfl evs.nil) Tryd.call21) (few25_spec A c l _ hc hl) rfl ?_
  rintro e _ ⟨rfl, A1, c1, rfl, hl1, hc1⟩
  refine ⟨_, rfl, ?_⟩
  have hn1 := few66_le l
  generalize few66 l = l1 at *
  refine Ops.r (Run.asg rfl) rfl ?_
  refine Ops.nil ?_
  refine thenQ_n ?_
  refine VC.sub [(0, _), (1, _)] (.cons rfl (.cons rfl .nil)) ?_
  refine VC.seq ?_
  refine VC.region ?_
  refine Ops.r (Run.mv rfl) rfl ?_
  refine Ops.r (Run.mv rfl) rfl ?_
  refine Ops.r (Run.convN _ rfl Tryd.underlying5 Tryd.underlying3 (by simp only [bmax]; omega)) rfl ?_
  refine Ops.cl (Enters.fn (evs.cons rfl (evs.cons rfl evs.nil)) Tryd.call27) (places_spec A1 c1 l1 ((m : Nat) : Int) _ hl1 (by omega) (by omega)) rfl ?_
  rintro e w1 ⟨K, B, d, rfl, hp, hub⟩
  refine ⟨_, rfl, ?_⟩
  have herr := placesQ_err l1 ((m : Nat) : Int)
  refine Ops.r (Run.mv rfl) rfl ?_
  refine Ops.r (Run.extract rfl rfl) rfl ?_
  refine Ops.r (Run.extract rfl rfl) rfl ?_
  refine Ops.r (Run.asg rfl) rfl ?_
  refine Ops.r (Run.asg rfl) rfl ?_
  refine Ops.nil ?_
  refine thenQ_n ?_
  refine VC.sub [(0, _), (1, _), (5, _), (6, _)] (.cons rfl (.cons rfl (.cons rfl (.cons rfl .nil)))) ?_
  refine VC.seq ?_
  refine VC.seq ?_
  refine VC.region ?_
  refine Ops.r (Run.mv rfl) rfl ?_
  refine Ops.r (Run.bin rfl rfl (Bin.neq _ 0)) rfl ?_
  refine Ops.nil ?_
  refine thenQ_n ?_
  refine VC.sub [(0, _), (1, _), (5, _), (6, _), (21, _)] (.cons rfl (.cons rfl (.cons rfl (.cons rfl (.cons rfl .nil))))) ?_
  refine VC.condD rfl (fun hc1 => ?_) (fun hc1 => ?_)
  · skip
    have herr := herr.resolve_right (fun h => hc1 h.1)
    obtain ⟨he4, hpn⟩ := herr
    refine VC.seq ?_
    refine VC.region ?_
    refine Ops.r (Run.mv rfl) rfl ?_
    refine Ops.r (Run.lenS rfl Tryd.underlying38) rfl ?_
    refine Ops.r (Run.bin rfl rfl (Bin.eqlN _ 0)) rfl ?_
    refine Ops.r (Run.mv rfl) rfl ?_
    refine Ops.rg rfl (by first | rfl | assumption | exact decide_eq_true (by assumption) | exact decide_eq_false (by assumption) | decide | (simp; done) | (simp; omega) | (simp [*]; done)) (Run.mv rfl) rfl ?_
    refine Ops.rg rfl (by first | rfl | assumption | exact decide_eq_true (by assumption) | exact decide_eq_false (by assumption) | decide | (simp; done) | (simp; omega) | (simp [*]; done)) (Run.bin rfl rfl (Bin.eql _ 4)) rfl ?_
    refine Ops.r (Run.pickT rfl rfl (by first | rfl | assumption | exact decide_eq_true (by assumption) | exact decide_eq_false (by assumption) | decide | (simp; done) | (simp; omega) | (simp [*]; done))) rfl ?_
    refine Ops.r (Run.mv rfl) rfl ?_
    refine Ops.clg rfl (by first | rfl | assumption | exact decide_eq_true (by assumption) | exact decide_eq_false (by assumption) | decide | (simp; done) | (simp; omega) | (simp [*]; done)) (Enters.fn evs.nil Tryd.call25) (awake25_spec _) rfl ?_
    rintro e w2 ⟨rfl, hf2⟩
    refine ⟨_, rfl, ?_⟩
    have K := K.trans hf2 (by simp)
    refine Ops.r (Run.pickT rfl rfl (by first | rfl | assumption | exact decide_eq_true (by assumption) | exact decide_eq_false (by assumption) | decide | (simp; done) | (simp; omega) | (simp [*]; done))) rfl ?_
    refine Ops.r (Run.asg rfl) rfl ?_
    refine Ops.nil ?_
    refine thenQ_n ?_
    refine VC.sub [(4, _)] (.cons rfl .nil) ?_
    refine VC.ret ?_
    refine thenQ_r (end1 rfl ?_)
    exact ⟨rfl, K⟩
  · skip
    have hg := (herr.resolve_left (fun h => by rw [h.1] at hc1; omega)).2
    have hss := places_ss hg
    have hmem := mem_places hg
    have hple := fun {n} => places_le (n := n) hg
    have hofa := of_all hg
    have hpl : (placesQ l1 ((m : Nat) : Int)).length ≤ 1000000 := by
      have := hofa ▸ of_len l1 (allQ m)
      rw [allQ_len] at this
      omega
    generalize hpq : placesQ l1 ((m : Nat) : Int) = p at *
    refine VC.skip ?_
    refine thenQ_n ?_
    refine VC.sub [(0, _), (1, _), (5, _)] (.cons rfl (.cons rfl (.cons rfl .nil))) ?_
    refine VC.seq ?_
    refine VC.region ?_
    refine Ops.r (Run.asg rfl) rfl ?_
    refine Ops.nil ?_
    refine thenQ_n ?_
    refine VC.seq ?_
    refine VC.region ?_
    refine Ops.r (v := .int .i64 ((0 : Nat) : Int)) (Run.asg rfl) rfl ?_
    refine Ops.nil ?_
    refine thenQ_n ?_
    refine VC.seq ?_
    refine VC.seq ?_
    refine VC.region ?_
    refine Ops.r (v := .int .i64 ((1 : Nat) : Int)) (Run.asg rfl) rfl ?_
    refine Ops.nil ?_
    refine thenQ_n ?_
    refine VC.block ?_
    refine VC.loop (σ := Nat × Nat × Option Addr × Nat) (fun s => [(0, .slice A1 l1.length c1), (1, .int .u8 ((m : Nat) : Int)), (5, .slice B p.length d), (7, .slice s.2.2.1 (allQ s.1).length s.2.2.2), (8, .int .i64 ((s.2.1 : Nat) : Int)), (9, .int .i64 ((s.1 + 1 : Nat) : Int))]) (fun s wr => s.1 ≤ m ∧ KInv p ((s.1 : Nat) : Int) s.2.1 ∧ Frm [] w wr ∧ Own wr 3 1 B p.length d (IB p) ∧ Own wr 3 1 s.2.2.1 (allQ s.1).length s.2.2.2 (IB (allQ s.1)) ∧ (∀ x ∈ ob s.2.2.1, w.heap.size ≤ x ∧ x ∉ ob B)) (fun s => m - s.1) (0, 0, none, 0) (.cons rfl (.cons rfl (.cons rfl (.cons rfl (.cons rfl (.cons rfl .nil)))))) ⟨by omega, kinv0 (fun n h => (hple h).1), K, hp, Own.nil _ _ _, by simp [ob]⟩ ?_
    rintro ⟨j, k, C, q⟩ wr ⟨hj, hk, K, hp, hC, hCB⟩
    dsimp only at hj hk hC hCB ⊢
    have hal := allQ_len j
    have hkp := hk.1
    refine VC.seq ?_
    refine VC.seq ?_
    refine VC.region ?_
    refine Ops.r (Run.mv rfl) rfl ?_
    refine Ops.r (Run.mv rfl) rfl ?_
    refine Ops.r (Run.convN _ rfl Tryd.underlying5 Tryd.underlying3 (by simp only [bmax]; omega)) rfl ?_
    refine Ops.r (Run.bin rfl rfl (Bin.leqN _ _)) rfl ?_
    refine Ops.nil ?_
    refine thenQ_n ?_
    refine VC.sub [(0, _), (1, _), (5, _), (7, _), (8, _), (9, _), (35, _)] (.cons rfl (.cons rfl (.cons rfl (.cons rfl (.cons rfl (.cons rfl (.cons rfl .nil))))))) ?_
    refine VC.condD rfl (fun hc2 => ?_) (fun hc2 => ?_)
    · skip
      have hstep := k_step hss hk
      rw [show ((j : Nat) : Int) + 1 = ((j + 1 : Nat) : Int) by omega] at hstep
      have hin := hstep.trans (hmem ((j + 1 : Nat) : Int))
      have hdec : decide (k < p.length ∧ p.getD k 0 = ((j + 1 : Nat) : Int)) = decide (hasQ l1 ((j + 1 : Nat) : Int) ((m : Nat) : Int)) := decide_eq_decide.2 hin
      refine VC.skip ?_
      refine thenQ_n ?_
      refine VC.sub [(0, _), (1, _), (5, _), (7, _), (8, _), (9, _)] (.cons rfl (.cons rfl (.cons rfl (.cons rfl (.cons rfl (.cons rfl .nil)))))) ?_
      refine VC.seq ?_
      refine VC.block ?_
      refine VC.seq ?_
      refine VC.region ?_
      refine Ops.r (Run.mv rfl) rfl ?_
      refine Ops.r (Run.mv rfl) rfl ?_
      refine Ops.m (Does.buildS1 rfl Tryd.underlying38 Tryd.sizeOf3 zero3 (by decide) (by decide) rfl rfl) rfl ?_
      rintro _ w3 ⟨rfl, hF3⟩
      have K := K.trans hF3.frm (by simp)
      have hp := hp.frm hF3.frm (by simp)
      have hC := hC.frm hF3.frm (by simp)
      refine Ops.m (Does.app rfl rfl Tryd.underlying38 (info3) rfl (by decide) hC (hrdI hF3) (IB_one _) (by omega) (by omega)) rfl ?_
      rintro _ w4 ⟨C4, q4, rfl, hC4, hf4, hob4⟩
      rw [← IB_append, ← allQ_succ] at hC4
      have e4 : (allQ j).length + 1 = (allQ (j + 1)).length := by rw [allQ_len, allQ_len]
      rw [e4] at hC4 ⊢
      have hsz := K.size
      have hplt := hp.lt
      have hgs := hF3.frm.size
      have K := Frm.own K hf4 (fun y hy => (hCB y hy).1)
      have hp := hp.frm hf4 (fun y hy hb => (hCB y hb).2 hy)
      have hCB4 : ∀ x ∈ ob C4, w.heap.size ≤ x ∧ x ∉ ob B := by
        intro y hy
        rcases hob4 with h | h
        · rw [h] at hy; exact hCB y hy
        · rw [h] at hy
          simp only [List.mem_singleton] at hy
          subst hy
          exact ⟨by omega, fun h => absurd (hplt _ h) (by omega)⟩
      refine Ops.r (Run.asg rfl) rfl ?_
      refine Ops.nil ?_
      refine thenQ_n ?_
      refine VC.sub [(0, _), (1, _), (5, _), (7, _), (8, _), (9, _)] (.cons rfl (.cons rfl (.cons rfl (.cons rfl (.cons rfl (.cons rfl .nil)))))) ?_
      refine VC.seq ?_
      refine VC.split1 [(0, _), (1, _), (5, _), (7, _), (8, _), (9, _)] (.cons rfl (.cons rfl (.cons rfl (.cons rfl (.cons rfl (.cons rfl .nil)))))) 10 (.bool (decide (k < p.length ∧ p.getD k 0 = ((j + 1 : Nat) : Int)))) ?_ ?_
      · refine VC.region ?_
        refine Ops.r (Run.mv rfl) rfl ?_
        refine Ops.r (Run.mv rfl) rfl ?_
        refine Ops.r (Run.lenS rfl Tryd.underlying38) rfl ?_
        refine Ops.r (Run.bin rfl rfl (Bin.lssN _ _)) rfl ?_
        by_cases hs45 : k < p.length
        · skip
          obtain ⟨ad, rfl, hcell⟩ := IB_at hp.rd hs45
          have hgd := getD_of hs45
          generalize hx : p[k] = x at *
          refine Ops.r (Run.mv rfl) rfl ?_
          refine Ops.rg rfl (by first | rfl | assumption | exact decide_eq_true (by assumption) | exact decide_eq_false (by assumption) | decide | (simp; done) | (simp; omega) | (simp [*]; done)) (Run.mv rfl) rfl ?_
          refine Ops.rg rfl (by first | rfl | assumption | exact decide_eq_true (by assumption) | exact decide_eq_false (by assumption) | decide | (simp; done) | (simp; omega) | (simp [*]; done)) (Run.mv rfl) rfl ?_
          refine Ops.rg rfl (by first | rfl | assumption | exact decide_eq_true (by assumption) | exact decide_eq_false (by assumption) | decide | (simp; done) | (simp; omega) | (simp [*]; done)) (Run.index1 k rfl rfl Tryd.underlying38 Tryd.sizeOf3 hs45) rfl ?_
          refine Ops.rg rfl (by first | rfl | assumption | exact decide_eq_true (by assumption) | exact decide_eq_false (by assumption) | decide | (simp; done) | (simp; omega) | (simp [*]; done)) (Run.load rfl Tryd.isAgg3 hcell) rfl ?_
          refine Ops.rg rfl (by first | rfl | assumption | exact decide_eq_true (by assumption) | exact decide_eq_false (by assumption) | decide | (simp; done) | (simp; omega) | (simp [*]; done)) (Run.mv rfl) rfl ?_
          refine Ops.rg rfl (by first | rfl | assumption | exact decide_eq_true (by assumption) | exact decide_eq_false (by assumption) | decide | (simp; done) | (simp; omega) | (simp [*]; done)) (Run.bin rfl rfl (Bin.eql _ _)) rfl ?_
          by_cases hs52 : x = ((j + 1 : Nat) : Int)
          · skip
            refine Ops.r (Run.pickT rfl rfl (by first | rfl | assumption | exact decide_eq_true (by assumption) | exact decide_eq_false (by assumption) | decide | (simp; done) | (simp; omega) | (simp [*]; done))) rfl ?_
            refine Ops.r (Run.asg rfl) rfl ?_
            refine Ops.nil ?_
            refine thenQ_n ⟨(.cons (congrArg (fun b => some (Value.bool b)) (Eq.symm (by first | exact decide_eq_false (fun h => absurd h.1 ‹_›) | exact decide_eq_decide.2 ⟨fun h => by rw [← hgd]; exact h.2, fun h => ⟨‹_›, by rw [hgd]; exact h⟩⟩))) (.cons rfl (.cons rfl (.cons rfl (.cons rfl (.cons rfl (.cons rfl .nil))))))), rfl⟩
          · skip
            refine Ops.r (Run.pickT rfl rfl (by first | rfl | assumption | exact decide_eq_true (by assumption) | exact decide_eq_false (by assumption) | decide | (simp; done) | (simp; omega) | (simp [*]; done))) rfl ?_
            refine Ops.r (Run.asg rfl) rfl ?_
            refine Ops.nil ?_
            refine thenQ_n ⟨(.cons (congrArg (fun b => some (Value.bool b)) (Eq.symm (by first | exact decide_eq_false (fun h => absurd h.1 ‹_›) | exact decide_eq_decide.2 ⟨fun h => by rw [← hgd]; exact h.2, fun h => ⟨‹_›, by rw [hgd]; exact h⟩⟩))) (.cons rfl (.cons rfl (.cons rfl (.cons rfl (.cons rfl (.cons rfl .nil))))))), rfl⟩
        · skip
          refine Ops.r (Run.mv rfl) rfl ?_
          refine Ops.sk rfl (by first | rfl | assumption | exact decide_eq_true (by assumption) | exact decide_eq_false (by assumption) | decide | (simp; done) | (simp; omega) | (simp [*]; done)) rfl ?_
          refine Ops.sk rfl (by first | rfl | assumption | exact decide_eq_true (by assumption) | exact decide_eq_false (by assumption) | decide | (simp; done) | (simp; omega) | (simp [*]; done)) rfl ?_
          refine Ops.sk rfl (by first | rfl | assumption | exact decide_eq_true (by assumption) | exact decide_eq_false (by assumption) | decide | (simp; done) | (simp; omega) | (simp [*]; done)) rfl ?_
          refine Ops.sk rfl (by first | rfl | assumption | exact decide_eq_true (by assumption) | exact decide_eq_false (by assumption) | decide | (simp; done) | (simp; omega) | (simp [*]; done)) rfl ?_
          refine Ops.sk rfl (by first | rfl | assumption | exact decide_eq_true (by assumption) | exact decide_eq_false (by assumption) | decide | (simp; done) | (simp; omega) | (simp [*]; done)) rfl ?_
          refine Ops.sk rfl (by first | rfl | assumption | exact decide_eq_true (by assumption) | exact decide_eq_false (by assumption) | decide | (simp; done) | (simp; omega) | (simp [*]; done)) rfl ?_
          refine Ops.r (Run.pickF rfl rfl (by first | rfl | assumption | exact decide_eq_true (by assumption) | exact decide_eq_false (by assumption) | decide | (simp; done) | (simp; omega) | (simp [*]; done))) rfl ?_
          refine Ops.r (Run.asg rfl) rfl ?_
          refine Ops.nil ?_
          refine thenQ_n ⟨(.cons (congrArg (fun b => some (Value.bool b)) (Eq.symm (by first | exact decide_eq_false (fun h => absurd h.1 ‹_›) | exact decide_eq_decide.2 ⟨fun h => by rw [← hgd]; exact h.2, fun h => ⟨‹_›, by rw [hgd]; exact h⟩⟩))) (.cons rfl (.cons rfl (.cons rfl (.cons rfl (.cons rfl (.cons rfl .nil))))))), rfl⟩
      · intro Γ hΓ
        refine thenQ_n (VC.sub _ hΓ ?_)
        refine VC.seq ?_
        refine VC.seq ?_
        refine VC.region ?_
        refine Ops.r (Run.mv rfl) rfl ?_
        refine Ops.nil ?_
        refine thenQ_n ?_
        refine VC.meet (σ := Nat) (fun s => [(0, .slice A1 l1.length c1), (1, .int .u8 ((m : Nat) : Int)), (5, .slice B p.length d), (7, .slice C4 (allQ (j + 1)).length q4), (8, .int .i64 ((s : Nat) : Int)), (9, .int .i64 ((j + 1 : Nat) : Int)), (10, .bool (decide (k < p.length ∧ p.getD k 0 = ((j + 1 : Nat) : Int))))]) (fun s wr => KInv p ((j + 1 : Nat) : Int) s ∧ w4 = wr) ?_ ?_
        · skip
          refine VC.condD rfl (fun hc3 => ?_) (fun hc3 => ?_)
          · skip
            refine VC.region ?_
            refine Ops.r (Run.mv rfl) rfl ?_
            refine Ops.r (Run.bin rfl rfl (Bin.add_i64 _ 1 (by omega))) rfl ?_
            refine Ops.r (Run.asg rfl) rfl ?_
            refine Ops.nil ?_
            refine thenQ_n ⟨(k + 1), (.cons rfl (.cons rfl (.cons rfl (.cons rfl (.cons rfl (.cons rfl (.cons rfl .nil))))))), ?_⟩
            exact ⟨k_yes hss hk hc3, rfl⟩
          · skip
            refine VC.skip ?_
            refine thenQ_n ⟨k, (.cons rfl (.cons rfl (.cons rfl (.cons rfl (.cons rfl (.cons rfl (.cons rfl .nil))))))), ?_⟩
            exact ⟨k_no hss hk hc3, rfl⟩
        · skip
          rintro k2 _ ⟨hk2, rfl⟩ Γ hΓ
          refine thenQ_n (VC.sub _ hΓ ?_)
          refine VC.seq ?_
          refine VC.region ?_
          refine Ops.r (Run.mv rfl) rfl ?_
          refine Ops.r (Run.mv rfl) rfl ?_
          refine Ops.r (Run.mv rfl) rfl ?_
          refine Ops.r (Run.mv rfl) rfl ?_
          refine Ops.r (Run.convN _ rfl Tryd.underlying5 Tryd.underlying3 (by simp only [bmax]; omega)) rfl ?_
          refine Ops.cl (Enters.fn (evs.cons rfl (evs.cons rfl (evs.cons rfl evs.nil))) Tryd.call26) (has_spec A1 c1 l1 ((j + 1 : Nat) : Int) ((m : Nat) : Int) _ (hl1.frm K (by simp)) (by omega)) rfl ?_
          rintro e w5 ⟨rfl, hf5⟩
          refine ⟨_, rfl, ?_⟩
          have K := K.trans hf5 (by simp)
          have hp := hp.frm hf5 (by simp)
          have hC4 := hC4.frm hf5 (by simp)
          refine Ops.r (Run.neqB rfl rfl Tryd.underlying4) rfl ?_
          refine Ops.nil ?_
          refine thenQ_n ?_
          refine VC.sub [(0, _), (1, _), (5, _), (7, _), (8, _), (9, _), (63, _)] (.cons rfl (.cons rfl (.cons rfl (.cons rfl (.cons rfl (.cons rfl (.cons rfl .nil))))))) ?_
          refine VC.condF rfl (by rw [hdec]; simp) ?_
          refine VC.skip ?_
          refine blockQ_n (thenQ_n ?_)
          refine VC.sub [(0, _), (1, _), (5, _), (7, _), (8, _), (9, _)] (.cons rfl (.cons rfl (.cons rfl (.cons rfl (.cons rfl (.cons rfl .nil)))))) ?_
          refine VC.region ?_
          refine Ops.r (Run.mv rfl) rfl ?_
          refine Ops.r (Run.bin rfl rfl (Bin.add_i64 _ 1 (by omega))) rfl ?_
          refine Ops.r (Run.asg rfl) rfl ?_
          refine Ops.nil ?_
          refine thenQ_n ⟨(j + 1, k2, C4, q4), (.cons rfl (.cons rfl (.cons rfl (.cons rfl (.cons rfl (.cons rfl .nil)))))), ?_, ?_⟩
          · skip
            exact ⟨hc2, hk2, K, hp, hC4, hCB4⟩
          · skip
            first | omega | (dsimp only; omega)
    · skip
      have hjm : j = m := by omega
      subst hjm
      have hkl : k = p.length := by
        obtain ⟨h1, h2, h3⟩ := hk
        rcases Nat.lt_or_ge k p.length with h | h
        · have h4 := h3 k h (Nat.le_refl _)
          have h5 := hple (List.getElem_mem h)
          omega
        · omega
      refine VC.exit ?_
      refine thenQ_x (thenQ_x (blockQ_x ?_))
      refine thenQ_n ?_
      refine VC.sub [(0, _), (5, _), (7, _), (8, _)] (.cons rfl (.cons rfl (.cons rfl (.cons rfl .nil)))) ?_
      refine VC.seq ?_
      refine VC.region ?_
      refine Ops.r (Run.mv rfl) rfl ?_
      refine Ops.r (Run.mv rfl) rfl ?_
      refine Ops.r (Run.lenS rfl Tryd.underlying38) rfl ?_
      refine Ops.r (Run.bin rfl rfl (Bin.eqlN _ _)) rfl ?_
      refine Ops.r (Run.mv rfl) rfl ?_
      refine Ops.rg rfl (by first | rfl | assumption | exact decide_eq_true (by assumption) | exact decide_eq_false (by assumption) | decide | (simp; done) | (simp; omega) | (simp [*]; done)) (Run.mv rfl) rfl ?_
      refine Ops.rg rfl (by first | rfl | assumption | exact decide_eq_true (by assumption) | exact decide_eq_false (by assumption) | decide | (simp; done) | (simp; omega) | (simp [*]; done)) (Run.mv rfl) rfl ?_
      refine Ops.clg rfl (by first | rfl | assumption | exact decide_eq_true (by assumption) | exact decide_eq_false (by assumption) | decide | (simp; done) | (simp; omega) | (simp [*]; done)) (Enters.fn (evs.cons rfl (evs.cons rfl evs.nil)) Tryd.call23) (of_spec A1 C c1 q l1 (allQ j) _ (hl1.frm K (by simp)) (by omega) hC.rd (by omega)) rfl ?_
      rintro e w5 ⟨hf5, D, r, rfl, hD, _⟩
      rw [hofa] at hD ⊢
      refine ⟨_, rfl, ?_⟩
      have K := K.trans hf5 (by simp)
      have hp := hp.frm hf5 (by simp)
      refine Ops.rg rfl (by first | rfl | assumption | exact decide_eq_true (by assumption) | exact decide_eq_false (by assumption) | decide | (simp; done) | (simp; omega) | (simp [*]; done)) (Run.mv rfl) rfl ?_
      refine Ops.clg rfl (by first | rfl | assumption | exact decide_eq_true (by assumption) | exact decide_eq_false (by assumption) | decide | (simp; done) | (simp; omega) | (simp [*]; done)) (Enters.fn (evs.cons rfl (evs.cons rfl evs.nil)) Tryd.call22) (same25_spec D B r d p p _ hD.rd hp.rd (by omega) (by omega)) rfl ?_
      rintro e w6 ⟨rfl, hf6⟩
      rw [decide_eq_true rfl]
      refine ⟨_, rfl, ?_⟩
      have K := K.trans hf6 (by simp)
      refine Ops.r (Run.pickT rfl rfl (by first | rfl | assumption | exact decide_eq_true (by assumption) | exact decide_eq_false (by assumption) | decide | (simp; done) | (simp; omega) | (simp [*]; done))) rfl ?_
      refine Ops.r (Run.mv rfl) rfl ?_
      refine Ops.clg rfl (by first | rfl | assumption | exact decide_eq_true (by assumption) | exact decide_eq_false (by assumption) | decide | (simp; done) | (simp; omega) | (simp [*]; done)) (Enters.fn evs.nil Tryd.call25) (awake25_spec _) rfl ?_
      rintro e w7 ⟨rfl, hf7⟩
      refine ⟨_, rfl, ?_⟩
      have K := K.trans hf7 (by simp)
      refine Ops.r (Run.pickT rfl rfl (by first | rfl | assumption | exact decide_eq_true (by assumption) | exact decide_eq_false (by assumption) | decide | (simp; done) | (simp; omega) | (simp [*]; done))) rfl ?_
      refine Ops.r (Run.asg rfl) rfl ?_
      refine Ops.nil ?_
      refine thenQ_n ?_
      refine VC.sub [(4, _)] (.cons rfl .nil) ?_
      refine VC.ret ?_
      refine end1 rfl ?_
      exact ⟨rfl, K⟩

end Go.Proofs.YtnllhddbgkeboaaDoor
