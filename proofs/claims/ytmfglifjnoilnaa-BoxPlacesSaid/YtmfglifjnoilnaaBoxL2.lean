/-
  The law 'BoxTells' of layer 26: whether any box may be, its numbers, places, those without a flag, and one at its beginning. No condition.
-/
import Derived.Test.YtmfglifjnoilnaaBoxL1
namespace Go.Proofs.Ytmfglifjnoilnaa
open Go.RowKit Go.Sort

/-- A number's place among the first i. -/
def plc (u : Int) (l : List Mc) : Nat → Nat
  | 0 => 0
  | i + 1 => if (l[i]?.map fun x => x.m.uid) = some u then i + 1 else plc u l i
theorem plc_succ (u : Int) {l : List Mc} {i : Nat} (h : i < l.length) : plc u l (i + 1) = if (l[i]).m.uid = u then i + 1 else plc u l i := by
  simp [plc, List.getElem?_eq_getElem h]
theorem plc_spec (u : Int) (l : List Mc) : ∀ i, i ≤ l.length → (plc u l i = 0 ∧ ∀ j (h : j < l.length), j < i → (l[j]).m.uid ≠ u) ∨ (1 ≤ plc u l i ∧ plc u l i ≤ i ∧ (l[plc u l i - 1]?.map fun x => x.m.uid) = some u)
  | 0, _ => .inl ⟨rfl, by omega⟩
  | i + 1, h => by
    have hi : i < l.length := by omega
    rw [plc_succ u hi]
    by_cases he : (l[i]).m.uid = u
    · rw [if_pos he]
      exact .inr ⟨by omega, Nat.le_refl _, by simp [List.getElem?_eq_getElem hi, he]⟩
    · rw [if_neg he]
      rcases plc_spec u l i (by omega) with ⟨h1, h2⟩ | ⟨h1, h2, h3⟩
      · refine .inl ⟨h1, fun j hj hji => ?_⟩
        by_cases hjj : j = i
        · subst hjj; exact he
        · exact h2 j hj (by omega)
      · exact .inr ⟨h1, by omega, h3⟩
theorem plc_is {v n u : Int} {l : List Mc} {p : Nat} (h : (p = 0 ∧ u ∉ nidsB ⟨v, n, Ms l⟩) ∨ (1 ≤ p ∧ (nidsB ⟨v, n, Ms l⟩)[p - 1]? = some u)) : p = if mayB ⟨v, n, Ms l⟩ then plc u l l.length else 0 := by
  by_cases hm : mayB ⟨v, n, Ms l⟩
  · rw [if_pos hm]
    have e : nidsB ⟨v, n, Ms l⟩ = (Ms l).map MsgP.uid := if_pos hm
    have hr := nids_rises ⟨v, n, Ms l⟩
    rw [e] at h hr
    rw [List.pairwise_iff_getElem] at hr
    rcases plc_spec u l l.length (Nat.le_refl _) with ⟨h1, h2⟩ | ⟨h1, h2, h3⟩
    · rcases h with ⟨h4, _⟩ | ⟨h4, h5⟩
      · omega
      · obtain ⟨hlt, h6⟩ := List.getElem?_eq_some_iff.1 h5
        simp only [Ms, List.length_map] at hlt
        simp only [Ms, List.getElem_map] at h6
        exact absurd h6 (h2 _ hlt hlt)
    · have h7 : plc u l l.length - 1 < l.length := by omega
      rw [List.getElem?_eq_getElem h7] at h3
      simp only [Option.map_some, Option.some.injEq] at h3
      rcases h with ⟨_, h5⟩ | ⟨h4, h5⟩
      · refine absurd (List.mem_map.2 ⟨_, List.mem_map.2 ⟨_, List.getElem_mem h7, rfl⟩, h3⟩) h5
      · obtain ⟨hlt, h6⟩ := List.getElem?_eq_some_iff.1 h5
        simp only [Ms, List.length_map] at hlt
        simp only [Ms, List.getElem_map] at h6
        rcases Nat.lt_trichotomy (p - 1) (plc u l l.length - 1) with h8 | h8 | h8
        · have := hr (p - 1) (plc u l l.length - 1) (by simpa [Ms] using hlt) (by simpa [Ms] using h7) h8
          simp only [Ms, List.getElem_map] at this
          omega
        · omega
        · have := hr (plc u l l.length - 1) (p - 1) (by simpa [Ms] using h7) (by simpa [Ms] using hlt) h8
          simp only [Ms, List.getElem_map] at this
          omega
  · rw [if_neg hm]
    have e : nidsB ⟨v, n, Ms l⟩ = [] := if_neg hm
    rw [e] at h
    rcases h with ⟨h1, _⟩ | ⟨_, h2⟩
    · exact h1
    · simp at h2
theorem may_new (v : Int) : mayB ⟨v, 1, []⟩ ↔ ¬ (v < 1 ∨ 2147483647 < v) := by
  constructor
  · intro h; have := h.1; dsimp only at this; omega
  · intro h; exact may_of (by simp; omega) (by simp) (by simp)
/-- The loops' lists, as far as they are. -/
def upI (l : List Mc) (i : Nat) : List Int := (Ms (l.take i)).map MsgP.uid
theorem upI_succ {l : List Mc} {i : Nat} (h : i < l.length) : upI l (i + 1) = upI l i ++ [(l[i]).m.uid] := by
  unfold upI; rw [Ms_take h, List.map_append]; rfl
theorem upI_len {l : List Mc} {i : Nat} (h : i ≤ l.length) : (upI l i).length = i := by simp [upI, Ms]; omega

set_option maxRecDepth 100000 in
theorem tells_walk (va na : Int) (A : Option Addr) (c : Nat) (l : List Mc) (valid uid : Int) (q : Tx) (w : World) (hl : RawM w A l) (hc : l.length ≤ c) :
    Calls Try.prog 7 #[.agg (BVc va na A l.length c ++ ([.int .i64 valid] ++ ([.int .i64 uid] ++ ([encStr q] ++ [] : List Value) : List Value) : List Value) : List Value).toArray] w fun e w' => e = .returned (.bool true) ∧ Frm [] w w' := by
  refine VC.calls (nt := 133) (res := #[.tmp 2]) Try.func7 rfl Try.ntmps7 Try.results7 rfl ?_
  refine VC.seq ?_
  refine VC.region ?_
  refine Ops.m (Does.box rfl) rfl ?_
  rintro _ w1 ⟨rfl, hF1⟩
  have hb1 : Blk w1 w.heap.size 60 (BVc va na A l.length c ++ ([.int .i64 valid] ++ ([.int .i64 uid] ++ ([encStr q] ++ [] : List Value) : List Value) : List Value) : List Value).toArray := hF1.blk
  have K := hF1.frm
  generalize hg1 : w.heap.size = g1 at hb1 ⊢
  refine Ops.r (Run.asg rfl) rfl ?_
  refine Ops.nil ?_
  refine thenQ_n ?_
  refine VC.sub [(1, _)] (.cons rfl .nil) ?_
  refine VC.seq ?_
  refine VC.held (fun W => Frm [] w1 W) (by kernel_rfl) ?_
  have hS : Frm [] w1 w1.drew := (Frm.refl _ _).drew
  refine HOps.take 0 rfl (by kernel_rfl) (by kernel_rfl) (by kernel_rfl) hS (fun w0 hw0 => Run.fieldAddr rfl Try.underlying60 rfl Try.sizeOf24 (by decide)) trivial rfl rfl ?_
  refine HOps.take 1 rfl (by kernel_rfl) (by kernel_rfl) (by kernel_rfl) hS (fun w0 hw0 => Run.loadA rfl Try.isAgg24 Try.sizeOf24 ((hb1.frm hw0 (by simp)).sub 0 (BVc va na A l.length c) rfl) (by first | rfl | (simp; done))) trivial rfl rfl ?_
  refine HOps.take 3 rfl (by kernel_rfl) (by kernel_rfl) (by kernel_rfl) hS (fun w0 hw0 => Run.fieldAddr rfl Try.underlying60 rfl Try.sizeOf3 (by decide)) trivial rfl rfl ?_
  refine HOps.take 4 rfl (by kernel_rfl) (by kernel_rfl) (by kernel_rfl) hS (fun w0 hw0 => Run.load rfl Try.isAgg3 ((hb1.frm hw0 (by simp)).cell 3)) trivial rfl rfl ?_
  refine HOps.take 5 rfl (by kernel_rfl) (by kernel_rfl) (by kernel_rfl) hS (fun w0 hw0 => Run.fieldAddr rfl Try.underlying60 rfl Try.sizeOf3 (by decide)) trivial rfl rfl ?_
  refine HOps.take 6 rfl (by kernel_rfl) (by kernel_rfl) (by kernel_rfl) hS (fun w0 hw0 => Run.load rfl Try.isAgg3 ((hb1.frm hw0 (by simp)).cell 4)) trivial rfl rfl ?_
  refine HOps.par (target := #[true, true, true, true, true, true, true, true, false, false, false]) [⟨2, 15, [], false, fun _ u lo hi W => ∃ B d l', u = .agg #[.int .i64 va, .int .i64 na, .slice B l'.length d] ∧ OwM W B d l' ∧ Ms l' = fewM (Ms l) ∧ l'.length ≤ 129 ∧ ∀ b ∈ ob B, lo ≤ b ∧ b < hi⟩, PT.made 7 3 24 #[.int .i64 0, .int .i64 0, .slice none 0 0]] 2 rfl (by kernel_rfl) (show List.Nodup ([15, 3] : List Nat) by decide) (show List.Nodup ([2, 7] : List Nat) by decide) (fun t ht => ?_) (fun t ht => ?_) (fun W hW => ?_) (fun t ht => ?_) (fun t ht => ?_) (fun t ht W g hW hD hE => ?_) (fun g W hW hA => ?_)
  · skip
    simp only [List.mem_cons, List.not_mem_nil, or_false] at ht
    rcases ht with rfl | rfl
    · skip
      rfl
    · skip
      rfl
  · skip
    simp only [List.mem_cons, List.not_mem_nil, or_false] at ht
    rcases ht with rfl | rfl
    · skip
      exact fun x hx => absurd hx (by simp)
    · skip
      exact fun x hx => absurd hx (by simp)
  · exact hS.trans hW (by simp)
  · skip
    simp only [List.mem_cons, List.not_mem_nil, or_false] at ht
    rcases ht with rfl | rfl
    · skip
      exact fun _ v lo hi W W' hf ⟨B, d, l', h1, h2, h3, h4, h5⟩ => ⟨B, d, l', h1, h2.frm hf, h3, h4, h5⟩
    · skip
      exact PT.made_st
  · skip
    simp only [List.mem_cons, List.not_mem_nil, or_false] at ht
    rcases ht with rfl | rfl
    · skip
      exact fun _ _ _ _ _ _ _ h => h
    · skip
      exact fun _ _ _ _ _ _ _ h => h
  · skip
    simp only [List.mem_cons, List.not_mem_nil, or_false] at ht
    rcases ht with rfl | rfl
    · skip
      refine PStep.cl rfl rfl rfl rfl rfl (Enters.fn (evs.cons rfl evs.nil) Try.call8) (few26_spec va na A c l W (hl.frm (K.drew.trans hW (by simp))) hc) ?_
      rintro e W' ⟨hf, B, d, l', rfl, h2, h3, h4, h5⟩
      exact ⟨_, rfl, hf, B, d, l', rfl, h2, h3, h4, fun b hb => ⟨h5 b hb, h2.own.lt b hb⟩⟩
    · skip
      exact PT.made_ok rfl rfl zero24
  have hA15 := hA.1 _ (.head _)
  have hA3 := hA.1 _ (.tail _ (.head _))
  have hA15_3 := hA.2 _ (.head _) _ (.tail _ (.head _)) (show (15 : Nat) ≠ 3 by decide)
  clear hA
  simp only [List.map_cons, List.map_nil, List.cons_append, List.nil_append]
  dsimp only at hA15 hA3 hA15_3
  generalize g 15 = q15 at *
  obtain ⟨u15, lo15, hi15⟩ := q15
  generalize g 3 = q3 at *
  obtain ⟨u3, lo3, hi3⟩ := q3
  dsimp only at hA15 hA3 hA15_3 ⊢
  obtain ⟨⟨⟨rfl, hlt3⟩, hb3⟩, hA3⟩ := hA3
  obtain ⟨B3, d3, l3, rfl, hO3, hM3, hl3, _⟩ := hA15.1
  have hS := hS.trans hW (by simp)
  have hK1 := K.size
  have hb1 := hb1.frm hS (by simp)
  have K := K.trans hS (by simp)
  change w1.heap.size ≤ _ ∧ _ at hA3
  have lt_13 : g1 < lo3 := by have := hA3.1; have := hF1.blk.lt; omega
  clear hA15
  refine HOps.st 8 rfl (by kernel_rfl) (Acts.storeA rfl rfl Try.sizeOf24 hb3 rfl (BVc_one va na B3 l3.length d3)) trivial rfl ?_
  rintro w3 ⟨hbn_w3, hf_w3, hsz_w3⟩
  have hb1 := hb1.frm hf_w3 (by simp; omega)
  have hO3 := hO3.blk hf_w3 hb3 (by decide) (by decide)
  have hb3 := hbn_w3
  have K := Frm.own K hf_w3 (fun y hy => by simp at hy; omega)
  have hS := Frm.own hS hf_w3 (fun y hy => by simp at hy; omega)
  refine ⟨hS, ?_⟩
  refine HOps.take 9 rfl (by kernel_rfl) (by kernel_rfl) (by kernel_rfl) hS (fun w0 hw0 => Run.asg rfl) trivial rfl rfl ?_
  refine HOps.take 10 rfl (by kernel_rfl) (by kernel_rfl) (by kernel_rfl) hS (fun w0 hw0 => Run.asg rfl) trivial rfl rfl ?_
  refine HOps.done (by kernel_rfl) ?_
  refine thenQ_n ?_
  refine VC.sub [(1, _), (3, _), (4, _), (5, _)] (.cons rfl (.cons rfl (.cons rfl (.cons rfl .nil)))) ?_
  refine VC.seq ?_
  refine VC.region ?_
  refine Ops.r (Run.fieldAddr rfl Try.underlying60 rfl Try.sizeOf9 (by decide)) rfl ?_
  refine Ops.r (Run.load rfl Try.isAgg9 (hb1.cell 5)) rfl ?_
  refine Ops.m (Does.buildS1 rfl Try.underlying43 Try.sizeOf9 zero9 (by decide) (by decide) rfl rfl) rfl ?_
  rintro _ w4 ⟨rfl, hF4⟩
  have hr4 := hrd1 hF4
  have hb1 := hb1.frm hF4.frm (by simp)
  have hb3 := hb3.frm hF4.frm (by simp)
  have hO3 := hO3.frm hF4.frm
  have K := Frm.trans K hF4.frm (by simp)
  refine Ops.cl (Enters.fn (evs.cons rfl evs.nil) Try.call20) (few24_spec _ _ [q] _ (Nat.le_refl 1) hr4) rfl ?_
  rintro e w5 ⟨hf_w5, F5, d5, rfl, hO5, _⟩
  refine ⟨_, rfl, ?_⟩
  have hb1 := hb1.frm hf_w5 (by simp)
  have hb3 := hb3.frm hf_w5 (by simp)
  have hO3 := hO3.frm hf_w5
  have K := Frm.trans K hf_w5 (by simp)
  obtain ⟨ad5, rfl, hc5⟩ := SB_at hO5.rd (k := 0) (by simp [fewF])
  refine Ops.r (Run.index1 0 rfl rfl Try.underlying43 Try.sizeOf9 (by simp [fewF])) rfl ?_
  refine Ops.r (Run.load rfl Try.isAgg9 hc5) rfl ?_
  refine Ops.r (Run.asg rfl) rfl ?_
  refine Ops.nil ?_
  refine thenQ_n ?_
  refine VC.sub [(3, _), (4, _), (5, _), (6, _)] (.cons rfl (.cons rfl (.cons rfl (.cons rfl .nil)))) ?_
  refine VC.seq ?_
  refine VC.region ?_
  refine Ops.r (Run.mv rfl) rfl ?_
  refine Ops.cl (Enters.fn (evs.cons rfl evs.nil) Try.call24) (new_spec valid _) rfl ?_
  rintro e w6 ⟨hf_w6, hnew⟩
  obtain ⟨v6, n6, k6, rfl, hnw⟩ : ∃ (v6 n6 : Int) (k6 : Nat), e = .returned (.tuple #[.agg #[.int .i64 v6, .int .i64 n6, .slice none 0 0], .int .i64 ((k6 : Nat) : Int)]) ∧ if valid < 1 ∨ 2147483647 < valid then 0 = v6 ∧ 0 = n6 ∧ 1 = k6 else valid = v6 ∧ 1 = n6 ∧ 0 = k6 := by
    rw [may_new] at hnew
    rcases hnew with ⟨h1, h2⟩ | ⟨h1, h2⟩
    · exact ⟨valid, 1, 0, h2, by rw [if_neg h1]; exact ⟨rfl, rfl, rfl⟩⟩
    · exact ⟨0, 0, 1, h2, by rw [if_pos (Classical.not_not.1 h1)]; exact ⟨rfl, rfl, rfl⟩⟩
  refine ⟨_, rfl, ?_⟩
  have hb1 := hb1.frm hf_w6 (by simp)
  have hb3 := hb3.frm hf_w6 (by simp)
  have hO3 := hO3.frm hf_w6
  have K := Frm.trans K hf_w6 (by simp)
  refine Ops.r (Run.mv rfl) rfl ?_
  refine Ops.r (Run.extract rfl rfl) rfl ?_
  refine Ops.r (Run.extract rfl rfl) rfl ?_
  refine Ops.m (Does.alloc zero24) rfl ?_
  rintro _ w7 ⟨rfl, hF_w7⟩
  have hb7 := hF_w7.blk
  have hs7_K := K.size
  have lt_hb1_7 := hb1.lt
  have lt_hb3_7 := hb3.lt
  have hb1 := hb1.frm hF_w7.frm (by simp)
  have hb3 := hb3.frm hF_w7.frm (by simp)
  have hO3 := hO3.frm hF_w7.frm
  have K := Frm.trans K hF_w7.frm (by simp)
  generalize hg7 : w6.heap.size = g7 at hb7 hs7_K lt_hb1_7 lt_hb3_7 ⊢
  refine Ops.st (Acts.storeA rfl rfl Try.sizeOf24 hb7 rfl (BVc_one v6 n6 none 0 0)) ?_
  rintro w8 ⟨hbn_w8, hf_w8, hsz_w8⟩
  have hb1 := hb1.frm hf_w8 (by simp; omega)
  have hb3 := hb3.frm hf_w8 (by simp; omega)
  have hO3 := hO3.blk hf_w8 hb7 (by decide) (by decide)
  have hb7 := hbn_w8
  have K := Frm.own K hf_w8 (fun y hy => by simp at hy; omega)
  refine Ops.r (Run.asg rfl) rfl ?_
  refine Ops.nil ?_
  refine thenQ_n ?_
  refine VC.sub [(3, _), (4, _), (5, _), (6, _), (7, _), (8, _)] (.cons rfl (.cons rfl (.cons rfl (.cons rfl (.cons rfl (.cons rfl .nil)))))) ?_
  refine VC.seq ?_
  refine VC.seq ?_
  refine VC.split1 [(3, _), (4, _), (5, _), (6, _), (7, _), (8, _)] (.cons rfl (.cons rfl (.cons rfl (.cons rfl (.cons rfl (.cons rfl .nil)))))) 36 (.bool (decide (valid < 1 ∨ 2147483647 < valid))) ?_ ?_
  · refine VC.region ?_
    refine Ops.r (Run.mv rfl) rfl ?_
    refine Ops.r (Run.bin rfl rfl (Bin.lss _ 1)) rfl ?_
    by_cases hs32 : valid < 1
    · skip
      refine Ops.r (Run.mv rfl) rfl ?_
      refine Ops.sk rfl (by first | rfl | assumption | exact decide_eq_true (by assumption) | exact decide_eq_false (by assumption) | decide | (simp; done) | (simp; omega) | (simp [*]; done)) rfl ?_
      refine Ops.sk rfl (by first | rfl | assumption | exact decide_eq_true (by assumption) | exact decide_eq_false (by assumption) | decide | (simp; done) | (simp; omega) | (simp [*]; done)) rfl ?_
      refine Ops.r (Run.pickT rfl rfl (by first | rfl | assumption | exact decide_eq_true (by assumption) | exact decide_eq_false (by assumption) | decide | (simp; done) | (simp; omega) | (simp [*]; done))) rfl ?_
      refine Ops.nil ?_
      refine thenQ_n ⟨(.cons (congrArg (fun b => some (Value.bool b)) (Eq.symm (by simp [*]))) (.cons rfl (.cons rfl (.cons rfl (.cons rfl (.cons rfl (.cons rfl .nil))))))), rfl⟩
    · skip
      refine Ops.r (Run.mv rfl) rfl ?_
      refine Ops.rg rfl (by first | rfl | assumption | exact decide_eq_true (by assumption) | exact decide_eq_false (by assumption) | decide | (simp; done) | (simp; omega) | (simp [*]; done)) (Run.mv rfl) rfl ?_
      refine Ops.rg rfl (by first | rfl | assumption | exact decide_eq_true (by assumption) | exact decide_eq_false (by assumption) | decide | (simp; done) | (simp; omega) | (simp [*]; done)) (Run.bin rfl rfl (Bin.gtr _ 2147483647)) rfl ?_
      by_cases hs35 : 2147483647 < valid
      · skip
        refine Ops.r (Run.pickF rfl rfl (by first | rfl | assumption | exact decide_eq_true (by assumption) | exact decide_eq_false (by assumption) | decide | (simp; done) | (simp; omega) | (simp [*]; done))) rfl ?_
        refine Ops.nil ?_
        refine thenQ_n ⟨(.cons (congrArg (fun b => some (Value.bool b)) (Eq.symm (by simp [*]))) (.cons rfl (.cons rfl (.cons rfl (.cons rfl (.cons rfl (.cons rfl .nil))))))), rfl⟩
      · skip
        refine Ops.r (Run.pickF rfl rfl (by first | rfl | assumption | exact decide_eq_true (by assumption) | exact decide_eq_false (by assumption) | decide | (simp; done) | (simp; omega) | (simp [*]; done))) rfl ?_
        refine Ops.nil ?_
        refine thenQ_n ⟨(.cons (congrArg (fun b => some (Value.bool b)) (Eq.symm (by simp [*]))) (.cons rfl (.cons rfl (.cons rfl (.cons rfl (.cons rfl (.cons rfl .nil))))))), rfl⟩
  · intro Γ hΓ
    refine thenQ_n (VC.sub _ hΓ ?_)
    refine VC.meet (σ := Unit) (fun s => [(3, .pointer (some ⟨lo3, 0, none⟩)), (5, .int .i64 uid), (6, encStr (q.take 30))]) (fun s wm => Frm [] w8 wm) ?_ ?_
    · skip
      refine VC.condD rfl (fun hc1 => ?_) (fun hc1 => ?_)
      · skip
        rw [if_pos hc1] at hnw
        obtain ⟨rfl, rfl, rfl⟩ := hnw
        refine VC.seq ?_
        refine VC.region ?_
        refine Ops.r (Run.loadA rfl Try.isAgg24 Try.sizeOf24 (fun j v hj => hb7.cells j v hj) (by first | rfl | (simp; done))) rfl ?_
        refine Ops.cl (Enters.fn (evs.cons rfl evs.nil) Try.call12) (none_spec 0 0 none 0 [] _ (RdM.nil _ _) (by decide)) rfl ?_
        rintro e w10 ⟨rfl, hf_w10⟩
        rw [decide_eq_true ⟨rfl, rfl, rfl⟩]
        refine ⟨_, rfl, ?_⟩
        have hb1 := hb1.frm hf_w10 (by simp)
        have hb3 := hb3.frm hf_w10 (by simp)
        have hO3 := hO3.frm hf_w10
        have hb7 := hb7.frm hf_w10 (by simp)
        have K := Frm.trans K hf_w10 (by simp)
        refine Ops.r (Run.not rfl) rfl ?_
        refine Ops.r (Run.mv rfl) rfl ?_
        refine Ops.rg rfl (by first | rfl | assumption | exact decide_eq_true (by assumption) | exact decide_eq_false (by assumption) | decide | (simp; done) | (simp; omega) | (simp [*]; done)) (Run.mv rfl) rfl ?_
        refine Ops.rg rfl (by first | rfl | assumption | exact decide_eq_true (by assumption) | exact decide_eq_false (by assumption) | decide | (simp; done) | (simp; omega) | (simp [*]; done)) (Run.bin rfl rfl (Bin.neqN _ 1)) rfl ?_
        refine Ops.r (Run.pickF rfl rfl (by first | rfl | assumption | exact decide_eq_true (by assumption) | exact decide_eq_false (by assumption) | decide | (simp; done) | (simp; omega) | (simp [*]; done))) rfl ?_
        refine Ops.nil ?_
        refine thenQ_n ?_
        refine VC.sub [(3, _), (5, _), (6, _), (43, _)] (.cons rfl (.cons rfl (.cons rfl (.cons rfl .nil)))) ?_
        refine VC.condF rfl (rfl) ?_
        refine VC.skip ?_
        refine thenQ_n ⟨(), (.cons rfl (.cons rfl (.cons rfl .nil))), ?_⟩
        exact hf_w10
      · skip
        rw [if_neg hc1] at hnw
        obtain ⟨rfl, rfl, rfl⟩ := hnw
        refine VC.seq ?_
        refine VC.region ?_
        refine Ops.r (Run.loadA rfl Try.isAgg24 Try.sizeOf24 (fun j v hj => hb7.cells j v hj) (by first | rfl | (simp; done))) rfl ?_
        refine Ops.r (Run.mv rfl) rfl ?_
        refine Ops.r (Run.build (evs.cons rfl (evs.cons rfl evs.nil)) zero24 (places24).choose_spec.1 (places24).choose_spec.2 rfl) rfl ?_
        refine Ops.cl (Enters.fn (evs.cons rfl (evs.cons rfl evs.nil)) Try.call15) (rsameB_spec valid 1 valid 1 none none 0 0 [] [] _ (RdM.nil _ _) (RdM.nil _ _) (by decide) (by decide)) rfl ?_
        rintro e w11 ⟨rfl, hf_w11⟩
        rw [decide_eq_true ⟨rfl, rfl, rfl⟩]
        refine ⟨_, rfl, ?_⟩
        have hb1 := hb1.frm hf_w11 (by simp)
        have hb3 := hb3.frm hf_w11 (by simp)
        have hO3 := hO3.frm hf_w11
        have hb7 := hb7.frm hf_w11 (by simp)
        have K := Frm.trans K hf_w11 (by simp)
        refine Ops.r (Run.not rfl) rfl ?_
        refine Ops.r (Run.mv rfl) rfl ?_
        refine Ops.rg rfl (by first | rfl | assumption | exact decide_eq_true (by assumption) | exact decide_eq_false (by assumption) | decide | (simp; done) | (simp; omega) | (simp [*]; done)) (Run.mv rfl) rfl ?_
        refine Ops.rg rfl (by first | rfl | assumption | exact decide_eq_true (by assumption) | exact decide_eq_false (by assumption) | decide | (simp; done) | (simp; omega) | (simp [*]; done)) (Run.bin rfl rfl (Bin.neqN _ 0)) rfl ?_
        refine Ops.r (Run.pickF rfl rfl (by first | rfl | assumption | exact decide_eq_true (by assumption) | exact decide_eq_false (by assumption) | decide | (simp; done) | (simp; omega) | (simp [*]; done))) rfl ?_
        refine Ops.nil ?_
        refine thenQ_n ?_
        refine VC.sub [(3, _), (5, _), (6, _), (52, _)] (.cons rfl (.cons rfl (.cons rfl (.cons rfl .nil)))) ?_
        refine VC.condF rfl (rfl) ?_
        refine VC.skip ?_
        refine thenQ_n ⟨(), (.cons rfl (.cons rfl (.cons rfl .nil))), ?_⟩
        exact hf_w11
    · skip
      rintro _ w9 hf9 Γ hΓ
      have hb1 := hb1.frm hf9 (by simp)
      have hb3 := hb3.frm hf9 (by simp)
      have hO3 := hO3.frm hf9
      have hb7 := hb7.frm hf9 (by simp)
      have K := Frm.trans K hf9 (by simp)
      refine thenQ_n (VC.sub _ hΓ ?_)
      refine VC.seq ?_
      refine VC.region ?_
      refine Ops.r (Run.asg rfl) rfl ?_
      refine Ops.r (Run.asg rfl) rfl ?_
      refine Ops.nil ?_
      refine thenQ_n ?_
      refine VC.seq ?_
      refine VC.region ?_
      refine Ops.r (v := .int .i64 ((0 : Nat) : Int)) (Run.asg rfl) rfl ?_
      refine Ops.nil ?_
      refine thenQ_n ?_
      refine VC.seq ?_
      refine VC.seq ?_
      refine VC.region ?_
      refine Ops.r (v := .int .i64 ((0 : Nat) : Int)) (Run.asg rfl) rfl ?_
      refine Ops.nil ?_
      refine thenQ_n ?_
      refine VC.block ?_
      refine VC.loop (σ := Nat × (Option Addr × Nat) × (Option Addr × Nat)) (fun s => [(3, .pointer (some ⟨lo3, 0, none⟩)), (5, .int .i64 uid), (6, encStr (q.take 30)), (9, .slice s.2.1.1 (upI l3 s.1).length s.2.1.2), (10, .slice s.2.2.1 (nmI (fun m : MsgP => !decide (hasF m.flags (q.take 30))) l3 s.1).length s.2.2.2), (11, .int .i64 ((plc uid l3 s.1 : Nat) : Int)), (12, .int .i64 ((s.1 : Nat) : Int))]) (fun s wr => s.1 ≤ l3.length ∧ (s.1 = 0 ∨ mayB ⟨va, na, Ms l3⟩) ∧ Own wr 3 1 s.2.1.1 (upI l3 s.1).length s.2.1.2 (IB (upI l3 s.1)) ∧ (∀ b ∈ ob s.2.1.1, w9.heap.size ≤ b) ∧ Own wr 3 1 s.2.2.1 (nmI (fun m : MsgP => !decide (hasF m.flags (q.take 30))) l3 s.1).length s.2.2.2 (IB (nmI (fun m : MsgP => !decide (hasF m.flags (q.take 30))) l3 s.1)) ∧ (∀ b ∈ ob s.2.2.1, w9.heap.size ≤ b) ∧ (∀ b ∈ ob s.2.1.1, b ∉ ob s.2.2.1) ∧ Frm [] w9 wr) (fun s => l3.length - s.1) (0, (none, 0), (none, 0)) (.cons rfl (.cons rfl (.cons rfl (.cons rfl (.cons rfl (.cons rfl (.cons rfl .nil))))))) ⟨by omega, .inl rfl, Own.nil _ _ _, by simp [ob], Own.nil _ _ _, by simp [ob], by simp [ob], Frm.refl _ _⟩ ?_
      rintro ⟨i, ⟨U, dU⟩, ⟨V, dV⟩⟩ wr ⟨hi, hm0, hU, hgU, hV, hgV, hUV, hfr⟩
      dsimp only at hi hm0 hU hgU hV hgV hUV ⊢
      refine VC.seq ?_
      refine VC.seq ?_
      refine VC.splitR [(3, .pointer (some ⟨lo3, 0, none⟩)), (5, .int .i64 uid), (6, encStr (q.take 30)), (9, .slice U (upI l3 i).length dU), (10, .slice V (nmI (fun m : MsgP => !decide (hasF m.flags (q.take 30))) l3 i).length dV), (11, .int .i64 ((plc uid l3 i : Nat) : Int)), (12, .int .i64 ((i : Nat) : Int))] (Frm [] wr) 61 (.bool (decide (i < l3.length ∧ mayB ⟨va, na, Ms l3⟩))) ?_ ?_
      · refine VC.region ?_
        refine Ops.r (Run.mv rfl) rfl ?_
        refine Ops.r (Run.fieldAddr rfl Try.underlying24 rfl Try.sizeOf22 (by decide)) rfl ?_
        refine Ops.r (Run.load rfl Try.isAgg22 ((hb3.frm hfr (by simp)).cell 2)) rfl ?_
        refine Ops.r (Run.lenS rfl Try.underlying22) rfl ?_
        refine Ops.r (Run.bin rfl rfl (Bin.lssN _ _)) rfl ?_
        by_cases hs57 : i < l3.length
        · skip
          refine Ops.r (Run.mv rfl) rfl ?_
          refine Ops.rg rfl (by first | rfl | assumption | exact decide_eq_true (by assumption) | exact decide_eq_false (by assumption) | decide | (simp; done) | (simp; omega) | (simp [*]; done)) (Run.loadA rfl Try.isAgg24 Try.sizeOf24 (fun j v hj => (hb3.frm hfr (by simp)).cells j v hj) (by first | rfl | (simp; done))) rfl ?_
          refine Ops.clg rfl (by first | rfl | assumption | exact decide_eq_true (by assumption) | exact decide_eq_false (by assumption) | decide | (simp; done) | (simp; omega) | (simp [*]; done)) (Enters.fn (evs.cons rfl evs.nil) Try.call11) (rmay_spec va na B3 d3 l3 _ (hO3.frm hfr).rdm (by omega)) rfl ?_
          rintro e w12 ⟨rfl, hf12⟩
          refine ⟨_, rfl, ?_⟩
          by_cases hs60 : mayB ⟨va, na, Ms l3⟩
          · skip
            refine Ops.r (Run.pickT rfl rfl (by first | rfl | assumption | exact decide_eq_true (by assumption) | exact decide_eq_false (by assumption) | decide | (simp; done) | (simp; omega) | (simp [*]; done))) rfl ?_
            refine Ops.nil ?_
            refine thenQ_n ⟨(.cons (congrArg (fun b => some (Value.bool b)) (Eq.symm (by simp [*]))) (.cons rfl (.cons rfl (.cons rfl (.cons rfl (.cons rfl (.cons rfl (.cons rfl .nil)))))))), (by first | exact hf12 | exact Frm.refl _ _)⟩
          · skip
            refine Ops.r (Run.pickT rfl rfl (by first | rfl | assumption | exact decide_eq_true (by assumption) | exact decide_eq_false (by assumption) | decide | (simp; done) | (simp; omega) | (simp [*]; done))) rfl ?_
            refine Ops.nil ?_
            refine thenQ_n ⟨(.cons (congrArg (fun b => some (Value.bool b)) (Eq.symm (by simp [*]))) (.cons rfl (.cons rfl (.cons rfl (.cons rfl (.cons rfl (.cons rfl (.cons rfl .nil)))))))), (by first | exact hf12 | exact Frm.refl _ _)⟩
        · skip
          refine Ops.r (Run.mv rfl) rfl ?_
          refine Ops.sk rfl (by first | rfl | assumption | exact decide_eq_true (by assumption) | exact decide_eq_false (by assumption) | decide | (simp; done) | (simp; omega) | (simp [*]; done)) rfl ?_
          refine Ops.sk rfl (by first | rfl | assumption | exact decide_eq_true (by assumption) | exact decide_eq_false (by assumption) | decide | (simp; done) | (simp; omega) | (simp [*]; done)) rfl ?_
          refine Ops.r (Run.pickF rfl rfl (by first | rfl | assumption | exact decide_eq_true (by assumption) | exact decide_eq_false (by assumption) | decide | (simp; done) | (simp; omega) | (simp [*]; done))) rfl ?_
          refine Ops.nil ?_
          refine thenQ_n ⟨(.cons (congrArg (fun b => some (Value.bool b)) (Eq.symm (by simp [*]))) (.cons rfl (.cons rfl (.cons rfl (.cons rfl (.cons rfl (.cons rfl (.cons rfl .nil)))))))), (by first | exact hf12 | exact Frm.refl _ _)⟩
      · intro Γ w13 hΓ hf13
        refine thenQ_n (VC.sub _ hΓ ?_)
        refine VC.condD rfl (fun hc4 => ?_) (fun hc4 => ?_)
        · skip
          obtain ⟨hil, hmay⟩ := hc4
          have hU := hU.frm hf13 (by simp)
          have hV := hV.frm hf13 (by simp)
          have hfr := hfr.trans hf13 (by simp)
          have hup := upI_succ hil
          have hnm := nmI_succ (fun m : MsgP => !decide (hasF m.flags (q.take 30))) hil
          have hpl := plc_succ uid hil
          have hupl := upI_len (l := l3) (i := i) (by omega)
          have hnml := nmI_len (fun m : MsgP => !decide (hasF m.flags (q.take 30))) l3 i
          obtain ⟨ad, rfl, hcell⟩ := hO3.rdm.elem hil
          have hxm := hO3.rdm.fl _ (List.getElem_mem hil)
          generalize hx : l3[i] = x at *
          refine VC.skip ?_
          refine thenQ_n ?_
          refine VC.sub [(3, _), (5, _), (6, _), (9, _), (10, _), (11, _), (12, _)] (.cons rfl (.cons rfl (.cons rfl (.cons rfl (.cons rfl (.cons rfl (.cons rfl .nil))))))) ?_
          refine VC.seq ?_
          refine VC.block ?_
          refine VC.seq ?_
          refine VC.region ?_
          refine Ops.r (Run.mv rfl) rfl ?_
          refine Ops.r (Run.fieldAddr rfl Try.underlying24 rfl Try.sizeOf22 (by decide)) rfl ?_
          refine Ops.r (Run.load rfl Try.isAgg22 ((hb3.frm hfr (by simp)).cell 2)) rfl ?_
          refine Ops.r (Run.mv rfl) rfl ?_
          refine Ops.r (Run.indexS i rfl rfl Try.underlying22 Try.sizeOf45 hil) rfl ?_
          refine Ops.r (Run.fieldAddr rfl Try.underlying45 rfl Try.sizeOf3 (by decide)) rfl ?_
          refine Ops.r (Run.load rfl Try.isAgg3 (hfr.cell (hcell 0 _ rfl) (by simp))) rfl ?_
          refine Ops.m (Does.buildS1 rfl Try.underlying25 Try.sizeOf3 zero3 (by decide) (by decide) rfl rfl) rfl ?_
          rintro _ w14 ⟨rfl, hF14⟩
          have hr14 := hrdI hF14
          have hU := hU.frm hF14.frm (by simp)
          have hV := hV.frm hF14.frm (by simp)
          have hfr := hfr.trans hF14.frm (by simp)
          have hltV := hV.lt
          refine Ops.m (Does.app rfl rfl Try.underlying25 (info3) rfl (by decide) hU hr14 (IB_one _) (by omega) (by omega)) rfl ?_
          rintro _ w15 ⟨A15, c15, rfl, hU15, hf15, hob15⟩
          have hU15 : Own w15 3 1 A15 (upI l3 (i + 1)).length c15 (IB (upI l3 (i + 1))) := by
            rw [hup, List.length_append, IB_append]
            exact hU15
          have hgU15 := up_app hgU hob15 hfr.size
          have hV := hV.frm hf15 (fun y hy hy2 => hUV y hy2 hy)
          have hU15V : ∀ b ∈ ob A15, b ∉ ob V := fun b hb hbV => by
            rcases hob15 with h | h <;> rw [h] at hb
            · exact hUV b hb hbV
            · simp at hb
              have := hltV b hbV
              omega
          have hfr := hfr.own hf15 hgU
          refine Ops.r (Run.asg rfl) rfl ?_
          refine Ops.nil ?_
          refine thenQ_n ?_
          refine VC.sub [(3, _), (5, _), (6, _), (9, _), (10, _), (11, _), (12, _)] (.cons rfl (.cons rfl (.cons rfl (.cons rfl (.cons rfl (.cons rfl (.cons rfl .nil))))))) ?_
          refine VC.seq ?_
          refine VC.seq ?_
          refine VC.region ?_
          refine Ops.r (Run.fieldAddr rfl Try.underlying24 rfl Try.sizeOf22 (by decide)) rfl ?_
          refine Ops.r (Run.load rfl Try.isAgg22 ((hb3.frm hfr (by simp)).cell 2)) rfl ?_
          refine Ops.r (Run.mv rfl) rfl ?_
          refine Ops.r (Run.indexS i rfl rfl Try.underlying22 Try.sizeOf45 hil) rfl ?_
          refine Ops.r (Run.fieldAddr rfl Try.underlying45 rfl Try.sizeOf3 (by decide)) rfl ?_
          refine Ops.r (Run.load rfl Try.isAgg3 (hfr.cell (hcell 0 _ rfl) (by simp))) rfl ?_
          refine Ops.r (Run.mv rfl) rfl ?_
          refine Ops.r (Run.bin rfl rfl (Bin.eql _ _)) rfl ?_
          refine Ops.nil ?_
          refine thenQ_n ?_
          refine VC.sub [(3, _), (5, _), (6, _), (9, _), (10, _), (11, _), (12, _), (80, _)] (.cons rfl (.cons rfl (.cons rfl (.cons rfl (.cons rfl (.cons rfl (.cons rfl (.cons rfl .nil)))))))) ?_
          refine VC.meet (σ := Unit) (fun s => [(3, .pointer (some ⟨lo3, 0, none⟩)), (5, .int .i64 uid), (6, encStr (q.take 30)), (9, .slice A15 (upI l3 (i + 1)).length c15), (10, .slice V (nmI (fun m : MsgP => !decide (hasF m.flags (q.take 30))) l3 i).length dV), (11, .int .i64 ((plc uid l3 (i + 1) : Nat) : Int)), (12, .int .i64 ((i : Nat) : Int))]) (fun s wm => w15 = wm) ?_ ?_
          · skip
            refine VC.condD rfl (fun hc5 => ?_) (fun hc5 => ?_)
            · skip
              refine VC.region ?_
              refine Ops.r (Run.mv rfl) rfl ?_
              refine Ops.r (Run.bin rfl rfl (Bin.add_i64 _ 1 (by omega))) rfl ?_
              refine Ops.r (Run.asg rfl) rfl ?_
              refine Ops.nil ?_
              refine thenQ_n ⟨(), (.cons rfl (.cons rfl (.cons rfl (.cons (by rw [hup, List.length_append]; rfl) (.cons rfl (.cons (by rw [hpl, if_pos hc5]; rfl) (.cons rfl .nil))))))), ?_⟩
              rfl
            · skip
              refine VC.skip ?_
              refine thenQ_n ⟨(), (.cons rfl (.cons rfl (.cons rfl (.cons (by rw [hup, List.length_append]; rfl) (.cons rfl (.cons (by rw [hpl, if_neg hc5]; rfl) (.cons rfl .nil))))))), ?_⟩
              rfl
          · skip
            rintro _ _ rfl Γ hΓ
            refine thenQ_n (VC.sub _ hΓ ?_)
            refine VC.seq ?_
            refine VC.region ?_
            refine Ops.r (Run.fieldAddr rfl Try.underlying24 rfl Try.sizeOf22 (by decide)) rfl ?_
            refine Ops.r (Run.load rfl Try.isAgg22 ((hb3.frm hfr (by simp)).cell 2)) rfl ?_
            refine Ops.r (Run.mv rfl) rfl ?_
            refine Ops.r (Run.indexS i rfl rfl Try.underlying22 Try.sizeOf45 hil) rfl ?_
            refine Ops.r (Run.fieldAddr rfl Try.underlying45 rfl Try.sizeOf43 (by decide)) rfl ?_
            refine Ops.r (Run.load rfl Try.isAgg43 (hfr.cell (hcell 5 _ rfl) (by simp))) rfl ?_
            refine Ops.r (Run.mv rfl) rfl ?_
            refine Ops.cl (Enters.fn (evs.cons rfl (evs.cons rfl evs.nil)) Try.call25) (rhas_spec x.A x.c x.m.flags (q.take 30) _ (by have := hxm.n; omega) (by simp; omega) ((hxm.frm hfr (by simp)).rd)) rfl ?_
            rintro e w16 ⟨rfl, hf16⟩
            refine ⟨_, rfl, ?_⟩
            have hU15 := hU15.frm hf16 (by simp)
            have hV := hV.frm hf16 (by simp)
            have hfr := hfr.trans hf16 (by simp)
            refine Ops.r (Run.not rfl) rfl ?_
            refine Ops.nil ?_
            refine thenQ_n ?_
            refine VC.sub [(3, _), (5, _), (6, _), (9, _), (10, _), (11, _), (12, _), (91, _)] (.cons rfl (.cons rfl (.cons rfl (.cons rfl (.cons rfl (.cons rfl (.cons rfl (.cons rfl .nil)))))))) ?_
            refine VC.meet (σ := Option Addr × Nat) (fun s => [(3, .pointer (some ⟨lo3, 0, none⟩)), (5, .int .i64 uid), (6, encStr (q.take 30)), (9, .slice A15 (upI l3 (i + 1)).length c15), (10, .slice s.1 (nmI (fun m : MsgP => !decide (hasF m.flags (q.take 30))) l3 (i + 1)).length s.2), (11, .int .i64 ((plc uid l3 (i + 1) : Nat) : Int)), (12, .int .i64 ((i : Nat) : Int))]) (fun s wm => Own wm 3 1 A15 (upI l3 (i + 1)).length c15 (IB (upI l3 (i + 1))) ∧ Own wm 3 1 s.1 (nmI (fun m : MsgP => !decide (hasF m.flags (q.take 30))) l3 (i + 1)).length s.2 (IB (nmI (fun m : MsgP => !decide (hasF m.flags (q.take 30))) l3 (i + 1))) ∧ (∀ b ∈ ob s.1, w9.heap.size ≤ b) ∧ (∀ b ∈ ob A15, b ∉ ob s.1) ∧ Frm [] w9 wm) ?_ ?_
            · skip
              refine VC.condB rfl (fun hc6 => ?_) (fun hc6 => ?_)
              · skip
                refine VC.region ?_
                refine Ops.r (Run.mv rfl) rfl ?_
                refine Ops.r (Run.mv rfl) rfl ?_
                refine Ops.r (Run.bin rfl rfl (Bin.add_i64 _ 1 (by omega))) rfl ?_
                refine Ops.m (Does.buildS1 rfl Try.underlying25 Try.sizeOf3 zero3 (by decide) (by decide) rfl rfl) rfl ?_
                rintro _ w17 ⟨rfl, hF17⟩
                have hr17 := hrdI hF17
                have hU15 := hU15.frm hF17.frm (by simp)
                have hV := hV.frm hF17.frm (by simp)
                have hfr := hfr.trans hF17.frm (by simp)
                have hltU := hU15.lt
                refine Ops.m (Does.app rfl rfl Try.underlying25 (info3) rfl (by decide) hV hr17 (IB_one _) (by omega) (by omega)) rfl ?_
                rintro _ w18 ⟨A18, c18, rfl, hV18, hf18, hob18⟩
                have hnm2 : nmI (fun m : MsgP => !decide (hasF m.flags (q.take 30))) l3 (i + 1) = nmI (fun m : MsgP => !decide (hasF m.flags (q.take 30))) l3 i ++ [((i + 1 : Nat) : Int)] := by
                  rw [hnm, if_pos (by simpa using hc6)]
                have hV18 : Own w18 3 1 A18 (nmI (fun m : MsgP => !decide (hasF m.flags (q.take 30))) l3 (i + 1)).length c18 (IB (nmI (fun m : MsgP => !decide (hasF m.flags (q.take 30))) l3 (i + 1))) := by
                  rw [hnm2, List.length_append, IB_append]
                  exact hV18
                have hgV18 := up_app hgV hob18 hfr.size
                have hU15 := hU15.frm hf18 hU15V
                have hUV18 : ∀ b ∈ ob A15, b ∉ ob A18 := fun b hb hbV => by
                  rcases hob18 with h | h <;> rw [h] at hbV
                  · exact hU15V b hb hbV
                  · simp at hbV
                    have := hltU b hb
                    omega
                have hfr := hfr.own hf18 hgV
                refine Ops.r (Run.asg rfl) rfl ?_
                refine Ops.nil ?_
                refine thenQ_n ⟨(A18, c18), (.cons rfl (.cons rfl (.cons rfl (.cons rfl (.cons (by rw [hnm2, List.length_append]; rfl) (.cons rfl (.cons rfl .nil))))))), ?_⟩
                exact ⟨hU15, hV18, hgV18, hUV18, hfr⟩
              · skip
                refine VC.skip ?_
                have hnm2 : nmI (fun m : MsgP => !decide (hasF m.flags (q.take 30))) l3 (i + 1) = nmI (fun m : MsgP => !decide (hasF m.flags (q.take 30))) l3 i := by rw [hnm, if_neg (by simpa using hc6), List.append_nil]
                refine thenQ_n ⟨(V, dV), (.cons rfl (.cons rfl (.cons rfl (.cons rfl (.cons (by rw [hnm2]; rfl) (.cons rfl (.cons rfl .nil))))))), ?_⟩
                rw [hnm2]
                exact ⟨hU15, hV, hgV, hU15V, hfr⟩
            · skip
              rintro ⟨V2, dV2⟩ w19 ⟨hU19, hV19, hgV19, hUV19, hfr19⟩ Γ hΓ
              dsimp only at hV19 hgV19 hUV19
              refine blockQ_n (thenQ_n (VC.sub _ hΓ ?_))
              refine VC.region ?_
              refine Ops.r (Run.mv rfl) rfl ?_
              refine Ops.r (Run.bin rfl rfl (Bin.add_i64 _ 1 (by omega))) rfl ?_
              refine Ops.r (Run.asg rfl) rfl ?_
              refine Ops.nil ?_
              refine thenQ_n ⟨(i + 1, (A15, c15), (V2, dV2)), (.cons rfl (.cons rfl (.cons rfl (.cons rfl (.cons rfl (.cons rfl (.cons rfl .nil))))))), ?_, ?_⟩
              · skip
                exact ⟨hil, .inr hmay, hU19, hgU15, hV19, hgV19, hUV19, hfr19⟩
              · skip
                first | omega | (dsimp only; omega)
        · skip
          have hx : (mayB ⟨va, na, Ms l3⟩ ∧ i = l3.length) ∨ (¬ mayB ⟨va, na, Ms l3⟩ ∧ i = 0) := by
            by_cases hm : mayB ⟨va, na, Ms l3⟩
            · left
              refine ⟨hm, ?_⟩
              have : ¬ i < l3.length := fun h => hc4 ⟨h, hm⟩
              omega
            · exact .inr ⟨hm, hm0.resolve_right hm⟩
          have hUe : upI l3 i = nidsB ⟨va, na, Ms l3⟩ := by
            rcases hx with ⟨hm, rfl⟩ | ⟨hm, rfl⟩
            · rw [show nidsB ⟨va, na, Ms l3⟩ = (Ms l3).map MsgP.uid from if_pos hm, upI, List.take_length]
            · rw [show nidsB ⟨va, na, Ms l3⟩ = [] from if_neg hm]; rfl
          have hVe : nmI (fun m : MsgP => !decide (hasF m.flags (q.take 30))) l3 i = namedB (fun m : MsgP => !decide (hasF m.flags (q.take 30))) ⟨va, na, Ms l3⟩ := by
            rcases hx with ⟨hm, rfl⟩ | ⟨hm, rfl⟩
            · rw [show namedB (fun m : MsgP => !decide (hasF m.flags (q.take 30))) ⟨va, na, Ms l3⟩ = _ from if_pos hm, nmI, List.take_length]
            · rw [show namedB (fun m : MsgP => !decide (hasF m.flags (q.take 30))) ⟨va, na, Ms l3⟩ = [] from if_neg hm]; rfl
          have hPe : plc uid l3 i = if mayB ⟨va, na, Ms l3⟩ then plc uid l3 l3.length else 0 := by
            rcases hx with ⟨hm, rfl⟩ | ⟨hm, rfl⟩
            · rw [if_pos hm]
            · rw [if_neg hm]; rfl
          have hUl := upI_len (l := l3) (i := i) hi
          have hVl := nmI_len (fun m : MsgP => !decide (hasF m.flags (q.take 30))) l3 i
          have hU := hU.frm hf13 (by simp)
          have hV := hV.frm hf13 (by simp)
          have hfr := hfr.trans hf13 (by simp)
          have hb3 := hb3.frm hfr (by simp)
          have hR3 := (hO3.frm hfr).rdm
          have K := K.trans hfr (by simp)
          refine VC.exit ?_
          refine thenQ_x (thenQ_x (blockQ_x ?_))
          refine thenQ_n ?_
          refine VC.sub [(3, _), (5, _), (6, _), (9, _), (10, _), (11, _)] (.cons rfl (.cons rfl (.cons rfl (.cons rfl (.cons rfl (.cons rfl .nil)))))) ?_
          refine VC.seq ?_
          refine VC.held (fun W => Frm [] w13 W) (by kernel_rfl) ?_
          have hS : Frm [] w13 w13.drew := (Frm.refl _ _).drew
          refine HOps.take 0 rfl (by kernel_rfl) (by kernel_rfl) (by kernel_rfl) hS (fun w0 hw0 => Run.loadA rfl Try.isAgg24 Try.sizeOf24 (fun j v hj => (hb3.frm hw0 (by simp)).cells j v hj) (by first | rfl | (simp; done))) trivial rfl rfl ?_
          refine HOps.take 2 rfl (by kernel_rfl) (by kernel_rfl) (by kernel_rfl) hS (fun w0 hw0 => Run.loadA rfl Try.isAgg24 Try.sizeOf24 (fun j v hj => (hb3.frm hw0 (by simp)).cells j v hj) (by first | rfl | (simp; done))) trivial rfl rfl ?_
          refine HOps.cl 1 rfl (by kernel_rfl) (Enters.fn (evs.cons rfl evs.nil) Try.call17) (may_spec va na B3 d3 l3 _ (hR3.frm hS)) trivial rfl rfl ?_
          rintro e w20 ⟨rfl, hf_w20⟩
          have hS := Frm.trans hS hf_w20 (by simp)
          refine ⟨_, rfl, hS, ?_⟩
          refine HOps.cl 3 rfl (by kernel_rfl) (Enters.fn (evs.cons rfl evs.nil) Try.call11) (rmay_spec va na B3 d3 l3 _ (hR3.frm hS) (by omega)) trivial rfl rfl ?_
          rintro e w21 ⟨rfl, hf_w21⟩
          have hS := Frm.trans hS hf_w21 (by simp)
          refine ⟨_, rfl, hS, ?_⟩
          refine HOps.take 4 rfl (by kernel_rfl) (by kernel_rfl) (by kernel_rfl) hS (fun w0 hw0 => Run.eqlB rfl rfl Try.underlying4) trivial rfl rfl ?_
          refine HOps.take 5 rfl (by kernel_rfl) (by kernel_rfl) (by kernel_rfl) hS (fun w0 hw0 => Run.mv rfl) trivial rfl rfl ?_
          refine HOps.take 6 rfl (by kernel_rfl) (by kernel_rfl) (by kernel_rfl) hS (fun w0 hw0 => Run.loadA rfl Try.isAgg24 Try.sizeOf24 (fun j v hj => (hb3.frm hw0 (by simp)).cells j v hj) (by first | rfl | (simp; done))) (Up.g rfl (by simp)) rfl rfl ?_
          refine HOps.take 8 rfl (by kernel_rfl) (by kernel_rfl) (by kernel_rfl) hS (fun w0 hw0 => Run.mv rfl) (Up.g rfl (by simp)) rfl rfl ?_
          refine HOps.cl 7 rfl (by kernel_rfl) (Enters.fn (evs.cons rfl evs.nil) Try.call26) (uids_spec va na B3 d3 l3 _ (hR3.frm hS)) (Up.g rfl (by simp)) rfl rfl ?_
          rintro e w22 ⟨hf22, C22, d22, rfl, hO22, _⟩
          have hS := Frm.trans hS hf22 (by simp)
          have hnl := nids_len ⟨va, na, Ms l3⟩
          refine ⟨_, rfl, hS, ?_⟩
          refine HOps.cl 9 rfl (by kernel_rfl) (Enters.fn (evs.cons rfl (evs.cons rfl evs.nil)) Try.call16) (sameI_spec C22 U d22 dU (nidsB ⟨va, na, Ms l3⟩) (upI l3 i) _ hO22.rd ((hU.frm hS (by simp)).rd) (by omega) (by omega)) (Up.g rfl (by simp)) rfl rfl ?_
          rintro e w23 ⟨rfl, hf_w23⟩
          have hS := Frm.trans hS hf_w23 (by simp)
          rw [decide_eq_true (hUe.symm)]
          refine ⟨_, rfl, hS, ?_⟩
          refine HOps.take 10 rfl (by kernel_rfl) (by kernel_rfl) (by kernel_rfl) hS (fun w0 hw0 => Run.pickT rfl rfl (by simp)) trivial rfl rfl ?_
          refine HOps.take 11 rfl (by kernel_rfl) (by kernel_rfl) (by kernel_rfl) hS (fun w0 hw0 => Run.mv rfl) trivial rfl rfl ?_
          refine HOps.take 12 rfl (by kernel_rfl) (by kernel_rfl) (by kernel_rfl) hS (fun w0 hw0 => Run.loadA rfl Try.isAgg24 Try.sizeOf24 (fun j v hj => (hb3.frm hw0 (by simp)).cells j v hj) (by first | rfl | (simp; done))) (Up.g rfl (by first | rfl | assumption | exact decide_eq_true (by assumption) | exact decide_eq_false (by assumption) | decide | (simp; done) | (simp; omega) | (simp [*]; done))) rfl rfl ?_
          refine HOps.take 13 rfl (by kernel_rfl) (by kernel_rfl) (by kernel_rfl) hS (fun w0 hw0 => Run.mv rfl) (Up.g rfl (by first | rfl | assumption | exact decide_eq_true (by assumption) | exact decide_eq_false (by assumption) | decide | (simp; done) | (simp; omega) | (simp [*]; done))) rfl rfl ?_
          refine HOps.take 15 rfl (by kernel_rfl) (by kernel_rfl) (by kernel_rfl) hS (fun w0 hw0 => Run.mv rfl) (Up.g rfl (by first | rfl | assumption | exact decide_eq_true (by assumption) | exact decide_eq_false (by assumption) | decide | (simp; done) | (simp; omega) | (simp [*]; done))) rfl rfl ?_
          refine HOps.cl 14 rfl (by kernel_rfl) (Enters.fn (evs.cons rfl (evs.cons rfl evs.nil)) Try.call27) (place_spec va na B3 d3 l3 uid _ (hR3.frm hS)) (Up.g rfl (by first | rfl | assumption | exact decide_eq_true (by assumption) | exact decide_eq_false (by assumption) | decide | (simp; done) | (simp; omega) | (simp [*]; done))) rfl rfl ?_
          rintro e w24 ⟨hf24, p, rfl, hp⟩
          have hS := Frm.trans hS hf24 (by simp)
          have hpp : ((p : Nat) : Int) = ((plc uid l3 i : Nat) : Int) := by rw [plc_is hp, hPe]
          refine ⟨_, rfl, hS, ?_⟩
          refine HOps.take 16 rfl (by kernel_rfl) (by kernel_rfl) (by kernel_rfl) hS (fun w0 hw0 => Run.bin rfl rfl (Bin.eql _ _)) (Up.g rfl (by first | rfl | assumption | exact decide_eq_true (by assumption) | exact decide_eq_false (by assumption) | decide | (simp; done) | (simp; omega) | (simp [*]; done))) rfl rfl ?_
          refine HOps.take 17 rfl (by kernel_rfl) (by kernel_rfl) (by kernel_rfl) hS (fun w0 hw0 => Run.pickT rfl rfl (by first | rfl | assumption | exact decide_eq_true (by assumption) | exact decide_eq_false (by assumption) | decide | (simp; done) | (simp; omega) | (simp [*]; done))) trivial rfl rfl ?_
          refine HOps.take 18 rfl (by kernel_rfl) (by kernel_rfl) (by kernel_rfl) hS (fun w0 hw0 => Run.mv rfl) trivial rfl rfl ?_
          refine HOps.take 19 rfl (by kernel_rfl) (by kernel_rfl) (by kernel_rfl) hS (fun w0 hw0 => Run.loadA rfl Try.isAgg24 Try.sizeOf24 (fun j v hj => (hb3.frm hw0 (by simp)).cells j v hj) (by first | rfl | (simp; done))) (Up.g rfl (decide_eq_true hpp)) rfl rfl ?_
          refine HOps.take 20 rfl (by kernel_rfl) (by kernel_rfl) (by kernel_rfl) hS (fun w0 hw0 => Run.mv rfl) (Up.g rfl (decide_eq_true hpp)) rfl rfl ?_
          refine HOps.take 22 rfl (by kernel_rfl) (by kernel_rfl) (by kernel_rfl) hS (fun w0 hw0 => Run.mv rfl) (Up.g rfl (decide_eq_true hpp)) rfl rfl ?_
          refine HOps.cl 21 rfl (by kernel_rfl) (Enters.fn (evs.cons rfl (evs.cons rfl evs.nil)) Try.call28) (without_spec va na B3 d3 l3 (q.take 30) _ (hR3.frm hS) (by simp; omega)) (Up.g rfl (decide_eq_true hpp)) rfl rfl ?_
          rintro e w25 ⟨hf25, C25, d25, rfl, hO25, _⟩
          have hS := Frm.trans hS hf25 (by simp)
          have hwl : (namedB (fun m : MsgP => !decide (hasF m.flags (q.take 30))) ⟨va, na, Ms l3⟩).length ≤ 1000000 := by rw [← hVe]; omega
          refine ⟨_, rfl, hS, ?_⟩
          refine HOps.cl 23 rfl (by kernel_rfl) (Enters.fn (evs.cons rfl (evs.cons rfl evs.nil)) Try.call16) (sameI_spec C25 V d25 dV (namedB (fun m : MsgP => !decide (hasF m.flags (q.take 30))) ⟨va, na, Ms l3⟩) (nmI (fun m : MsgP => !decide (hasF m.flags (q.take 30))) l3 i) _ hO25.rd ((hV.frm hS (by simp)).rd) hwl (by omega)) (Up.g rfl (decide_eq_true hpp)) rfl rfl ?_
          rintro e w26 ⟨rfl, hf_w26⟩
          have hS := Frm.trans hS hf_w26 (by simp)
          rw [decide_eq_true (hVe.symm)]
          refine ⟨_, rfl, hS, ?_⟩
          refine HOps.take 24 rfl (by kernel_rfl) (by kernel_rfl) (by kernel_rfl) hS (fun w0 hw0 => Run.pickT rfl rfl (decide_eq_true hpp)) trivial rfl rfl ?_
          refine HOps.take 25 rfl (by kernel_rfl) (by kernel_rfl) (by kernel_rfl) hS (fun w0 hw0 => Run.mv rfl) trivial rfl rfl ?_
          refine HOps.take 26 rfl (by kernel_rfl) (by kernel_rfl) (by kernel_rfl) hS (fun w0 hw0 => Run.loadA rfl Try.isAgg24 Try.sizeOf24 (fun j v hj => (hb3.frm hw0 (by simp)).cells j v hj) (by first | rfl | (simp; done))) (Up.g rfl (by first | rfl | assumption | exact decide_eq_true (by assumption) | exact decide_eq_false (by assumption) | decide | (simp; done) | (simp; omega) | (simp [*]; done))) rfl rfl ?_
          refine HOps.take 27 rfl (by kernel_rfl) (by kernel_rfl) (by kernel_rfl) hS (fun w0 hw0 => Run.loadA rfl Try.isAgg24 Try.sizeOf24 (fun j v hj => (hb3.frm hw0 (by simp)).cells j v hj) (by first | rfl | (simp; done))) (Up.g rfl (by first | rfl | assumption | exact decide_eq_true (by assumption) | exact decide_eq_false (by assumption) | decide | (simp; done) | (simp; omega) | (simp [*]; done))) rfl rfl ?_
          refine HOps.take 29 rfl (by kernel_rfl) (by kernel_rfl) (by kernel_rfl) hS (fun w0 hw0 => Run.loadA rfl Try.isAgg24 Try.sizeOf24 (fun j v hj => (hb3.frm hw0 (by simp)).cells j v hj) (by first | rfl | (simp; done))) (Up.g rfl (by first | rfl | assumption | exact decide_eq_true (by assumption) | exact decide_eq_false (by assumption) | decide | (simp; done) | (simp; omega) | (simp [*]; done))) rfl rfl ?_
          refine HOps.cl 28 rfl (by kernel_rfl) (Enters.fn (evs.cons rfl (evs.cons rfl evs.nil)) Try.call23) (bsame_spec va na va na B3 B3 d3 d3 l3 l3 _ (hR3.frm hS) (hR3.frm hS)) (Up.g rfl (by first | rfl | assumption | exact decide_eq_true (by assumption) | exact decide_eq_false (by assumption) | decide | (simp; done) | (simp; omega) | (simp [*]; done))) rfl rfl ?_
          rintro e w27 ⟨rfl, hf_w27⟩
          have hS := Frm.trans hS hf_w27 (by simp)
          refine ⟨_, rfl, hS, ?_⟩
          refine HOps.cl 30 rfl (by kernel_rfl) (Enters.fn (evs.cons rfl evs.nil) Try.call11) (rmay_spec va na B3 d3 l3 _ (hR3.frm hS) (by omega)) (Up.g rfl (by first | rfl | assumption | exact decide_eq_true (by assumption) | exact decide_eq_false (by assumption) | decide | (simp; done) | (simp; omega) | (simp [*]; done))) rfl rfl ?_
          rintro e w28 ⟨rfl, hf_w28⟩
          have hS := Frm.trans hS hf_w28 (by simp)
          refine ⟨_, rfl, hS, ?_⟩
          refine HOps.take 31 rfl (by kernel_rfl) (by kernel_rfl) (by kernel_rfl) hS (fun w0 hw0 => Run.eqlB rfl rfl Try.underlying4) (Up.g rfl (by first | rfl | assumption | exact decide_eq_true (by assumption) | exact decide_eq_false (by assumption) | decide | (simp; done) | (simp; omega) | (simp [*]; done))) rfl rfl ?_
          refine HOps.take 32 rfl (by kernel_rfl) (by kernel_rfl) (by kernel_rfl) hS (fun w0 hw0 => Run.pickT rfl rfl (by first | rfl | assumption | exact decide_eq_true (by assumption) | exact decide_eq_false (by assumption) | decide | (simp; done) | (simp; omega) | (simp [*]; done))) trivial rfl rfl ?_
          refine HOps.take 33 rfl (by kernel_rfl) (by kernel_rfl) (by kernel_rfl) hS (fun w0 hw0 => Run.mv rfl) trivial rfl rfl ?_
          refine HOps.cl 34 rfl (by kernel_rfl) (Enters.fn evs.nil Try.call13) (awake26_spec _) (Up.g rfl (by simp)) rfl rfl ?_
          rintro e w29 ⟨rfl, hf_w29⟩
          have hS := Frm.trans hS hf_w29 (by simp)
          refine ⟨_, rfl, hS, ?_⟩
          refine HOps.take 35 rfl (by kernel_rfl) (by kernel_rfl) (by kernel_rfl) hS (fun w0 hw0 => Run.pickT rfl rfl (by simp)) trivial rfl rfl ?_
          refine HOps.take 36 rfl (by kernel_rfl) (by kernel_rfl) (by kernel_rfl) hS (fun w0 hw0 => Run.asg rfl) trivial rfl rfl ?_
          refine HOps.done (by kernel_rfl) ?_
          refine thenQ_n ?_
          refine VC.sub [(2, _)] (.cons rfl .nil) ?_
          refine VC.ret ?_
          refine end1 rfl ?_
          exact ⟨rfl, K.trans hS (by simp)⟩

end Go.Proofs.Ytmfglifjnoilnaa
