/-
  The law 'FlagOrder' of layer 24: in whatever order flags come, however often, and however their letters are, the set is the same. No condition.
-/
import Derived.Test.YtndelocgmcilkaaFlagLC
namespace Go.Proofs.Ytndelocgmcilkaa
open Go.RowKit Go.Sort

theorem toldL_none_iff {l : List Tx} : toldL l = none ↔ ∃ s ∈ l, toldF s = none := by
  constructor
  · intro h
    induction l with
    | nil => cases h
    | cons a r ih =>
      simp only [toldL] at h
      cases ha : toldF a with
      | none => exact ⟨a, by simp, ha⟩
      | some t =>
        cases hr : toldL r with
        | none =>
          obtain ⟨s, h1, h2⟩ := ih hr
          exact ⟨s, by simp [h1], h2⟩
        | some ts => rw [ha, hr] at h; cases h
  · rintro ⟨s, h1, h2⟩
    exact toldL_none h1 h2
theorem normF_mem {l m : List Tx} (h : ∀ t, (∃ s ∈ m, toldF s = t) ↔ ∃ s ∈ l, toldF s = t) : normF m = normF l := by
  unfold normF
  cases hl : toldL l with
  | none =>
    have hm : toldL m = none := toldL_none_iff.2 ((h none).2 (toldL_none_iff.1 hl))
    rw [hm]
  | some ts =>
    cases hm : toldL m with
    | none => rw [toldL_none_iff.2 ((h none).1 (toldL_none_iff.1 hm))] at hl; cases hl
    | some us =>
      have e : nub us = nub ts := ss_ext (nub_spec us).1 (nub_spec ts).1 fun x => by
        rw [(nub_spec us).2, (nub_spec ts).2, toldL_mem hm, toldL_mem hl, h]
      dsimp only
      rw [e]
/-- A letter turned great, or not. -/
def upC (n : Nat) (c : UInt8) : UInt8 := if n % 2 = 1 ∧ 97 ≤ c.toNat ∧ c.toNat ≤ 122 then c - 32 else c
theorem upC_nat (n : Nat) (c : UInt8) : (upC n c).toNat = if n % 2 = 1 ∧ 97 ≤ c.toNat ∧ c.toNat ≤ 122 then c.toNat - 32 else c.toNat := by
  unfold upC
  split
  · rename_i h
    rw [UInt8.toNat_sub_of_le]
    · rfl
    · rw [UInt8.le_iff_toNat_le]
      have : (32 : UInt8).toNat = 32 := rfl
      omega
  · rfl
theorem low_upC (n : Nat) (c : UInt8) : low (upC n c) = low c := by
  apply UInt8.toNat_inj.1
  rw [low_nat, low_nat, upC_nat]
  by_cases h : n % 2 = 1 ∧ 97 ≤ c.toNat ∧ c.toNat ≤ 122
  · rw [if_pos h, if_pos (by omega), if_neg (by omega)]; omega
  · rw [if_neg h]
def upS (n : Nat) (s : Tx) : Tx := s.map (upC n)
theorem told_upS (n : Nat) (s : Tx) : toldF (upS n s) = toldF s := by
  have h1 : smallS (upS n s) = smallS s := by
    unfold smallS upS
    rw [List.map_map]
    exact List.map_congr_left fun c _ => low_upC n c
  have h2 : ([92] : Tx).isPrefixOf (upS n s) = ([92] : Tx).isPrefixOf s := by
    cases s with
    | nil => rfl
    | cons c r =>
      have : (92 == upC n c) = (92 == c) := by
        rw [Bool.eq_iff_iff, beq_iff_eq, beq_iff_eq]
        constructor
        · intro h
          have h3 := congrArg UInt8.toNat h
          rw [upC_nat] at h3
          have e : (92 : UInt8).toNat = 92 := rfl
          apply UInt8.toNat_inj.1
          rw [e] at h3 ⊢
          split at h3 <;> omega
        · intro h
          subst h
          apply UInt8.toNat_inj.1
          rw [upC_nat, if_neg (by have e : (92 : UInt8).toNat = 92 := rfl; omega)]
      simp [upS, List.isPrefixOf, this]
  have h3 : (upS n s).length = s.length := by simp [upS]
  unfold toldF
  rw [h1, h2, h3]
/-- What the law makes of flags. -/
def mixF (n : Nat) (R : List Tx) : List Tx := R.flatMap fun x => upS n x :: if n % 3 = 1 then [x] else []
theorem mixF_told (n : Nat) (l : List Tx) (t : Option Tx) : (∃ s ∈ mixF n l.reverse, toldF s = t) ↔ ∃ s ∈ l, toldF s = t := by
  unfold mixF
  constructor
  · rintro ⟨s, hs, ht⟩
    obtain ⟨x, hx, h⟩ := List.mem_flatMap.1 hs
    rcases List.mem_cons.1 h with rfl | h
    · exact ⟨x, List.mem_reverse.1 hx, by rw [← ht, told_upS]⟩
    · split at h
      · simp only [List.mem_singleton] at h
        subst h
        exact ⟨s, List.mem_reverse.1 hx, ht⟩
      · cases h
  · rintro ⟨s, hs, ht⟩
    exact ⟨upS n s, List.mem_flatMap.2 ⟨s, List.mem_reverse.2 hs, by simp⟩, by rw [told_upS, ht]⟩
theorem mixF_len (n : Nat) (R : List Tx) : (mixF n R).length ≤ 2 * R.length ∧ ∀ k, (∀ q ∈ R, q.length ≤ k) → ∀ q ∈ mixF n R, q.length ≤ k := by
  constructor
  · induction R with
    | nil => simp [mixF]
    | cons a r ih =>
      have e : mixF n (a :: r) = (upS n a :: if n % 3 = 1 then [a] else []) ++ mixF n r := rfl
      rw [e, List.length_append, List.length_cons, List.length_cons]
      by_cases h : n % 3 = 1
      · rw [if_pos h, List.length_singleton]; omega
      · rw [if_neg h, List.length_nil]; omega
  · intro k hk q hq
    obtain ⟨x, hx, h⟩ := List.mem_flatMap.1 hq
    rcases List.mem_cons.1 h with rfl | h
    · rw [show (upS n x).length = x.length by simp [upS]]; exact hk x hx
    · split at h
      · simp only [List.mem_singleton] at h; subst h; exact hk q hx
      · cases h
theorem drop_rev {l : List Tx} {i : Nat} (h : i < l.length) : (l.drop i).reverse = (l.drop (i + 1)).reverse ++ [l[i]] := by rw [List.drop_eq_getElem_cons h, List.reverse_cons]
theorem mixF_step (n : Nat) {l : List Tx} {i : Nat} (h : i < l.length) : mixF n (l.drop i).reverse = (mixF n (l.drop (i + 1)).reverse ++ [upS n l[i]]) ++ if n % 3 = 1 then [l[i]] else [] := by
  rw [drop_rev h]
  simp [mixF, List.flatMap_append]

set_option maxRecDepth 100000 in
theorem order_walk (A : Option Addr) (al ac : Nat) (l : List Tx) (n : Nat) (w : World) (hal : l.length = al) (hac : al ≤ ac) (hr : Rd w 1 A al (SB l)) (hn : n < 256) :
    Calls Try.prog 4 #[.slice A al ac, .int .u8 ((n : Nat) : Int)] w fun e w' => e = .returned (.bool true) ∧ Frm [] w w' := by
  subst hal
  refine VC.calls (nt := 111) (res := #[.tmp 4]) Try.func4 rfl Try.ntmps4 Try.results4 rfl ?_
  refine VC.seq ?_
  refine VC.region ?_
  refine Ops.r (Run.asg rfl) rfl ?_
  refine Ops.nil ?_
  refine thenQ_n ?_
  refine VC.sub [(0, _), (1, _)] (.cons rfl (.cons rfl .nil)) ?_
  refine VC.seq ?_
  refine VC.region ?_
  refine Ops.r (Run.mv rfl) rfl ?_
  refine Ops.cl (Enters.fn (evs.cons rfl evs.nil) Try.call7) (few24_spec A ac l _ hac (hr)) rfl ?_
  rintro e w1 ⟨hf1, F1, fd1, rfl, ho1, hg1⟩
  refine ⟨_, rfl, ?_⟩
  obtain ⟨hl1, hq1⟩ := fewF_facts l
  generalize fewF l = l1 at *
  have K1 : Frm [] w w1 := hf1
  refine Ops.r (Run.asg rfl) rfl ?_
  refine Ops.nil ?_
  refine thenQ_n ?_
  refine VC.sub [(0, _), (1, _)] (.cons rfl (.cons rfl .nil)) ?_
  refine VC.seq ?_
  refine VC.region ?_
  refine Ops.r (Run.mv rfl) rfl ?_
  refine Ops.cl (Enters.fn (evs.cons rfl evs.nil) Try.call12) (fnorm_spec F1 fd1 l1 _ (by omega) (fun q hq => by have := hq1 q hq; omega) ho1.rd) rfl ?_
  rintro e w2 ⟨hf2, B2, d2, r2, k2, hN2⟩
  have hrl2 := hN2.len
  have hN2' := hN2
  obtain ⟨rfl, ho2, hg2, _⟩ := hN2
  refine ⟨_, rfl, ?_⟩
  have K2 : Frm [] w w2 := K1.trans hf2 (by simp)
  refine Ops.r (Run.mv rfl) rfl ?_
  refine Ops.r (Run.extract rfl rfl) rfl ?_
  refine Ops.r (Run.extract rfl rfl) rfl ?_
  refine Ops.r (Run.asg rfl) rfl ?_
  refine Ops.r (Run.asg rfl) rfl ?_
  refine Ops.nil ?_
  refine thenQ_n ?_
  refine VC.sub [(0, _), (1, _), (5, _), (6, _)] (.cons rfl (.cons rfl (.cons rfl (.cons rfl .nil)))) ?_
  refine VC.seq ?_
  refine VC.region ?_
  refine Ops.r (Run.asg rfl) rfl ?_
  refine Ops.nil ?_
  refine thenQ_n ?_
  refine VC.seq ?_
  refine VC.seq ?_
  refine VC.region ?_
  refine Ops.r (Run.mv rfl) rfl ?_
  refine Ops.r (Run.lenS rfl Try.underlying22) rfl ?_
  refine Ops.r (Run.bin rfl rfl (Bin.subZ _ 1 (by omega) (by omega))) rfl ?_
  refine Ops.r (Run.asg rfl) rfl ?_
  refine Ops.nil ?_
  refine thenQ_n ?_
  refine VC.sub [(0, _), (1, _), (5, _), (6, _), (7, _), (8, _)] (.cons rfl (.cons rfl (.cons rfl (.cons rfl (.cons rfl (.cons rfl .nil)))))) ?_
  refine VC.block ?_
  refine VC.loop (σ := Nat × Option Addr × Nat) (fun s => [(0, .slice F1 l1.length fd1), (1, .int .u8 ((n : Nat) : Int)), (5, .slice B2 r2.length d2), (6, .int .i64 ((k2 : Nat) : Int)), (7, .slice s.2.1 (mixF n (l1.drop s.1).reverse).length s.2.2), (8, .int .i64 (((s.1 : Nat) : Int) - 1))]) (fun s wr => s.1 ≤ l1.length ∧ Own wr 9 1 s.2.1 (mixF n (l1.drop s.1).reverse).length s.2.2 (SB (mixF n (l1.drop s.1).reverse)) ∧ (∀ x ∈ ob s.2.1, w2.heap.size ≤ x) ∧ Frm [] w2 wr) (fun s => s.1) (l1.length, none, 0) (.cons rfl (.cons rfl (.cons rfl (.cons rfl (.cons (by rw [List.drop_length]; rfl) (.cons rfl .nil)))))) ⟨Nat.le_refl _, by rw [List.drop_length]; exact Own.nil _ _ _, by simp [ob], Frm.refl _ _⟩ ?_
  rintro ⟨j, M, md⟩ wr ⟨hj, hown, hge, hfr⟩
  dsimp only at hj hown hge ⊢
  refine VC.seq ?_
  refine VC.seq ?_
  refine VC.region ?_
  refine Ops.r (Run.mv rfl) rfl ?_
  refine Ops.r (Run.bin rfl rfl (Bin.geq _ 0)) rfl ?_
  refine Ops.nil ?_
  refine thenQ_n ?_
  refine VC.sub [(0, _), (1, _), (5, _), (6, _), (7, _), (8, _), (27, _)] (.cons rfl (.cons rfl (.cons rfl (.cons rfl (.cons rfl (.cons rfl (.cons rfl .nil))))))) ?_
  refine VC.condD rfl (fun hc1 => ?_) (fun hc1 => ?_)
  · skip
    obtain ⟨i, rfl⟩ : ∃ i, j = i + 1 := ⟨j - 1, by omega⟩
    have hij : (((i + 1 : Nat) : Int) - 1) = ((i : Nat) : Int) := by omega
    rw [hij] at hc1 ⊢
    obtain ⟨ad, hAd, hcell0⟩ := SB_at (ho1.rd.frm hf2 (by simp)) (k := i) (by omega)
    have hil : i < l1.length := by omega
    have hstep := mixF_step n hil
    have hcellw : ∀ wx, Frm [] w2 wx → wx.cell? (ad.add i) = some (encStr l1[i]) := fun wx hx => by
      obtain ⟨ad2, hA2, hc2⟩ := SB_at ((ho1.rd.frm hf2 (by simp)).frm hx (by simp)) hil
      rw [hAd] at hA2
      injection hA2 with hA2
      rw [hA2]
      exact hc2
    have hxl : l1[i].length ≤ 30 := hq1 _ (List.getElem_mem hil)
    have hml := (mixF_len n (l1.drop (i + 1)).reverse).1
    rw [List.length_reverse, List.length_drop] at hml
    generalize mixF n (l1.drop (i + 1)).reverse = mm at *
    generalize l1[i] = x at *
    subst hAd
    refine VC.skip ?_
    refine thenQ_n ?_
    refine VC.sub [(0, _), (1, _), (5, _), (6, _), (7, _), (8, _)] (.cons rfl (.cons rfl (.cons rfl (.cons rfl (.cons rfl (.cons rfl .nil)))))) ?_
    refine VC.seq ?_
    refine VC.block ?_
    refine VC.seq ?_
    refine VC.region ?_
    refine Ops.r (Run.asg rfl) rfl ?_
    refine Ops.nil ?_
    refine thenQ_n ?_
    refine VC.seq ?_
    refine VC.seq ?_
    refine VC.region ?_
    refine Ops.r (v := .int .i64 ((0 : Nat) : Int)) (Run.asg rfl) rfl ?_
    refine Ops.nil ?_
    refine thenQ_n ?_
    refine VC.block ?_
    refine VC.loop (σ := Nat) (fun s => [(0, .slice (some ad) l1.length fd1), (1, .int .u8 ((n : Nat) : Int)), (5, .slice B2 r2.length d2), (6, .int .i64 ((k2 : Nat) : Int)), (7, .slice M mm.length md), (8, .int .i64 ((i : Nat) : Int)), (9, encStr (upS n (x.take s))), (10, .int .i64 ((s : Nat) : Int))]) (fun s wr => s ≤ x.length ∧ Own wr 9 1 M mm.length md (SB mm) ∧ Frm [] w2 wr) (fun s => x.length - s) 0 (.cons rfl (.cons rfl (.cons rfl (.cons rfl (.cons rfl (.cons rfl (.cons rfl (.cons rfl .nil)))))))) ⟨by omega, hown, hfr⟩ ?_
    rintro k wr2 ⟨hk, hownk, hfrk⟩
    have hcell := hcellw _ hfrk
    refine VC.seq ?_
    refine VC.seq ?_
    refine VC.region ?_
    refine Ops.r (Run.mv rfl) rfl ?_
    refine Ops.r (Run.mv rfl) rfl ?_
    refine Ops.r (Run.mv rfl) rfl ?_
    refine Ops.r (Run.index1 i rfl rfl Try.underlying22 Try.sizeOf9 hil) rfl ?_
    refine Ops.r (Run.load rfl Try.isAgg9 hcell) rfl ?_
    refine Ops.r (Run.lenT rfl Try.underlying9) rfl ?_
    refine Ops.r (Run.bin rfl rfl (Bin.lssN _ _)) rfl ?_
    refine Ops.nil ?_
    refine thenQ_n ?_
    refine VC.sub [(0, _), (1, _), (5, _), (6, _), (7, _), (8, _), (9, _), (10, _), (36, _)] (.cons rfl (.cons rfl (.cons rfl (.cons rfl (.cons rfl (.cons rfl (.cons rfl (.cons rfl (.cons rfl .nil))))))))) ?_
    refine VC.condD rfl (fun hc2 => ?_) (fun hc2 => ?_)
    · skip
      have hgx : x[k]? = some x[k] := List.getElem?_eq_getElem hc2
      have htx : x.take (k + 1) = x.take k ++ [x[k]] := take_snoc hc2
      generalize x[k] = c at *
      refine VC.skip ?_
      refine thenQ_n ?_
      refine VC.sub [(0, _), (1, _), (5, _), (6, _), (7, _), (8, _), (9, _), (10, _)] (.cons rfl (.cons rfl (.cons rfl (.cons rfl (.cons rfl (.cons rfl (.cons rfl (.cons rfl .nil)))))))) ?_
      refine VC.seq ?_
      refine VC.block ?_
      refine VC.seq ?_
      refine VC.region ?_
      refine Ops.r (Run.mv rfl) rfl ?_
      refine Ops.r (Run.mv rfl) rfl ?_
      refine Ops.r (Run.index1 i rfl rfl Try.underlying22 Try.sizeOf9 hil) rfl ?_
      refine Ops.r (Run.load rfl Try.isAgg9 hcell) rfl ?_
      refine Ops.r (Run.mv rfl) rfl ?_
      refine Ops.r (Run.indexT _ rfl rfl Try.underlying9 hgx) rfl ?_
      refine Ops.r (Run.asg rfl) rfl ?_
      refine Ops.nil ?_
      refine thenQ_n ?_
      refine VC.sub [(0, _), (1, _), (5, _), (6, _), (7, _), (8, _), (9, _), (10, _), (11, _)] (.cons rfl (.cons rfl (.cons rfl (.cons rfl (.cons rfl (.cons rfl (.cons rfl (.cons rfl (.cons rfl .nil))))))))) ?_
      refine VC.seq ?_
      refine VC.seq ?_
      refine VC.split1 [(0, _), (1, _), (5, _), (6, _), (7, _), (8, _), (9, _), (10, _), (11, _)] (.cons rfl (.cons rfl (.cons rfl (.cons rfl (.cons rfl (.cons rfl (.cons rfl (.cons rfl (.cons rfl .nil))))))))) 55 (.bool (decide (n % 2 = 1 ∧ 97 ≤ c.toNat ∧ c.toNat ≤ 122))) ?_ ?_
      · refine VC.region ?_
        refine Ops.r (Run.mv rfl) rfl ?_
        refine Ops.r (Run.bin rfl rfl (Bin.remN _ 2 (by omega))) rfl ?_
        refine Ops.r (Run.bin rfl rfl (Bin.eqlN _ 1)) rfl ?_
        by_cases hs47 : n % 2 = 1
        · skip
          refine Ops.r (Run.mv rfl) rfl ?_
          refine Ops.rg rfl (by first | rfl | assumption | exact decide_eq_true (by assumption) | exact decide_eq_false (by assumption) | decide | (simp; done) | (simp; omega) | (simp [*]; done)) (Run.mv rfl) rfl ?_
          refine Ops.rg rfl (by first | rfl | assumption | exact decide_eq_true (by assumption) | exact decide_eq_false (by assumption) | decide | (simp; done) | (simp; omega) | (simp [*]; done)) (Run.bin rfl rfl (Bin.leqN 97 _)) rfl ?_
          by_cases hs50 : 97 ≤ c.toNat
          · skip
            refine Ops.r (Run.pickT rfl rfl (by first | rfl | assumption | exact decide_eq_true (by assumption) | exact decide_eq_false (by assumption) | decide | (simp; done) | (simp; omega) | (simp [*]; done))) rfl ?_
            refine Ops.r (Run.mv rfl) rfl ?_
            refine Ops.rg rfl (by first | rfl | assumption | exact decide_eq_true (by assumption) | exact decide_eq_false (by assumption) | decide | (simp; done) | (simp; omega) | (simp [*]; done)) (Run.mv rfl) rfl ?_
            refine Ops.rg rfl (by first | rfl | assumption | exact decide_eq_true (by assumption) | exact decide_eq_false (by assumption) | decide | (simp; done) | (simp; omega) | (simp [*]; done)) (Run.bin rfl rfl (Bin.leqN _ 122)) rfl ?_
            by_cases hs54 : c.toNat ≤ 122
            · skip
              refine Ops.r (Run.pickT rfl rfl (by first | rfl | assumption | exact decide_eq_true (by assumption) | exact decide_eq_false (by assumption) | decide | (simp; done) | (simp; omega) | (simp [*]; done))) rfl ?_
              refine Ops.nil ?_
              refine thenQ_n ⟨(.cons (congrArg (fun b => some (Value.bool b)) (Eq.symm (by simp [*]))) (.cons rfl (.cons rfl (.cons rfl (.cons rfl (.cons rfl (.cons rfl (.cons rfl (.cons rfl (.cons rfl .nil)))))))))), rfl⟩
            · skip
              refine Ops.r (Run.pickT rfl rfl (by first | rfl | assumption | exact decide_eq_true (by assumption) | exact decide_eq_false (by assumption) | decide | (simp; done) | (simp; omega) | (simp [*]; done))) rfl ?_
              refine Ops.nil ?_
              refine thenQ_n ⟨(.cons (congrArg (fun b => some (Value.bool b)) (Eq.symm (by simp [*]))) (.cons rfl (.cons rfl (.cons rfl (.cons rfl (.cons rfl (.cons rfl (.cons rfl (.cons rfl (.cons rfl .nil)))))))))), rfl⟩
          · skip
            refine Ops.r (Run.pickT rfl rfl (by first | rfl | assumption | exact decide_eq_true (by assumption) | exact decide_eq_false (by assumption) | decide | (simp; done) | (simp; omega) | (simp [*]; done))) rfl ?_
            refine Ops.r (Run.mv rfl) rfl ?_
            refine Ops.sk rfl (by first | rfl | assumption | exact decide_eq_true (by assumption) | exact decide_eq_false (by assumption) | decide | (simp; done) | (simp; omega) | (simp [*]; done)) rfl ?_
            refine Ops.sk rfl (by first | rfl | assumption | exact decide_eq_true (by assumption) | exact decide_eq_false (by assumption) | decide | (simp; done) | (simp; omega) | (simp [*]; done)) rfl ?_
            refine Ops.r (Run.pickF rfl rfl (by first | rfl | assumption | exact decide_eq_true (by assumption) | exact decide_eq_false (by assumption) | decide | (simp; done) | (simp; omega) | (simp [*]; done))) rfl ?_
            refine Ops.nil ?_
            refine thenQ_n ⟨(.cons (congrArg (fun b => some (Value.bool b)) (Eq.symm (by simp [*]))) (.cons rfl (.cons rfl (.cons rfl (.cons rfl (.cons rfl (.cons rfl (.cons rfl (.cons rfl (.cons rfl .nil)))))))))), rfl⟩
        · skip
          refine Ops.r (Run.mv rfl) rfl ?_
          refine Ops.sk rfl (by first | rfl | assumption | exact decide_eq_true (by assumption) | exact decide_eq_false (by assumption) | decide | (simp; done) | (simp; omega) | (simp [*]; done)) rfl ?_
          refine Ops.sk rfl (by first | rfl | assumption | exact decide_eq_true (by assumption) | exact decide_eq_false (by assumption) | decide | (simp; done) | (simp; omega) | (simp [*]; done)) rfl ?_
          refine Ops.r (Run.pickF rfl rfl (by first | rfl | assumption | exact decide_eq_true (by assumption) | exact decide_eq_false (by assumption) | decide | (simp; done) | (simp; omega) | (simp [*]; done))) rfl ?_
          refine Ops.r (Run.mv rfl) rfl ?_
          refine Ops.sk rfl (by first | rfl | assumption | exact decide_eq_true (by assumption) | exact decide_eq_false (by assumption) | decide | (simp; done) | (simp; omega) | (simp [*]; done)) rfl ?_
          refine Ops.sk rfl (by first | rfl | assumption | exact decide_eq_true (by assumption) | exact decide_eq_false (by assumption) | decide | (simp; done) | (simp; omega) | (simp [*]; done)) rfl ?_
          refine Ops.r (Run.pickF rfl rfl (by first | rfl | assumption | exact decide_eq_true (by assumption) | exact decide_eq_false (by assumption) | decide | (simp; done) | (simp; omega) | (simp [*]; done))) rfl ?_
          refine Ops.nil ?_
          refine thenQ_n ⟨(.cons (congrArg (fun b => some (Value.bool b)) (Eq.symm (by simp [*]))) (.cons rfl (.cons rfl (.cons rfl (.cons rfl (.cons rfl (.cons rfl (.cons rfl (.cons rfl (.cons rfl .nil)))))))))), rfl⟩
      · intro Γ hΓ
        refine thenQ_n (VC.sub _ hΓ ?_)
        refine VC.meet (σ := Unit) (fun s => [(0, .slice (some ad) l1.length fd1), (1, .int .u8 ((n : Nat) : Int)), (5, .slice B2 r2.length d2), (6, .int .i64 ((k2 : Nat) : Int)), (7, .slice M mm.length md), (8, .int .i64 ((i : Nat) : Int)), (9, encStr (upS n (x.take k))), (10, .int .i64 ((k : Nat) : Int)), (11, .int .u8 (((upC n c).toNat : Nat) : Int))]) (fun s wm => wr2 = wm) ?_ ?_
        · skip
          refine VC.condD rfl (fun hc3 => ?_) (fun hc3 => ?_)
          · skip
            refine VC.region ?_
            refine Ops.r (Run.mv rfl) rfl ?_
            refine Ops.r (Run.bin rfl rfl (Bin.sub_u8 _ 32 (by omega) (by omega))) rfl ?_
            refine Ops.r (Run.asg rfl) rfl ?_
            refine Ops.nil ?_
            refine thenQ_n ⟨(), (.cons rfl (.cons rfl (.cons rfl (.cons rfl (.cons rfl (.cons rfl (.cons rfl (.cons rfl (.cons (by rw [upC_nat, if_pos hc3]; rfl) .nil))))))))), ?_⟩
            rfl
          · skip
            refine VC.skip ?_
            refine thenQ_n ⟨(), (.cons rfl (.cons rfl (.cons rfl (.cons rfl (.cons rfl (.cons rfl (.cons rfl (.cons rfl (.cons (by rw [upC_nat, if_neg hc3]; rfl) .nil))))))))), ?_⟩
            rfl
        · skip
          rintro _ _ rfl Γ hΓ
          refine thenQ_n (VC.sub _ hΓ ?_)
          refine VC.region ?_
          refine Ops.r (Run.mv rfl) rfl ?_
          refine Ops.r (Run.mv rfl) rfl ?_
          refine Ops.m (Does.buildS1 rfl Try.underlying33 Try.sizeOf5 zero5 (by decide) (by decide) rfl rfl) rfl ?_
          rintro _ w5 ⟨rfl, hF5⟩
          have hfr5 := hfrk.trans hF5.frm (by simp)
          refine Ops.r (Run.strOfT rfl Try.underlying33 Try.underlying5 Try.underlying9 (show Rd w5 1 _ 1 (U8 [upC n c]) from Rd.of_blk (n := 1) (size := 1) hF5.blk rfl)) rfl ?_
          refine Ops.r (Run.addT rfl rfl (by simp [upS]; omega)) rfl ?_
          refine Ops.r (Run.asg rfl) rfl ?_
          refine Ops.nil ?_
          refine blockQ_n (thenQ_n ?_)
          refine VC.sub [(0, _), (1, _), (5, _), (6, _), (7, _), (8, _), (9, _), (10, _)] (.cons rfl (.cons rfl (.cons rfl (.cons rfl (.cons rfl (.cons rfl (.cons rfl (.cons rfl .nil)))))))) ?_
          refine VC.region ?_
          refine Ops.r (Run.mv rfl) rfl ?_
          refine Ops.r (Run.bin rfl rfl (Bin.add_i64 _ 1 (by omega))) rfl ?_
          refine Ops.r (Run.asg rfl) rfl ?_
          refine Ops.nil ?_
          refine thenQ_n ⟨(k + 1), (.cons rfl (.cons rfl (.cons rfl (.cons rfl (.cons rfl (.cons rfl (.cons (by rw [htx]; simp only [upS, List.map_append, List.map_cons, List.map_nil]; rfl) (.cons rfl .nil)))))))), ?_, ?_⟩
          · skip
            exact ⟨hc2, hownk.frm hF5.frm (by simp), hfr5⟩
          · skip
            first | omega | (dsimp only; omega)
    · skip
      have hkm : k = x.length := by omega
      subst hkm
      rw [List.take_length]
      refine VC.exit ?_
      refine thenQ_x (thenQ_x (blockQ_x ?_))
      refine thenQ_n ?_
      refine VC.sub [(0, _), (1, _), (5, _), (6, _), (7, _), (8, _), (9, _)] (.cons rfl (.cons rfl (.cons rfl (.cons rfl (.cons rfl (.cons rfl (.cons rfl .nil))))))) ?_
      refine VC.seq ?_
      refine VC.region ?_
      refine Ops.r (Run.mv rfl) rfl ?_
      refine Ops.r (Run.mv rfl) rfl ?_
      refine Ops.m (Does.buildS1 rfl Try.underlying22 Try.sizeOf9 zero9 (by decide) (by decide) rfl rfl) rfl ?_
      rintro _ w6 ⟨rfl, hF6⟩
      have hfr6 := hfrk.trans hF6.frm (by simp)
      refine Ops.m (Does.app rfl rfl Try.underlying22 (info9) rfl (by decide) (hownk.frm hF6.frm (by simp)) (hrd1 hF6) (SB_one _) (by omega) (by omega)) rfl ?_
      rintro _ w7 ⟨A7, c7, rfl, hown7, hfr7, hob7⟩
      rw [← SB_append] at hown7
      have hge7 := up_app hge hob7 hfr6.size
      have hfr7' := hfr6.own hfr7 hge
      refine Ops.r (Run.asg rfl) rfl ?_
      refine Ops.nil ?_
      refine thenQ_n ?_
      refine VC.sub [(0, _), (1, _), (5, _), (6, _), (7, _), (8, _)] (.cons rfl (.cons rfl (.cons rfl (.cons rfl (.cons rfl (.cons rfl .nil)))))) ?_
      refine VC.seq ?_
      refine VC.region ?_
      refine Ops.r (Run.mv rfl) rfl ?_
      refine Ops.r (Run.bin rfl rfl (Bin.remN _ 3 (by omega))) rfl ?_
      refine Ops.r (Run.bin rfl rfl (Bin.eqlN _ 1)) rfl ?_
      refine Ops.nil ?_
      refine thenQ_n ?_
      refine VC.sub [(0, _), (1, _), (5, _), (6, _), (7, _), (8, _), (69, _)] (.cons rfl (.cons rfl (.cons rfl (.cons rfl (.cons rfl (.cons rfl (.cons rfl .nil))))))) ?_
      refine VC.meet (σ := Option Addr × Nat) (fun s => [(0, .slice (some ad) l1.length fd1), (1, .int .u8 ((n : Nat) : Int)), (5, .slice B2 r2.length d2), (6, .int .i64 ((k2 : Nat) : Int)), (7, .slice s.1 (mixF n (l1.drop i).reverse).length s.2), (8, .int .i64 ((i : Nat) : Int))]) (fun s wm => Own wm 9 1 s.1 (mixF n (l1.drop i).reverse).length s.2 (SB (mixF n (l1.drop i).reverse)) ∧ (∀ x ∈ ob s.1, w2.heap.size ≤ x) ∧ Frm [] w2 wm) ?_ ?_
      · skip
        refine VC.condD rfl (fun hc4 => ?_) (fun hc4 => ?_)
        · skip
          refine VC.region ?_
          refine Ops.r (Run.mv rfl) rfl ?_
          refine Ops.r (Run.mv rfl) rfl ?_
          refine Ops.r (Run.mv rfl) rfl ?_
          refine Ops.r (Run.index1 i rfl rfl Try.underlying22 Try.sizeOf9 hil) rfl ?_
          refine Ops.r (Run.load rfl Try.isAgg9 (hcellw _ hfr7')) rfl ?_
          refine Ops.m (Does.buildS1 rfl Try.underlying22 Try.sizeOf9 zero9 (by decide) (by decide) rfl rfl) rfl ?_
          rintro _ w8 ⟨rfl, hF8⟩
          have hfr8 := hfr7'.trans hF8.frm (by simp)
          refine Ops.m (Does.app rfl rfl Try.underlying22 (info9) rfl (by decide) (hown7.frm hF8.frm (by simp)) (hrd1 hF8) (SB_one _) (by omega) (by omega)) rfl ?_
          rintro _ w9 ⟨A9, c9, rfl, hown9, hfr9, hob9⟩
          rw [← SB_append] at hown9
          have hge9 := up_app hge7 hob9 hfr8.size
          have hfr9' := hfr8.own hfr9 hge7
          refine Ops.r (Run.asg rfl) rfl ?_
          refine Ops.nil ?_
          have hs4 : mixF n (l1.drop i).reverse = mm ++ [upS n x] ++ [x] := by rw [hstep, if_pos hc4]
          refine thenQ_n ⟨(A9, c9), (.cons rfl (.cons rfl (.cons rfl (.cons rfl (.cons (by rw [hs4, List.length_append (bs := [x]), List.length_append (bs := [upS n x])]; rfl) (.cons rfl .nil)))))), ?_⟩
          rw [hs4, List.length_append (bs := [x]), List.length_append (bs := [upS n x])]
          exact ⟨hown9, hge9, hfr9'⟩
        · skip
          refine VC.skip ?_
          have hs4 : mixF n (l1.drop i).reverse = mm ++ [upS n x] := by rw [hstep, if_neg hc4, List.append_nil]
          refine thenQ_n ⟨(A7, c7), (.cons rfl (.cons rfl (.cons rfl (.cons rfl (.cons (by rw [hs4, List.length_append (bs := [upS n x])]; rfl) (.cons rfl .nil)))))), ?_⟩
          rw [hs4, List.length_append (bs := [upS n x])]
          exact ⟨hown7, hge7, hfr7'⟩
      · skip
        rintro ⟨M2, md2⟩ wm ⟨hownm, hgem, hfrm⟩ Γ hΓ
        refine blockQ_n (thenQ_n (VC.sub _ hΓ ?_))
        refine VC.region ?_
        refine Ops.r (Run.mv rfl) rfl ?_
        refine Ops.r (Run.bin rfl rfl (Bin.subZ _ 1 (by omega) (by omega))) rfl ?_
        refine Ops.r (Run.asg rfl) rfl ?_
        refine Ops.nil ?_
        refine thenQ_n ⟨(i, M2, md2), (.cons rfl (.cons rfl (.cons rfl (.cons rfl (.cons rfl (.cons rfl .nil)))))), ?_, ?_⟩
        · skip
          exact ⟨by omega, hownm, hgem, hfrm⟩
        · skip
          first | omega | (dsimp only; omega)
  · skip
    have hj0 : j = 0 := by omega
    subst hj0
    rw [List.drop_zero] at hown ⊢
    obtain ⟨hml, hmq⟩ := mixF_len n l1.reverse
    rw [List.length_reverse] at hml
    have hmq := hmq 30 (fun q hq => hq1 q (List.mem_reverse.1 hq))
    have hnm : normF (mixF n l1.reverse) = normF l1 := normF_mem (mixF_told n l1)
    generalize mixF n l1.reverse = mm at *
    refine VC.exit ?_
    refine thenQ_x (thenQ_x (blockQ_x ?_))
    refine thenQ_n ?_
    refine VC.sub [(5, _), (6, _), (7, _)] (.cons rfl (.cons rfl (.cons rfl .nil))) ?_
    refine VC.seq ?_
    refine VC.region ?_
    refine Ops.r (Run.mv rfl) rfl ?_
    refine Ops.cl (Enters.fn (evs.cons rfl evs.nil) Try.call12) (fnorm_spec M md mm _ (by omega) (fun q hq => by have := hmq q hq; omega) hown.rd) rfl ?_
    rintro e w5 ⟨hf5, B5, d5, r5, k5, hN5⟩
    rw [hnm] at hN5
    obtain ⟨rfl, rfl⟩ := hN2'.same hN5
    obtain ⟨rfl, ho5, hg5, _⟩ := hN5
    refine ⟨_, rfl, ?_⟩
    have K5 : Frm [] w2 w5 := hfr.trans hf5 (by simp)
    refine Ops.r (Run.mv rfl) rfl ?_
    refine Ops.r (Run.extract rfl rfl) rfl ?_
    refine Ops.r (Run.extract rfl rfl) rfl ?_
    refine Ops.r (Run.asg rfl) rfl ?_
    refine Ops.r (Run.asg rfl) rfl ?_
    refine Ops.nil ?_
    refine thenQ_n ?_
    refine VC.sub [(5, _), (6, _), (12, _), (13, _)] (.cons rfl (.cons rfl (.cons rfl (.cons rfl .nil)))) ?_
    refine VC.seq ?_
    refine VC.region ?_
    refine Ops.r (Run.mv rfl) rfl ?_
    refine Ops.cl (Enters.fn (evs.cons rfl evs.nil) Try.call12) (fnorm_spec B2 d2 r2 _ (by omega) (fun q hq => by have := hN2'.qlen q hq; omega) (ho2.rd.frm K5 (by simp))) rfl ?_
    rintro e w6 ⟨hf6, B6, d6, r6, k6, hN6⟩
    have hrl6 := hN6.len
    have hN6' := hN6
    obtain ⟨rfl, ho6, hg6, _⟩ := hN6
    refine ⟨_, rfl, ?_⟩
    have K6 : Frm [] w2 w6 := K5.trans hf6 (by simp)
    refine Ops.r (Run.mv rfl) rfl ?_
    refine Ops.r (Run.extract rfl rfl) rfl ?_
    refine Ops.r (Run.extract rfl rfl) rfl ?_
    refine Ops.r (Run.asg rfl) rfl ?_
    refine Ops.r (Run.asg rfl) rfl ?_
    refine Ops.nil ?_
    refine thenQ_n ?_
    refine VC.sub [(5, _), (6, _), (12, _), (13, _), (14, _), (15, _)] (.cons rfl (.cons rfl (.cons rfl (.cons rfl (.cons rfl (.cons rfl .nil)))))) ?_
    refine VC.seq ?_
    refine VC.splitR [] (Frm [] w) 4 (.bool (decide (True))) ?_ ?_
    · refine VC.region ?_
      refine Ops.r (Run.mv rfl) rfl ?_
      refine Ops.r (Run.mv rfl) rfl ?_
      refine Ops.r (Run.bin rfl rfl (Bin.eqlN _ _)) rfl ?_
      refine Ops.r (Run.mv rfl) rfl ?_
      refine Ops.rg rfl (by first | rfl | assumption | exact decide_eq_true (by assumption) | exact decide_eq_false (by assumption) | decide | (simp; done) | (simp; omega) | (simp [*]; done)) (Run.mv rfl) rfl ?_
      refine Ops.rg rfl (by first | rfl | assumption | exact decide_eq_true (by assumption) | exact decide_eq_false (by assumption) | decide | (simp; done) | (simp; omega) | (simp [*]; done)) (Run.mv rfl) rfl ?_
      refine Ops.clg rfl (by first | rfl | assumption | exact decide_eq_true (by assumption) | exact decide_eq_false (by assumption) | decide | (simp; done) | (simp; omega) | (simp [*]; done)) (Enters.fn (evs.cons rfl (evs.cons rfl evs.nil)) Try.call10) (rsame_spec B2 B5 d2 d5 r2 r2 _ (by omega) (by omega) ((ho2.rd.frm K5 (by simp)).frm hf6 (by simp)) (ho5.rd.frm hf6 (by simp))) rfl ?_
      rintro e w7 ⟨rfl, hd7⟩
      refine ⟨_, rfl, ?_⟩
      have K7 : Frm [] w2 w7 := K6.drawn hd7
      refine Ops.r (Run.pickT rfl rfl (by first | rfl | assumption | exact decide_eq_true (by assumption) | exact decide_eq_false (by assumption) | decide | (simp; done) | (simp; omega) | (simp [*]; done))) rfl ?_
      refine Ops.r (Run.mv rfl) rfl ?_
      refine Ops.rg rfl (by first | rfl | assumption | exact decide_eq_true (by assumption) | exact decide_eq_false (by assumption) | decide | (simp; done) | (simp; omega) | (simp [*]; done)) (Run.mv rfl) rfl ?_
      refine Ops.rg rfl (by first | rfl | assumption | exact decide_eq_true (by assumption) | exact decide_eq_false (by assumption) | decide | (simp; done) | (simp; omega) | (simp [*]; done)) (Run.bin rfl rfl (Bin.neqN _ 0)) rfl ?_
      by_cases hs97 : k2 ≠ 0
      · skip
        refine Ops.rg rfl (by first | rfl | assumption | exact decide_eq_true (by assumption) | exact decide_eq_false (by assumption) | decide | (simp; done) | (simp; omega) | (simp [*]; done)) (Run.mv rfl) rfl ?_
        refine Ops.sk rfl (by first | rfl | assumption | exact decide_eq_true (by assumption) | exact decide_eq_false (by assumption) | decide | (simp; done) | (simp; omega) | (simp [*]; done)) rfl ?_
        refine Ops.sk rfl (by first | rfl | assumption | exact decide_eq_true (by assumption) | exact decide_eq_false (by assumption) | decide | (simp; done) | (simp; omega) | (simp [*]; done)) rfl ?_
        refine Ops.sk rfl (by first | rfl | assumption | exact decide_eq_true (by assumption) | exact decide_eq_false (by assumption) | decide | (simp; done) | (simp; omega) | (simp [*]; done)) rfl ?_
        refine Ops.skU rfl rfl ?_
        refine Ops.skU rfl rfl ?_
        refine Ops.skU rfl rfl ?_
        refine Ops.sk rfl (by first | rfl | assumption | exact decide_eq_true (by assumption) | exact decide_eq_false (by assumption) | decide | (simp; done) | (simp; omega) | (simp [*]; done)) rfl ?_
        refine Ops.rg rfl (by first | rfl | assumption | exact decide_eq_true (by assumption) | exact decide_eq_false (by assumption) | decide | (simp; done) | (simp; omega) | (simp [*]; done)) (Run.pickT rfl rfl (by first | rfl | assumption | exact decide_eq_true (by assumption) | exact decide_eq_false (by assumption) | decide | (simp; done) | (simp; omega) | (simp [*]; done))) rfl ?_
        refine Ops.r (Run.pickT rfl rfl (by first | rfl | assumption | exact decide_eq_true (by assumption) | exact decide_eq_false (by assumption) | decide | (simp; done) | (simp; omega) | (simp [*]; done))) rfl ?_
        refine Ops.r (Run.mv rfl) rfl ?_
        refine Ops.clg rfl (by first | rfl | assumption | exact decide_eq_true (by assumption) | exact decide_eq_false (by assumption) | decide | (simp; done) | (simp; omega) | (simp [*]; done)) (Enters.fn evs.nil Try.call11) (awake24_spec _) rfl ?_
        rintro e w99 ⟨rfl, hf99⟩
        refine ⟨_, rfl, ?_⟩
        refine Ops.r (Run.pickT rfl rfl (by first | rfl | assumption | exact decide_eq_true (by assumption) | exact decide_eq_false (by assumption) | decide | (simp; done) | (simp; omega) | (simp [*]; done))) rfl ?_
        refine Ops.r (Run.asg rfl) rfl ?_
        refine Ops.nil ?_
        refine thenQ_n ⟨(.cons (congrArg (fun b => some (Value.bool b)) (rfl)) .nil), (by first | exact (K2.trans (K7.drawn hd8) (by simp)).trans hf99 (by simp) | exact (K2.trans K7 (by simp)).trans hf99 (by simp))⟩
      · skip
        obtain ⟨rfl, rfl⟩ : k6 = 0 ∧ r6 = r2 := by
          have hk2 : k2 = 0 := Classical.not_not.1 hs97
          rcases hN2'.2.2.2 with ⟨_, h2⟩ | ⟨h1, _⟩
          · exact hN6'.ok (normF_check h2)
          · exact absurd hk2 h1
        refine Ops.rg rfl (by first | rfl | assumption | exact decide_eq_true (by assumption) | exact decide_eq_false (by assumption) | decide | (simp; done) | (simp; omega) | (simp [*]; done)) (Run.mv rfl) rfl ?_
        refine Ops.rg rfl (by first | rfl | assumption | exact decide_eq_true (by assumption) | exact decide_eq_false (by assumption) | decide | (simp; done) | (simp; omega) | (simp [*]; done)) (Run.mv rfl) rfl ?_
        refine Ops.rg rfl (by first | rfl | assumption | exact decide_eq_true (by assumption) | exact decide_eq_false (by assumption) | decide | (simp; done) | (simp; omega) | (simp [*]; done)) (Run.bin rfl rfl (Bin.eqlN _ 0)) rfl ?_
        refine Ops.rg rfl (by first | rfl | assumption | exact decide_eq_true (by assumption) | exact decide_eq_false (by assumption) | decide | (simp; done) | (simp; omega) | (simp [*]; done)) (Run.mv rfl) rfl ?_
        refine Ops.rg rfl (by first | rfl | assumption | exact decide_eq_true (by assumption) | exact decide_eq_false (by assumption) | decide | (simp; done) | (simp; omega) | (simp [*]; done)) (Run.mv rfl) rfl ?_
        refine Ops.rg rfl (by first | rfl | assumption | exact decide_eq_true (by assumption) | exact decide_eq_false (by assumption) | decide | (simp; done) | (simp; omega) | (simp [*]; done)) (Run.mv rfl) rfl ?_
        refine Ops.clg rfl (by first | rfl | assumption | exact decide_eq_true (by assumption) | exact decide_eq_false (by assumption) | decide | (simp; done) | (simp; omega) | (simp [*]; done)) (Enters.fn (evs.cons rfl (evs.cons rfl evs.nil)) Try.call10) (rsame_spec B6 B2 d6 d2 r6 r6 _ (by omega) (by omega) (ho6.rd.drawn hd7) (ho2.rd.frm K7 (by simp))) rfl ?_
        rintro e w8 ⟨rfl, hd8⟩
        refine ⟨_, rfl, ?_⟩
        refine Ops.rg rfl (by first | rfl | assumption | exact decide_eq_true (by assumption) | exact decide_eq_false (by assumption) | decide | (simp; done) | (simp; omega) | (simp [*]; done)) (Run.pickT rfl rfl (by first | rfl | assumption | exact decide_eq_true (by assumption) | exact decide_eq_false (by assumption) | decide | (simp; done) | (simp; omega) | (simp [*]; done))) rfl ?_
        refine Ops.rg rfl (by first | rfl | assumption | exact decide_eq_true (by assumption) | exact decide_eq_false (by assumption) | decide | (simp; done) | (simp; omega) | (simp [*]; done)) (Run.pickF rfl rfl (by first | rfl | assumption | exact decide_eq_true (by assumption) | exact decide_eq_false (by assumption) | decide | (simp; done) | (simp; omega) | (simp [*]; done))) rfl ?_
        refine Ops.r (Run.pickT rfl rfl (by first | rfl | assumption | exact decide_eq_true (by assumption) | exact decide_eq_false (by assumption) | decide | (simp; done) | (simp; omega) | (simp [*]; done))) rfl ?_
        refine Ops.r (Run.mv rfl) rfl ?_
        refine Ops.clg rfl (by first | rfl | assumption | exact decide_eq_true (by assumption) | exact decide_eq_false (by assumption) | decide | (simp; done) | (simp; omega) | (simp [*]; done)) (Enters.fn evs.nil Try.call11) (awake24_spec _) rfl ?_
        rintro e w99 ⟨rfl, hf99⟩
        refine ⟨_, rfl, ?_⟩
        refine Ops.r (Run.pickT rfl rfl (by first | rfl | assumption | exact decide_eq_true (by assumption) | exact decide_eq_false (by assumption) | decide | (simp; done) | (simp; omega) | (simp [*]; done))) rfl ?_
        refine Ops.r (Run.asg rfl) rfl ?_
        refine Ops.nil ?_
        refine thenQ_n ⟨(.cons (congrArg (fun b => some (Value.bool b)) (rfl)) .nil), (by first | exact (K2.trans (K7.drawn hd8) (by simp)).trans hf99 (by simp) | exact (K2.trans K7 (by simp)).trans hf99 (by simp))⟩
    · intro Γ wR hΓ hR
      refine thenQ_n (VC.sub _ hΓ ?_)
      refine VC.ret ?_
      refine end1 rfl ?_
      exact ⟨rfl, hR⟩

end Go.Proofs.Ytndelocgmcilkaa
