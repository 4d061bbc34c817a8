/-
  The walk of the law 'LimitBest'.
-/
import Derived.Test.YtebaojedpnnliaaLimK
import Derived.Test.YtebaojedpnnliaaCanV
namespace Go.Proofs.Ytebaojedpnnliaa
open Go.RowKit

noncomputable section
open Classical in
/-- Are other lengths right, as far as place i? -/
def rgt (a b : List Int) (m : Int) (i : Nat) : Prop := (chk b = 0 ∨ chk b = 2) ∧ ∀ k, k < i → b.getD k 0 ≤ m ∧ (0 < b.getD k 0 ∨ a.getD k 0 = 0)
instance (a b : List Int) (m : Int) (i : Nat) : Decidable (rgt a b m i) := Classical.propDecidable _
end
theorem rgt_succ (a b : List Int) (m : Int) (i : Nat) : rgt a b m (i + 1) ↔ rgt a b m i ∧ b.getD i 0 ≤ m ∧ (0 < b.getD i 0 ∨ a.getD i 0 = 0) := by
  unfold rgt
  constructor
  · rintro ⟨h1, h2⟩; exact ⟨⟨h1, fun k hk => h2 k (by omega)⟩, h2 i (by omega)⟩
  · rintro ⟨⟨h1, h2⟩, h3⟩
    refine ⟨h1, fun k hk => ?_⟩
    by_cases e : k = i
    · subst e; exact h3
    · exact h2 k (by omega)
theorem dot_sg (a b : List Int) : ∀ k, (∀ x ∈ a, 0 ≤ x) → (∀ x ∈ b, 0 ≤ x) → dotT a b k = ((sg (fun i => (a.getD i 0).toNat * (b.getD i 0).toNat) k : Nat) : Int)
  | 0, _, _ => rfl
  | k + 1, ha, hb => by
    have hg : ∀ (l : List Int) (i : Nat), (∀ x ∈ l, 0 ≤ x) → 0 ≤ l.getD i 0 := by
      intro l i h
      simp only [List.getD]
      cases e : l[i]? with
      | none => simp
      | some x => exact h x (List.mem_of_getElem? e)
    rw [dotT, sg, dot_sg a b k ha hb, Int.natCast_add, Int.natCast_mul, Int.toNat_of_nonneg (hg a k ha), Int.toNat_of_nonneg (hg b k hb)]
theorem getD_toNat (l : List Int) (i : Nat) : (l.map Int.toNat).getD i 0 = (l.getD i 0).toNat := by
  simp only [List.getD, List.getElem?_map]
  cases l[i]? <;> simp
theorem getD_cast (l : List Nat) (i : Nat) : ((l.map fun x : Nat => (x : Int)).getD i 0).toNat = l.getD i 0 := by
  simp only [List.getD, List.getElem?_map]
  cases l[i]? <;> simp
theorem sumK_sg (l : List Int) : ∀ i, i ≤ l.length → sumK (l.take i) = sg (fun k => if 0 < (l.getD k 0).toNat then 2 ^ (15 - (l.getD k 0).toNat) else 0) i
  | 0, _ => by simp [sumK, sg]
  | i + 1, h => by
    rw [sumK_take l i (by omega), sumK_sg l i (by omega), sg]
    have e : l.getD i 0 = l[i] := by simp [List.getD, List.getElem?_eq_getElem (show i < l.length by omega)]
    rw [e]
    by_cases h2 : 0 < l[i]
    · rw [if_pos h2, if_pos (by omega)]
    · rw [if_neg h2, if_neg (by omega)]
theorem lenRes_ok {a : List Int} {m : Int} {R : List Int} (h : LenRes a m R 0) : ∃ (m' : Nat) (own : PL), m = m' ∧ 1 ≤ m' ∧ m' ≤ 15 ∧ mayB a ∧ IsCoins (a.map Int.toNat) own ∧ own.length ≤ 2 ^ m' ∧ R = (lenP a.length m' own).map (fun x : Nat => (x : Int)) := by
  rcases h with ⟨_, _, h⟩ | ⟨h1, own, ho, h⟩
  · cases h
  · rcases h with ⟨_, _, h⟩ | ⟨h2, h3, _⟩
    · cases h
    · obtain ⟨m', rfl⟩ : ∃ k : Nat, m = k := ⟨m.toNat, by omega⟩
      rw [Int.toNat_natCast] at h2 h3
      exact ⟨m', own, rfl, by omega, by omega, Classical.not_not.1 (fun h => h1 (.inl h)), ho, by omega, h3⟩
theorem res_okC {a : List Int} {m : Int} {R : List Int} (h : LenRes a m R 0) : R.length = a.length ∧ okC a R R.length := by
  obtain ⟨m', own, rfl, h1, h2, hm, ho, hfit, rfl⟩ := lenRes_ok h
  have hl : ((lenP a.length m' own).map (fun x : Nat => (x : Int))).length = a.length := by rw [List.length_map, lenP_len]
  refine ⟨hl, ⟨hm, hl.symm⟩, fun x hx => ?_⟩
  have hx := List.mem_of_mem_take hx
  obtain ⟨y, hy, rfl⟩ := List.mem_map.1 hx
  obtain ⟨i, hi, rfl⟩ := List.getElem_of_mem hy
  rw [lenP_len] at hi
  have h3 := (len_le ho h1 i (by rw [List.length_map]; exact hi)).1
  rw [List.length_map, List.getD, List.getElem?_eq_getElem (by rw [lenP_len]; exact hi), Option.getD_some] at h3
  omega
theorem best_all {a b : List Int} {m : Int} {R : List Int} (h : LenRes a m R 0) (hb : b.length = a.length) (hr : rgt a b m b.length) : okC a b b.length ∧ dotT a R R.length ≤ dotT a b b.length := by
  have hRl := res_okC h
  obtain ⟨m', own, rfl, h1, h2, hm, ho, hfit, rfl⟩ := lenRes_ok h
  have hg : good b := chk_good (by rcases hr.1 with h3 | h3 <;> omega)
  refine ⟨⟨⟨hm, hb.symm⟩, fun x hx => hg.2 x (List.mem_of_mem_take hx)⟩, ?_⟩
  have hk : sumK b ≤ 32768 := by
    have h3 := sumK_eq b hg.2
    have h4 := hr.1
    unfold chk at h4
    rw [if_neg (by simpa using hg), h3] at h4
    by_cases h5 : 32768 < sumK b
    · rw [if_pos h5] at h4; omega
    · omega
  have hap : ∀ x ∈ a, 0 ≤ x := fun x hx => (hm.2 x hx).1
  have hbp : ∀ x ∈ b, 0 ≤ x := fun x hx => (hg.2 x hx).1
  rw [hRl.1, hb, dot_sg a _ _ hap (by intro x hx; obtain ⟨y, _, rfl⟩ := List.mem_map.1 hx; omega), dot_sg a b _ hap hbp]
  have h6 := best_cost (o := fun i => (b.getD i 0).toNat) ho (by rw [List.length_map]; exact hm.1) h1 h2 (fun i hi => by
    rw [List.length_map] at hi
    have := (hr.2 i (by omega)).1
    omega) (fun i hi hp => by
    rw [List.length_map] at hi
    rw [getD_toNat] at hp
    rcases (hr.2 i (by omega)).2 with h7 | h7
    · omega
    · rw [h7] at hp; simp at hp) (by
    rw [List.length_map, ← hb, ← sumK_sg b b.length (Nat.le_refl _), List.take_length]
    exact hk)
  rw [List.length_map] at h6
  have e1 : sg (fun i => (a.getD i 0).toNat * (((lenP a.length m' own).map fun x : Nat => (x : Int)).getD i 0).toNat) a.length = sg (fun i => (a.map Int.toNat).getD i 0 * (lenP a.length m' own).getD i 0) a.length := sg_congr _ (fun i _ => by rw [getD_toNat, getD_cast])
  have e2 : sg (fun i => (a.getD i 0).toNat * (b.getD i 0).toNat) a.length = sg (fun i => (a.map Int.toNat).getD i 0 * (b.getD i 0).toNat) a.length := sg_congr _ (fun i _ => by rw [getD_toNat])
  rw [e1, e2]
  exact Int.ofNat_le.2 h6

set_option maxRecDepth 100000 in
theorem best_walk (A : Option Addr) (n c : Nat) (a : List Int) (B : Option Addr) (nb d : Nat) (b : List Int) (m : Int) (w : World) (hn : a.length = n) (hc : n ≤ c) (ha : Rd w 1 A n (IB a)) (hm : b.length = nb) (hd : nb ≤ d) (hb : Rd w 1 B nb (IB b)) :
    Calls Try.prog 12 #[.slice A n c, .slice B nb d, .int .i64 m] w fun e w' => e = .returned (.bool true) ∧ Frm [] w w' := by
  subst hn hm
  refine VC.calls (nt := 111) (res := #[.tmp 6]) Try.func12 rfl Try.ntmps12 Try.results12 rfl ?_
  refine VC.seq ?_
  refine VC.region ?_
  refine Ops.r (Run.asg rfl) rfl ?_
  refine Ops.nil ?_
  refine thenQ_n ?_
  refine VC.sub [(0, _), (1, _), (2, _)] (.cons rfl (.cons rfl (.cons rfl .nil))) ?_
  refine VC.seq ?_
  refine VC.region ?_
  refine Ops.r (Run.mv rfl) rfl ?_
  refine Ops.cl (Enters.fn (evs.cons rfl evs.nil) Try.call43) (few10_spec A c a _ hc ha) rfl ?_
  rintro e _ ⟨⟨A1, c1, rfl, ha1, hc1⟩, rfl⟩
  refine ⟨_, rfl, ?_⟩
  refine Ops.r (Run.mv rfl) rfl ?_
  refine Ops.cl (Enters.fn (evs.cons rfl evs.nil) Try.call43) (few10_spec B d b _ hd hb) rfl ?_
  rintro e _ ⟨⟨B1, d1, rfl, hb1, hd1⟩, rfl⟩
  refine ⟨_, rfl, ?_⟩
  have hla := fewL_len a
  have hlb := fewL_len b
  generalize fewL a = a at *
  generalize fewL b = b at *
  refine Ops.r (Run.asg rfl) rfl ?_
  refine Ops.r (Run.asg rfl) rfl ?_
  refine Ops.nil ?_
  refine thenQ_n ?_
  refine VC.sub [(0, _), (1, _), (2, _)] (.cons rfl (.cons rfl (.cons rfl .nil))) ?_
  refine VC.seq ?_
  refine VC.region ?_
  refine Ops.r (Run.mv rfl) rfl ?_
  refine Ops.r (Run.mv rfl) rfl ?_
  refine Ops.cl (Enters.fn (evs.cons rfl (evs.cons rfl evs.nil)) Try.call44) (lengths_spec A1 c1 a m _ (by omega) ha1) rfl ?_
  rintro e w3 ⟨hf3, he⟩
  obtain ⟨R, ev, B3, c3, rfl, hR, hr3, hRl⟩ := lenRes_of (w' := w3) (e := e) (by
    split at he
    · rename_i h; rw [if_pos h]; exact he
    · rename_i h
      rw [if_neg h]
      obtain ⟨own, ho, h2⟩ := he
      refine ⟨own, ho, ?_⟩
      split at h2
      · rename_i h3; rw [if_pos h3]; exact h2
      · rename_i h3; rw [if_neg h3]; obtain ⟨B, c, h4, h5, _⟩ := h2; exact ⟨B, c, h4, h5⟩)
  refine ⟨_, rfl, ?_⟩
  have hRz : ev ≠ 0 → R.length = 0 := by
    intro h
    rcases hR with ⟨_, rfl, _⟩ | ⟨_, own, _, h2⟩
    · rfl
    · rcases h2 with ⟨_, rfl, _⟩ | ⟨_, _, h3⟩
      · rfl
      · exact absurd h3 h
  have ha3 := ha1.belowW hf3.below
  have hb3 := hb1.belowW hf3.below
  refine Ops.r (Run.mv rfl) rfl ?_
  refine Ops.r (Run.extract rfl rfl) rfl ?_
  refine Ops.r (Run.extract rfl rfl) rfl ?_
  refine Ops.r (Run.asg rfl) rfl ?_
  refine Ops.r (Run.asg rfl) rfl ?_
  refine Ops.nil ?_
  refine thenQ_n ?_
  refine VC.sub [(0, _), (1, _), (2, _), (7, _), (8, _)] (.cons rfl (.cons rfl (.cons rfl (.cons rfl (.cons rfl .nil))))) ?_
  refine VC.seq ?_
  refine VC.seq ?_
  refine VC.split1 [(0, _), (1, _), (2, _), (7, _), (8, _)] (.cons rfl (.cons rfl (.cons rfl (.cons rfl (.cons rfl .nil))))) 34 (.bool (decide ((ev ≠ 0) ∨ (b.length ≠ a.length)))) ?_ ?_
  · by_cases hs0 : ev ≠ 0
    · skip
      refine VC.region ?_
      refine Ops.r (Run.mv rfl) rfl ?_
      refine Ops.r (Run.bin rfl rfl (Bin.neqN _ 0)) rfl ?_
      refine Ops.r (Run.mv rfl) rfl ?_
      refine Ops.sk rfl (by first | rfl | assumption | exact decide_eq_true (by assumption) | exact decide_eq_false (by assumption) | decide | (simp; done) | (simp; omega) | (simp [*]; done)) rfl ?_
      refine Ops.sk rfl (by first | rfl | assumption | exact decide_eq_true (by assumption) | exact decide_eq_false (by assumption) | decide | (simp; done) | (simp; omega) | (simp [*]; done)) rfl ?_
      refine Ops.sk rfl (by first | rfl | assumption | exact decide_eq_true (by assumption) | exact decide_eq_false (by assumption) | decide | (simp; done) | (simp; omega) | (simp [*]; done)) rfl ?_
      refine Ops.sk rfl (by first | rfl | assumption | exact decide_eq_true (by assumption) | exact decide_eq_false (by assumption) | decide | (simp; done) | (simp; omega) | (simp [*]; done)) rfl ?_
      refine Ops.sk rfl (by first | rfl | assumption | exact decide_eq_true (by assumption) | exact decide_eq_false (by assumption) | decide | (simp; done) | (simp; omega) | (simp [*]; done)) rfl ?_
      refine Ops.r (Run.pickT rfl rfl (by first | rfl | assumption | exact decide_eq_true (by assumption) | exact decide_eq_false (by assumption) | decide | (simp; done) | (simp; omega) | (simp [*]; done))) rfl ?_
      refine Ops.nil ?_
      refine thenQ_n ⟨(.cons (by rw [dor1 hs0]; rfl) (.cons rfl (.cons rfl (.cons rfl (.cons rfl (.cons rfl .nil)))))), rfl⟩
    · skip
      refine VC.region ?_
      refine Ops.r (Run.mv rfl) rfl ?_
      refine Ops.r (Run.bin rfl rfl (Bin.neqN _ 0)) rfl ?_
      refine Ops.r (Run.mv rfl) rfl ?_
      refine Ops.rg rfl (by first | rfl | assumption | exact decide_eq_true (by assumption) | exact decide_eq_false (by assumption) | decide | (simp; done) | (simp; omega) | (simp [*]; done)) (Run.mv rfl) rfl ?_
      refine Ops.rg rfl (by first | rfl | assumption | exact decide_eq_true (by assumption) | exact decide_eq_false (by assumption) | decide | (simp; done) | (simp; omega) | (simp [*]; done)) (Run.lenS rfl Try.underlying54) rfl ?_
      refine Ops.rg rfl (by first | rfl | assumption | exact decide_eq_true (by assumption) | exact decide_eq_false (by assumption) | decide | (simp; done) | (simp; omega) | (simp [*]; done)) (Run.mv rfl) rfl ?_
      refine Ops.rg rfl (by first | rfl | assumption | exact decide_eq_true (by assumption) | exact decide_eq_false (by assumption) | decide | (simp; done) | (simp; omega) | (simp [*]; done)) (Run.lenS rfl Try.underlying54) rfl ?_
      refine Ops.rg rfl (by first | rfl | assumption | exact decide_eq_true (by assumption) | exact decide_eq_false (by assumption) | decide | (simp; done) | (simp; omega) | (simp [*]; done)) (Run.bin rfl rfl (Bin.neqN _ _)) rfl ?_
      refine Ops.r (Run.pickF rfl rfl (by first | rfl | assumption | exact decide_eq_true (by assumption) | exact decide_eq_false (by assumption) | decide | (simp; done) | (simp; omega) | (simp [*]; done))) rfl ?_
      refine Ops.nil ?_
      refine thenQ_n ⟨(.cons (by rw [dor0 hs0]; rfl) (.cons rfl (.cons rfl (.cons rfl (.cons rfl (.cons rfl .nil)))))), rfl⟩
  · intro Γ hΓ
    refine thenQ_n (VC.sub _ hΓ ?_)
    refine VC.condD rfl (fun hc1 => ?_) (fun hc1 => ?_)
    · skip
      refine VC.seq ?_
      refine VC.splitR [] (fun w1 => Frm [] w w1) 6 (.bool (decide (True))) ?_ ?_
      · refine VC.region ?_
        refine Ops.r (Run.mv rfl) rfl ?_
        refine Ops.r (Run.bin rfl rfl (Bin.eqlN _ 0)) rfl ?_
        by_cases hs36 : ev = 0
        · skip
          refine Ops.r (Run.mv rfl) rfl ?_
          refine Ops.sk rfl (by first | rfl | assumption | exact decide_eq_true (by assumption) | exact decide_eq_false (by assumption) | decide | (simp; done) | (simp; omega) | (simp [*]; done)) rfl ?_
          refine Ops.sk rfl (by first | rfl | assumption | exact decide_eq_true (by assumption) | exact decide_eq_false (by assumption) | decide | (simp; done) | (simp; omega) | (simp [*]; done)) rfl ?_
          refine Ops.sk rfl (by first | rfl | assumption | exact decide_eq_true (by assumption) | exact decide_eq_false (by assumption) | decide | (simp; done) | (simp; omega) | (simp [*]; done)) rfl ?_
          refine Ops.r (Run.pickT rfl rfl (by first | rfl | assumption | exact decide_eq_true (by assumption) | exact decide_eq_false (by assumption) | decide | (simp; done) | (simp; omega) | (simp [*]; done))) rfl ?_
          refine Ops.r (Run.mv rfl) rfl ?_
          refine Ops.clg rfl (by first | rfl | assumption | exact decide_eq_true (by assumption) | exact decide_eq_false (by assumption) | decide | (simp; done) | (simp; omega) | (simp [*]; done)) (Enters.fn evs.nil Try.call47) (awake10_spec _) rfl ?_
          rintro e w8 ⟨rfl, hf8⟩
          refine ⟨_, rfl, ?_⟩
          refine Ops.r (Run.pickT rfl rfl (by first | rfl | assumption | exact decide_eq_true (by assumption) | exact decide_eq_false (by assumption) | decide | (simp; done) | (simp; omega) | (simp [*]; done))) rfl ?_
          refine Ops.r (Run.asg rfl) rfl ?_
          refine Ops.nil ?_
          refine thenQ_n ⟨(.cons (congrArg (fun b => some (Value.bool b)) (by simp)) .nil), (hf3.own hf8 (by simp))⟩
        · skip
          have hRz1 : R.length = 0 := hRz hs36
          refine Ops.r (Run.mv rfl) rfl ?_
          refine Ops.rg rfl (by first | rfl | assumption | exact decide_eq_true (by assumption) | exact decide_eq_false (by assumption) | decide | (simp; done) | (simp; omega) | (simp [*]; done)) (Run.mv rfl) rfl ?_
          refine Ops.rg rfl (by first | rfl | assumption | exact decide_eq_true (by assumption) | exact decide_eq_false (by assumption) | decide | (simp; done) | (simp; omega) | (simp [*]; done)) (Run.lenS rfl Try.underlying54) rfl ?_
          refine Ops.rg rfl (by first | rfl | assumption | exact decide_eq_true (by assumption) | exact decide_eq_false (by assumption) | decide | (simp; done) | (simp; omega) | (simp [*]; done)) (Run.bin rfl rfl (Bin.eqlN _ 0)) rfl ?_
          refine Ops.r (Run.pickF rfl rfl (by first | rfl | assumption | exact decide_eq_true (by assumption) | exact decide_eq_false (by assumption) | decide | (simp; done) | (simp; omega) | (simp [*]; done))) rfl ?_
          refine Ops.r (Run.mv rfl) rfl ?_
          refine Ops.clg rfl (by first | rfl | assumption | exact decide_eq_true (by assumption) | exact decide_eq_false (by assumption) | decide | (simp; done) | (simp; omega) | (simp [*]; done)) (Enters.fn evs.nil Try.call47) (awake10_spec _) rfl ?_
          rintro e w8 ⟨rfl, hf8⟩
          refine ⟨_, rfl, ?_⟩
          refine Ops.r (Run.pickT rfl rfl (by first | rfl | assumption | exact decide_eq_true (by assumption) | exact decide_eq_false (by assumption) | decide | (simp; done) | (simp; omega) | (simp [*]; done))) rfl ?_
          refine Ops.r (Run.asg rfl) rfl ?_
          refine Ops.nil ?_
          refine thenQ_n ⟨(.cons (congrArg (fun b => some (Value.bool b)) (by simp)) .nil), (hf3.own hf8 (by simp))⟩
      · intro Γ w9 hΓ hf9
        refine thenQ_n (VC.sub _ hΓ ?_)
        refine VC.ret ?_
        refine thenQ_r (end1 rfl ?_)
        exact ⟨by simp, hf9⟩
    · skip
      have hev : ev = 0 := Classical.not_not.1 (fun h => hc1 (.inl h))
      have hbl : b.length = a.length := Classical.not_not.1 (fun h => hc1 (.inr h))
      subst hev
      refine VC.skip ?_
      refine thenQ_n ?_
      refine VC.sub [(0, _), (1, _), (2, _), (7, _)] (.cons rfl (.cons rfl (.cons rfl (.cons rfl .nil)))) ?_
      refine VC.seq ?_
      refine VC.region ?_
      refine Ops.r (Run.mv rfl) rfl ?_
      refine Ops.cl (Enters.fn (evs.cons rfl evs.nil) Try.call34) (refCheck_spec B1 d1 b _ (by omega) hb3) rfl ?_
      rintro e _ ⟨rfl, rfl⟩
      refine ⟨_, rfl, ?_⟩
      refine Ops.r (Run.asg rfl) rfl ?_
      refine Ops.nil ?_
      refine thenQ_n ?_
      refine VC.sub [(0, _), (1, _), (2, _), (7, _), (9, _)] (.cons rfl (.cons rfl (.cons rfl (.cons rfl (.cons rfl .nil))))) ?_
      refine VC.seq ?_
      refine VC.split1 [(0, _), (1, _), (2, _), (7, _)] (.cons rfl (.cons rfl (.cons rfl (.cons rfl .nil)))) 10 (.bool (decide ((chk b = 0) ∨ (chk b = 2)))) ?_ ?_
      · by_cases hs0 : chk b = 0
        · skip
          refine VC.region ?_
          refine Ops.r (Run.mv rfl) rfl ?_
          refine Ops.r (Run.bin rfl rfl (Bin.eqlN _ 0)) rfl ?_
          refine Ops.r (Run.mv rfl) rfl ?_
          refine Ops.sk rfl (by first | rfl | assumption | exact decide_eq_true (by assumption) | exact decide_eq_false (by assumption) | decide | (simp; done) | (simp; omega) | (simp [*]; done)) rfl ?_
          refine Ops.sk rfl (by first | rfl | assumption | exact decide_eq_true (by assumption) | exact decide_eq_false (by assumption) | decide | (simp; done) | (simp; omega) | (simp [*]; done)) rfl ?_
          refine Ops.r (Run.pickT rfl rfl (by first | rfl | assumption | exact decide_eq_true (by assumption) | exact decide_eq_false (by assumption) | decide | (simp; done) | (simp; omega) | (simp [*]; done))) rfl ?_
          refine Ops.r (Run.asg rfl) rfl ?_
          refine Ops.nil ?_
          refine thenQ_n ⟨(.cons (by rw [dor1 hs0]; rfl) (.cons rfl (.cons rfl (.cons rfl (.cons rfl .nil))))), rfl⟩
        · skip
          refine VC.region ?_
          refine Ops.r (Run.mv rfl) rfl ?_
          refine Ops.r (Run.bin rfl rfl (Bin.eqlN _ 0)) rfl ?_
          refine Ops.r (Run.mv rfl) rfl ?_
          refine Ops.rg rfl (by first | rfl | assumption | exact decide_eq_true (by assumption) | exact decide_eq_false (by assumption) | decide | (simp; done) | (simp; omega) | (simp [*]; done)) (Run.mv rfl) rfl ?_
          refine Ops.rg rfl (by first | rfl | assumption | exact decide_eq_true (by assumption) | exact decide_eq_false (by assumption) | decide | (simp; done) | (simp; omega) | (simp [*]; done)) (Run.bin rfl rfl (Bin.eqlN _ 2)) rfl ?_
          refine Ops.r (Run.pickF rfl rfl (by first | rfl | assumption | exact decide_eq_true (by assumption) | exact decide_eq_false (by assumption) | decide | (simp; done) | (simp; omega) | (simp [*]; done))) rfl ?_
          refine Ops.r (Run.asg rfl) rfl ?_
          refine Ops.nil ?_
          refine thenQ_n ⟨(.cons (by rw [dor0 hs0]; rfl) (.cons rfl (.cons rfl (.cons rfl (.cons rfl .nil))))), rfl⟩
      · intro Γ hΓ
        refine thenQ_n (VC.sub _ hΓ ?_)
        refine VC.seq ?_
        refine VC.seq ?_
        refine VC.region ?_
        refine Ops.r (v := .int .i64 ((0 : Nat) : Int)) (Run.asg rfl) rfl ?_
        refine Ops.nil ?_
        refine thenQ_n ?_
        refine VC.block ?_
        refine VC.loop (σ := Nat) (fun s => [(0, .slice A1 a.length c1), (1, .slice B1 b.length d1), (2, .int .i64 m), (7, .slice B3 R.length c3), (10, .bool (decide (rgt a b m s))), (11, .int .i64 ((s : Nat) : Int))]) (fun s wr => s ≤ b.length ∧ w3 = wr) (fun s => b.length - s) 0 (.cons rfl (.cons rfl (.cons rfl (.cons rfl (.cons (congrArg (fun z => some (Value.bool z)) (decide_eq_decide.2 (by simp [rgt]))) (.cons rfl .nil)))))) ⟨by omega, rfl⟩ ?_
        rintro i _ ⟨hi, rfl⟩
        have hrs := rgt_succ a b m i
        refine VC.seq ?_
        refine VC.seq ?_
        refine VC.region ?_
        refine Ops.r (Run.mv rfl) rfl ?_
        refine Ops.r (Run.mv rfl) rfl ?_
        refine Ops.r (Run.lenS rfl Try.underlying54) rfl ?_
        refine Ops.r (Run.bin rfl rfl (Bin.lssN _ _)) rfl ?_
        refine Ops.nil ?_
        refine thenQ_n ?_
        refine VC.sub [(0, _), (1, _), (2, _), (7, _), (10, _), (11, _), (56, _)] (.cons rfl (.cons rfl (.cons rfl (.cons rfl (.cons rfl (.cons rfl (.cons rfl .nil))))))) ?_
        refine VC.condD rfl (fun hc2 => ?_) (fun hc2 => ?_)
        · skip
          obtain ⟨ad, rfl, hcell⟩ := IB_at hb3 hc2
          obtain ⟨ad2, rfl, hcell2⟩ := IB_at ha3 (show i < a.length by omega)
          rw [getD_eq b i hc2, getD_eq a i (by omega)] at hrs
          generalize b[i] = x at *
          generalize a[i] = y at *
          refine VC.skip ?_
          refine thenQ_n ?_
          refine VC.sub [(0, _), (1, _), (2, _), (7, _), (10, _), (11, _)] (.cons rfl (.cons rfl (.cons rfl (.cons rfl (.cons rfl (.cons rfl .nil)))))) ?_
          refine VC.seq ?_
          refine VC.block ?_
          refine VC.split1 [(0, _), (1, _), (2, _), (7, _), (11, _)] (.cons rfl (.cons rfl (.cons rfl (.cons rfl (.cons rfl .nil))))) 10 (.bool (decide (rgt a b m (i + 1)))) ?_ ?_
          · refine VC.region ?_
            refine Ops.r (Run.mv rfl) rfl ?_
            refine Ops.r (Run.mv rfl) rfl ?_
            by_cases hs60 : rgt a b m i
            · skip
              refine Ops.rg rfl (by first | rfl | assumption | exact decide_eq_true (by assumption) | exact decide_eq_false (by assumption) | decide | (simp; done) | (simp; omega) | (simp [*]; done)) (Run.mv rfl) rfl ?_
              refine Ops.rg rfl (by first | rfl | assumption | exact decide_eq_true (by assumption) | exact decide_eq_false (by assumption) | decide | (simp; done) | (simp; omega) | (simp [*]; done)) (Run.mv rfl) rfl ?_
              refine Ops.rg rfl (by first | rfl | assumption | exact decide_eq_true (by assumption) | exact decide_eq_false (by assumption) | decide | (simp; done) | (simp; omega) | (simp [*]; done)) (Run.index1 _ rfl rfl Try.underlying54 Try.sizeOf3 (by omega)) rfl ?_
              refine Ops.rg rfl (by first | rfl | assumption | exact decide_eq_true (by assumption) | exact decide_eq_false (by assumption) | decide | (simp; done) | (simp; omega) | (simp [*]; done)) (Run.load rfl Try.isAgg3 hcell) rfl ?_
              refine Ops.rg rfl (by first | rfl | assumption | exact decide_eq_true (by assumption) | exact decide_eq_false (by assumption) | decide | (simp; done) | (simp; omega) | (simp [*]; done)) (Run.mv rfl) rfl ?_
              refine Ops.rg rfl (by first | rfl | assumption | exact decide_eq_true (by assumption) | exact decide_eq_false (by assumption) | decide | (simp; done) | (simp; omega) | (simp [*]; done)) (Run.bin rfl rfl (Bin.leq _ _)) rfl ?_
              by_cases hs66 : x ≤ m
              · skip
                refine Ops.r (Run.pickT rfl rfl (by first | rfl | assumption | exact decide_eq_true (by assumption) | exact decide_eq_false (by assumption) | decide | (simp; done) | (simp; omega) | (simp [*]; done))) rfl ?_
                refine Ops.r (Run.mv rfl) rfl ?_
                refine Ops.rg rfl (by first | rfl | assumption | exact decide_eq_true (by assumption) | exact decide_eq_false (by assumption) | decide | (simp; done) | (simp; omega) | (simp [*]; done)) (Run.mv rfl) rfl ?_
                refine Ops.rg rfl (by first | rfl | assumption | exact decide_eq_true (by assumption) | exact decide_eq_false (by assumption) | decide | (simp; done) | (simp; omega) | (simp [*]; done)) (Run.mv rfl) rfl ?_
                refine Ops.rg rfl (by first | rfl | assumption | exact decide_eq_true (by assumption) | exact decide_eq_false (by assumption) | decide | (simp; done) | (simp; omega) | (simp [*]; done)) (Run.index1 _ rfl rfl Try.underlying54 Try.sizeOf3 (by omega)) rfl ?_
                refine Ops.rg rfl (by first | rfl | assumption | exact decide_eq_true (by assumption) | exact decide_eq_false (by assumption) | decide | (simp; done) | (simp; omega) | (simp [*]; done)) (Run.load rfl Try.isAgg3 hcell) rfl ?_
                refine Ops.rg rfl (by first | rfl | assumption | exact decide_eq_true (by assumption) | exact decide_eq_false (by assumption) | decide | (simp; done) | (simp; omega) | (simp [*]; done)) (Run.bin rfl rfl (Bin.gtr _ 0)) rfl ?_
                by_cases hs73 : 0 < x
                · skip
                  refine Ops.rg rfl (by first | rfl | assumption | exact decide_eq_true (by assumption) | exact decide_eq_false (by assumption) | decide | (simp; done) | (simp; omega) | (simp [*]; done)) (Run.mv rfl) rfl ?_
                  refine Ops.sk rfl (by first | rfl | assumption | exact decide_eq_true (by assumption) | exact decide_eq_false (by assumption) | decide | (simp; done) | (simp; omega) | (simp [*]; done)) rfl ?_
                  refine Ops.sk rfl (by first | rfl | assumption | exact decide_eq_true (by assumption) | exact decide_eq_false (by assumption) | decide | (simp; done) | (simp; omega) | (simp [*]; done)) rfl ?_
                  refine Ops.sk rfl (by first | rfl | assumption | exact decide_eq_true (by assumption) | exact decide_eq_false (by assumption) | decide | (simp; done) | (simp; omega) | (simp [*]; done)) rfl ?_
                  refine Ops.sk rfl (by first | rfl | assumption | exact decide_eq_true (by assumption) | exact decide_eq_false (by assumption) | decide | (simp; done) | (simp; omega) | (simp [*]; done)) rfl ?_
                  refine Ops.sk rfl (by first | rfl | assumption | exact decide_eq_true (by assumption) | exact decide_eq_false (by assumption) | decide | (simp; done) | (simp; omega) | (simp [*]; done)) rfl ?_
                  refine Ops.rg rfl (by first | rfl | assumption | exact decide_eq_true (by assumption) | exact decide_eq_false (by assumption) | decide | (simp; done) | (simp; omega) | (simp [*]; done)) (Run.pickT rfl rfl (by first | rfl | assumption | exact decide_eq_true (by assumption) | exact decide_eq_false (by assumption) | decide | (simp; done) | (simp; omega) | (simp [*]; done))) rfl ?_
                  refine Ops.r (Run.pickT rfl rfl (by first | rfl | assumption | exact decide_eq_true (by assumption) | exact decide_eq_false (by assumption) | decide | (simp; done) | (simp; omega) | (simp [*]; done))) rfl ?_
                  refine Ops.r (Run.asg rfl) rfl ?_
                  refine Ops.nil ?_
                  refine thenQ_n ⟨(.cons (congrArg (fun b => some (Value.bool b)) (by simp [hrs, *])) (.cons rfl (.cons rfl (.cons rfl (.cons rfl (.cons rfl .nil)))))), rfl⟩
                · skip
                  refine Ops.rg rfl (by first | rfl | assumption | exact decide_eq_true (by assumption) | exact decide_eq_false (by assumption) | decide | (simp; done) | (simp; omega) | (simp [*]; done)) (Run.mv rfl) rfl ?_
                  refine Ops.rg rfl (by first | rfl | assumption | exact decide_eq_true (by assumption) | exact decide_eq_false (by assumption) | decide | (simp; done) | (simp; omega) | (simp [*]; done)) (Run.mv rfl) rfl ?_
                  refine Ops.rg rfl (by first | rfl | assumption | exact decide_eq_true (by assumption) | exact decide_eq_false (by assumption) | decide | (simp; done) | (simp; omega) | (simp [*]; done)) (Run.mv rfl) rfl ?_
                  refine Ops.rg rfl (by first | rfl | assumption | exact decide_eq_true (by assumption) | exact decide_eq_false (by assumption) | decide | (simp; done) | (simp; omega) | (simp [*]; done)) (Run.index1 _ rfl rfl Try.underlying54 Try.sizeOf3 (by omega)) rfl ?_
                  refine Ops.rg rfl (by first | rfl | assumption | exact decide_eq_true (by assumption) | exact decide_eq_false (by assumption) | decide | (simp; done) | (simp; omega) | (simp [*]; done)) (Run.load rfl Try.isAgg3 hcell2) rfl ?_
                  refine Ops.rg rfl (by first | rfl | assumption | exact decide_eq_true (by assumption) | exact decide_eq_false (by assumption) | decide | (simp; done) | (simp; omega) | (simp [*]; done)) (Run.bin rfl rfl (Bin.eql _ 0)) rfl ?_
                  by_cases hs79 : y = 0
                  · skip
                    refine Ops.rg rfl (by first | rfl | assumption | exact decide_eq_true (by assumption) | exact decide_eq_false (by assumption) | decide | (simp; done) | (simp; omega) | (simp [*]; done)) (Run.pickF rfl rfl (by first | rfl | assumption | exact decide_eq_true (by assumption) | exact decide_eq_false (by assumption) | decide | (simp; done) | (simp; omega) | (simp [*]; done))) rfl ?_
                    refine Ops.r (Run.pickT rfl rfl (by first | rfl | assumption | exact decide_eq_true (by assumption) | exact decide_eq_false (by assumption) | decide | (simp; done) | (simp; omega) | (simp [*]; done))) rfl ?_
                    refine Ops.r (Run.asg rfl) rfl ?_
                    refine Ops.nil ?_
                    refine thenQ_n ⟨(.cons (congrArg (fun b => some (Value.bool b)) (by simp [hrs, *])) (.cons rfl (.cons rfl (.cons rfl (.cons rfl (.cons rfl .nil)))))), rfl⟩
                  · skip
                    refine Ops.rg rfl (by first | rfl | assumption | exact decide_eq_true (by assumption) | exact decide_eq_false (by assumption) | decide | (simp; done) | (simp; omega) | (simp [*]; done)) (Run.pickF rfl rfl (by first | rfl | assumption | exact decide_eq_true (by assumption) | exact decide_eq_false (by assumption) | decide | (simp; done) | (simp; omega) | (simp [*]; done))) rfl ?_
                    refine Ops.r (Run.pickT rfl rfl (by first | rfl | assumption | exact decide_eq_true (by assumption) | exact decide_eq_false (by assumption) | decide | (simp; done) | (simp; omega) | (simp [*]; done))) rfl ?_
                    refine Ops.r (Run.asg rfl) rfl ?_
                    refine Ops.nil ?_
                    refine thenQ_n ⟨(.cons (congrArg (fun b => some (Value.bool b)) (by simp [hrs, *])) (.cons rfl (.cons rfl (.cons rfl (.cons rfl (.cons rfl .nil)))))), rfl⟩
              · skip
                refine Ops.r (Run.pickT rfl rfl (by first | rfl | assumption | exact decide_eq_true (by assumption) | exact decide_eq_false (by assumption) | decide | (simp; done) | (simp; omega) | (simp [*]; done))) rfl ?_
                refine Ops.r (Run.mv rfl) rfl ?_
                refine Ops.sk rfl (by first | rfl | assumption | exact decide_eq_true (by assumption) | exact decide_eq_false (by assumption) | decide | (simp; done) | (simp; omega) | (simp [*]; done)) rfl ?_
                refine Ops.sk rfl (by first | rfl | assumption | exact decide_eq_true (by assumption) | exact decide_eq_false (by assumption) | decide | (simp; done) | (simp; omega) | (simp [*]; done)) rfl ?_
                refine Ops.sk rfl (by first | rfl | assumption | exact decide_eq_true (by assumption) | exact decide_eq_false (by assumption) | decide | (simp; done) | (simp; omega) | (simp [*]; done)) rfl ?_
                refine Ops.sk rfl (by first | rfl | assumption | exact decide_eq_true (by assumption) | exact decide_eq_false (by assumption) | decide | (simp; done) | (simp; omega) | (simp [*]; done)) rfl ?_
                refine Ops.sk rfl (by first | rfl | assumption | exact decide_eq_true (by assumption) | exact decide_eq_false (by assumption) | decide | (simp; done) | (simp; omega) | (simp [*]; done)) rfl ?_
                refine Ops.sk rfl (by first | rfl | assumption | exact decide_eq_true (by assumption) | exact decide_eq_false (by assumption) | decide | (simp; done) | (simp; omega) | (simp [*]; done)) rfl ?_
                refine Ops.skU rfl rfl ?_
                refine Ops.skU rfl rfl ?_
                refine Ops.skU rfl rfl ?_
                refine Ops.skU rfl rfl ?_
                refine Ops.skU rfl rfl ?_
                refine Ops.sk rfl (by first | rfl | assumption | exact decide_eq_true (by assumption) | exact decide_eq_false (by assumption) | decide | (simp; done) | (simp; omega) | (simp [*]; done)) rfl ?_
                refine Ops.r (Run.pickF rfl rfl (by first | rfl | assumption | exact decide_eq_true (by assumption) | exact decide_eq_false (by assumption) | decide | (simp; done) | (simp; omega) | (simp [*]; done))) rfl ?_
                refine Ops.r (Run.asg rfl) rfl ?_
                refine Ops.nil ?_
                refine thenQ_n ⟨(.cons (congrArg (fun b => some (Value.bool b)) (by simp [hrs, *])) (.cons rfl (.cons rfl (.cons rfl (.cons rfl (.cons rfl .nil)))))), rfl⟩
            · skip
              refine Ops.sk rfl (by first | rfl | assumption | exact decide_eq_true (by assumption) | exact decide_eq_false (by assumption) | decide | (simp; done) | (simp; omega) | (simp [*]; done)) rfl ?_
              refine Ops.sk rfl (by first | rfl | assumption | exact decide_eq_true (by assumption) | exact decide_eq_false (by assumption) | decide | (simp; done) | (simp; omega) | (simp [*]; done)) rfl ?_
              refine Ops.sk rfl (by first | rfl | assumption | exact decide_eq_true (by assumption) | exact decide_eq_false (by assumption) | decide | (simp; done) | (simp; omega) | (simp [*]; done)) rfl ?_
              refine Ops.sk rfl (by first | rfl | assumption | exact decide_eq_true (by assumption) | exact decide_eq_false (by assumption) | decide | (simp; done) | (simp; omega) | (simp [*]; done)) rfl ?_
              refine Ops.sk rfl (by first | rfl | assumption | exact decide_eq_true (by assumption) | exact decide_eq_false (by assumption) | decide | (simp; done) | (simp; omega) | (simp [*]; done)) rfl ?_
              refine Ops.sk rfl (by first | rfl | assumption | exact decide_eq_true (by assumption) | exact decide_eq_false (by assumption) | decide | (simp; done) | (simp; omega) | (simp [*]; done)) rfl ?_
              refine Ops.r (Run.pickF rfl rfl (by first | rfl | assumption | exact decide_eq_true (by assumption) | exact decide_eq_false (by assumption) | decide | (simp; done) | (simp; omega) | (simp [*]; done))) rfl ?_
              refine Ops.r (Run.mv rfl) rfl ?_
              refine Ops.sk rfl (by first | rfl | assumption | exact decide_eq_true (by assumption) | exact decide_eq_false (by assumption) | decide | (simp; done) | (simp; omega) | (simp [*]; done)) rfl ?_
              refine Ops.sk rfl (by first | rfl | assumption | exact decide_eq_true (by assumption) | exact decide_eq_false (by assumption) | decide | (simp; done) | (simp; omega) | (simp [*]; done)) rfl ?_
              refine Ops.sk rfl (by first | rfl | assumption | exact decide_eq_true (by assumption) | exact decide_eq_false (by assumption) | decide | (simp; done) | (simp; omega) | (simp [*]; done)) rfl ?_
              refine Ops.sk rfl (by first | rfl | assumption | exact decide_eq_true (by assumption) | exact decide_eq_false (by assumption) | decide | (simp; done) | (simp; omega) | (simp [*]; done)) rfl ?_
              refine Ops.sk rfl (by first | rfl | assumption | exact decide_eq_true (by assumption) | exact decide_eq_false (by assumption) | decide | (simp; done) | (simp; omega) | (simp [*]; done)) rfl ?_
              refine Ops.sk rfl (by first | rfl | assumption | exact decide_eq_true (by assumption) | exact decide_eq_false (by assumption) | decide | (simp; done) | (simp; omega) | (simp [*]; done)) rfl ?_
              refine Ops.skU rfl rfl ?_
              refine Ops.skU rfl rfl ?_
              refine Ops.skU rfl rfl ?_
              refine Ops.skU rfl rfl ?_
              refine Ops.skU rfl rfl ?_
              refine Ops.sk rfl (by first | rfl | assumption | exact decide_eq_true (by assumption) | exact decide_eq_false (by assumption) | decide | (simp; done) | (simp; omega) | (simp [*]; done)) rfl ?_
              refine Ops.r (Run.pickF rfl rfl (by first | rfl | assumption | exact decide_eq_true (by assumption) | exact decide_eq_false (by assumption) | decide | (simp; done) | (simp; omega) | (simp [*]; done))) rfl ?_
              refine Ops.r (Run.asg rfl) rfl ?_
              refine Ops.nil ?_
              refine thenQ_n ⟨(.cons (congrArg (fun b => some (Value.bool b)) (by simp [hrs, *])) (.cons rfl (.cons rfl (.cons rfl (.cons rfl (.cons rfl .nil)))))), rfl⟩
          · intro Γ hΓ
            refine blockQ_n (thenQ_n (VC.sub _ hΓ ?_))
            refine VC.region ?_
            refine Ops.r (Run.mv rfl) rfl ?_
            refine Ops.r (Run.bin rfl rfl (Bin.add_i64 _ 1 (by omega))) rfl ?_
            refine Ops.r (Run.asg rfl) rfl ?_
            refine Ops.nil ?_
            refine thenQ_n ⟨(i + 1), (.cons rfl (.cons rfl (.cons rfl (.cons rfl (.cons rfl (.cons rfl .nil)))))), ?_, ?_⟩
            · skip
              exact ⟨hc2, rfl⟩
            · skip
              first | omega | (dsimp only; omega)
        · skip
          have hil : i = b.length := by omega
          subst hil
          refine VC.exit ?_
          refine thenQ_x (thenQ_x (blockQ_x ?_))
          refine thenQ_n ?_
          refine VC.sub [(0, _), (1, _), (7, _), (10, _)] (.cons rfl (.cons rfl (.cons rfl (.cons rfl .nil)))) ?_
          refine VC.seq ?_
          refine VC.seq ?_
          refine VC.region ?_
          refine Ops.r (Run.mv rfl) rfl ?_
          refine Ops.r (Run.not rfl) rfl ?_
          refine Ops.nil ?_
          refine thenQ_n ?_
          refine VC.sub [(0, _), (1, _), (7, _), (83, _)] (.cons rfl (.cons rfl (.cons rfl (.cons rfl .nil)))) ?_
          refine VC.condB rfl (fun hc3 => ?_) (fun hc3 => ?_)
          · skip
            refine VC.seq ?_
            refine VC.region ?_
            refine Ops.cl (Enters.fn evs.nil Try.call47) (awake10_spec _) rfl ?_
            rintro e w8 ⟨rfl, hf8⟩
            refine ⟨_, rfl, ?_⟩
            refine Ops.r (Run.asg rfl) rfl ?_
            refine Ops.nil ?_
            refine thenQ_n ?_
            refine VC.sub [(6, _)] (.cons rfl .nil) ?_
            refine VC.ret ?_
            refine thenQ_r (end1 rfl ?_)
            exact ⟨rfl, hf3.own hf8 (by simp)⟩
          · skip
            have hrt : rgt a b m b.length := by simpa using hc3
            have hbest := best_all hR hbl hrt
            have hRo := res_okC hR
            refine VC.skip ?_
            refine thenQ_n ?_
            refine VC.sub [(0, _), (1, _), (7, _)] (.cons rfl (.cons rfl (.cons rfl .nil))) ?_
            refine VC.seq ?_
            refine VC.region ?_
            refine Ops.r (Run.mv rfl) rfl ?_
            refine Ops.r (Run.mv rfl) rfl ?_
            refine Ops.cl (Enters.fn (evs.cons rfl (evs.cons rfl evs.nil)) Try.call48) (cost_spec A1 B3 c1 c3 a R _ (by omega) (by omega) ha3 hr3) rfl ?_
            rintro e _ ⟨rfl, rfl⟩
            rw [if_pos hRo.2]
            refine ⟨_, rfl, ?_⟩
            refine Ops.r (Run.mv rfl) rfl ?_
            refine Ops.r (Run.extract rfl rfl) rfl ?_
            refine Ops.r (Run.extract rfl rfl) rfl ?_
            refine Ops.r (Run.asg rfl) rfl ?_
            refine Ops.r (Run.asg rfl) rfl ?_
            refine Ops.nil ?_
            refine thenQ_n ?_
            refine VC.sub [(0, _), (1, _), (12, _), (13, _)] (.cons rfl (.cons rfl (.cons rfl (.cons rfl .nil)))) ?_
            refine VC.seq ?_
            refine VC.region ?_
            refine Ops.r (Run.mv rfl) rfl ?_
            refine Ops.r (Run.mv rfl) rfl ?_
            refine Ops.cl (Enters.fn (evs.cons rfl (evs.cons rfl evs.nil)) Try.call48) (cost_spec A1 B1 c1 d1 a b _ (by omega) (by omega) ha3 hb3) rfl ?_
            rintro e _ ⟨rfl, rfl⟩
            rw [if_pos hbest.1]
            refine ⟨_, rfl, ?_⟩
            have hcc := hbest.2
            refine Ops.r (Run.mv rfl) rfl ?_
            refine Ops.r (Run.extract rfl rfl) rfl ?_
            refine Ops.r (Run.extract rfl rfl) rfl ?_
            refine Ops.r (Run.asg rfl) rfl ?_
            refine Ops.r (Run.asg rfl) rfl ?_
            refine Ops.nil ?_
            refine thenQ_n ?_
            refine VC.sub [(12, _), (13, _), (14, _), (15, _)] (.cons rfl (.cons rfl (.cons rfl (.cons rfl .nil)))) ?_
            refine VC.seq ?_
            refine VC.region ?_
            refine Ops.r (Run.mv rfl) rfl ?_
            refine Ops.r (Run.bin rfl rfl (Bin.eqlN _ 0)) rfl ?_
            refine Ops.r (Run.mv rfl) rfl ?_
            refine Ops.rg rfl (by first | rfl | assumption | exact decide_eq_true (by assumption) | exact decide_eq_false (by assumption) | decide | (simp; done) | (simp; omega) | (simp [*]; done)) (Run.mv rfl) rfl ?_
            refine Ops.rg rfl (by first | rfl | assumption | exact decide_eq_true (by assumption) | exact decide_eq_false (by assumption) | decide | (simp; done) | (simp; omega) | (simp [*]; done)) (Run.bin rfl rfl (Bin.eqlN _ 0)) rfl ?_
            refine Ops.r (Run.pickT rfl rfl (by first | rfl | assumption | exact decide_eq_true (by assumption) | exact decide_eq_false (by assumption) | decide | (simp; done) | (simp; omega) | (simp [*]; done))) rfl ?_
            refine Ops.r (Run.mv rfl) rfl ?_
            refine Ops.rg rfl (by first | rfl | assumption | exact decide_eq_true (by assumption) | exact decide_eq_false (by assumption) | decide | (simp; done) | (simp; omega) | (simp [*]; done)) (Run.mv rfl) rfl ?_
            refine Ops.rg rfl (by first | rfl | assumption | exact decide_eq_true (by assumption) | exact decide_eq_false (by assumption) | decide | (simp; done) | (simp; omega) | (simp [*]; done)) (Run.mv rfl) rfl ?_
            refine Ops.rg rfl (by first | rfl | assumption | exact decide_eq_true (by assumption) | exact decide_eq_false (by assumption) | decide | (simp; done) | (simp; omega) | (simp [*]; done)) (Run.bin rfl rfl (Bin.leq _ _)) rfl ?_
            refine Ops.r (Run.pickT rfl rfl (by first | rfl | assumption | exact decide_eq_true (by assumption) | exact decide_eq_false (by assumption) | decide | (simp; done) | (simp; omega) | (simp [*]; done))) rfl ?_
            refine Ops.r (Run.mv rfl) rfl ?_
            refine Ops.clg rfl (by first | rfl | assumption | exact decide_eq_true (by assumption) | exact decide_eq_false (by assumption) | decide | (simp; done) | (simp; omega) | (simp [*]; done)) (Enters.fn evs.nil Try.call47) (awake10_spec _) rfl ?_
            rintro e w8 ⟨rfl, hf8⟩
            refine ⟨_, rfl, ?_⟩
            refine Ops.r (Run.pickT rfl rfl (by first | rfl | assumption | exact decide_eq_true (by assumption) | exact decide_eq_false (by assumption) | decide | (simp; done) | (simp; omega) | (simp [*]; done))) rfl ?_
            refine Ops.r (Run.asg rfl) rfl ?_
            refine Ops.nil ?_
            refine thenQ_n ?_
            refine VC.sub [(6, _)] (.cons rfl .nil) ?_
            refine VC.ret ?_
            refine end1 rfl ?_
            exact ⟨rfl, hf3.own hf8 (by simp)⟩

end Go.Proofs.Ytebaojedpnnliaa
