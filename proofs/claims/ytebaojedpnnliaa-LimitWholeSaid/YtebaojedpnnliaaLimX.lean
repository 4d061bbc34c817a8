/-
  The walk of the law 'LimitLengths'.
-/
import Derived.Test.YtebaojedpnnliaaLimV
namespace Go.Proofs.Ytebaojedpnnliaa
open Go.RowKit

theorem NI_IB (l : List Nat) : NI l = IB (l.map fun x : Nat => (x : Int)) := by simp [NI, IB]
theorem lenP_len (n m : Nat) (own : List (Nat × List Nat)) : (lenP n m own).length = n := by
  unfold lenP
  split <;> simp [vecOf]
/-- What the lengths of counts are, and the error's number. -/
def LenRes (l : List Int) (m : Int) (R : List Int) (ev : Nat) : Prop :=
  ((¬ mayB l ∨ m < 1 ∨ 15 < m) ∧ R = [] ∧ ev = 1) ∨ (¬ (¬ mayB l ∨ m < 1 ∨ 15 < m) ∧ ∃ own, IsCoins (l.map Int.toNat) own ∧ ((2 ^ m.toNat < own.length ∧ R = [] ∧ ev = 8) ∨ (¬ 2 ^ m.toNat < own.length ∧ R = (lenP l.length m.toNat own).map (fun x : Nat => (x : Int)) ∧ ev = 0)))
theorem LenRes.uniq {l : List Int} {m : Int} {R R' : List Int} {ev ev' : Nat} (h : LenRes l m R ev) (h' : LenRes l m R' ev') : R = R' ∧ ev = ev' := by
  rcases h with ⟨h1, rfl, rfl⟩ | ⟨h1, own, ho, h⟩ <;> rcases h' with ⟨h2, rfl, rfl⟩ | ⟨h2, own', ho', h'⟩
  · exact ⟨rfl, rfl⟩
  · exact absurd h1 h2
  · exact absurd h2 h1
  · obtain rfl := coins_unique ho ho'
    rcases h with ⟨h3, rfl, rfl⟩ | ⟨h3, rfl, rfl⟩ <;> rcases h' with ⟨h4, rfl, rfl⟩ | ⟨h4, rfl, rfl⟩
    · exact ⟨rfl, rfl⟩
    · exact absurd h3 h4
    · exact absurd h4 h3
    · exact ⟨rfl, rfl⟩
theorem lenRes_of {l : List Int} {m : Int} {e : Ending} {w' : World}
    (h : if ¬ mayB l ∨ m < 1 ∨ 15 < m then e = .returned (.tuple #[.slice none 0 0, .int .i64 ((1 : Nat) : Int)])
      else ∃ own, IsCoins (l.map Int.toNat) own ∧ if 2 ^ m.toNat < own.length then e = .returned (.tuple #[.slice none 0 0, .int .i64 ((8 : Nat) : Int)])
        else ∃ B c, e = .returned (.tuple #[.slice B l.length c, .int .i64 ((0 : Nat) : Int)]) ∧ Own w' 3 1 B l.length c (NI (lenP l.length m.toNat own))) :
    ∃ R ev B c, e = .returned (.tuple #[.slice B R.length c, .int .i64 ((ev : Nat) : Int)]) ∧ LenRes l m R ev ∧ Rd w' 1 B R.length (IB R) ∧ R.length ≤ l.length := by
  by_cases h1 : ¬ mayB l ∨ m < 1 ∨ 15 < m
  · rw [if_pos h1] at h
    exact ⟨[], 1, none, 0, h, .inl ⟨h1, rfl, rfl⟩, Rd.nil _ _ _, by simp⟩
  · rw [if_neg h1] at h
    obtain ⟨own, ho, h⟩ := h
    by_cases h2 : 2 ^ m.toNat < own.length
    · rw [if_pos h2] at h
      exact ⟨[], 8, none, 0, h, .inr ⟨h1, own, ho, .inl ⟨h2, rfl, rfl⟩⟩, Rd.nil _ _ _, by simp⟩
    · rw [if_neg h2] at h
      obtain ⟨B, c, he, hO⟩ := h
      refine ⟨(lenP l.length m.toNat own).map fun x : Nat => (x : Int), 0, B, c, by rw [List.length_map, lenP_len]; exact he, .inr ⟨h1, own, ho, .inr ⟨h2, rfl, rfl⟩⟩, ?_, by rw [List.length_map, lenP_len]; exact Nat.le_refl _⟩
      rw [List.length_map, lenP_len, ← NI_IB]
      exact hO.rd

set_option maxRecDepth 100000 in
theorem lengths_walk (A : Option Addr) (n c : Nat) (a : List Int) (m : Int) (w : World) (hn : a.length = n) (hc : n ≤ c) (ha : Rd w 1 A n (IB a)) :
    Calls Try.prog 9 #[.slice A n c, .int .i64 m] w fun e w' => e = .returned (.bool true) ∧ Frm [] w w' := by
  subst hn
  refine VC.calls (nt := 43) (res := #[.tmp 4]) Try.func9 rfl Try.ntmps9 Try.results9 rfl ?_
  refine VC.seq ?_
  refine VC.region ?_
  refine Ops.r (Run.asg rfl) rfl ?_
  refine Ops.nil ?_
  refine thenQ_n ?_
  refine VC.sub [(0, _), (1, _)] (.cons rfl (.cons rfl .nil)) ?_
  refine VC.seq ?_
  refine VC.region ?_
  refine Ops.r (Run.mv rfl) rfl ?_
  refine Ops.cl (Enters.fn (evs.cons rfl evs.nil) Try.call43) (few10_spec A c a _ hc ha) rfl ?_
  rintro e _ ⟨⟨A1, c1, rfl, ha1, hc1⟩, rfl⟩
  refine ⟨_, rfl, ?_⟩
  have hla := fewL_len a
  generalize fewL a = a at *
  refine Ops.r (Run.asg rfl) rfl ?_
  refine Ops.nil ?_
  refine thenQ_n ?_
  refine VC.sub [(0, _), (1, _)] (.cons rfl (.cons rfl .nil)) ?_
  refine VC.seq ?_
  refine VC.region ?_
  refine Ops.m (Does.buildS0 Try.underlying54 Try.sizeOf3) rfl ?_
  rintro _ w1 ⟨rfl, hF1⟩
  have ho1 : Own w1 3 1 (some ⟨w.heap.size, 0, none⟩) 0 0 [] := Own.of_blk (n := 0) hF1.blk rfl (by decide)
  have hup1 : ∀ x ∈ ob (some (⟨w.heap.size, 0, none⟩ : Addr)), w.heap.size ≤ x := fun x hx => by simp [ob] at hx; omega
  refine Ops.r (Run.mv rfl) rfl ?_
  refine Ops.m (Does.app rfl rfl Try.underlying54 (info3) rfl (by decide) ho1 (ha1.frm hF1.frm (by simp)) (IB_one a) (by omega) (by omega)) rfl ?_
  rintro _ w2 ⟨B2, cb2, rfl, ho2, hf2, hob2⟩
  rw [Nat.zero_add]
  rw [Nat.zero_add, List.nil_append] at ho2
  have hfr2 := hF1.frm.own hf2 hup1
  refine Ops.r (Run.asg rfl) rfl ?_
  refine Ops.nil ?_
  refine thenQ_n ?_
  refine VC.sub [(0, _), (1, _), (5, _)] (.cons rfl (.cons rfl (.cons rfl .nil))) ?_
  refine VC.seq ?_
  refine VC.region ?_
  refine Ops.r (Run.mv rfl) rfl ?_
  refine Ops.r (Run.mv rfl) rfl ?_
  refine Ops.cl (Enters.fn (evs.cons rfl (evs.cons rfl evs.nil)) Try.call44) (lengths_spec B2 cb2 a m _ (by omega) ho2.rd) rfl ?_
  rintro e w3 ⟨hf3, he⟩
  obtain ⟨R, ev, B3, c3, rfl, hR, hr3, hRl⟩ := lenRes_of (w' := w3) (e := e) (by
    split at he
    · rename_i h; rw [if_pos h]; exact he
    · rename_i h
      rw [if_neg h]
      obtain ⟨own, ho, h2⟩ := he
      refine ⟨own, ho, ?_⟩
      split at h2
      · rename_i h3; rw [if_pos h3]; exact h2
      · rename_i h3; rw [if_neg h3]; obtain ⟨B, c, h4, h5, _⟩ := h2; exact ⟨B, c, h4, h5⟩)
  refine ⟨_, rfl, ?_⟩
  have hfr3 := hfr2.own hf3 (by simp)
  refine Ops.r (Run.mv rfl) rfl ?_
  refine Ops.r (Run.extract rfl rfl) rfl ?_
  refine Ops.r (Run.extract rfl rfl) rfl ?_
  refine Ops.r (Run.asg rfl) rfl ?_
  refine Ops.r (Run.asg rfl) rfl ?_
  refine Ops.nil ?_
  refine thenQ_n ?_
  refine VC.sub [(0, _), (1, _), (5, _), (6, _), (7, _)] (.cons rfl (.cons rfl (.cons rfl (.cons rfl (.cons rfl .nil))))) ?_
  refine VC.seq ?_
  refine VC.region ?_
  refine Ops.r (Run.mv rfl) rfl ?_
  refine Ops.r (Run.mv rfl) rfl ?_
  refine Ops.cl (Enters.fn (evs.cons rfl (evs.cons rfl evs.nil)) Try.call45) (refLengths_spec A1 c1 a m _ (by omega) (ha1.belowW hfr3.below)) rfl ?_
  rintro e w4 ⟨hf4, he⟩
  obtain ⟨R', ev', B4, c4, rfl, hR', hr4, hRl'⟩ := lenRes_of he
  obtain ⟨rfl, rfl⟩ := hR.uniq hR'
  refine ⟨_, rfl, ?_⟩
  have hfr4 := hfr3.own hf4 (by simp)
  refine Ops.r (Run.mv rfl) rfl ?_
  refine Ops.r (Run.extract rfl rfl) rfl ?_
  refine Ops.r (Run.extract rfl rfl) rfl ?_
  refine Ops.r (Run.asg rfl) rfl ?_
  refine Ops.r (Run.asg rfl) rfl ?_
  refine Ops.nil ?_
  refine thenQ_n ?_
  refine VC.sub [(0, _), (5, _), (6, _), (7, _), (8, _), (9, _)] (.cons rfl (.cons rfl (.cons rfl (.cons rfl (.cons rfl (.cons rfl .nil)))))) ?_
  refine VC.seq ?_
  refine VC.region ?_
  refine Ops.r (Run.mv rfl) rfl ?_
  refine Ops.r (Run.mv rfl) rfl ?_
  refine Ops.cl (Enters.fn (evs.cons rfl (evs.cons rfl evs.nil)) Try.call46) (same10_spec B3 B4 c3 c4 R R _ (by omega) (by omega) (hr3.frm hf4 (by simp)) hr4) rfl ?_
  rintro e w5 ⟨rfl, hd5⟩
  refine ⟨_, rfl, ?_⟩
  refine Ops.r (Run.mv rfl) rfl ?_
  refine Ops.rg rfl (by first | rfl | assumption | exact decide_eq_true (by assumption) | exact decide_eq_false (by assumption) | decide | (simp; done) | (simp; omega) | (simp [*]; done)) (Run.mv rfl) rfl ?_
  refine Ops.rg rfl (by first | rfl | assumption | exact decide_eq_true (by assumption) | exact decide_eq_false (by assumption) | decide | (simp; done) | (simp; omega) | (simp [*]; done)) (Run.mv rfl) rfl ?_
  refine Ops.rg rfl (by first | rfl | assumption | exact decide_eq_true (by assumption) | exact decide_eq_false (by assumption) | decide | (simp; done) | (simp; omega) | (simp [*]; done)) (Run.bin rfl rfl (Bin.eqlN _ _)) rfl ?_
  refine Ops.r (Run.pickT rfl rfl (by first | rfl | assumption | exact decide_eq_true (by assumption) | exact decide_eq_false (by assumption) | decide | (simp; done) | (simp; omega) | (simp [*]; done))) rfl ?_
  refine Ops.r (Run.mv rfl) rfl ?_
  refine Ops.rg rfl (by first | rfl | assumption | exact decide_eq_true (by assumption) | exact decide_eq_false (by assumption) | decide | (simp; done) | (simp; omega) | (simp [*]; done)) (Run.mv rfl) rfl ?_
  refine Ops.rg rfl (by first | rfl | assumption | exact decide_eq_true (by assumption) | exact decide_eq_false (by assumption) | decide | (simp; done) | (simp; omega) | (simp [*]; done)) (Run.mv rfl) rfl ?_
  refine Ops.clg rfl (by first | rfl | assumption | exact decide_eq_true (by assumption) | exact decide_eq_false (by assumption) | decide | (simp; done) | (simp; omega) | (simp [*]; done)) (Enters.fn (evs.cons rfl (evs.cons rfl evs.nil)) Try.call46) (same10_spec B2 A1 cb2 c1 a a _ (by omega) (by omega) ((ho2.rd.frm (hf3.own hf4 (by simp)) (by simp)).drawn hd5) (ha1.belowW (hfr4.drawn hd5).below)) rfl ?_
  rintro e w6 ⟨rfl, hd6⟩
  refine ⟨_, rfl, ?_⟩
  refine Ops.r (Run.pickT rfl rfl (by first | rfl | assumption | exact decide_eq_true (by assumption) | exact decide_eq_false (by assumption) | decide | (simp; done) | (simp; omega) | (simp [*]; done))) rfl ?_
  refine Ops.r (Run.mv rfl) rfl ?_
  refine Ops.clg rfl (by first | rfl | assumption | exact decide_eq_true (by assumption) | exact decide_eq_false (by assumption) | decide | (simp; done) | (simp; omega) | (simp [*]; done)) (Enters.fn evs.nil Try.call47) (awake10_spec _) rfl ?_
  rintro e w7 ⟨rfl, hf7⟩
  refine ⟨_, rfl, ?_⟩
  refine Ops.r (Run.pickT rfl rfl (by first | rfl | assumption | exact decide_eq_true (by assumption) | exact decide_eq_false (by assumption) | decide | (simp; done) | (simp; omega) | (simp [*]; done))) rfl ?_
  refine Ops.r (Run.asg rfl) rfl ?_
  refine Ops.nil ?_
  refine thenQ_n ?_
  refine VC.sub [(4, _)] (.cons rfl .nil) ?_
  refine VC.ret ?_
  refine end1 rfl ?_
  exact ⟨by simp, ((hfr4.drawn hd5).drawn hd6).own hf7 (by simp)⟩

end Go.Proofs.Ytebaojedpnnliaa
