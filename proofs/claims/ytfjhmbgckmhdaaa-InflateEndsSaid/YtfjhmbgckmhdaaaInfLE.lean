/-
  The law 'InflateEnds' of layer 12: bounds, and what stands behind. No condition.
-/
import Derived.Test.YtfjhmbgckmhdaaaInfLO
namespace Go.Proofs.Ytfjhmbgckmhdaaa
open Go.RowKit

set_option maxRecDepth 100000 in
theorem ends_neg (B : Option Addr) (bl bc : Nat) (bs : List Nat) (n : Int) (C : Option Addr) (cl cc : Nat) (cs : List Nat) (w : World) (hbl : bs.length = bl) (hbc : bl ≤ bc) (hb : ∀ b ∈ bs, b < 256) (hr : Rd w 1 B bl (NB bs))
    (hcl : cs.length = cl) (hcc : cl ≤ cc) (hcb : ∀ b ∈ cs, b < 256) (hrc : Rd w 1 C cl (NB cs)) (hn : n < 0 ∧ -9223372036854775808 ≤ n) :
    Calls Try.prog 4 #[.slice B bl bc, .int .i64 n, .slice C cl cc] w fun e w' => e = .returned (.bool true) ∧ Frm [] w w' := by
  subst hbl
  subst hcl
  refine VC.calls (nt := 156) (res := #[.tmp 6]) Try.func4 rfl Try.ntmps4 Try.results4 rfl ?_
  refine VC.seq ?_
  refine VC.region ?_
  refine Ops.r (Run.asg rfl) rfl ?_
  refine Ops.nil ?_
  refine thenQ_n ?_
  refine VC.sub [(0, _), (1, _), (2, _)] (.cons rfl (.cons rfl (.cons rfl .nil))) ?_
  refine VC.seq ?_
  refine VC.region ?_
  refine Ops.r (Run.mv rfl) rfl ?_
  refine Ops.cl (Enters.fn (evs.cons rfl evs.nil) Try.call8) (few12_spec B bc bs _ hbc hr) rfl ?_
  rintro e _ ⟨⟨B1, c1, rfl, hcB, hr1⟩, rfl⟩
  refine ⟨_, rfl, ?_⟩
  have hb1 : ∀ b ∈ bs.take 400, b < 256 := fun b hb' => hb b (List.mem_of_mem_take hb')
  have hl1 : (bs.take 400).length ≤ 400 := by simp; omega
  generalize bs.take 400 = b1 at *
  refine Ops.r (Run.mv rfl) rfl ?_
  refine Ops.cl (Enters.fn (evs.cons rfl evs.nil) Try.call9) (bound12_spec n _) rfl ?_
  rintro e _ ⟨⟨m, rfl, hm3, hm⟩, rfl⟩
  rw [if_neg (by omega)] at hm
  subst hm
  refine ⟨_, rfl, ?_⟩
  refine Ops.r (Run.asg rfl) rfl ?_
  refine Ops.r (Run.asg rfl) rfl ?_
  refine Ops.nil ?_
  refine thenQ_n ?_
  refine VC.sub [(0, _), (1, _), (2, _)] (.cons rfl (.cons rfl (.cons rfl .nil))) ?_
  refine VC.seq ?_
  refine VC.region ?_
  refine Ops.r (Run.mv rfl) rfl ?_
  refine Ops.r (Run.mv rfl) rfl ?_
  refine Ops.cl (Enters.fn (evs.cons rfl (evs.cons rfl evs.nil)) Try.call10) (infl_spec B1 c1 b1 m _ (by omega) (by omega) hb1 hr1) rfl ?_
  rintro e w2 ⟨hf2, he⟩
  rw [show inflF b1 m = .error 1 from if_pos hn.1] at he
  subst he
  have hr2 := hr1.frm hf2 (by simp)
  refine ⟨_, rfl, ?_⟩
  refine Ops.r (Run.mv rfl) rfl ?_
  refine Ops.r (Run.extract rfl rfl) rfl ?_
  refine Ops.r (Run.extract rfl rfl) rfl ?_
  refine Ops.r (Run.extract rfl rfl) rfl ?_
  refine Ops.r (Run.asg rfl) rfl ?_
  refine Ops.r (Run.asg rfl) rfl ?_
  refine Ops.r (Run.asg rfl) rfl ?_
  refine Ops.nil ?_
  refine thenQ_n ?_
  refine VC.sub [(0, _), (1, _), (2, _), (7, _), (8, _), (9, _)] (.cons rfl (.cons rfl (.cons rfl (.cons rfl (.cons rfl (.cons rfl .nil)))))) ?_
  refine VC.seq ?_
  refine VC.seq ?_
  refine VC.region ?_
  refine Ops.r (Run.mv rfl) rfl ?_
  refine Ops.r (Run.bin rfl rfl (Bin.neqN _ 0)) rfl ?_
  refine Ops.nil ?_
  refine thenQ_n ?_
  refine VC.sub [(0, _), (1, _), (2, _), (7, _), (8, _), (9, _), (34, _)] (.cons rfl (.cons rfl (.cons rfl (.cons rfl (.cons rfl (.cons rfl (.cons rfl .nil))))))) ?_
  refine VC.condT rfl (rfl) ?_
  refine VC.seq ?_
  refine VC.seq ?_
  refine VC.region ?_
  refine Ops.r (Run.mv rfl) rfl ?_
  refine Ops.r (Run.lenS rfl Try.underlying22) rfl ?_
  refine Ops.r (Run.bin rfl rfl (Bin.neqN _ 0)) rfl ?_
  refine Ops.r (Run.mv rfl) rfl ?_
  skip
  refine Ops.rg rfl (by first | rfl | assumption | exact decide_eq_true (by assumption) | exact decide_eq_false (by assumption) | decide | (simp; done) | (simp; omega) | (simp [*]; done)) (Run.mv rfl) rfl ?_
  refine Ops.rg rfl (by first | rfl | assumption | exact decide_eq_true (by assumption) | exact decide_eq_false (by assumption) | decide | (simp; done) | (simp; omega) | (simp [*]; done)) (Run.bin rfl rfl (Bin.neqN _ 0)) rfl ?_
  refine Ops.r (Run.pickF rfl rfl (by first | rfl | assumption | exact decide_eq_true (by assumption) | exact decide_eq_false (by assumption) | decide | (simp; done) | (simp; omega) | (simp [*]; done))) rfl ?_
  refine Ops.nil ?_
  refine thenQ_n ?_
  refine VC.sub [(0, _), (1, _), (9, _), (41, _)] (.cons rfl (.cons rfl (.cons rfl (.cons rfl .nil)))) ?_
  refine VC.condF rfl (rfl) ?_
  refine VC.skip ?_
  refine thenQ_n ?_
  refine VC.sub [(0, _), (1, _), (9, _)] (.cons rfl (.cons rfl (.cons rfl .nil))) ?_
  refine VC.seq ?_
  refine VC.seq ?_
  refine VC.region ?_
  refine Ops.r (Run.mv rfl) rfl ?_
  have hneg : decide (m < 0) = true := decide_eq_true hn.1
  refine Ops.r (Run.bin rfl rfl (Bin.lss _ 0)) rfl ?_
  refine Ops.r (Run.mv rfl) rfl ?_
  refine Ops.sk rfl (by first | rfl | assumption | (simp; done) | (simp [*]; done) | (simp; omega)) rfl ?_
  refine Ops.sk rfl (by first | rfl | assumption | (simp; done) | (simp [*]; done) | (simp; omega)) rfl ?_
  refine Ops.r (Run.pickT rfl rfl (by first | rfl | assumption | exact decide_eq_true (by assumption) | exact decide_eq_false (by assumption) | decide | (simp; done) | (simp; omega) | (simp [*]; done))) rfl ?_
  refine Ops.nil ?_
  refine thenQ_n ?_
  refine VC.sub [(0, _), (1, _), (9, _), (47, _)] (.cons rfl (.cons rfl (.cons rfl (.cons rfl .nil)))) ?_
  refine VC.condT rfl (rfl) ?_
  refine VC.seq ?_
  refine VC.region ?_
  refine Ops.r (Run.mv rfl) rfl ?_
  refine Ops.r (Run.mv rfl) rfl ?_
  refine Ops.r (Run.bin rfl rfl (Bin.addZ _ 1 (by omega) (by omega))) rfl ?_
  refine Ops.cl (Enters.fn (evs.cons rfl (evs.cons rfl evs.nil)) Try.call10) (infl_out B1 c1 b1 (m + 1) _ (by omega) (by omega) hb1 hr2) rfl ?_
  rintro e w3 ⟨hf3, A3, c3, y, u, f, rfl, ho3, hlt3, hS3⟩
  have hfr3 := hf2.trans hf3 (by simp)
  refine ⟨_, rfl, ?_⟩
  refine Ops.r (Run.mv rfl) rfl ?_
  refine Ops.r (Run.extract rfl rfl) rfl ?_
  refine Ops.r (Run.extract rfl rfl) rfl ?_
  refine Ops.r (Run.extract rfl rfl) rfl ?_
  refine Ops.r (Run.asg rfl) rfl ?_
  refine Ops.r (Run.asg rfl) rfl ?_
  refine Ops.r (Run.asg rfl) rfl ?_
  refine Ops.nil ?_
  refine thenQ_n ?_
  refine VC.sub [(1, _), (9, _), (12, _)] (.cons rfl (.cons rfl (.cons rfl .nil))) ?_
  refine VC.seq ?_
  refine VC.region ?_
  refine Ops.r (Run.mv rfl) rfl ?_
  refine Ops.r (Run.bin rfl rfl (Bin.lss _ 0)) rfl ?_
  refine Ops.r (Run.mv rfl) rfl ?_
  refine Ops.sk rfl (by first | rfl | assumption | (simp; done) | (simp [*]; done) | (simp; omega)) rfl ?_
  refine Ops.sk rfl (by first | rfl | assumption | (simp; done) | (simp [*]; done) | (simp; omega)) rfl ?_
  refine Ops.sk rfl (by first | rfl | assumption | (simp; done) | (simp [*]; done) | (simp; omega)) rfl ?_
  refine Ops.r (Run.pickT rfl rfl (by first | rfl | assumption | exact decide_eq_true (by assumption) | exact decide_eq_false (by assumption) | decide | (simp; done) | (simp; omega) | (simp [*]; done))) rfl ?_
  refine Ops.r (Run.mv rfl) rfl ?_
  refine Ops.clg rfl (by first | rfl | assumption | exact decide_eq_true (by assumption) | exact decide_eq_false (by assumption) | decide | (simp; done) | (simp; omega) | (simp [*]; done)) (Enters.fn evs.nil Try.call12) (awake12_spec _) rfl ?_
  rintro e w8 ⟨rfl, hf8⟩
  refine ⟨_, rfl, ?_⟩
  refine Ops.r (Run.pickT rfl rfl (by first | rfl | assumption | exact decide_eq_true (by assumption) | exact decide_eq_false (by assumption) | decide | (simp; done) | (simp; omega) | (simp [*]; done))) rfl ?_
  refine Ops.r (Run.asg rfl) rfl ?_
  refine Ops.nil ?_
  refine thenQ_n ?_
  refine VC.sub [(6, _)] (.cons rfl .nil) ?_
  refine VC.ret ?_
  refine thenQ_r (thenQ_r (end1 rfl ?_))
  exact ⟨rfl, hfr3.trans hf8 (by simp)⟩

set_option maxRecDepth 100000 in
theorem ends_pos (B : Option Addr) (bl bc : Nat) (bs : List Nat) (n : Int) (C : Option Addr) (cl cc : Nat) (cs : List Nat) (w : World) (hbl : bs.length = bl) (hbc : bl ≤ bc) (hb : ∀ b ∈ bs, b < 256) (hr : Rd w 1 B bl (NB bs))
    (hcl : cs.length = cl) (hcc : cl ≤ cc) (hcb : ∀ b ∈ cs, b < 256) (hrc : Rd w 1 C cl (NB cs)) (hn : 0 ≤ n) :
    Calls Try.prog 4 #[.slice B bl bc, .int .i64 n, .slice C cl cc] w fun e w' => e = .returned (.bool true) ∧ Frm [] w w' := by
  subst hbl
  subst hcl
  refine VC.calls (nt := 156) (res := #[.tmp 6]) Try.func4 rfl Try.ntmps4 Try.results4 rfl ?_
  refine VC.seq ?_
  refine VC.region ?_
  refine Ops.r (Run.asg rfl) rfl ?_
  refine Ops.nil ?_
  refine thenQ_n ?_
  refine VC.sub [(0, _), (1, _), (2, _)] (.cons rfl (.cons rfl (.cons rfl .nil))) ?_
  refine VC.seq ?_
  refine VC.region ?_
  refine Ops.r (Run.mv rfl) rfl ?_
  refine Ops.cl (Enters.fn (evs.cons rfl evs.nil) Try.call8) (few12_spec B bc bs _ hbc hr) rfl ?_
  rintro e _ ⟨⟨B1, c1, rfl, hcB, hr1⟩, rfl⟩
  refine ⟨_, rfl, ?_⟩
  have hb1 : ∀ b ∈ bs.take 400, b < 256 := fun b hb' => hb b (List.mem_of_mem_take hb')
  have hl1 : (bs.take 400).length ≤ 400 := by simp; omega
  generalize bs.take 400 = b1 at *
  refine Ops.r (Run.mv rfl) rfl ?_
  refine Ops.cl (Enters.fn (evs.cons rfl evs.nil) Try.call9) (bound12_spec n _) rfl ?_
  rintro e _ ⟨⟨m0, rfl, hm3, hm⟩, rfl⟩
  obtain ⟨m, rfl⟩ : ∃ m : Nat, m0 = (m : Int) := ⟨m0.toNat, by split at hm <;> omega⟩
  clear hm
  refine ⟨_, rfl, ?_⟩
  refine Ops.r (Run.asg rfl) rfl ?_
  refine Ops.r (Run.asg rfl) rfl ?_
  refine Ops.nil ?_
  refine thenQ_n ?_
  refine VC.sub [(0, _), (1, _), (2, _)] (.cons rfl (.cons rfl (.cons rfl .nil))) ?_
  refine VC.seq ?_
  refine VC.region ?_
  refine Ops.r (Run.mv rfl) rfl ?_
  refine Ops.r (Run.mv rfl) rfl ?_
  refine Ops.cl (Enters.fn (evs.cons rfl (evs.cons rfl evs.nil)) Try.call10) (infl_outn B1 c1 _ b1 m _ rfl (by omega) (by omega) hb1 hr1) rfl ?_
  rintro e w2 ⟨hf2, A2, c2, o2, u2, k2, rfl, ho2, hlt2, hS2⟩
  refine ⟨_, rfl, ?_⟩
  have hr2 := hr1.frm hf2 (by simp)
  refine Ops.r (Run.mv rfl) rfl ?_
  refine Ops.r (Run.extract rfl rfl) rfl ?_
  refine Ops.r (Run.extract rfl rfl) rfl ?_
  refine Ops.r (Run.extract rfl rfl) rfl ?_
  refine Ops.r (Run.asg rfl) rfl ?_
  refine Ops.r (Run.asg rfl) rfl ?_
  refine Ops.r (Run.asg rfl) rfl ?_
  refine Ops.nil ?_
  refine thenQ_n ?_
  refine VC.sub [(0, _), (1, _), (2, _), (7, _), (8, _), (9, _)] (.cons rfl (.cons rfl (.cons rfl (.cons rfl (.cons rfl (.cons rfl .nil)))))) ?_
  refine VC.seq ?_
  refine VC.seq ?_
  refine VC.region ?_
  refine Ops.r (Run.mv rfl) rfl ?_
  refine Ops.r (Run.bin rfl rfl (Bin.neqN _ 0)) rfl ?_
  refine Ops.nil ?_
  refine thenQ_n ?_
  refine VC.sub [(0, _), (1, _), (2, _), (7, _), (8, _), (9, _), (34, _)] (.cons rfl (.cons rfl (.cons rfl (.cons rfl (.cons rfl (.cons rfl (.cons rfl .nil))))))) ?_
  refine VC.condD rfl (fun hc1 => ?_) (fun hc1 => ?_)
  · skip
    obtain ⟨rfl, rfl, hk, hF⟩ : o2 = [] ∧ u2 = 0 ∧ k2 ≠ 0 ∧ inflF b1 m = .error k2 := by
      rcases hS2 with ⟨h, _⟩ | h
      · exact absurd h (by omega)
      · exact h
    have hneg : decide ((m : Int) < 0) = false := decide_eq_false (by omega)
    refine VC.seq ?_
    refine VC.seq ?_
    refine VC.region ?_
    refine Ops.r (Run.mv rfl) rfl ?_
    refine Ops.r (Run.lenS rfl Try.underlying22) rfl ?_
    refine Ops.r (Run.bin rfl rfl (Bin.neqN _ 0)) rfl ?_
    refine Ops.r (Run.mv rfl) rfl ?_
    refine Ops.rg rfl (by first | rfl | assumption | exact decide_eq_true (by assumption) | exact decide_eq_false (by assumption) | decide | (simp; done) | (simp; omega) | (simp [*]; done)) (Run.mv rfl) rfl ?_
    refine Ops.rg rfl (by first | rfl | assumption | exact decide_eq_true (by assumption) | exact decide_eq_false (by assumption) | decide | (simp; done) | (simp; omega) | (simp [*]; done)) (Run.bin rfl rfl (Bin.neqN _ 0)) rfl ?_
    refine Ops.r (Run.pickF rfl rfl (by first | rfl | assumption | exact decide_eq_true (by assumption) | exact decide_eq_false (by assumption) | decide | (simp; done) | (simp; omega) | (simp [*]; done))) rfl ?_
    refine Ops.nil ?_
    refine thenQ_n ?_
    refine VC.sub [(0, _), (1, _), (9, _), (41, _)] (.cons rfl (.cons rfl (.cons rfl (.cons rfl .nil)))) ?_
    refine VC.condF rfl (rfl) ?_
    refine VC.skip ?_
    refine thenQ_n ?_
    refine VC.sub [(0, _), (1, _), (9, _)] (.cons rfl (.cons rfl (.cons rfl .nil))) ?_
    refine VC.seq ?_
    refine VC.seq ?_
    refine VC.region ?_
    refine Ops.r (Run.mv rfl) rfl ?_
    refine Ops.r (Run.bin rfl rfl (Bin.lss _ 0)) rfl ?_
    refine Ops.r (Run.mv rfl) rfl ?_
    refine Ops.rg rfl (by first | rfl | assumption | exact decide_eq_true (by assumption) | exact decide_eq_false (by assumption) | decide | (simp; done) | (simp; omega) | (simp [*]; done)) (Run.mv rfl) rfl ?_
    refine Ops.rg rfl (by first | rfl | assumption | exact decide_eq_true (by assumption) | exact decide_eq_false (by assumption) | decide | (simp; done) | (simp; omega) | (simp [*]; done)) (Run.bin rfl rfl (Bin.neqN _ 13)) rfl ?_
    refine Ops.r (Run.pickF rfl rfl (by first | rfl | assumption | exact decide_eq_true (by assumption) | exact decide_eq_false (by assumption) | decide | (simp; done) | (simp; omega) | (simp [*]; done))) rfl ?_
    refine Ops.nil ?_
    refine thenQ_n ?_
    refine VC.sub [(0, _), (1, _), (9, _), (47, _)] (.cons rfl (.cons rfl (.cons rfl (.cons rfl .nil)))) ?_
    refine VC.condB rfl (fun hc3 => ?_) (fun hc3 => ?_)
    · skip
      obtain hk13 : k2 ≠ 13 := by simpa using hc3
      refine VC.seq ?_
      refine VC.region ?_
      refine Ops.r (Run.mv rfl) rfl ?_
      refine Ops.r (Run.mv rfl) rfl ?_
      refine Ops.r (Run.bin rfl rfl (Bin.addZ _ 1 (by omega) (by omega))) rfl ?_
      refine Ops.cl (Enters.fn (evs.cons rfl (evs.cons rfl evs.nil)) Try.call10) (infl_outn B1 c1 _ b1 (m + 1 : Nat) _ rfl (by omega) (by omega) hb1 hr2) rfl ?_
      rintro e w3 ⟨hf3, A3, c3, o3, u3, k3, rfl, ho3, hlt3, hS3⟩
      refine ⟨_, rfl, ?_⟩
      have hfr3 := hf2.trans hf3 (by simp)
      refine Ops.r (Run.mv rfl) rfl ?_
      refine Ops.r (Run.extract rfl rfl) rfl ?_
      refine Ops.r (Run.extract rfl rfl) rfl ?_
      refine Ops.r (Run.extract rfl rfl) rfl ?_
      refine Ops.r (Run.asg rfl) rfl ?_
      refine Ops.r (Run.asg rfl) rfl ?_
      refine Ops.r (Run.asg rfl) rfl ?_
      refine Ops.nil ?_
      refine thenQ_n ?_
      refine VC.sub [(1, _), (9, _), (12, _)] (.cons rfl (.cons rfl (.cons rfl .nil))) ?_
      refine VC.seq ?_
      refine VC.region ?_
      refine Ops.r (Run.mv rfl) rfl ?_
      refine Ops.r (Run.bin rfl rfl (Bin.lss _ 0)) rfl ?_
      refine Ops.r (Run.mv rfl) rfl ?_
      refine Ops.rg rfl (by first | rfl | assumption | exact decide_eq_true (by assumption) | exact decide_eq_false (by assumption) | decide | (simp; done) | (simp; omega) | (simp [*]; done)) (Run.mv rfl) rfl ?_
      refine Ops.rg rfl (by first | rfl | assumption | exact decide_eq_true (by assumption) | exact decide_eq_false (by assumption) | decide | (simp; done) | (simp; omega) | (simp [*]; done)) (Run.mv rfl) rfl ?_
      refine Ops.rg rfl (by first | rfl | assumption | exact decide_eq_true (by assumption) | exact decide_eq_false (by assumption) | decide | (simp; done) | (simp; omega) | (simp [*]; done)) (Run.bin rfl rfl (Bin.eqlN _ _)) rfl ?_
      have hkk : k3 = k2 := by
        have h13 := inflF_up (bs := b1) (m := m) (m' := m + 1) (by omega)
        rw [hF] at h13
        rcases h13 with h | h
        · rcases hS3 with ⟨_, h1, _⟩ | ⟨_, _, _, h1⟩
          · have := h.trans h1; cases this
          · have := h.trans h1; injection this with h2; exact h2.symm
        · injection h with h; exact absurd h hk13
      subst hkk
      refine Ops.r (Run.pickF rfl rfl (by first | rfl | assumption | exact decide_eq_true (by assumption) | exact decide_eq_false (by assumption) | decide | (simp; done) | (simp; omega) | (simp [*]; done))) rfl ?_
      refine Ops.r (Run.mv rfl) rfl ?_
      refine Ops.clg rfl (by first | rfl | assumption | exact decide_eq_true (by assumption) | exact decide_eq_false (by assumption) | decide | (simp; done) | (simp; omega) | (simp [*]; done)) (Enters.fn evs.nil Try.call12) (awake12_spec _) rfl ?_
      rintro e w8 ⟨rfl, hf8⟩
      refine ⟨_, rfl, ?_⟩
      refine Ops.r (Run.pickT rfl rfl (by first | rfl | assumption | exact decide_eq_true (by assumption) | exact decide_eq_false (by assumption) | decide | (simp; done) | (simp; omega) | (simp [*]; done))) rfl ?_
      refine Ops.r (Run.asg rfl) rfl ?_
      refine Ops.nil ?_
      refine thenQ_n ?_
      refine VC.sub [(6, _)] (.cons rfl .nil) ?_
      refine VC.ret ?_
      refine thenQ_r (thenQ_r (end1 rfl ?_))
      exact ⟨rfl, hfr3.trans hf8 (by simp)⟩
    · skip
      refine VC.skip ?_
      refine thenQ_n ?_
      refine VC.sub [] .nil ?_
      refine VC.seq ?_
      refine VC.region ?_
      refine Ops.cl (Enters.fn evs.nil Try.call12) (awake12_spec _) rfl ?_
      rintro e w8 ⟨rfl, hf8⟩
      refine ⟨_, rfl, ?_⟩
      refine Ops.r (Run.asg rfl) rfl ?_
      refine Ops.nil ?_
      refine thenQ_n ?_
      refine VC.sub [(6, _)] (.cons rfl .nil) ?_
      refine VC.ret ?_
      refine thenQ_r (end1 rfl ?_)
      exact ⟨rfl, hf2.trans hf8 (by simp)⟩
  · skip
    obtain ⟨rfl, hF, hol, hul⟩ : k2 = 0 ∧ inflF b1 m = .ok (o2, u2) ∧ (o2.length : Int) ≤ m ∧ u2 ≤ b1.length := by
      rcases hS2 with h | ⟨_, _, h, _⟩
      · exact h
      · exact absurd h (by omega)
    have hol' : o2.length ≤ m := by omega
    refine VC.skip ?_
    refine thenQ_n ?_
    refine VC.sub [(0, _), (1, _), (2, _), (7, _), (8, _)] (.cons rfl (.cons rfl (.cons rfl (.cons rfl (.cons rfl .nil))))) ?_
    refine VC.seq ?_
    refine VC.seq ?_
    refine VC.region ?_
    refine Ops.r (Run.mv rfl) rfl ?_
    refine Ops.r (Run.lenS rfl Try.underlying22) rfl ?_
    refine Ops.r (Run.mv rfl) rfl ?_
    refine Ops.r (Run.bin rfl rfl (Bin.gtr _ _)) rfl ?_
    refine Ops.r (Run.mv rfl) rfl ?_
    refine Ops.rg rfl (by first | rfl | assumption | exact decide_eq_true (by assumption) | exact decide_eq_false (by assumption) | decide | (simp; done) | (simp; omega) | (simp [*]; done)) (Run.mv rfl) rfl ?_
    refine Ops.rg rfl (by first | rfl | assumption | exact decide_eq_true (by assumption) | exact decide_eq_false (by assumption) | decide | (simp; done) | (simp; omega) | (simp [*]; done)) (Run.mv rfl) rfl ?_
    refine Ops.rg rfl (by first | rfl | assumption | exact decide_eq_true (by assumption) | exact decide_eq_false (by assumption) | decide | (simp; done) | (simp; omega) | (simp [*]; done)) (Run.lenS rfl Try.underlying22) rfl ?_
    refine Ops.rg rfl (by first | rfl | assumption | exact decide_eq_true (by assumption) | exact decide_eq_false (by assumption) | decide | (simp; done) | (simp; omega) | (simp [*]; done)) (Run.bin rfl rfl (Bin.gtrN _ _)) rfl ?_
    refine Ops.r (Run.pickF rfl rfl (by first | rfl | assumption | exact decide_eq_true (by assumption) | exact decide_eq_false (by assumption) | decide | (simp; done) | (simp; omega) | (simp [*]; done))) rfl ?_
    refine Ops.nil ?_
    refine thenQ_n ?_
    refine VC.sub [(0, _), (1, _), (2, _), (7, _), (8, _), (76, _)] (.cons rfl (.cons rfl (.cons rfl (.cons rfl (.cons rfl (.cons rfl .nil)))))) ?_
    refine VC.condF rfl (by first | rfl | assumption | (simp; done) | (simp [*]; done) | (simp; omega)) ?_
    refine VC.skip ?_
    refine thenQ_n ?_
    refine VC.sub [(0, _), (1, _), (2, _), (7, _), (8, _)] (.cons rfl (.cons rfl (.cons rfl (.cons rfl (.cons rfl .nil))))) ?_
    refine VC.seq ?_
    refine VC.region ?_
    refine Ops.r (Run.mv rfl) rfl ?_
    refine Ops.r (Run.mv rfl) rfl ?_
    refine Ops.r (Run.bin rfl rfl (Bin.addZ _ 1 (by omega) (by omega))) rfl ?_
    refine Ops.cl (Enters.fn (evs.cons rfl (evs.cons rfl evs.nil)) Try.call10) (infl_outn B1 c1 _ b1 (m + 1 : Nat) _ rfl (by omega) (by omega) hb1 hr2) rfl ?_
    rintro e w3 ⟨hf3, A3, c3, o3, u3, k3, rfl, ho3, hlt3, hS3⟩
    refine ⟨_, rfl, ?_⟩
    have hfr3 := hf2.trans hf3 (by simp)
    have hr3 := hr2.frm hf3 (by simp)
    obtain ⟨rfl, rfl, rfl⟩ : o2 = o3 ∧ u2 = u3 ∧ k3 = 0 := by
      have hG : inflF b1 ((m + 1 : Nat) : Int) = .ok (o2, u2) := by
        rcases inflF_up (bs := b1) (m := m) (m' := m + 1) (by omega) with h | h
        · rw [← h, hF]
        · rw [hF] at h; cases h
      rcases hS3 with ⟨h1, h2, _⟩ | ⟨_, _, _, h2⟩
      · have := h2.symm.trans hG; injection this with h; injection h with h6 h7; exact ⟨h6.symm, h7.symm, h1⟩
      · have := h2.symm.trans hG; cases this
    refine Ops.r (Run.mv rfl) rfl ?_
    refine Ops.r (Run.extract rfl rfl) rfl ?_
    refine Ops.r (Run.extract rfl rfl) rfl ?_
    refine Ops.r (Run.extract rfl rfl) rfl ?_
    refine Ops.r (Run.asg rfl) rfl ?_
    refine Ops.r (Run.asg rfl) rfl ?_
    refine Ops.r (Run.asg rfl) rfl ?_
    refine Ops.nil ?_
    refine thenQ_n ?_
    refine VC.sub [(0, _), (1, _), (2, _), (7, _), (8, _), (13, _), (14, _), (15, _)] (.cons rfl (.cons rfl (.cons rfl (.cons rfl (.cons rfl (.cons rfl (.cons rfl (.cons rfl .nil)))))))) ?_
    refine VC.seq ?_
    refine VC.region ?_
    refine Ops.m (Does.buildS0 Try.underlying22 Try.sizeOf5) rfl ?_
    rintro _ w4 ⟨rfl, hF4⟩
    have K4 : Frm [] w3 w4 := hF4.frm
    have hown4 : Own w4 5 1 (some ⟨w3.heap.size, 0, none⟩) 0 0 [] := Own.of_blk (n := 0) (size := 1) hF4.blk rfl (by decide)
    have hr4 := hr3.frm hF4.frm (by simp)
    have hge3 := hfr3.size
    refine Ops.r (Run.mv rfl) rfl ?_
    refine Ops.m (Does.app rfl rfl Try.underlying22 (info5) rfl (by decide) hown4 hr4 (NB_one b1) (by omega) (by omega)) rfl ?_
    rintro _ w5 ⟨A5, c5, rfl, hown5, hfr5, hob5⟩
    have hs5 := hfr5.size
    have hge4 := hF4.frm.size
    have K5 : Frm [] w3 w5 := K4.trans hfr5 (fun x hx => .inr (by simp [ob] at hx; omega))
    have hfr5' : Frm [] w w5 := hfr3.trans K5 (by simp)
    refine Ops.r (Run.mv rfl) rfl ?_
    refine Ops.cl (Enters.fn (evs.cons rfl evs.nil) Try.call8) (few12_spec C cc cs _ hcc (hrc.frm hfr5' (by simp))) rfl ?_
    rintro e _ ⟨⟨C1, cc1, rfl, hcc1, hrc1⟩, rfl⟩
    refine ⟨_, rfl, ?_⟩
    have hcb1 : ∀ b ∈ cs.take 400, b < 256 := fun b hb' => hcb b (List.mem_of_mem_take hb')
    have hcl1 : (cs.take 400).length ≤ 400 := by simp; omega
    generalize cs.take 400 = d1 at *
    refine Ops.m (Does.app rfl rfl Try.underlying22 (info5) rfl (by decide) hown5 hrc1 (NB_one d1) (by omega) (by omega)) rfl ?_
    rintro _ w6 ⟨A6, c6, rfl, hown6, hfr6, hob6⟩
    have hA5 : ∀ x ∈ ob A5, w3.heap.size ≤ x := by
      rcases hob5 with h | h <;> (rw [h]; simp [ob]; try omega)
    have K6 : Frm [] w3 w6 := K5.trans hfr6 (fun x hx => .inr (hA5 x hx))
    have hr6 : Rd w6 1 A6 (b1 ++ d1).length (NB (b1 ++ d1)) := by
      rw [NB_append, List.length_append]
      have h := hown6.rd
      rw [List.nil_append, Nat.zero_add] at h
      exact h
    have hbd : ∀ b ∈ b1 ++ d1, b < 256 := fun b hb' => by
      rcases List.mem_append.1 hb' with h | h
      · exact hb1 b h
      · exact hcb1 b h
    refine Ops.r (Run.mv rfl) rfl ?_
    refine Ops.cl (Enters.fn (evs.cons rfl (evs.cons rfl evs.nil)) Try.call10) (infl_outn A6 c6 _ (b1 ++ d1) m _ (by simp) (by omega) (by simp; omega) hbd hr6) rfl ?_
    rintro e w7 ⟨hf7, A7, c7, o7, u7, k7, rfl, ho7, hlt7, hS7⟩
    refine ⟨_, rfl, ?_⟩
    have K7 := K6.trans hf7 (by simp)
    obtain ⟨rfl, rfl, rfl⟩ : o2 = o7 ∧ u2 = u7 ∧ k7 = 0 := by
      have hG := inflF_ext (c := d1) hF
      rcases hS7 with ⟨h1, h2, _⟩ | ⟨_, _, _, h2⟩
      · have := h2.symm.trans hG; injection this with h; injection h with h6 h7; exact ⟨h6.symm, h7.symm, h1⟩
      · have := h2.symm.trans hG; cases this
    have hr7 : Rd w7 1 B1 b1.length (NB b1) := hr3.frm K7 (by simp)
    refine Ops.r (Run.mv rfl) rfl ?_
    refine Ops.r (Run.extract rfl rfl) rfl ?_
    refine Ops.r (Run.extract rfl rfl) rfl ?_
    refine Ops.r (Run.extract rfl rfl) rfl ?_
    refine Ops.r (Run.asg rfl) rfl ?_
    refine Ops.r (Run.asg rfl) rfl ?_
    refine Ops.r (Run.asg rfl) rfl ?_
    refine Ops.nil ?_
    refine thenQ_n ?_
    refine VC.sub [(0, _), (7, _), (8, _), (13, _), (14, _), (15, _), (16, _), (17, _), (18, _)] (.cons rfl (.cons rfl (.cons rfl (.cons rfl (.cons rfl (.cons rfl (.cons rfl (.cons rfl (.cons rfl .nil))))))))) ?_
    refine VC.seq ?_
    refine VC.region ?_
    refine Ops.r (Run.mv rfl) rfl ?_
    refine Ops.r (Run.mv rfl) rfl ?_
    refine Ops.r (Run.sliceS 0 _ rfl Try.underlying22 Try.sizeOf5 evB.none_ (evB.some_ rfl) (by omega) (by omega)) rfl ?_
    have hlq : (b1.take u2).length = u2 - 0 := by simp; omega
    have hrq : Rd w7 1 (cutA B1 c1 0 1) (b1.take u2).length (NB (b1.take u2)) := by
      have e := hr7.cut (l := 0) (r := u2) (cap := c1) (by omega) (by omega) hcB
      have e2 : NB (b1.take u2) = ((NB b1).drop (0 * 1)).take ((u2 - 0) * 1) := by simp [NB, List.map_take]
      rw [hlq, e2]
      exact e
    have hbq : ∀ b ∈ b1.take u2, b < 256 := fun b hb' => hb1 b (List.mem_of_mem_take hb')
    refine Ops.r (Run.mv rfl) rfl ?_
    refine Ops.r (Run.lenS rfl Try.underlying22) rfl ?_
    refine Ops.cl (Enters.fn (evs.cons rfl (evs.cons rfl evs.nil)) Try.call10) (infl_outn _ _ _ (b1.take u2) o2.length _ hlq (by omega) (by omega) hbq hrq) rfl ?_
    rintro e w9 ⟨hf9, A9, c9, o9, u9, k9, rfl, ho9, hlt9, hS9⟩
    refine ⟨_, rfl, ?_⟩
    have K9 := K7.trans hf9 (by simp)
    have hfr9' := hfr3.trans K9 (by simp)
    obtain ⟨rfl, rfl, rfl⟩ : o2 = o9 ∧ u2 = u9 ∧ k9 = 0 := by
      have hG := inflF_cut (k := u2) hF hol' (Nat.le_refl _) (by omega)
      rcases hS9 with ⟨h1, h2, _⟩ | ⟨_, _, _, h2⟩
      · have := h2.symm.trans hG; injection this with h; injection h with h6 h7; exact ⟨h6.symm, h7.symm, h1⟩
      · have := h2.symm.trans hG; cases this
    have q2 := str_rd ((ho2.frm hf3 (by simp)).frm K9 (by simp)) hlt2
    have q3 := str_rd (ho3.frm K9 (by simp)) hlt3
    have q7 := str_rd (ho7.frm hf9 (by simp)) hlt7
    have q9 := str_rd ho9 hlt9
    refine Ops.r (Run.mv rfl) rfl ?_
    refine Ops.r (Run.extract rfl rfl) rfl ?_
    refine Ops.r (Run.extract rfl rfl) rfl ?_
    refine Ops.r (Run.extract rfl rfl) rfl ?_
    refine Ops.r (Run.asg rfl) rfl ?_
    refine Ops.r (Run.asg rfl) rfl ?_
    refine Ops.r (Run.asg rfl) rfl ?_
    refine Ops.nil ?_
    refine thenQ_n ?_
    refine VC.sub [(7, _), (8, _), (13, _), (14, _), (15, _), (16, _), (17, _), (18, _), (19, _), (20, _), (21, _)] (.cons rfl (.cons rfl (.cons rfl (.cons rfl (.cons rfl (.cons rfl (.cons rfl (.cons rfl (.cons rfl (.cons rfl (.cons rfl .nil))))))))))) ?_
    refine VC.seq ?_
    refine VC.region ?_
    refine Ops.r (Run.mv rfl) rfl ?_
    refine Ops.r (Run.strOf rfl Try.underlying22 Try.underlying5 Try.underlying9 q3) rfl ?_
    refine Ops.r (Run.mv rfl) rfl ?_
    refine Ops.r (Run.strOf rfl Try.underlying22 Try.underlying5 Try.underlying9 q2) rfl ?_
    refine Ops.r (Run.eqlStr rfl rfl) rfl ?_
    refine Ops.r (Run.mv rfl) rfl ?_
    refine Ops.rg rfl (by first | rfl | assumption | exact decide_eq_true (by assumption) | exact decide_eq_false (by assumption) | decide | (simp; done) | (simp; omega) | (simp [*]; done)) (Run.mv rfl) rfl ?_
    refine Ops.rg rfl (by first | rfl | assumption | exact decide_eq_true (by assumption) | exact decide_eq_false (by assumption) | decide | (simp; done) | (simp; omega) | (simp [*]; done)) (Run.mv rfl) rfl ?_
    refine Ops.rg rfl (by first | rfl | assumption | exact decide_eq_true (by assumption) | exact decide_eq_false (by assumption) | decide | (simp; done) | (simp; omega) | (simp [*]; done)) (Run.bin rfl rfl (Bin.eqlN _ _)) rfl ?_
    refine Ops.r (Run.pickT rfl rfl (by first | rfl | assumption | (simp; done) | (simp [*]; done) | (simp; omega))) rfl ?_
    refine Ops.r (Run.mv rfl) rfl ?_
    refine Ops.rg rfl (by first | rfl | assumption | exact decide_eq_true (by assumption) | exact decide_eq_false (by assumption) | decide | (simp; done) | (simp; omega) | (simp [*]; done)) (Run.mv rfl) rfl ?_
    refine Ops.rg rfl (by first | rfl | assumption | exact decide_eq_true (by assumption) | exact decide_eq_false (by assumption) | decide | (simp; done) | (simp; omega) | (simp [*]; done)) (Run.bin rfl rfl (Bin.eqlN _ 0)) rfl ?_
    refine Ops.r (Run.pickT rfl rfl (by first | rfl | assumption | (simp; done) | (simp [*]; done) | (simp; omega))) rfl ?_
    refine Ops.r (Run.mv rfl) rfl ?_
    refine Ops.rg rfl (by first | rfl | assumption | exact decide_eq_true (by assumption) | exact decide_eq_false (by assumption) | decide | (simp; done) | (simp; omega) | (simp [*]; done)) (Run.mv rfl) rfl ?_
    refine Ops.rg rfl (by first | rfl | assumption | exact decide_eq_true (by assumption) | exact decide_eq_false (by assumption) | decide | (simp; done) | (simp; omega) | (simp [*]; done)) (Run.strOf rfl Try.underlying22 Try.underlying5 Try.underlying9 q7) rfl ?_
    refine Ops.rg rfl (by first | rfl | assumption | exact decide_eq_true (by assumption) | exact decide_eq_false (by assumption) | decide | (simp; done) | (simp; omega) | (simp [*]; done)) (Run.mv rfl) rfl ?_
    refine Ops.rg rfl (by first | rfl | assumption | exact decide_eq_true (by assumption) | exact decide_eq_false (by assumption) | decide | (simp; done) | (simp; omega) | (simp [*]; done)) (Run.strOf rfl Try.underlying22 Try.underlying5 Try.underlying9 q2) rfl ?_
    refine Ops.rg rfl (by first | rfl | assumption | exact decide_eq_true (by assumption) | exact decide_eq_false (by assumption) | decide | (simp; done) | (simp; omega) | (simp [*]; done)) (Run.eqlStr rfl rfl) rfl ?_
    refine Ops.r (Run.pickT rfl rfl (by first | rfl | assumption | (simp; done) | (simp [*]; done) | (simp; omega))) rfl ?_
    refine Ops.r (Run.mv rfl) rfl ?_
    refine Ops.rg rfl (by first | rfl | assumption | exact decide_eq_true (by assumption) | exact decide_eq_false (by assumption) | decide | (simp; done) | (simp; omega) | (simp [*]; done)) (Run.mv rfl) rfl ?_
    refine Ops.rg rfl (by first | rfl | assumption | exact decide_eq_true (by assumption) | exact decide_eq_false (by assumption) | decide | (simp; done) | (simp; omega) | (simp [*]; done)) (Run.mv rfl) rfl ?_
    refine Ops.rg rfl (by first | rfl | assumption | exact decide_eq_true (by assumption) | exact decide_eq_false (by assumption) | decide | (simp; done) | (simp; omega) | (simp [*]; done)) (Run.bin rfl rfl (Bin.eqlN _ _)) rfl ?_
    refine Ops.r (Run.pickT rfl rfl (by first | rfl | assumption | (simp; done) | (simp [*]; done) | (simp; omega))) rfl ?_
    refine Ops.r (Run.mv rfl) rfl ?_
    refine Ops.rg rfl (by first | rfl | assumption | exact decide_eq_true (by assumption) | exact decide_eq_false (by assumption) | decide | (simp; done) | (simp; omega) | (simp [*]; done)) (Run.mv rfl) rfl ?_
    refine Ops.rg rfl (by first | rfl | assumption | exact decide_eq_true (by assumption) | exact decide_eq_false (by assumption) | decide | (simp; done) | (simp; omega) | (simp [*]; done)) (Run.bin rfl rfl (Bin.eqlN _ 0)) rfl ?_
    refine Ops.r (Run.pickT rfl rfl (by first | rfl | assumption | (simp; done) | (simp [*]; done) | (simp; omega))) rfl ?_
    refine Ops.r (Run.mv rfl) rfl ?_
    refine Ops.rg rfl (by first | rfl | assumption | exact decide_eq_true (by assumption) | exact decide_eq_false (by assumption) | decide | (simp; done) | (simp; omega) | (simp [*]; done)) (Run.mv rfl) rfl ?_
    refine Ops.rg rfl (by first | rfl | assumption | exact decide_eq_true (by assumption) | exact decide_eq_false (by assumption) | decide | (simp; done) | (simp; omega) | (simp [*]; done)) (Run.strOf rfl Try.underlying22 Try.underlying5 Try.underlying9 q9) rfl ?_
    refine Ops.rg rfl (by first | rfl | assumption | exact decide_eq_true (by assumption) | exact decide_eq_false (by assumption) | decide | (simp; done) | (simp; omega) | (simp [*]; done)) (Run.mv rfl) rfl ?_
    refine Ops.rg rfl (by first | rfl | assumption | exact decide_eq_true (by assumption) | exact decide_eq_false (by assumption) | decide | (simp; done) | (simp; omega) | (simp [*]; done)) (Run.strOf rfl Try.underlying22 Try.underlying5 Try.underlying9 q2) rfl ?_
    refine Ops.rg rfl (by first | rfl | assumption | exact decide_eq_true (by assumption) | exact decide_eq_false (by assumption) | decide | (simp; done) | (simp; omega) | (simp [*]; done)) (Run.eqlStr rfl rfl) rfl ?_
    refine Ops.r (Run.pickT rfl rfl (by first | rfl | assumption | (simp; done) | (simp [*]; done) | (simp; omega))) rfl ?_
    refine Ops.r (Run.mv rfl) rfl ?_
    refine Ops.rg rfl (by first | rfl | assumption | exact decide_eq_true (by assumption) | exact decide_eq_false (by assumption) | decide | (simp; done) | (simp; omega) | (simp [*]; done)) (Run.mv rfl) rfl ?_
    refine Ops.rg rfl (by first | rfl | assumption | exact decide_eq_true (by assumption) | exact decide_eq_false (by assumption) | decide | (simp; done) | (simp; omega) | (simp [*]; done)) (Run.mv rfl) rfl ?_
    refine Ops.rg rfl (by first | rfl | assumption | exact decide_eq_true (by assumption) | exact decide_eq_false (by assumption) | decide | (simp; done) | (simp; omega) | (simp [*]; done)) (Run.bin rfl rfl (Bin.eqlN _ _)) rfl ?_
    refine Ops.r (Run.pickT rfl rfl (by first | rfl | assumption | (simp; done) | (simp [*]; done) | (simp; omega))) rfl ?_
    refine Ops.r (Run.mv rfl) rfl ?_
    refine Ops.rg rfl (by first | rfl | assumption | exact decide_eq_true (by assumption) | exact decide_eq_false (by assumption) | decide | (simp; done) | (simp; omega) | (simp [*]; done)) (Run.mv rfl) rfl ?_
    refine Ops.rg rfl (by first | rfl | assumption | exact decide_eq_true (by assumption) | exact decide_eq_false (by assumption) | decide | (simp; done) | (simp; omega) | (simp [*]; done)) (Run.bin rfl rfl (Bin.eqlN _ 0)) rfl ?_
    refine Ops.r (Run.pickT rfl rfl (by first | rfl | assumption | (simp; done) | (simp [*]; done) | (simp; omega))) rfl ?_
    refine Ops.r (Run.mv rfl) rfl ?_
    refine Ops.clg rfl (by first | rfl | assumption | exact decide_eq_true (by assumption) | exact decide_eq_false (by assumption) | decide | (simp; done) | (simp; omega) | (simp [*]; done)) (Enters.fn evs.nil Try.call12) (awake12_spec _) rfl ?_
    rintro e w8 ⟨rfl, hf8⟩
    refine ⟨_, rfl, ?_⟩
    refine Ops.r (Run.pickT rfl rfl (by first | rfl | assumption | (simp; done) | (simp [*]; done) | (simp; omega))) rfl ?_
    refine Ops.r (Run.asg rfl) rfl ?_
    refine Ops.nil ?_
    refine thenQ_n ?_
    refine VC.sub [(6, _)] (.cons rfl .nil) ?_
    refine VC.ret ?_
    refine end1 rfl ?_
    exact ⟨rfl, hfr9'.trans hf8 (by simp)⟩

theorem ends_walk (B : Option Addr) (bl bc : Nat) (bs : List Nat) (n : Int) (C : Option Addr) (cl cc : Nat) (cs : List Nat) (w : World) (hbl : bs.length = bl) (hbc : bl ≤ bc) (hb : ∀ b ∈ bs, b < 256) (hr : Rd w 1 B bl (NB bs))
    (hcl : cs.length = cl) (hcc : cl ≤ cc) (hcb : ∀ b ∈ cs, b < 256) (hrc : Rd w 1 C cl (NB cs)) (hn : -9223372036854775808 ≤ n) :
    Calls Try.prog 4 #[.slice B bl bc, .int .i64 n, .slice C cl cc] w fun e w' => e = .returned (.bool true) ∧ Frm [] w w' := by
  by_cases h : n < 0
  · exact ends_neg B bl bc bs n C cl cc cs w hbl hbc hb hr hcl hcc hcb hrc ⟨h, hn⟩
  · exact ends_pos B bl bc bs n C cl cc cs w hbl hbc hb hr hcl hcc hcb hrc (by omega)

end Go.Proofs.Ytfjhmbgckmhdaaa
