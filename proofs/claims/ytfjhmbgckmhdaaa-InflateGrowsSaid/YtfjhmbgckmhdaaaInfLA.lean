/-
  The law 'InflateAll' of layer 12: whatever octets there are, what comes out is the document's. No condition.
-/
import Derived.Test.YtfjhmbgckmhdaaaInfG
import Derived.Test.YtfjhmbgckmhdaaaInfE
namespace Go.Proofs.Ytfjhmbgckmhdaaa
open Go.RowKit

theorem few_cut {w : World} {B : Option Addr} {bc : Nat} {bs : List Nat} (m : Nat) (h : Rd w 1 B bs.length (NB bs)) (hc : bs.length ≤ bc) (hm : m < bs.length) :
    Rd w 1 (cutA B bc 0 1) (bs.take m).length (NB (bs.take m)) := by
  have e := h.cut (l := 0) (r := m) (cap := bc) (by omega) (by omega) hc
  have e1 : (bs.take m).length = m := by simp; omega
  have e2 : NB (bs.take m) = ((NB bs).drop (0 * 1)).take ((m - 0) * 1) := by simp [NB, List.map_take]
  rw [e1, e2]
  exact e

set_option maxRecDepth 100000 in
theorem few12_spec (A : Option Addr) (c0 : Nat) (l : List Nat) (w : World) (hc : l.length ≤ c0) (hr : Rd w 1 A l.length (NB l)) :
    Calls Try.prog 8 #[.slice A l.length c0] w fun e w' => (∃ B c, e = .returned (.slice B (l.take 400).length c) ∧ (l.take 400).length ≤ c ∧ Rd w 1 B (l.take 400).length (NB (l.take 400))) ∧ w = w' := by
  refine VC.calls (nt := 9) (res := #[.tmp 2]) Try.func8 rfl Try.ntmps8 Try.results8 rfl ?_
  refine VC.seq ?_
  refine VC.region ?_
  refine Ops.r (Run.asg rfl) rfl ?_
  refine Ops.nil ?_
  refine thenQ_n ?_
  refine VC.sub [(0, _)] (.cons rfl .nil) ?_
  refine VC.seq ?_
  refine VC.seq ?_
  refine VC.region ?_
  refine Ops.r (Run.mv rfl) rfl ?_
  refine Ops.r (Run.lenS rfl Try.underlying22) rfl ?_
  refine Ops.r (Run.bin rfl rfl (Bin.gtrN _ 400)) rfl ?_
  refine Ops.nil ?_
  refine thenQ_n ?_
  refine VC.sub [(0, _), (5, _)] (.cons rfl (.cons rfl .nil)) ?_
  refine VC.condD rfl (fun hc1 => ?_) (fun hc1 => ?_)
  · skip
    refine VC.seq ?_
    refine VC.region ?_
    refine Ops.r (Run.mv rfl) rfl ?_
    refine Ops.r (Run.sliceS 0 400 rfl Try.underlying22 Try.sizeOf5 evB.none_ (evB.some_ rfl) (by omega) (by omega)) rfl ?_
    refine Ops.r (Run.asg rfl) rfl ?_
    refine Ops.nil ?_
    refine thenQ_n ?_
    refine VC.sub [(2, _)] (.cons rfl .nil) ?_
    refine VC.ret ?_
    refine thenQ_r (end1 rfl ?_)
    refine ⟨⟨cutA A c0 0 1, c0 - 0, ?_, ?_, few_cut 400 hr hc (by omega)⟩, rfl⟩
    · rw [show (l.take 400).length = 400 - 0 from by simp; omega]
    · simp; omega
  · skip
    refine VC.skip ?_
    refine thenQ_n ?_
    refine VC.sub [(0, _)] (.cons rfl .nil) ?_
    refine VC.seq ?_
    refine VC.region ?_
    refine Ops.r (Run.mv rfl) rfl ?_
    refine Ops.r (Run.asg rfl) rfl ?_
    refine Ops.nil ?_
    refine thenQ_n ?_
    refine VC.sub [(2, _)] (.cons rfl .nil) ?_
    refine VC.ret ?_
    refine end1 rfl ?_
    rw [List.take_of_length_le (by omega)]
    exact ⟨⟨A, c0, rfl, hc, hr⟩, rfl⟩

set_option maxRecDepth 100000 in
theorem bound12_spec (n : Int) (w : World) : Calls Try.prog 9 #[.int .i64 n] w fun e w' => (∃ m : Int, e = .returned (.int .i64 m) ∧ m ≤ 3000 ∧ m = if 3000 < n then 3000 else n) ∧ w = w' := by
  refine VC.calls (nt := 6) (res := #[.tmp 2]) Try.func9 rfl Try.ntmps9 Try.results9 rfl ?_
  refine VC.seq ?_
  refine VC.region ?_
  refine Ops.r (v := .int .i64 ((0 : Nat) : Int)) (Run.asg rfl) rfl ?_
  refine Ops.nil ?_
  refine thenQ_n ?_
  refine VC.sub [(0, _)] (.cons rfl .nil) ?_
  refine VC.seq ?_
  refine VC.seq ?_
  refine VC.region ?_
  refine Ops.r (Run.mv rfl) rfl ?_
  refine Ops.r (Run.bin rfl rfl (Bin.gtr _ 3000)) rfl ?_
  refine Ops.nil ?_
  refine thenQ_n ?_
  refine VC.sub [(0, _), (4, _)] (.cons rfl (.cons rfl .nil)) ?_
  refine VC.condD rfl (fun hc1 => ?_) (fun hc1 => ?_)
  · skip
    refine VC.seq ?_
    refine VC.region ?_
    refine Ops.r (v := .int .i64 ((3000 : Nat) : Int)) (Run.asg rfl) rfl ?_
    refine Ops.nil ?_
    refine thenQ_n ?_
    refine VC.sub [(2, _)] (.cons rfl .nil) ?_
    refine VC.ret ?_
    refine thenQ_r (end1 rfl ?_)
    exact ⟨⟨3000, rfl, by omega, by rw [if_pos hc1]⟩, rfl⟩
  · skip
    refine VC.skip ?_
    refine thenQ_n ?_
    refine VC.sub [(0, _)] (.cons rfl .nil) ?_
    refine VC.seq ?_
    refine VC.region ?_
    refine Ops.r (Run.mv rfl) rfl ?_
    refine Ops.r (Run.asg rfl) rfl ?_
    refine Ops.nil ?_
    refine thenQ_n ?_
    refine VC.sub [(2, _)] (.cons rfl .nil) ?_
    refine VC.ret ?_
    refine end1 rfl ?_
    exact ⟨⟨n, rfl, by omega, by rw [if_neg hc1]⟩, rfl⟩

set_option maxRecDepth 100000 in
theorem awake12_spec (w : World) : Calls Try.prog 12 #[] w fun e w' => e = .returned (.bool true) ∧ Frm [] w w' := by
  refine VC.calls (nt := 56) (res := #[.tmp 0]) Try.func12 rfl Try.ntmps12 Try.results12 rfl ?_
  refine VC.seq ?_
  refine VC.region ?_
  refine Ops.r (Run.asg rfl) rfl ?_
  refine Ops.nil ?_
  refine thenQ_n ?_
  refine VC.sub [] .nil ?_
  refine VC.seq ?_
  refine VC.region ?_
  refine Ops.m (Does.buildN (cells := (NB [3, 0]).toArray) (evs.cons rfl (evs.cons rfl evs.nil)) Try.underlying22 Try.sizeOf5 zero5 rfl rfl (by kernel_rfl)) rfl ?_
  rintro _ w1 ⟨rfl, hF1⟩
  have hr1 : Rd w1 1 (some ⟨w.heap.size, 0, none⟩) ([3, 0] : List Nat).length (NB [3, 0]) := Rd.of_blk (n := 2) (size := 1) hF1.blk rfl
  refine Ops.cl (Enters.fn (evs.cons rfl (evs.cons rfl evs.nil)) Try.call10) (infl_spec _ _ [3, 0] 9 _ (by omega) (by decide) (by decide) hr1) rfl ?_
  rintro e w2 ⟨hf2, he⟩
  rw [show inflF [3, 0] 9 = .ok ([], 2) by kernel_rfl] at he
  obtain ⟨A2, c2, rfl, ho2, hu2, _⟩ := he
  refine ⟨_, rfl, ?_⟩
  refine Ops.r (Run.mv rfl) rfl ?_
  refine Ops.r (Run.extract rfl rfl) rfl ?_
  refine Ops.r (Run.extract rfl rfl) rfl ?_
  refine Ops.r (Run.extract rfl rfl) rfl ?_
  refine Ops.r (Run.asg rfl) rfl ?_
  refine Ops.r (Run.asg rfl) rfl ?_
  refine Ops.r (Run.asg rfl) rfl ?_
  refine Ops.nil ?_
  refine thenQ_n ?_
  refine VC.sub [(1, _), (2, _), (3, _)] (.cons rfl (.cons rfl (.cons rfl .nil))) ?_
  refine VC.seq ?_
  refine VC.region ?_
  refine Ops.m (Does.buildN (cells := (NB [75, 4, 0]).toArray) (evs.cons rfl (evs.cons rfl (evs.cons rfl evs.nil))) Try.underlying22 Try.sizeOf5 zero5 rfl rfl (by kernel_rfl)) rfl ?_
  rintro _ w3 ⟨rfl, hF3⟩
  have hr3 : Rd w3 1 (some ⟨w2.heap.size, 0, none⟩) ([75, 4, 0] : List Nat).length (NB [75, 4, 0]) := Rd.of_blk (n := 3) (size := 1) hF3.blk rfl
  refine Ops.cl (Enters.fn (evs.cons rfl (evs.cons rfl evs.nil)) Try.call10) (infl_spec _ _ [75, 4, 0] 9 _ (by omega) (by decide) (by decide) hr3) rfl ?_
  rintro e w4 ⟨hf4, he⟩
  rw [show inflF [75, 4, 0] 9 = .ok ([97], 3) by kernel_rfl] at he
  obtain ⟨A4, c4, rfl, ho4, hu4, _⟩ := he
  refine ⟨_, rfl, ?_⟩
  refine Ops.r (Run.mv rfl) rfl ?_
  refine Ops.r (Run.extract rfl rfl) rfl ?_
  refine Ops.r (Run.extract rfl rfl) rfl ?_
  refine Ops.r (Run.extract rfl rfl) rfl ?_
  refine Ops.r (Run.asg rfl) rfl ?_
  refine Ops.r (Run.asg rfl) rfl ?_
  refine Ops.r (Run.asg rfl) rfl ?_
  refine Ops.nil ?_
  refine thenQ_n ?_
  refine VC.sub [(1, _), (2, _), (3, _), (4, _), (5, _), (6, _)] (.cons rfl (.cons rfl (.cons rfl (.cons rfl (.cons rfl (.cons rfl .nil)))))) ?_
  refine VC.seq ?_
  refine VC.region ?_
  refine Ops.m (Does.buildS1 rfl Try.underlying22 Try.sizeOf5 zero5 (by decide) (by decide) rfl rfl) rfl ?_
  rintro _ w5 ⟨rfl, hF5⟩
  have hr5 : Rd w5 1 (some ⟨w4.heap.size, 0, none⟩) ([7] : List Nat).length (NB [7]) := Rd.of_blk (n := 1) (size := 1) hF5.blk rfl
  refine Ops.cl (Enters.fn (evs.cons rfl (evs.cons rfl evs.nil)) Try.call10) (infl_spec _ _ [7] 9 _ (by omega) (by decide) (by decide) hr5) rfl ?_
  rintro e w6 ⟨hf6, he⟩
  rw [show inflF [7] 9 = .error 3 by kernel_rfl] at he
  subst he
  refine ⟨_, rfl, ?_⟩
  have ho6 := (ho4.frm hF5.frm (by simp)).frm hf6 (by simp)
  have hst : Rd w6 1 A4 1 (U8 ([97].map UInt8.ofNat)) := by rw [← NB_U8 [97] (by decide)]; exact ho6.rd
  have hfr6 : Frm [] w w6 := ((((hF1.frm.trans hf2 (by simp)).trans hF3.frm (by simp)).trans hf4 (by simp)).trans hF5.frm (by simp)).trans hf6 (by simp)
  refine Ops.r (Run.mv rfl) rfl ?_
  refine Ops.r (Run.extract rfl rfl) rfl ?_
  refine Ops.r (Run.extract rfl rfl) rfl ?_
  refine Ops.r (Run.extract rfl rfl) rfl ?_
  refine Ops.r (Run.asg rfl) rfl ?_
  refine Ops.r (Run.asg rfl) rfl ?_
  refine Ops.r (Run.asg rfl) rfl ?_
  refine Ops.nil ?_
  refine thenQ_n ?_
  refine VC.sub [(1, _), (2, _), (3, _), (4, _), (5, _), (6, _), (9, _)] (.cons rfl (.cons rfl (.cons rfl (.cons rfl (.cons rfl (.cons rfl (.cons rfl .nil))))))) ?_
  refine VC.seq ?_
  refine VC.region ?_
  refine Ops.r (Run.mv rfl) rfl ?_
  refine Ops.r (Run.lenS rfl Try.underlying22) rfl ?_
  refine Ops.r (Run.bin rfl rfl (Bin.eqlN _ 0)) rfl ?_
  refine Ops.r (Run.mv rfl) rfl ?_
  refine Ops.rg rfl (by first | rfl | assumption | exact decide_eq_true (by assumption) | exact decide_eq_false (by assumption) | decide | (simp; done) | (simp; omega) | (simp [*]; done)) (Run.mv rfl) rfl ?_
  refine Ops.rg rfl (by first | rfl | assumption | exact decide_eq_true (by assumption) | exact decide_eq_false (by assumption) | decide | (simp; done) | (simp; omega) | (simp [*]; done)) (Run.bin rfl rfl (Bin.eqlN _ 2)) rfl ?_
  refine Ops.r (Run.pickT rfl rfl (by first | rfl | assumption | exact decide_eq_true (by assumption) | exact decide_eq_false (by assumption) | decide | (simp; done) | (simp; omega) | (simp [*]; done))) rfl ?_
  refine Ops.r (Run.mv rfl) rfl ?_
  refine Ops.rg rfl (by first | rfl | assumption | exact decide_eq_true (by assumption) | exact decide_eq_false (by assumption) | decide | (simp; done) | (simp; omega) | (simp [*]; done)) (Run.mv rfl) rfl ?_
  refine Ops.rg rfl (by first | rfl | assumption | exact decide_eq_true (by assumption) | exact decide_eq_false (by assumption) | decide | (simp; done) | (simp; omega) | (simp [*]; done)) (Run.bin rfl rfl (Bin.eqlN _ 0)) rfl ?_
  refine Ops.r (Run.pickT rfl rfl (by first | rfl | assumption | exact decide_eq_true (by assumption) | exact decide_eq_false (by assumption) | decide | (simp; done) | (simp; omega) | (simp [*]; done))) rfl ?_
  refine Ops.r (Run.mv rfl) rfl ?_
  refine Ops.rg rfl (by first | rfl | assumption | exact decide_eq_true (by assumption) | exact decide_eq_false (by assumption) | decide | (simp; done) | (simp; omega) | (simp [*]; done)) (Run.mv rfl) rfl ?_
  refine Ops.rg rfl (by first | rfl | assumption | exact decide_eq_true (by assumption) | exact decide_eq_false (by assumption) | decide | (simp; done) | (simp; omega) | (simp [*]; done)) (Run.strOf rfl Try.underlying22 Try.underlying5 Try.underlying9 hst) rfl ?_
  refine Ops.rg rfl (by first | rfl | assumption | exact decide_eq_true (by assumption) | exact decide_eq_false (by assumption) | decide | (simp; done) | (simp; omega) | (simp [*]; done)) (Run.eqlStr rfl rfl) rfl ?_
  refine Ops.r (Run.pickT rfl rfl (by first | rfl | assumption | exact decide_eq_true (by assumption) | exact decide_eq_false (by assumption) | decide | (simp; done) | (simp; omega) | (simp [*]; done))) rfl ?_
  refine Ops.r (Run.mv rfl) rfl ?_
  refine Ops.rg rfl (by first | rfl | assumption | exact decide_eq_true (by assumption) | exact decide_eq_false (by assumption) | decide | (simp; done) | (simp; omega) | (simp [*]; done)) (Run.mv rfl) rfl ?_
  refine Ops.rg rfl (by first | rfl | assumption | exact decide_eq_true (by assumption) | exact decide_eq_false (by assumption) | decide | (simp; done) | (simp; omega) | (simp [*]; done)) (Run.bin rfl rfl (Bin.eqlN _ 3)) rfl ?_
  refine Ops.r (Run.pickT rfl rfl (by first | rfl | assumption | exact decide_eq_true (by assumption) | exact decide_eq_false (by assumption) | decide | (simp; done) | (simp; omega) | (simp [*]; done))) rfl ?_
  refine Ops.r (Run.mv rfl) rfl ?_
  refine Ops.rg rfl (by first | rfl | assumption | exact decide_eq_true (by assumption) | exact decide_eq_false (by assumption) | decide | (simp; done) | (simp; omega) | (simp [*]; done)) (Run.mv rfl) rfl ?_
  refine Ops.rg rfl (by first | rfl | assumption | exact decide_eq_true (by assumption) | exact decide_eq_false (by assumption) | decide | (simp; done) | (simp; omega) | (simp [*]; done)) (Run.bin rfl rfl (Bin.eqlN _ 0)) rfl ?_
  refine Ops.r (Run.pickT rfl rfl (by first | rfl | assumption | exact decide_eq_true (by assumption) | exact decide_eq_false (by assumption) | decide | (simp; done) | (simp; omega) | (simp [*]; done))) rfl ?_
  refine Ops.r (Run.mv rfl) rfl ?_
  refine Ops.rg rfl (by first | rfl | assumption | exact decide_eq_true (by assumption) | exact decide_eq_false (by assumption) | decide | (simp; done) | (simp; omega) | (simp [*]; done)) (Run.mv rfl) rfl ?_
  refine Ops.rg rfl (by first | rfl | assumption | exact decide_eq_true (by assumption) | exact decide_eq_false (by assumption) | decide | (simp; done) | (simp; omega) | (simp [*]; done)) (Run.bin rfl rfl (Bin.eqlN _ 3)) rfl ?_
  refine Ops.r (Run.pickT rfl rfl (by first | rfl | assumption | exact decide_eq_true (by assumption) | exact decide_eq_false (by assumption) | decide | (simp; done) | (simp; omega) | (simp [*]; done))) rfl ?_
  refine Ops.r (Run.asg rfl) rfl ?_
  refine Ops.nil ?_
  refine thenQ_n ?_
  refine VC.sub [(0, _)] (.cons rfl .nil) ?_
  refine VC.ret ?_
  refine end1 rfl ?_
  exact ⟨rfl, hfr6⟩

set_option maxRecDepth 100000 in
theorem all_walk (B : Option Addr) (bl bc : Nat) (bs : List Nat) (n : Int) (w : World) (hbl : bs.length = bl) (hbc : bl ≤ bc) (hb : ∀ b ∈ bs, b < 256) (hr : Rd w 1 B bl (NB bs)) :
    Calls Try.prog 3 #[.slice B bl bc, .int .i64 n] w fun e w' => e = .returned (.bool true) ∧ Frm [] w w' := by
  subst hbl
  refine VC.calls (nt := 46) (res := #[.tmp 4]) Try.func3 rfl Try.ntmps3 Try.results3 rfl ?_
  refine VC.seq ?_
  refine VC.region ?_
  refine Ops.r (Run.asg rfl) rfl ?_
  refine Ops.nil ?_
  refine thenQ_n ?_
  refine VC.sub [(0, _), (1, _)] (.cons rfl (.cons rfl .nil)) ?_
  refine VC.seq ?_
  refine VC.region ?_
  refine Ops.r (Run.mv rfl) rfl ?_
  refine Ops.cl (Enters.fn (evs.cons rfl evs.nil) Try.call8) (few12_spec B bc bs _ hbc hr) rfl ?_
  rintro e _ ⟨⟨B1, c1, rfl, hc1, hr1⟩, rfl⟩
  refine ⟨_, rfl, ?_⟩
  have hb1 : ∀ b ∈ bs.take 400, b < 256 := fun b hb' => hb b (List.mem_of_mem_take hb')
  have hl1 : (bs.take 400).length ≤ 400 := by simp; omega
  generalize bs.take 400 = b1 at *
  refine Ops.r (Run.mv rfl) rfl ?_
  refine Ops.cl (Enters.fn (evs.cons rfl evs.nil) Try.call9) (bound12_spec n _) rfl ?_
  rintro e _ ⟨⟨m, rfl, hm, _⟩, rfl⟩
  refine ⟨_, rfl, ?_⟩
  refine Ops.r (Run.asg rfl) rfl ?_
  refine Ops.r (Run.asg rfl) rfl ?_
  refine Ops.nil ?_
  refine thenQ_n ?_
  refine VC.sub [(0, _), (1, _)] (.cons rfl (.cons rfl .nil)) ?_
  refine VC.seq ?_
  refine VC.region ?_
  refine Ops.r (Run.mv rfl) rfl ?_
  refine Ops.r (Run.mv rfl) rfl ?_
  refine Ops.cl (Enters.fn (evs.cons rfl (evs.cons rfl evs.nil)) Try.call10) (infl_spec B1 c1 b1 m _ (by omega) (by omega) hb1 hr1) rfl ?_
  rintro e w2 ⟨hf2, he⟩
  have hr2 := hr1.frm hf2 (by simp)
  obtain ⟨A2, c2, o, u, k, rfl, ho2, hlt, hS⟩ : ∃ A2 c2 o u k, e = .returned (.tuple #[.slice A2 (o : List Nat).length c2, .int .i64 ((u : Nat) : Int), .int .i64 ((k : Nat) : Int)]) ∧ Rd w2 1 A2 o.length (NB o) ∧ (∀ x ∈ o, x < 256) ∧ ((k = 0 ∧ inflF b1 m = .ok (o, u)) ∨ (o = [] ∧ u = 0 ∧ inflF b1 m = .error k)) := by
    rcases hF : inflF b1 m with k | ⟨o, u⟩
    · rw [hF] at he
      exact ⟨none, 0, [], 0, k, he, (Own.nil w2 5 1).rd, by simp, .inr ⟨rfl, rfl, rfl⟩⟩
    · rw [hF] at he
      obtain ⟨A, c, h1, h2, _, h3, _⟩ := he
      exact ⟨A, c, o, u, 0, h1, h2.rd, h3, .inl ⟨rfl, rfl⟩⟩
  clear he
  refine ⟨_, rfl, ?_⟩
  refine Ops.r (Run.mv rfl) rfl ?_
  refine Ops.r (Run.extract rfl rfl) rfl ?_
  refine Ops.r (Run.extract rfl rfl) rfl ?_
  refine Ops.r (Run.extract rfl rfl) rfl ?_
  refine Ops.r (Run.asg rfl) rfl ?_
  refine Ops.r (Run.asg rfl) rfl ?_
  refine Ops.r (Run.asg rfl) rfl ?_
  refine Ops.nil ?_
  refine thenQ_n ?_
  refine VC.sub [(0, _), (1, _), (5, _), (6, _), (7, _)] (.cons rfl (.cons rfl (.cons rfl (.cons rfl (.cons rfl .nil))))) ?_
  refine VC.seq ?_
  refine VC.region ?_
  refine Ops.r (Run.mv rfl) rfl ?_
  refine Ops.r (Run.mv rfl) rfl ?_
  refine Ops.cl (Enters.fn (evs.cons rfl (evs.cons rfl evs.nil)) Try.call11) (rinfl_spec B1 c1 b1 m _ (by omega) (by omega) hb1 hr2) rfl ?_
  rintro e w3 ⟨hf3, he⟩
  have ho3 := ho2.frm hf3 (by simp)
  have hst : Rd w3 1 A2 o.length (U8 (o.map UInt8.ofNat)) := by rw [← NB_U8 o hlt]; exact ho3
  have hfr3 := hf2.trans hf3 (by simp)
  have he2 : e = .returned (.tuple #[.string (strB o), .int .i64 ((u : Nat) : Int), .int .i64 ((k : Nat) : Int)]) := by
    rcases hS with ⟨rfl, hF⟩ | ⟨rfl, rfl, hF⟩
    · rw [hF] at he; exact he
    · rw [hF] at he; exact he
  clear he
  subst he2
  refine ⟨_, rfl, ?_⟩
  refine Ops.r (Run.mv rfl) rfl ?_
  refine Ops.r (Run.extract rfl rfl) rfl ?_
  refine Ops.r (Run.extract rfl rfl) rfl ?_
  refine Ops.r (Run.extract rfl rfl) rfl ?_
  refine Ops.r (Run.asg rfl) rfl ?_
  refine Ops.r (Run.asg rfl) rfl ?_
  refine Ops.r (Run.asg rfl) rfl ?_
  refine Ops.nil ?_
  refine thenQ_n ?_
  refine VC.sub [(5, _), (6, _), (7, _), (8, _), (9, _), (10, _)] (.cons rfl (.cons rfl (.cons rfl (.cons rfl (.cons rfl (.cons rfl .nil)))))) ?_
  refine VC.seq ?_
  refine VC.region ?_
  refine Ops.r (Run.mv rfl) rfl ?_
  refine Ops.r (Run.strOf rfl Try.underlying22 Try.underlying5 Try.underlying9 hst) rfl ?_
  refine Ops.r (Run.mv rfl) rfl ?_
  refine Ops.r (Run.eqlStr rfl rfl) rfl ?_
  refine Ops.r (Run.mv rfl) rfl ?_
  refine Ops.rg rfl (by first | rfl | (simp; done) | (simp [strB]; done)) (Run.mv rfl) rfl ?_
  refine Ops.rg rfl (by first | rfl | (simp; done) | (simp [strB]; done)) (Run.mv rfl) rfl ?_
  refine Ops.rg rfl (by first | rfl | (simp; done) | (simp [strB]; done)) (Run.bin rfl rfl (Bin.eqlN _ _)) rfl ?_
  refine Ops.r (Run.pickT rfl rfl (by first | rfl | (simp; done) | (simp [strB]; done))) rfl ?_
  refine Ops.r (Run.mv rfl) rfl ?_
  refine Ops.rg rfl (by first | rfl | (simp; done) | (simp [strB]; done)) (Run.mv rfl) rfl ?_
  refine Ops.rg rfl (by first | rfl | (simp; done) | (simp [strB]; done)) (Run.mv rfl) rfl ?_
  refine Ops.rg rfl (by first | rfl | (simp; done) | (simp [strB]; done)) (Run.bin rfl rfl (Bin.eqlN _ _)) rfl ?_
  refine Ops.r (Run.pickT rfl rfl (by first | rfl | (simp; done) | (simp [strB]; done))) rfl ?_
  refine Ops.r (Run.mv rfl) rfl ?_
  refine Ops.clg rfl (by first | rfl | (simp; done) | (simp [strB]; done)) (Enters.fn evs.nil Try.call12) (awake12_spec _) rfl ?_
  rintro e w8 ⟨rfl, hf8⟩
  refine ⟨_, rfl, ?_⟩
  refine Ops.r (Run.pickT rfl rfl (by first | rfl | (simp; done) | (simp [strB]; done))) rfl ?_
  refine Ops.r (Run.asg rfl) rfl ?_
  refine Ops.nil ?_
  refine thenQ_n ?_
  refine VC.sub [(4, _)] (.cons rfl .nil) ?_
  refine VC.ret ?_
  refine end1 rfl ?_
  exact ⟨rfl, hfr3.trans hf8 (by simp)⟩

end Go.Proofs.Ytfjhmbgckmhdaaa
