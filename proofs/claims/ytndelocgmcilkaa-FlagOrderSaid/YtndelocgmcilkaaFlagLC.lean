/-
  The law 'FlagChanges' of layer 24: whatever is done with any set, the set is the document's. No condition.
-/
import Derived.Test.YtndelocgmcilkaaFlagA
namespace Go.Proofs.Ytndelocgmcilkaa
open Go.RowKit Go.Sort

theorem IsN.same {a1 a2 b1 b2 : World} {e1 e2 : Ending} {F : Except Nat (List Tx)} {B1 B2 : Option Addr} {d1 d2 k1 k2 : Nat} {r1 r2 : List Tx} (h : IsN a1 b1 e1 F B1 d1 r1 k1) (g : IsN a2 b2 e2 F B2 d2 r2 k2) : r1 = r2 ∧ k1 = k2 := by
  rcases h.2.2.2 with ⟨h1, h2⟩ | ⟨h1, h3, h2⟩
  · obtain ⟨g1, g2⟩ := g.ok h2
    exact ⟨g2.symm, by omega⟩
  · rcases g.2.2.2 with ⟨_, g2⟩ | ⟨_, g3, g2⟩
    · rw [h2] at g2; cases g2
    · rw [h2] at g2; injection g2 with g2; exact ⟨by rw [h3, g3], g2⟩
theorem IsN.len {a1 b1 : World} {e1 : Ending} {l : List Tx} {B1 : Option Addr} {d1 k1 : Nat} {r1 : List Tx} (h : IsN a1 b1 e1 (normF l) B1 d1 r1 k1) : r1.length ≤ 16 := by
  rcases h.2.2.2 with ⟨_, h2⟩ | ⟨_, h3, _⟩
  · exact (checkF_facts (normF_check h2)).2.1
  · subst h3; simp
theorem few_one (q : Tx) : fewF [q] = [q.take 30] := rfl
theorem changeF_check {l more r : List Tx} {op : Int} (h : changeF l op more = .ok r) : checkF r := by
  unfold changeF at h
  split at h
  · cases h
  · cases ht : toldL more with
    | none => rw [ht] at h; cases h
    | some ts => rw [ht] at h; exact normF_check h
theorem IsN.qlen {a1 b1 : World} {e1 : Ending} {l : List Tx} {B1 : Option Addr} {d1 k1 : Nat} {r1 : List Tx} (h : IsN a1 b1 e1 (normF l) B1 d1 r1 k1) : ∀ q ∈ r1, q.length ≤ 20 := by
  rcases h.2.2.2 with ⟨_, h2⟩ | ⟨_, h3, _⟩
  · exact fun q hq => (toldF_len ((checkF_facts (normF_check h2)).2.2.2 q hq)).2
  · subst h3; simp
theorem IsN.qlenC {a1 b1 : World} {e1 : Ending} {l more : List Tx} {op : Int} {B1 : Option Addr} {d1 k1 : Nat} {r1 : List Tx} (h : IsN a1 b1 e1 (changeF l op more) B1 d1 r1 k1) : ∀ q ∈ r1, q.length ≤ 20 := by
  rcases h.2.2.2 with ⟨_, h2⟩ | ⟨_, h3, _⟩
  · exact fun q hq => (toldF_len ((checkF_facts (changeF_check h2)).2.2.2 q hq)).2
  · subst h3; simp
theorem IsN.lenC {a1 b1 : World} {e1 : Ending} {l more : List Tx} {op : Int} {B1 : Option Addr} {d1 k1 : Nat} {r1 : List Tx} (h : IsN a1 b1 e1 (changeF l op more) B1 d1 r1 k1) : r1.length ≤ 16 := by
  rcases h.2.2.2 with ⟨_, h2⟩ | ⟨_, h3, _⟩
  · exact (checkF_facts (changeF_check h2)).2.1
  · subst h3; simp

set_option maxRecDepth 100000 in
theorem changes_walk (A : Option Addr) (al ac : Nat) (l : List Tx) (op : Int) (C : Option Addr) (cl cc : Nat) (more : List Tx) (w : World) (hal : l.length = al) (hac : al ≤ ac) (hr : Rd w 1 A al (SB l)) (hcl : more.length = cl) (hcc : cl ≤ cc) (hr2 : Rd w 1 C cl (SB more)) :
    Calls Try.prog 3 #[.slice A al ac, .int .i64 op, .slice C cl cc] w fun e w' => e = .returned (.bool true) ∧ Frm [] w w' := by
  subst hal
  subst hcl
  refine VC.calls (nt := 58) (res := #[.tmp 6]) Try.func3 rfl Try.ntmps3 Try.results3 rfl ?_
  refine VC.seq ?_
  refine VC.region ?_
  refine Ops.r (Run.asg rfl) rfl ?_
  refine Ops.nil ?_
  refine thenQ_n ?_
  refine VC.sub [(0, _), (1, _), (2, _)] (.cons rfl (.cons rfl (.cons rfl .nil))) ?_
  refine VC.seq ?_
  refine VC.region ?_
  refine Ops.r (Run.mv rfl) rfl ?_
  refine Ops.cl (Enters.fn (evs.cons rfl evs.nil) Try.call7) (few24_spec A ac l _ hac (hr)) rfl ?_
  rintro e w1 ⟨hf1, F1, fd1, rfl, ho1, hg1⟩
  refine ⟨_, rfl, ?_⟩
  obtain ⟨hl1, hq1⟩ := fewF_facts l
  generalize fewF l = l1 at *
  have K1 : Frm [] w w1 := hf1
  refine Ops.r (Run.mv rfl) rfl ?_
  refine Ops.cl (Enters.fn (evs.cons rfl evs.nil) Try.call7) (few24_spec C cc more _ hcc (hr2.frm K1 (by simp))) rfl ?_
  rintro e w2 ⟨hf2, F2, fd2, rfl, ho2, hg2⟩
  refine ⟨_, rfl, ?_⟩
  obtain ⟨hl2, hq2⟩ := fewF_facts more
  generalize fewF more = m1 at *
  have K2 : Frm [] w w2 := K1.trans hf2 (by simp)
  have ho1 := ho1.frm hf2 (by simp)
  refine Ops.r (Run.asg rfl) rfl ?_
  refine Ops.r (Run.asg rfl) rfl ?_
  refine Ops.nil ?_
  refine thenQ_n ?_
  refine VC.sub [(0, _), (1, _), (2, _)] (.cons rfl (.cons rfl (.cons rfl .nil))) ?_
  refine VC.seq ?_
  refine VC.region ?_
  refine Ops.m (Does.buildS0 Try.underlying22 Try.sizeOf9) rfl ?_
  rintro _ w3 ⟨rfl, hF3⟩
  have K3 : Frm [] w2 w3 := hF3.frm
  have ho3 : Own w3 9 1 (some ⟨w2.heap.size, 0, none⟩) 0 0 [] := Own.of_blk (n := 0) (size := 1) hF3.blk rfl (by decide)
  refine Ops.r (Run.mv rfl) rfl ?_
  refine Ops.m (Does.app rfl rfl Try.underlying22 (info9) rfl (by decide) ho3 (ho1.rd.frm K3 (by simp)) (SB_one l1) (by omega) (by omega)) rfl ?_
  rintro _ w4 ⟨A4, c4, rfl, ho4, hf4, hob4⟩
  rw [List.nil_append, Nat.zero_add] at ho4
  rw [Nat.zero_add]
  have K4 : Frm [] w2 w4 := K3.own hf4 (by simp [ob])
  have hg4 : ∀ x ∈ ob A4, w2.heap.size ≤ x := up_app (by simp [ob]) hob4 K3.size
  refine Ops.m (Does.buildS0 Try.underlying22 Try.sizeOf9) rfl ?_
  rintro _ w5 ⟨rfl, hF5⟩
  have K5 : Frm [] w2 w5 := K4.trans hF5.frm (by simp)
  have ho5 : Own w5 9 1 (some ⟨w4.heap.size, 0, none⟩) 0 0 [] := Own.of_blk (n := 0) (size := 1) hF5.blk rfl (by decide)
  refine Ops.r (Run.mv rfl) rfl ?_
  refine Ops.m (Does.app rfl rfl Try.underlying22 (info9) rfl (by decide) ho5 (ho2.rd.frm K5 (by simp)) (SB_one m1) (by omega) (by omega)) rfl ?_
  rintro _ w6 ⟨A6, c6, rfl, ho6, hf6, hob6⟩
  rw [List.nil_append, Nat.zero_add] at ho6
  rw [Nat.zero_add]
  have hs4 := K4.size
  have K6 : Frm [] w2 w6 := K5.own hf6 (fun x hx => by simp [ob] at hx; omega)
  have ho4 := (ho4.frm hF5.frm (by simp)).frm hf6 (fun x hx => by have := ho4.lt x hx; simp [ob]; omega)
  refine Ops.r (Run.asg rfl) rfl ?_
  refine Ops.r (Run.asg rfl) rfl ?_
  refine Ops.nil ?_
  refine thenQ_n ?_
  refine VC.sub [(0, _), (1, _), (2, _), (7, _), (8, _)] (.cons rfl (.cons rfl (.cons rfl (.cons rfl (.cons rfl .nil))))) ?_
  refine VC.seq ?_
  refine VC.region ?_
  refine Ops.r (Run.mv rfl) rfl ?_
  refine Ops.r (Run.mv rfl) rfl ?_
  refine Ops.r (Run.mv rfl) rfl ?_
  refine Ops.cl (Enters.fn (evs.cons rfl (evs.cons rfl (evs.cons rfl evs.nil))) Try.call8) (fchange_spec A4 c4 l1 op A6 c6 m1 _ (by omega) (fun q hq => by have := hq1 q hq; omega) ho4.rd (by omega) (fun q hq => by have := hq2 q hq; omega) ho6.rd) rfl ?_
  rintro e w7 ⟨hf7, B7, d7, r7, k7, hN7⟩
  have hrl7 := hN7.lenC
  have hN7' := hN7
  obtain ⟨rfl, ho7, hg7, _⟩ := hN7
  refine ⟨_, rfl, ?_⟩
  have K7 : Frm [] w2 w7 := K6.trans hf7 (by simp)
  refine Ops.r (Run.mv rfl) rfl ?_
  refine Ops.r (Run.extract rfl rfl) rfl ?_
  refine Ops.r (Run.extract rfl rfl) rfl ?_
  refine Ops.r (Run.asg rfl) rfl ?_
  refine Ops.r (Run.asg rfl) rfl ?_
  refine Ops.nil ?_
  refine thenQ_n ?_
  refine VC.sub [(0, _), (1, _), (2, _), (7, _), (8, _), (9, _), (10, _)] (.cons rfl (.cons rfl (.cons rfl (.cons rfl (.cons rfl (.cons rfl (.cons rfl .nil))))))) ?_
  refine VC.seq ?_
  refine VC.region ?_
  refine Ops.r (Run.mv rfl) rfl ?_
  refine Ops.r (Run.mv rfl) rfl ?_
  refine Ops.r (Run.mv rfl) rfl ?_
  refine Ops.cl (Enters.fn (evs.cons rfl (evs.cons rfl (evs.cons rfl evs.nil))) Try.call9) (rchange_spec F1 fd1 l1 op F2 fd2 m1 _ (by omega) (fun q hq => by have := hq1 q hq; omega) (ho1.rd.frm K7 (by simp)) (by omega) (fun q hq => by have := hq2 q hq; omega) (ho2.rd.frm K7 (by simp))) rfl ?_
  rintro e w8 ⟨hf8, B8, d8, r8, k8, hN8⟩
  obtain ⟨rfl, rfl⟩ := hN7'.same hN8
  obtain ⟨rfl, ho8, hg8, _⟩ := hN8
  refine ⟨_, rfl, ?_⟩
  have K8 : Frm [] w2 w8 := K7.trans hf8 (by simp)
  refine Ops.r (Run.mv rfl) rfl ?_
  refine Ops.r (Run.extract rfl rfl) rfl ?_
  refine Ops.r (Run.extract rfl rfl) rfl ?_
  refine Ops.r (Run.asg rfl) rfl ?_
  refine Ops.r (Run.asg rfl) rfl ?_
  refine Ops.nil ?_
  refine thenQ_n ?_
  refine VC.sub [(0, _), (2, _), (7, _), (8, _), (9, _), (10, _), (11, _), (12, _)] (.cons rfl (.cons rfl (.cons rfl (.cons rfl (.cons rfl (.cons rfl (.cons rfl (.cons rfl .nil)))))))) ?_
  refine VC.seq ?_
  refine VC.region ?_
  refine Ops.r (Run.mv rfl) rfl ?_
  refine Ops.r (Run.mv rfl) rfl ?_
  refine Ops.cl (Enters.fn (evs.cons rfl (evs.cons rfl evs.nil)) Try.call10) (rsame_spec B7 B8 d7 d8 r7 r7 _ (by omega) (by omega) (ho7.rd.frm hf8 (by simp)) ho8.rd) rfl ?_
  rintro e w9 ⟨rfl, hd9⟩
  refine ⟨_, rfl, ?_⟩
  have K9 : Frm [] w2 w9 := K8.drawn hd9
  refine Ops.r (Run.mv rfl) rfl ?_
  refine Ops.rg rfl (by first | rfl | assumption | exact decide_eq_true (by assumption) | exact decide_eq_false (by assumption) | decide | (simp; done) | (simp; omega) | (simp [*]; done)) (Run.mv rfl) rfl ?_
  refine Ops.rg rfl (by first | rfl | assumption | exact decide_eq_true (by assumption) | exact decide_eq_false (by assumption) | decide | (simp; done) | (simp; omega) | (simp [*]; done)) (Run.mv rfl) rfl ?_
  refine Ops.rg rfl (by first | rfl | assumption | exact decide_eq_true (by assumption) | exact decide_eq_false (by assumption) | decide | (simp; done) | (simp; omega) | (simp [*]; done)) (Run.bin rfl rfl (Bin.eqlN _ _)) rfl ?_
  refine Ops.r (Run.pickT rfl rfl (by first | rfl | assumption | (simp; done) | (simp [*]; done) | (simp; omega))) rfl ?_
  refine Ops.r (Run.mv rfl) rfl ?_
  refine Ops.rg rfl (by first | rfl | assumption | exact decide_eq_true (by assumption) | exact decide_eq_false (by assumption) | decide | (simp; done) | (simp; omega) | (simp [*]; done)) (Run.mv rfl) rfl ?_
  refine Ops.rg rfl (by first | rfl | assumption | exact decide_eq_true (by assumption) | exact decide_eq_false (by assumption) | decide | (simp; done) | (simp; omega) | (simp [*]; done)) (Run.mv rfl) rfl ?_
  refine Ops.clg rfl (by first | rfl | assumption | exact decide_eq_true (by assumption) | exact decide_eq_false (by assumption) | decide | (simp; done) | (simp; omega) | (simp [*]; done)) (Enters.fn (evs.cons rfl (evs.cons rfl evs.nil)) Try.call10) (rsame_spec A4 F1 c4 fd1 l1 l1 _ (by omega) (by omega) (((ho4.rd.frm hf7 (by simp)).frm hf8 (by simp)).drawn hd9) (ho1.rd.frm K9 (by simp))) rfl ?_
  rintro e w10 ⟨rfl, hd10⟩
  refine ⟨_, rfl, ?_⟩
  have K10 : Frm [] w2 w10 := K9.drawn hd10
  refine Ops.r (Run.pickT rfl rfl (by first | rfl | assumption | (simp; done) | (simp [*]; done) | (simp; omega))) rfl ?_
  refine Ops.r (Run.mv rfl) rfl ?_
  refine Ops.rg rfl (by first | rfl | assumption | exact decide_eq_true (by assumption) | exact decide_eq_false (by assumption) | decide | (simp; done) | (simp; omega) | (simp [*]; done)) (Run.mv rfl) rfl ?_
  refine Ops.rg rfl (by first | rfl | assumption | exact decide_eq_true (by assumption) | exact decide_eq_false (by assumption) | decide | (simp; done) | (simp; omega) | (simp [*]; done)) (Run.mv rfl) rfl ?_
  refine Ops.clg rfl (by first | rfl | assumption | exact decide_eq_true (by assumption) | exact decide_eq_false (by assumption) | decide | (simp; done) | (simp; omega) | (simp [*]; done)) (Enters.fn (evs.cons rfl (evs.cons rfl evs.nil)) Try.call10) (rsame_spec A6 F2 c6 fd2 m1 m1 _ (by omega) (by omega) ((((ho6.rd.frm hf7 (by simp)).frm hf8 (by simp)).drawn hd9).drawn hd10) (ho2.rd.frm K10 (by simp))) rfl ?_
  rintro e w11 ⟨rfl, hd11⟩
  refine ⟨_, rfl, ?_⟩
  have K11 : Frm [] w w11 := K2.trans (K10.drawn hd11) (by simp)
  refine Ops.r (Run.pickT rfl rfl (by first | rfl | assumption | (simp; done) | (simp [*]; done) | (simp; omega))) rfl ?_
  refine Ops.r (Run.mv rfl) rfl ?_
  refine Ops.clg rfl (by first | rfl | assumption | exact decide_eq_true (by assumption) | exact decide_eq_false (by assumption) | decide | (simp; done) | (simp; omega) | (simp [*]; done)) (Enters.fn evs.nil Try.call11) (awake24_spec _) rfl ?_
  rintro e w99 ⟨rfl, hf99⟩
  refine ⟨_, rfl, ?_⟩
  refine Ops.r (Run.pickT rfl rfl (by first | rfl | assumption | (simp; done) | (simp [*]; done) | (simp; omega))) rfl ?_
  refine Ops.r (Run.asg rfl) rfl ?_
  refine Ops.nil ?_
  refine thenQ_n ?_
  refine VC.sub [(6, _)] (.cons rfl .nil) ?_
  refine VC.ret ?_
  refine end1 rfl ?_
  exact ⟨rfl, K11.trans hf99 (by simp)⟩

end Go.Proofs.Ytndelocgmcilkaa
