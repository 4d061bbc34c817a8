/-
  The chapter's examples of layer 9 hold, and the law 'CanonCodes'.
-/
import Derived.Test.YtebaojedpnnliaaCanU
namespace Go.Proofs.Ytebaojedpnnliaa
open Go.RowKit

theorem code_eq (a b : Nat × Int) (w : World) : (Op.eqFields 9999 (CB a).toArray (CB b).toArray (Try.prog.fieldsOf 63).toList).run Try.prog w = .ok (decide (a = b)) w := by
  obtain ⟨f0, f1, hf, ⟨n0, t0, o0⟩, n1, t1, o1⟩ := fields63
  rw [hf]
  have h := eqF_int (P := Try.prog) (w := w) (d := 9998) (xs := (CB a).toArray) (ys := (CB b).toArray) (f := f0) (fs := [f1]) (k := .u64) (k' := .u64) (a := a.1) (b := b.1) (by rw [n0]; decide) (by rw [t0]; exact Try.isAgg25) (by rw [t0]; exact Try.underlying25) (by rw [o0]; rfl) (by rw [o0]; rfl)
    (eqF_int (k := .i64) (k' := .i64) (a := a.2) (b := b.2) (by rw [n1]; decide) (by rw [t1]; exact Try.isAgg3) (by rw [t1]; exact Try.underlying3) (by rw [o1]; rfl) (by rw [o1]; rfl) eqF_nil)
  have e : decide (a = b) = (decide ((a.1 : Int) = (b.1 : Int)) && (decide (a.2 = b.2) && true)) := by
    obtain ⟨a1, a2⟩ := a
    obtain ⟨b1, b2⟩ := b
    rw [Bool.eq_iff_iff]
    simp
    intro _
    omega
  rw [e]
  exact h

set_option maxRecDepth 100000 in
theorem awake09_spec (w : World) : Calls Try.prog 37 #[] w fun e w' => e = .returned (.bool true) ∧ Frm [] w w' := by
  refine VC.calls (nt := 82) (res := #[.tmp 0]) Try.func37 rfl Try.ntmps37 Try.results37 rfl ?_
  refine VC.seq ?_
  refine VC.region ?_
  refine Ops.r (Run.asg rfl) rfl ?_
  refine Ops.nil ?_
  refine thenQ_n ?_
  refine VC.sub [] .nil ?_
  refine VC.seq ?_
  refine VC.region ?_
  refine Ops.m (Does.buildN (cells := #[.int .i64 2, .int .i64 1, .int .i64 3, .int .i64 3]) (evs.cons rfl (evs.cons rfl (evs.cons rfl (evs.cons rfl evs.nil)))) Try.underlying54 Try.sizeOf3 zero3 rfl rfl (by kernel_rfl)) rfl ?_
  rintro _ w1 ⟨rfl, hF1⟩
  have hr1 : Rd w1 1 (some ⟨w.heap.size, 0, none⟩) ([2, 1, 3, 3] : List Int).length (IB [2, 1, 3, 3]) := Rd.of_blk hF1.blk rfl
  refine Ops.cl (Enters.fn (evs.cons rfl evs.nil) Try.call35) (codes_spec _ 4 [2, 1, 3, 3] _ (by decide) hr1) rfl ?_
  rintro e w2 ⟨hf2, he⟩
  rw [if_neg (by decide +kernel)] at he
  obtain ⟨B2, c2, rfl, ho2, hB2⟩ := he
  refine ⟨_, rfl, ?_⟩
  have hcl : codesL [2, 1, 3, 3] = [(2, 2), (0, 1), (6, 3), (7, 3)] := by decide +kernel
  rw [hcl] at ho2
  rw [show ([2, 1, 3, 3] : List Int).length = 4 from rfl] at ho2 ⊢
  have hfr2 := hF1.frm.own hf2 (by simp)
  refine Ops.r (Run.mv rfl) rfl ?_
  refine Ops.r (Run.extract rfl rfl) rfl ?_
  refine Ops.r (Run.extract rfl rfl) rfl ?_
  refine Ops.r (Run.asg rfl) rfl ?_
  refine Ops.r (Run.asg rfl) rfl ?_
  refine Ops.nil ?_
  refine thenQ_n ?_
  refine VC.sub [(1, _), (2, _)] (.cons rfl (.cons rfl .nil)) ?_
  refine VC.seq ?_
  refine VC.region ?_
  refine Ops.m (Does.buildN (cells := #[.int .i64 0, .int .i64 1]) (evs.cons rfl (evs.cons rfl evs.nil)) Try.underlying54 Try.sizeOf3 zero3 rfl rfl (by kernel_rfl)) rfl ?_
  rintro _ w3 ⟨rfl, hF3⟩
  have hr3 : Rd w3 1 (some ⟨w2.heap.size, 0, none⟩) ([0, 1] : List Int).length (IB [0, 1]) := Rd.of_blk hF3.blk rfl
  have ho3 := ho2.frm hF3.frm (by simp)
  have hfr3 := hfr2.own hF3.frm (by simp)
  refine Ops.cl (Enters.fn (evs.cons rfl evs.nil) Try.call39) (newD_spec _ 2 [0, 1] _ (by decide) hr3) rfl ?_
  rintro e w4 ⟨hf4, he⟩
  rw [if_pos (by decide +kernel)] at he
  obtain ⟨gd, Bd, cd, rfl, hD4, hgd⟩ := he
  refine ⟨_, rfl, ?_⟩
  have ho4 := ho3.frm hf4 (by simp)
  have hfr4 := hfr3.own hf4 (by simp)
  refine Ops.r (Run.mv rfl) rfl ?_
  refine Ops.r (Run.extract rfl rfl) rfl ?_
  refine Ops.r (Run.extract rfl rfl) rfl ?_
  refine Ops.r (Run.asg rfl) rfl ?_
  refine Ops.r (Run.asg rfl) rfl ?_
  refine Ops.nil ?_
  refine thenQ_n ?_
  refine VC.sub [(1, _), (2, _), (3, _), (4, _)] (.cons rfl (.cons rfl (.cons rfl (.cons rfl .nil)))) ?_
  refine VC.seq ?_
  refine VC.region ?_
  refine Ops.m (Does.buildS1 rfl Try.underlying26 Try.sizeOf5 zero5 (by decide) (by decide) rfl rfl) rfl ?_
  rintro _ w5 ⟨rfl, hF5⟩
  have hr5 : Rd w5 1 (some ⟨w4.heap.size, 0, none⟩) ([1] : List Nat).length (NB [1]) := Rd.of_blk hF5.blk rfl
  have ho5 := ho4.frm hF5.frm (by simp)
  have hD5 := hD4.frm hF5.frm (by simp)
  have hfr5 := hfr4.own hF5.frm (by simp)
  refine Ops.cl (Enters.fn (evs.cons rfl evs.nil) Try.call16) (read_spec _ 1 [1] _ (by decide) hr5) rfl ?_
  rintro e w6 ⟨gr, Ar, rfl, hR6, hf6, hA6⟩
  refine ⟨_, rfl, ?_⟩
  have ho6 := ho5.frm hf6 (by simp)
  have hD6 := hD5.frm hf6 (by simp)
  have hfr6 := hfr5.own hf6 (by simp)
  have hgr : w.heap.size ≤ gr := Nat.le_trans hfr5.size (hA6 gr (by simp))
  refine Ops.r (Run.asg rfl) rfl ?_
  refine Ops.nil ?_
  refine thenQ_n ?_
  refine VC.sub [(1, _), (2, _), (3, _), (4, _), (5, _)] (.cons rfl (.cons rfl (.cons rfl (.cons rfl (.cons rfl .nil))))) ?_
  refine VC.seq ?_
  refine VC.seq ?_
  refine VC.region ?_
  refine Ops.r (Run.mv rfl) rfl ?_
  refine Ops.r (Run.lenS rfl Try.underlying57) rfl ?_
  refine Ops.r (Run.bin rfl rfl (Bin.neqN _ 4)) rfl ?_
  refine Ops.r (Run.mv rfl) rfl ?_
  refine Ops.rg rfl (by first | rfl | assumption | decide | (simp; done) | (simp; omega) | (simp [*]; done)) (Run.mv rfl) rfl ?_
  refine Ops.rg rfl (by first | rfl | assumption | decide | (simp; done) | (simp; omega) | (simp [*]; done)) (Run.eqlNilP rfl rfl Try.underlying65) rfl ?_
  refine Ops.r (Run.pickF rfl rfl (by first | rfl | assumption | decide | (simp; done) | (simp; omega) | (simp [*]; done))) rfl ?_
  refine Ops.r (Run.mv rfl) rfl ?_
  refine Ops.rg rfl (by first | rfl | assumption | decide | (simp; done) | (simp; omega) | (simp [*]; done)) (Run.mv rfl) rfl ?_
  refine Ops.rg rfl (by first | rfl | assumption | decide | (simp; done) | (simp; omega) | (simp [*]; done)) (Run.eqlNilP rfl rfl Try.underlying31) rfl ?_
  refine Ops.r (Run.pickF rfl rfl (by first | rfl | assumption | decide | (simp; done) | (simp; omega) | (simp [*]; done))) rfl ?_
  refine Ops.nil ?_
  refine thenQ_n ?_
  refine VC.sub [(1, _), (2, _), (3, _), (4, _), (5, _), (30, _)] (.cons rfl (.cons rfl (.cons rfl (.cons rfl (.cons rfl (.cons rfl .nil)))))) ?_
  refine VC.condF rfl (rfl) ?_
  refine VC.skip ?_
  refine thenQ_n ?_
  refine VC.sub [(1, _), (2, _), (3, _), (4, _), (5, _)] (.cons rfl (.cons rfl (.cons rfl (.cons rfl (.cons rfl .nil))))) ?_
  refine VC.seq ?_
  refine VC.region ?_
  refine Ops.r (Run.mv rfl) rfl ?_
  refine Ops.r (Run.mv rfl) rfl ?_
  refine Ops.cl (Enters.fn (evs.cons rfl (evs.cons rfl evs.nil)) Try.call41) (takeD_spec gd gr Bd Ar cd [0, 1] _ 0 [1] _ (by decide) (by decide +kernel) (by decide) (by decide) (by decide) hD6 hR6) rfl ?_
  rintro e w7 ⟨rfl, _, _, hf7⟩
  refine ⟨_, rfl, ?_⟩
  have hfr7 := hfr6.own hf7 (up_one hgr)
  have htk : (tk [0, 1] (ofB [1]) (mostC [0, 1]) 1 0 0).2.2 = 11 := by decide +kernel
  rw [htk]
  have ho7 := ho6.frm hf7 (fun x hx hx2 => by simp at hx2; subst hx2; have := ho5.lt _ hx; have := hA6 x (by simp); omega)
  obtain ⟨ad, rfl, hel0⟩ := ho7.rd.elem (k := 0) (by decide)
  obtain ⟨ad1, hq1, hel1⟩ := ho7.rd.elem (k := 1) (by decide)
  obtain ⟨ad3, hq3, hel3⟩ := ho7.rd.elem (k := 3) (by decide)
  obtain rfl : ad = ad1 := by injection hq1
  obtain rfl : ad = ad3 := by injection hq3
  refine Ops.r (Run.mv rfl) rfl ?_
  refine Ops.r (Run.extract rfl rfl) rfl ?_
  refine Ops.r (Run.extract rfl rfl) rfl ?_
  refine Ops.r (Run.asg rfl) rfl ?_
  refine Ops.r (Run.asg rfl) rfl ?_
  refine Ops.nil ?_
  refine thenQ_n ?_
  refine VC.sub [(1, _), (2, _), (4, _), (7, _)] (.cons rfl (.cons rfl (.cons rfl (.cons rfl .nil)))) ?_
  refine VC.seq ?_
  refine VC.region ?_
  refine Ops.r (Run.mv rfl) rfl ?_
  refine Ops.r (Run.indexS 0 rfl rfl Try.underlying57 Try.sizeOf63 (by omega)) rfl ?_
  refine Ops.r (Run.loadA rfl Try.isAgg63 Try.sizeOf63 (hel0) (by first | rfl | (simp; done))) rfl ?_
  refine Ops.r (Run.build (evs.cons rfl (evs.cons rfl evs.nil)) zero63 (places63).choose_spec.1 (places63).choose_spec.2 rfl) rfl ?_
  refine Ops.r (Run.eqlAgg rfl rfl (by kernel_rfl) (by kernel_rfl) (by kernel_rfl) ((code_eq (2, 2) (2, 2) _))) rfl ?_
  refine Ops.r (Run.mv rfl) rfl ?_
  refine Ops.rg rfl (by first | rfl | (simp; done)) (Run.mv rfl) rfl ?_
  refine Ops.rg rfl (by first | rfl | (simp; done)) (Run.indexS 1 rfl rfl Try.underlying57 Try.sizeOf63 (by omega)) rfl ?_
  refine Ops.rg rfl (by first | rfl | (simp; done)) (Run.loadA rfl Try.isAgg63 Try.sizeOf63 (hel1) (by first | rfl | (simp; done))) rfl ?_
  refine Ops.rg rfl (by first | rfl | (simp; done)) (Run.build (evs.cons rfl evs.nil) zero63 (places63).choose_spec.1 (places63).choose_spec.2 rfl) rfl ?_
  refine Ops.rg rfl (by first | rfl | (simp; done)) (Run.eqlAgg rfl rfl (by kernel_rfl) (by kernel_rfl) (by kernel_rfl) ((code_eq (0, 1) (0, 1) _))) rfl ?_
  refine Ops.r (Run.pickT rfl rfl (by first | rfl | assumption | decide | (simp; done) | (simp; omega) | (simp [*]; done))) rfl ?_
  refine Ops.r (Run.mv rfl) rfl ?_
  refine Ops.rg rfl (by first | rfl | (simp; done)) (Run.mv rfl) rfl ?_
  refine Ops.rg rfl (by first | rfl | (simp; done)) (Run.indexS 3 rfl rfl Try.underlying57 Try.sizeOf63 (by omega)) rfl ?_
  refine Ops.rg rfl (by first | rfl | (simp; done)) (Run.loadA rfl Try.isAgg63 Try.sizeOf63 (hel3) (by first | rfl | (simp; done))) rfl ?_
  refine Ops.rg rfl (by first | rfl | (simp; done)) (Run.build (evs.cons rfl (evs.cons rfl evs.nil)) zero63 (places63).choose_spec.1 (places63).choose_spec.2 rfl) rfl ?_
  refine Ops.rg rfl (by first | rfl | (simp; done)) (Run.eqlAgg rfl rfl (by kernel_rfl) (by kernel_rfl) (by kernel_rfl) ((code_eq (7, 3) (7, 3) _))) rfl ?_
  refine Ops.r (Run.pickT rfl rfl (by first | rfl | assumption | decide | (simp; done) | (simp; omega) | (simp [*]; done))) rfl ?_
  refine Ops.r (Run.mv rfl) rfl ?_
  refine Ops.rg rfl (by first | rfl | (simp; done)) (Run.mv rfl) rfl ?_
  refine Ops.rg rfl (by first | rfl | (simp; done)) (Run.bin rfl rfl (Bin.eqlN _ 0)) rfl ?_
  refine Ops.r (Run.pickT rfl rfl (by first | rfl | assumption | decide | (simp; done) | (simp; omega) | (simp [*]; done))) rfl ?_
  refine Ops.r (Run.mv rfl) rfl ?_
  refine Ops.rg rfl (by first | rfl | (simp; done)) (Run.mv rfl) rfl ?_
  refine Ops.rg rfl (by first | rfl | (simp; done)) (Run.bin rfl rfl (Bin.eqlN _ 0)) rfl ?_
  refine Ops.r (Run.pickT rfl rfl (by first | rfl | assumption | decide | (simp; done) | (simp; omega) | (simp [*]; done))) rfl ?_
  refine Ops.r (Run.mv rfl) rfl ?_
  refine Ops.rg rfl (by first | rfl | (simp; done)) (Run.mv rfl) rfl ?_
  refine Ops.rg rfl (by first | rfl | (simp; done)) (Run.bin rfl rfl (Bin.eqlN _ 11)) rfl ?_
  refine Ops.r (Run.pickT rfl rfl (by first | rfl | assumption | decide | (simp; done) | (simp; omega) | (simp [*]; done))) rfl ?_
  refine Ops.r (Run.mv rfl) rfl ?_
  refine Ops.mg rfl (by first | rfl | (simp; done)) (Does.buildN (cells := #[.int .i64 1, .int .i64 1, .int .i64 1]) (evs.cons rfl (evs.cons rfl (evs.cons rfl evs.nil))) Try.underlying54 Try.sizeOf3 zero3 rfl rfl (by kernel_rfl)) rfl ?_
  rintro _ w8 ⟨rfl, hF8⟩
  have hr8 : Rd w8 1 (some ⟨w7.heap.size, 0, none⟩) ([1, 1, 1] : List Int).length (IB [1, 1, 1]) := Rd.of_blk hF8.blk rfl
  have hfr8 := hfr7.own hF8.frm (by simp)
  refine Ops.clg rfl (by first | rfl | (simp; done)) (Enters.fn (evs.cons rfl evs.nil) Try.call36) (check_spec _ 3 [1, 1, 1] _ (by decide) hr8) rfl ?_
  rintro e w9 ⟨rfl, hf9⟩
  refine ⟨_, rfl, ?_⟩
  have hfr9 := hfr8.own hf9 (by simp)
  rw [show chk [1, 1, 1] = 8 by decide +kernel]
  refine Ops.rg rfl (by first | rfl | (simp; done)) (Run.bin rfl rfl (Bin.eqlN _ 8)) rfl ?_
  refine Ops.r (Run.pickT rfl rfl (by first | rfl | assumption | decide | (simp; done) | (simp; omega) | (simp [*]; done))) rfl ?_
  refine Ops.r (Run.mv rfl) rfl ?_
  refine Ops.mg rfl (by first | rfl | (simp; done)) (Does.buildN (cells := #[.int .i64 2, .int .i64 2]) (evs.cons rfl (evs.cons rfl evs.nil)) Try.underlying54 Try.sizeOf3 zero3 rfl rfl (by kernel_rfl)) rfl ?_
  rintro _ w10 ⟨rfl, hF10⟩
  have hr10 : Rd w10 1 (some ⟨w9.heap.size, 0, none⟩) ([2, 2] : List Int).length (IB [2, 2]) := Rd.of_blk hF10.blk rfl
  have hfr10 := hfr9.own hF10.frm (by simp)
  refine Ops.clg rfl (by first | rfl | (simp; done)) (Enters.fn (evs.cons rfl evs.nil) Try.call36) (check_spec _ 2 [2, 2] _ (by decide) hr10) rfl ?_
  rintro e w11 ⟨rfl, hf11⟩
  refine ⟨_, rfl, ?_⟩
  have hfr11 := hfr10.own hf11 (by simp)
  rw [show chk [2, 2] = 2 by decide +kernel]
  refine Ops.rg rfl (by first | rfl | (simp; done)) (Run.bin rfl rfl (Bin.eqlN _ 2)) rfl ?_
  refine Ops.r (Run.pickT rfl rfl (by first | rfl | assumption | decide | (simp; done) | (simp; omega) | (simp [*]; done))) rfl ?_
  refine Ops.r (Run.mv rfl) rfl ?_
  refine Ops.r (Run.pickT rfl rfl (by first | rfl | assumption | decide | (simp; done) | (simp; omega) | (simp [*]; done))) rfl ?_
  refine Ops.r (Run.mv rfl) rfl ?_
  refine Ops.r (Run.pickT rfl rfl (by first | rfl | assumption | decide | (simp; done) | (simp; omega) | (simp [*]; done))) rfl ?_
  refine Ops.r (Run.asg rfl) rfl ?_
  refine Ops.nil ?_
  refine thenQ_n ?_
  refine VC.sub [(0, _)] (.cons rfl .nil) ?_
  refine VC.ret ?_
  refine end1 rfl ?_
  exact ⟨rfl, hfr11⟩

set_option maxRecDepth 100000 in
theorem few9_spec (A : Option Addr) (c0 : Nat) (l : List Int) (w : World) (hc : l.length ≤ c0) (hr : Rd w 1 A l.length (IB l)) :
    Calls Try.prog 33 #[.slice A l.length c0] w fun e w' => (∃ B c, e = .returned (.slice B (l.take 321).length c) ∧ Rd w 1 B (l.take 321).length (IB (l.take 321))) ∧ w = w' := by
  refine VC.calls (nt := 9) (res := #[.tmp 2]) Try.func33 rfl Try.ntmps33 Try.results33 rfl ?_
  refine VC.seq ?_
  refine VC.region ?_
  refine Ops.r (Run.asg rfl) rfl ?_
  refine Ops.nil ?_
  refine thenQ_n ?_
  refine VC.sub [(0, _)] (.cons rfl .nil) ?_
  refine VC.seq ?_
  refine VC.seq ?_
  refine VC.region ?_
  refine Ops.r (Run.mv rfl) rfl ?_
  refine Ops.r (Run.lenS rfl Try.underlying54) rfl ?_
  refine Ops.r (Run.bin rfl rfl (Bin.gtrN _ 321)) rfl ?_
  refine Ops.nil ?_
  refine thenQ_n ?_
  refine VC.sub [(0, _), (5, _)] (.cons rfl (.cons rfl .nil)) ?_
  refine VC.condD rfl (fun hc1 => ?_) (fun hc1 => ?_)
  · skip
    refine VC.seq ?_
    refine VC.region ?_
    refine Ops.r (Run.mv rfl) rfl ?_
    refine Ops.r (Run.sliceS 0 321 rfl Try.underlying54 Try.sizeOf3 evB.none_ (evB.some_ rfl) (by omega) (by omega)) rfl ?_
    refine Ops.r (Run.asg rfl) rfl ?_
    refine Ops.nil ?_
    refine thenQ_n ?_
    refine VC.sub [(2, _)] (.cons rfl .nil) ?_
    refine VC.ret ?_
    refine thenQ_r (end1 rfl ?_)
    refine ⟨⟨cutA A c0 0 1, c0 - 0, ?_, ?_⟩, rfl⟩
    · rw [show (l.take 321).length = 321 - 0 from by simp; omega]
    · have e := hr.cut (l := 0) (r := 321) (cap := c0) (by omega) (by omega) hc
      have e1 : (l.take 321).length = 321 := by simp; omega
      have e2 : IB (l.take 321) = ((IB l).drop (0 * 1)).take ((321 - 0) * 1) := by simp [IB, List.map_take]
      rw [e1, e2]
      exact e
  · skip
    refine VC.skip ?_
    refine thenQ_n ?_
    refine VC.sub [(0, _)] (.cons rfl .nil) ?_
    refine VC.seq ?_
    refine VC.region ?_
    refine Ops.r (Run.mv rfl) rfl ?_
    refine Ops.r (Run.asg rfl) rfl ?_
    refine Ops.nil ?_
    refine thenQ_n ?_
    refine VC.sub [(2, _)] (.cons rfl .nil) ?_
    refine VC.ret ?_
    refine end1 rfl ?_
    refine ⟨⟨A, c0, ?_, ?_⟩, rfl⟩
    · rw [List.take_of_length_le (by omega)]
    · rw [List.take_of_length_le (by omega)]; exact hr

set_option maxRecDepth 100000 in
theorem codes_walk (A : Option Addr) (n c0 : Nat) (l : List Int) (w : World) (hn : l.length = n) (hc : n ≤ c0) (hr : Rd w 1 A n (IB l)) :
    Calls Try.prog 7 #[.slice A n c0] w fun e w' => e = .returned (.bool true) ∧ Frm [] w w' := by
  subst hn
  refine VC.calls (nt := 65) (res := #[.tmp 2]) Try.func7 rfl Try.ntmps7 Try.results7 rfl ?_
  refine VC.seq ?_
  refine VC.region ?_
  refine Ops.r (Run.asg rfl) rfl ?_
  refine Ops.nil ?_
  refine thenQ_n ?_
  refine VC.sub [(0, _)] (.cons rfl .nil) ?_
  refine VC.seq ?_
  refine VC.region ?_
  refine Ops.r (Run.mv rfl) rfl ?_
  refine Ops.cl (Enters.fn (evs.cons rfl evs.nil) Try.call33) (few9_spec A c0 l _ hc hr) rfl ?_
  rintro e _ ⟨⟨B, c, rfl, hr1⟩, rfl⟩
  refine ⟨_, rfl, ?_⟩
  have hl : (l.take 321).length ≤ 321 := by simp; omega
  generalize l.take 321 = l at *
  refine Ops.r (Run.asg rfl) rfl ?_
  refine Ops.nil ?_
  refine thenQ_n ?_
  refine VC.sub [(0, _)] (.cons rfl .nil) ?_
  refine VC.seq ?_
  refine VC.region ?_
  refine Ops.r (Run.mv rfl) rfl ?_
  refine Ops.cl (Enters.fn (evs.cons rfl evs.nil) Try.call34) (refCheck_spec B c l _ (by omega) hr1) rfl ?_
  rintro e _ ⟨rfl, rfl⟩
  refine ⟨_, rfl, ?_⟩
  refine Ops.r (Run.asg rfl) rfl ?_
  refine Ops.nil ?_
  refine thenQ_n ?_
  refine VC.sub [(0, _), (3, _)] (.cons rfl (.cons rfl .nil)) ?_
  refine VC.seq ?_
  refine VC.region ?_
  refine Ops.r (Run.mv rfl) rfl ?_
  refine Ops.cl (Enters.fn (evs.cons rfl evs.nil) Try.call35) (codes_spec B c l _ (by omega) hr1) rfl ?_
  rintro e w2 ⟨hf2, he⟩
  obtain ⟨vs, ve, hee, he2⟩ : ∃ vs ve, e = .returned (.tuple #[vs, ve]) ∧ ((chk l = 1 ∨ chk l = 8) ∧ vs = .slice none 0 0 ∧ ve = .int .i64 ((chk l : Nat) : Int) ∨ ¬ (chk l = 1 ∨ chk l = 8) ∧ ∃ C cc, vs = .slice C l.length cc ∧ ve = .int .i64 ((0 : Nat) : Int) ∧ Own w2 63 2 C l.length cc ((codesL l).flatMap CB)) := by
    by_cases h : chk l = 1 ∨ chk l = 8
    · rw [if_pos h] at he; exact ⟨_, _, he, .inl ⟨h, rfl, rfl⟩⟩
    · rw [if_neg h] at he; obtain ⟨C, cc, h1, h2, _⟩ := he; exact ⟨_, _, h1, .inr ⟨h, C, cc, rfl, rfl, h2⟩⟩
  clear he
  subst hee
  refine ⟨_, rfl, ?_⟩
  refine Ops.r (Run.mv rfl) rfl ?_
  refine Ops.r (Run.extract rfl rfl) rfl ?_
  refine Ops.r (Run.extract rfl rfl) rfl ?_
  refine Ops.r (Run.asg rfl) rfl ?_
  refine Ops.r (Run.asg rfl) rfl ?_
  refine Ops.nil ?_
  refine thenQ_n ?_
  refine VC.sub [(0, _), (3, _), (4, _), (5, _)] (.cons rfl (.cons rfl (.cons rfl (.cons rfl .nil)))) ?_
  refine VC.seq ?_
  refine VC.seq ?_
  refine VC.region ?_
  refine Ops.r (Run.mv rfl) rfl ?_
  refine Ops.cl (Enters.fn (evs.cons rfl evs.nil) Try.call36) (check_spec B c l _ (by omega) (hr1.belowW hf2.below)) rfl ?_
  rintro e w3 ⟨rfl, hf3⟩
  refine ⟨_, rfl, ?_⟩
  have hfr3 := hf2.own hf3 (by simp)
  refine Ops.r (Run.mv rfl) rfl ?_
  refine Ops.r (Run.bin rfl rfl (Bin.neqN _ _)) rfl ?_
  refine Ops.nil ?_
  refine thenQ_n ?_
  refine VC.sub [(0, _), (3, _), (4, _), (5, _), (20, _)] (.cons rfl (.cons rfl (.cons rfl (.cons rfl (.cons rfl .nil))))) ?_
  refine VC.condF rfl (by simp) ?_
  refine VC.skip ?_
  refine thenQ_n ?_
  refine VC.sub [(0, _), (3, _), (4, _), (5, _)] (.cons rfl (.cons rfl (.cons rfl (.cons rfl .nil)))) ?_
  refine VC.seq ?_
  refine VC.seq ?_
  refine VC.split1 [(0, _), (3, _), (4, _), (5, _)] (.cons rfl (.cons rfl (.cons rfl (.cons rfl .nil)))) 26 (.bool (decide (chk l = 1 ∨ chk l = 8))) ?_ ?_
  · by_cases hs0 : chk l = 1
    · skip
      refine VC.region ?_
      refine Ops.r (Run.mv rfl) rfl ?_
      refine Ops.r (Run.bin rfl rfl (Bin.eqlN _ 1)) rfl ?_
      refine Ops.r (Run.mv rfl) rfl ?_
      refine Ops.sk rfl (by first | rfl | assumption | decide | (simp; done) | (simp; omega) | (simp [*]; done)) rfl ?_
      refine Ops.sk rfl (by first | rfl | assumption | decide | (simp; done) | (simp; omega) | (simp [*]; done)) rfl ?_
      refine Ops.r (Run.pickT rfl rfl (by first | rfl | assumption | decide | (simp; done) | (simp; omega) | (simp [*]; done))) rfl ?_
      refine Ops.nil ?_
      refine thenQ_n ⟨(.cons (by rw [dor1 hs0]; rfl) (.cons rfl (.cons rfl (.cons rfl (.cons rfl .nil))))), rfl⟩
    · skip
      refine VC.region ?_
      refine Ops.r (Run.mv rfl) rfl ?_
      refine Ops.r (Run.bin rfl rfl (Bin.eqlN _ 1)) rfl ?_
      refine Ops.r (Run.mv rfl) rfl ?_
      refine Ops.rg rfl (by first | rfl | assumption | decide | (simp; done) | (simp; omega) | (simp [*]; done)) (Run.mv rfl) rfl ?_
      refine Ops.rg rfl (by first | rfl | assumption | decide | (simp; done) | (simp; omega) | (simp [*]; done)) (Run.bin rfl rfl (Bin.eqlN _ 8)) rfl ?_
      refine Ops.r (Run.pickF rfl rfl (by first | rfl | assumption | decide | (simp; done) | (simp; omega) | (simp [*]; done))) rfl ?_
      refine Ops.nil ?_
      refine thenQ_n ⟨(.cons (by rw [dor0 hs0]; rfl) (.cons rfl (.cons rfl (.cons rfl (.cons rfl .nil))))), rfl⟩
  · intro Γ hΓ
    refine thenQ_n (VC.sub _ hΓ ?_)
    refine VC.condD rfl (fun hc2 => ?_) (fun hc2 => ?_)
    · skip
      obtain ⟨_, rfl, rfl⟩ := he2.resolve_right (fun h => h.1 hc2)
      refine VC.seq ?_
      refine VC.region ?_
      refine Ops.r (Run.mv rfl) rfl ?_
      refine Ops.r (Run.lenS rfl Try.underlying57) rfl ?_
      refine Ops.r (Run.bin rfl rfl (Bin.eqlN _ 0)) rfl ?_
      refine Ops.r (Run.mv rfl) rfl ?_
      refine Ops.rg rfl (by first | rfl | (simp; done)) (Run.mv rfl) rfl ?_
      refine Ops.rg rfl (by first | rfl | (simp; done)) (Run.mv rfl) rfl ?_
      refine Ops.rg rfl (by first | rfl | (simp; done)) (Run.bin rfl rfl (Bin.eqlN _ _)) rfl ?_
      refine Ops.r (Run.pickT rfl rfl (by first | rfl | assumption | decide | (simp; done) | (simp; omega) | (simp [*]; done))) rfl ?_
      refine Ops.r (Run.mv rfl) rfl ?_
      refine Ops.clg rfl (by first | rfl | (simp; done)) (Enters.fn evs.nil Try.call37) (awake09_spec _) rfl ?_
      rintro e w8 ⟨rfl, hf8⟩
      refine ⟨_, rfl, ?_⟩
      refine Ops.r (Run.pickT rfl rfl (by first | rfl | assumption | decide | (simp; done) | (simp; omega) | (simp [*]; done))) rfl ?_
      refine Ops.r (Run.asg rfl) rfl ?_
      refine Ops.nil ?_
      refine thenQ_n ?_
      refine VC.sub [(2, _)] (.cons rfl .nil) ?_
      refine VC.ret ?_
      refine thenQ_r (end1 rfl ?_)
      exact ⟨rfl, hfr3.own hf8 (by simp)⟩
    · skip
      obtain ⟨_, C, cc, rfl, rfl, ho⟩ := he2.resolve_left (fun h => hc2 h.1)
      have ho3 := ho.frm hf3 (by simp)
      have hgl : good l := chk_good (fun h => hc2 (.inl h))
      refine VC.skip ?_
      refine thenQ_n ?_
      refine VC.sub [(0, _), (4, _), (5, _)] (.cons rfl (.cons rfl (.cons rfl .nil))) ?_
      refine VC.seq ?_
      refine VC.region ?_
      refine Ops.r (Run.mv rfl) rfl ?_
      refine Ops.cl (Enters.fn (evs.cons rfl evs.nil) Try.call38) (refCodes_spec B c l _ hgl (hr1.belowW hfr3.below)) rfl ?_
      rintro e w4 ⟨D, cd, rfl, hoD, hf4, _⟩
      refine ⟨_, rfl, ?_⟩
      have ho4 := ho3.frm hf4 (by simp)
      have hfr4 := hfr3.own hf4 (by simp)
      refine Ops.r (Run.asg rfl) rfl ?_
      refine Ops.nil ?_
      refine thenQ_n ?_
      refine VC.sub [(4, _), (5, _), (6, _)] (.cons rfl (.cons rfl (.cons rfl .nil))) ?_
      refine VC.seq ?_
      refine VC.seq ?_
      refine VC.region ?_
      refine Ops.r (Run.mv rfl) rfl ?_
      refine Ops.r (Run.lenS rfl Try.underlying57) rfl ?_
      refine Ops.r (Run.mv rfl) rfl ?_
      refine Ops.r (Run.lenS rfl Try.underlying57) rfl ?_
      refine Ops.r (Run.bin rfl rfl (Bin.neqN _ _)) rfl ?_
      refine Ops.r (Run.mv rfl) rfl ?_
      refine Ops.rg rfl (by first | rfl | (simp; done)) (Run.mv rfl) rfl ?_
      refine Ops.rg rfl (by first | rfl | (simp; done)) (Run.bin rfl rfl (Bin.neqN _ 0)) rfl ?_
      refine Ops.r (Run.pickF rfl rfl (by first | rfl | assumption | decide | (simp; done) | (simp; omega) | (simp [*]; done))) rfl ?_
      refine Ops.nil ?_
      refine thenQ_n ?_
      refine VC.sub [(4, _), (6, _), (48, _)] (.cons rfl (.cons rfl (.cons rfl .nil))) ?_
      refine VC.condF rfl (by simp) ?_
      refine VC.skip ?_
      refine thenQ_n ?_
      refine VC.sub [(4, _), (6, _)] (.cons rfl (.cons rfl .nil)) ?_
      refine VC.seq ?_
      refine VC.seq ?_
      refine VC.region ?_
      refine Ops.r (v := .int .i64 ((0 : Nat) : Int)) (Run.asg rfl) rfl ?_
      refine Ops.nil ?_
      refine thenQ_n ?_
      refine VC.block ?_
      refine VC.loop (σ := Nat) (fun s => [(4, .slice C l.length cc), (6, .slice D l.length cd), (7, .int .i64 s)]) (fun s wr => s ≤ l.length ∧ Own wr 63 2 C l.length cc ((codesL l).flatMap CB) ∧ Own wr 63 2 D l.length cd ((codesL l).flatMap CB) ∧ Frm [] w wr) (fun s => l.length - s) 0 (.cons rfl (.cons rfl (.cons rfl .nil))) ⟨by omega, ho4, hoD, hfr4⟩ ?_
      rintro i wr ⟨hi, ho, hoD, hfr⟩
      refine VC.seq ?_
      refine VC.seq ?_
      refine VC.region ?_
      refine Ops.r (Run.mv rfl) rfl ?_
      refine Ops.r (Run.mv rfl) rfl ?_
      refine Ops.r (Run.lenS rfl Try.underlying57) rfl ?_
      refine Ops.r (Run.bin rfl rfl (Bin.lssN _ _)) rfl ?_
      refine Ops.nil ?_
      refine thenQ_n ?_
      refine VC.sub [(4, _), (6, _), (7, _), (52, _)] (.cons rfl (.cons rfl (.cons rfl (.cons rfl .nil)))) ?_
      refine VC.condD rfl (fun hc4 => ?_) (fun hc4 => ?_)
      · skip
        obtain ⟨ad, rfl, hel⟩ := ho.rd.elem hc4
        obtain ⟨ad2, rfl, hel2⟩ := hoD.rd.elem hc4
        have hcl : (codesL l).length = l.length := by simp [codesL]
        rw [flat_get CB 2 CB_len (codesL l) i (by omega)] at hel hel2
        have hd := Drawn.drew wr
        generalize (codesL l)[i] = cd0 at *
        refine VC.skip ?_
        refine thenQ_n ?_
        refine VC.sub [(4, _), (6, _), (7, _)] (.cons rfl (.cons rfl (.cons rfl .nil))) ?_
        refine VC.seq ?_
        refine VC.block ?_
        refine VC.seq ?_
        refine VC.still (by kernel_rfl) (by kernel_rfl) ?_
        refine SOps.r (Run.mv rfl) rfl ?_
        refine SOps.r (Run.mv rfl) rfl ?_
        refine SOps.r (Run.indexS _ rfl rfl Try.underlying57 Try.sizeOf63 (by omega)) rfl ?_
        refine SOps.r (Run.loadA rfl Try.isAgg63 Try.sizeOf63 hel (by first | rfl | (simp; done))) rfl ?_
        refine SOps.r (Run.mv rfl) rfl ?_
        refine SOps.r (Run.mv rfl) rfl ?_
        refine SOps.r (Run.indexS _ rfl rfl Try.underlying57 Try.sizeOf63 (by omega)) rfl ?_
        refine SOps.r (Run.loadA rfl Try.isAgg63 Try.sizeOf63 hel2 (by first | rfl | (simp; done))) rfl ?_
        refine SOps.r (Run.neqAgg rfl rfl (by kernel_rfl) (by kernel_rfl) (by kernel_rfl) ((code_eq cd0 cd0 _))) rfl ?_
        refine SOps.nil ?_
        refine thenQ_n ?_
        refine VC.sub [(4, _), (6, _), (7, _), (63, _)] (.cons rfl (.cons rfl (.cons rfl (.cons rfl .nil)))) ?_
        refine VC.condF rfl (by simp) ?_
        refine VC.skip ?_
        refine blockQ_n (thenQ_n ?_)
        refine VC.sub [(4, _), (6, _), (7, _)] (.cons rfl (.cons rfl (.cons rfl .nil))) ?_
        refine VC.region ?_
        refine Ops.r (Run.mv rfl) rfl ?_
        refine Ops.r (Run.bin rfl rfl (Bin.add_i64 _ 1 (by omega))) rfl ?_
        refine Ops.r (Run.asg rfl) rfl ?_
        refine Ops.nil ?_
        refine thenQ_n ⟨(i + 1), (.cons rfl (.cons rfl (.cons rfl .nil))), ?_, ?_⟩
        · skip
          exact ⟨hc4, ho.drawn hd, hoD.drawn hd, hfr.drawn hd⟩
        · skip
          first | omega | (dsimp only; omega)
      · skip
        refine VC.exit ?_
        refine thenQ_x (thenQ_x (blockQ_x ?_))
        refine thenQ_n ?_
        refine VC.sub [] .nil ?_
        refine VC.seq ?_
        refine VC.region ?_
        refine Ops.cl (Enters.fn evs.nil Try.call37) (awake09_spec _) rfl ?_
        rintro e w8 ⟨rfl, hf8⟩
        refine ⟨_, rfl, ?_⟩
        refine Ops.r (Run.asg rfl) rfl ?_
        refine Ops.nil ?_
        refine thenQ_n ?_
        refine VC.sub [(2, _)] (.cons rfl .nil) ?_
        refine VC.ret ?_
        refine end1 rfl ?_
        exact ⟨rfl, hfr.own hf8 (by simp)⟩

end Go.Proofs.Ytebaojedpnnliaa
