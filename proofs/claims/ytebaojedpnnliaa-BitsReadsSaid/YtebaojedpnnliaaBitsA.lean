/-
  The chapter's examples of layer 8 hold: the law's own 'awake' returns true.
-/
import Derived.Test.YtebaojedpnnliaaBitsV
namespace Go.Proofs.Ytebaojedpnnliaa
open Go.RowKit
theorem Own.str {w : World} {e : Nat} {B : Option Addr} {n c : Nat} {xs : List Nat} (h : Own w e 1 B n c (NB xs)) (hx : ∀ x ∈ xs, x < 256) : Rd w 1 B n (U8 (xs.map UInt8.ofNat)) := by
  rw [← NB_U8 xs hx]; exact h.rd

set_option maxRecDepth 100000 in
theorem awake08_spec (w : World) : Calls Try.prog 20 #[] w fun e w' => e = .returned (.bool true) ∧ Frm [] w w' := by
  refine VC.calls (nt := 94) (res := #[.tmp 0]) Try.func20 rfl Try.ntmps20 Try.results20 rfl ?_
  refine VC.seq ?_
  refine VC.region ?_
  refine Ops.r (Run.asg rfl) rfl ?_
  refine Ops.nil ?_
  refine thenQ_n ?_
  refine VC.sub [] .nil ?_
  refine VC.seq ?_
  refine VC.region ?_
  refine Ops.cl (Enters.fn evs.nil Try.call13) (new_spec _) rfl ?_
  rintro e w1 ⟨rfl, hW1, hf1, hs1⟩
  refine ⟨_, rfl, ?_⟩
  generalize hg : w.heap.size = g at *
  refine Ops.r (Run.asg rfl) rfl ?_
  refine Ops.nil ?_
  refine thenQ_n ?_
  refine VC.sub [(1, _)] (.cons rfl .nil) ?_
  refine VC.seq ?_
  refine VC.seq ?_
  refine VC.region ?_
  refine Ops.r (Run.mv rfl) rfl ?_
  refine Ops.r (Run.eqlNilP rfl rfl Try.underlying23) rfl ?_
  refine Ops.nil ?_
  refine thenQ_n ?_
  refine VC.sub [(1, _), (16, _)] (.cons rfl (.cons rfl .nil)) ?_
  refine VC.condF rfl (rfl) ?_
  refine VC.skip ?_
  refine thenQ_n ?_
  refine VC.sub [(1, _)] (.cons rfl .nil) ?_
  refine VC.seq ?_
  refine VC.region ?_
  refine Ops.r (Run.mv rfl) rfl ?_
  refine Ops.cl (Enters.fn (evs.cons rfl (evs.cons rfl (evs.cons rfl evs.nil))) Try.call14) (put_ok g 1 1 none [] _ (by decide) (by decide) (by decide) hW1) rfl ?_
  rintro e w2 ⟨rfl, A2, hW2, hf2, hA2⟩
  refine ⟨_, rfl, ?_⟩
  refine Ops.r (Run.mv rfl) rfl ?_
  refine Ops.cl (Enters.fn (evs.cons rfl (evs.cons rfl (evs.cons rfl evs.nil))) Try.call14) (put_ok g 2 2 A2 _ _ (by decide) (by decide) (by decide +kernel) hW2) rfl ?_
  rintro e w3 ⟨rfl, A3, hW3, hf3, hA3⟩
  refine ⟨_, rfl, ?_⟩
  refine Ops.r (Run.asg rfl) rfl ?_
  refine Ops.r (Run.asg rfl) rfl ?_
  refine Ops.nil ?_
  refine thenQ_n ?_
  refine VC.sub [(1, _), (2, _), (3, _)] (.cons rfl (.cons rfl (.cons rfl .nil))) ?_
  refine VC.seq ?_
  refine VC.region ?_
  refine Ops.r (Run.mv rfl) rfl ?_
  refine Ops.cl (Enters.fn (evs.cons rfl evs.nil) Try.call17) (bytes_spec g A3 _ _ (by decide +kernel) hW3) rfl ?_
  rintro e w4 ⟨B4, c4, rfl, ho4, hf4, hB4⟩
  refine ⟨_, rfl, ?_⟩
  have hW4 := hW3.frm hf4 (by simp)
  refine Ops.r (Run.strOf rfl Try.underlying26 Try.underlying5 Try.underlying9 (ho4.str (pack_lt _))) rfl ?_
  refine Ops.r (Run.asg rfl) rfl ?_
  refine Ops.nil ?_
  refine thenQ_n ?_
  refine VC.sub [(1, _), (2, _), (3, _), (4, _)] (.cons rfl (.cons rfl (.cons rfl (.cons rfl .nil)))) ?_
  refine VC.seq ?_
  refine VC.region ?_
  refine Ops.r (Run.mv rfl) rfl ?_
  refine Ops.cl (Enters.fn (evs.cons rfl (evs.cons rfl (evs.cons rfl evs.nil))) Try.call15) (turned_ok g 6 3 A3 _ _ (by decide) (by decide) (by decide +kernel) hW4) rfl ?_
  rintro e w5 ⟨rfl, A5, hW5, hf5, hA5⟩
  refine ⟨_, rfl, ?_⟩
  refine Ops.r (Run.asg rfl) rfl ?_
  refine Ops.nil ?_
  refine thenQ_n ?_
  refine VC.sub [(1, _), (2, _), (3, _), (4, _), (5, _)] (.cons rfl (.cons rfl (.cons rfl (.cons rfl (.cons rfl .nil))))) ?_
  refine VC.seq ?_
  refine VC.region ?_
  refine Ops.r (Run.mv rfl) rfl ?_
  refine Ops.cl (Enters.fn (evs.cons rfl evs.nil) Try.call17) (bytes_spec g A5 _ _ (by decide +kernel) hW5) rfl ?_
  rintro e w6 ⟨B6, c6, rfl, ho6, hf6, hB6⟩
  refine ⟨_, rfl, ?_⟩
  have hW6 := hW5.frm hf6 (by simp)
  refine Ops.cl (Enters.fn (evs.cons rfl evs.nil) Try.call16) (read_spec B6 c6 _ _ (by decide +kernel) ho6.rd) rfl ?_
  rintro e w7 ⟨g7, A7, rfl, hR7, hf7, hA7⟩
  refine ⟨_, rfl, ?_⟩
  have hW7 := hW6.frm hf7 (by simp)
  have hlt7 := hW6.lt
  have hne : ∀ x ∈ g :: ob A5, x ∉ [g7] := by
    intro x hx hx2
    have h1 := hlt7 x hx
    have h2 := hA7 g7 (by simp)
    simp at hx2
    omega
  refine Ops.r (Run.asg rfl) rfl ?_
  refine Ops.nil ?_
  refine thenQ_n ?_
  refine VC.sub [(1, _), (2, _), (3, _), (4, _), (5, _), (6, _)] (.cons rfl (.cons rfl (.cons rfl (.cons rfl (.cons rfl (.cons rfl .nil)))))) ?_
  refine VC.seq ?_
  refine VC.seq ?_
  refine VC.region ?_
  refine Ops.r (Run.mv rfl) rfl ?_
  refine Ops.r (Run.eqlNilP rfl rfl Try.underlying31) rfl ?_
  refine Ops.nil ?_
  refine thenQ_n ?_
  refine VC.sub [(1, _), (2, _), (3, _), (4, _), (5, _), (6, _), (30, _)] (.cons rfl (.cons rfl (.cons rfl (.cons rfl (.cons rfl (.cons rfl (.cons rfl .nil))))))) ?_
  refine VC.condF rfl (rfl) ?_
  refine VC.skip ?_
  refine thenQ_n ?_
  refine VC.sub [(1, _), (2, _), (3, _), (4, _), (5, _), (6, _)] (.cons rfl (.cons rfl (.cons rfl (.cons rfl (.cons rfl (.cons rfl .nil)))))) ?_
  refine VC.seq ?_
  refine VC.region ?_
  refine Ops.r (Run.mv rfl) rfl ?_
  refine Ops.cl (Enters.fn (evs.cons rfl (evs.cons rfl evs.nil)) Try.call18) (take_ok g7 1 0 A7 _ _ (by decide +kernel) (by decide +kernel) (pack_lt _) hR7 (by decide) (by decide +kernel)) rfl ?_
  rintro e w8 ⟨rfl, hR8, hf8⟩
  refine ⟨_, rfl, ?_⟩
  refine Ops.r (Run.mv rfl) rfl ?_
  refine Ops.r (Run.extract rfl rfl) rfl ?_
  refine Ops.r (Run.extract rfl rfl) rfl ?_
  refine Ops.r (Run.asg rfl) rfl ?_
  refine Ops.r (Run.asg rfl) rfl ?_
  refine Ops.nil ?_
  refine thenQ_n ?_
  refine VC.sub [(1, _), (2, _), (3, _), (4, _), (5, _), (6, _), (7, _), (8, _)] (.cons rfl (.cons rfl (.cons rfl (.cons rfl (.cons rfl (.cons rfl (.cons rfl (.cons rfl .nil)))))))) ?_
  refine VC.seq ?_
  refine VC.region ?_
  refine Ops.r (Run.mv rfl) rfl ?_
  refine Ops.cl (Enters.fn (evs.cons rfl (evs.cons rfl evs.nil)) Try.call18) (take_ok g7 2 1 A7 _ _ (by decide +kernel) (by decide +kernel) (pack_lt _) hR8 (by decide) (by decide +kernel)) rfl ?_
  rintro e w9 ⟨rfl, hR9, hf9⟩
  refine ⟨_, rfl, ?_⟩
  refine Ops.r (Run.mv rfl) rfl ?_
  refine Ops.r (Run.extract rfl rfl) rfl ?_
  refine Ops.r (Run.extract rfl rfl) rfl ?_
  refine Ops.r (Run.asg rfl) rfl ?_
  refine Ops.r (Run.asg rfl) rfl ?_
  refine Ops.nil ?_
  refine thenQ_n ?_
  refine VC.sub [(1, _), (2, _), (3, _), (4, _), (5, _), (6, _), (7, _), (8, _), (9, _), (10, _)] (.cons rfl (.cons rfl (.cons rfl (.cons rfl (.cons rfl (.cons rfl (.cons rfl (.cons rfl (.cons rfl (.cons rfl .nil)))))))))) ?_
  refine VC.seq ?_
  refine VC.region ?_
  refine Ops.r (Run.mv rfl) rfl ?_
  refine Ops.cl (Enters.fn (evs.cons rfl evs.nil) Try.call32) (at_spec g7 3 A7 _ _ hR9) rfl ?_
  rintro e w10 ⟨rfl, rfl⟩
  refine ⟨_, rfl, ?_⟩
  refine Ops.r (Run.asg rfl) rfl ?_
  refine Ops.nil ?_
  refine thenQ_n ?_
  refine VC.sub [(1, _), (2, _), (3, _), (4, _), (5, _), (6, _), (7, _), (8, _), (9, _), (10, _), (11, _)] (.cons rfl (.cons rfl (.cons rfl (.cons rfl (.cons rfl (.cons rfl (.cons rfl (.cons rfl (.cons rfl (.cons rfl (.cons rfl .nil))))))))))) ?_
  refine VC.seq ?_
  refine VC.region ?_
  refine Ops.r (Run.mv rfl) rfl ?_
  refine Ops.cl (Enters.fn (evs.cons rfl (evs.cons rfl evs.nil)) Try.call18) (take_short g7 9 3 A7 _ _ (by decide +kernel) (by decide +kernel) hR9 (by decide) (by decide +kernel)) rfl ?_
  rintro e w11 ⟨rfl, hd11⟩
  refine ⟨_, rfl, ?_⟩
  have hW11 := ((hW7.frm hf8 hne).frm hf9 hne).frm hd11.frm (by simp)
  refine Ops.r (Run.mv rfl) rfl ?_
  refine Ops.r (Run.extract rfl rfl) rfl ?_
  refine Ops.r (Run.extract rfl rfl) rfl ?_
  refine Ops.r (Run.asg rfl) rfl ?_
  refine Ops.r (Run.asg rfl) rfl ?_
  refine Ops.nil ?_
  refine thenQ_n ?_
  refine VC.sub [(1, _), (2, _), (3, _), (4, _), (5, _), (7, _), (8, _), (9, _), (10, _), (11, _), (13, _)] (.cons rfl (.cons rfl (.cons rfl (.cons rfl (.cons rfl (.cons rfl (.cons rfl (.cons rfl (.cons rfl (.cons rfl (.cons rfl .nil))))))))))) ?_
  refine VC.seq ?_
  refine VC.region ?_
  refine Ops.r (Run.mv rfl) rfl ?_
  refine Ops.r (Run.bin rfl rfl (Bin.eqlN _ 0)) rfl ?_
  refine Ops.r (Run.mv rfl) rfl ?_
  refine Ops.rg rfl (by decide +kernel) (Run.mv rfl) rfl ?_
  refine Ops.rg rfl (by decide +kernel) (Run.bin rfl rfl (Bin.eqlN _ 0)) rfl ?_
  refine Ops.r (Run.pickT rfl rfl (by first | rfl | assumption | decide | (simp; done) | (simp; omega) | (simp [*]; done))) rfl ?_
  refine Ops.r (Run.mv rfl) rfl ?_
  refine Ops.rg rfl (by decide +kernel) (Run.mv rfl) rfl ?_
  refine Ops.rg rfl (by decide +kernel) (Run.eqlStr rfl rfl) rfl ?_
  refine Ops.r (Run.pickT rfl rfl (by first | rfl | assumption | decide | (simp; done) | (simp; omega) | (simp [*]; done))) rfl ?_
  refine Ops.r (Run.mv rfl) rfl ?_
  refine Ops.rg rfl (by decide +kernel) (Run.mv rfl) rfl ?_
  refine Ops.rg rfl (by decide +kernel) (Run.bin rfl rfl (Bin.eqlN _ 0)) rfl ?_
  refine Ops.r (Run.pickT rfl rfl (by first | rfl | assumption | decide | (simp; done) | (simp; omega) | (simp [*]; done))) rfl ?_
  refine Ops.r (Run.mv rfl) rfl ?_
  refine Ops.rg rfl (by decide +kernel) (Run.mv rfl) rfl ?_
  refine Ops.clg rfl (by decide +kernel) (Enters.fn (evs.cons rfl evs.nil) Try.call17) (bytes_spec g A5 _ _ (by decide +kernel) hW11) rfl ?_
  rintro e w12 ⟨B12, c12, rfl, ho12, hf12, hB12⟩
  refine ⟨_, rfl, ?_⟩
  refine Ops.rg rfl (by decide +kernel) (Run.strOf rfl Try.underlying26 Try.underlying5 Try.underlying9 (ho12.str (pack_lt _))) rfl ?_
  refine Ops.rg rfl (by decide +kernel) (Run.eqlStr rfl rfl) rfl ?_
  refine Ops.r (Run.pickT rfl rfl (by first | rfl | assumption | decide | (simp; done) | (simp; omega) | (simp [*]; done))) rfl ?_
  refine Ops.r (Run.mv rfl) rfl ?_
  refine Ops.rg rfl (by decide +kernel) (Run.mv rfl) rfl ?_
  refine Ops.rg rfl (by decide +kernel) (Run.bin rfl rfl (Bin.eqlN _ 1)) rfl ?_
  refine Ops.r (Run.pickT rfl rfl (by first | rfl | assumption | decide | (simp; done) | (simp; omega) | (simp [*]; done))) rfl ?_
  refine Ops.r (Run.mv rfl) rfl ?_
  refine Ops.rg rfl (by decide +kernel) (Run.mv rfl) rfl ?_
  refine Ops.rg rfl (by decide +kernel) (Run.bin rfl rfl (Bin.eqlN _ 0)) rfl ?_
  refine Ops.r (Run.pickT rfl rfl (by first | rfl | assumption | decide | (simp; done) | (simp; omega) | (simp [*]; done))) rfl ?_
  refine Ops.r (Run.mv rfl) rfl ?_
  refine Ops.rg rfl (by decide +kernel) (Run.mv rfl) rfl ?_
  refine Ops.rg rfl (by decide +kernel) (Run.bin rfl rfl (Bin.eqlN _ 2)) rfl ?_
  refine Ops.r (Run.pickT rfl rfl (by first | rfl | assumption | decide | (simp; done) | (simp; omega) | (simp [*]; done))) rfl ?_
  refine Ops.r (Run.mv rfl) rfl ?_
  refine Ops.rg rfl (by decide +kernel) (Run.mv rfl) rfl ?_
  refine Ops.rg rfl (by decide +kernel) (Run.bin rfl rfl (Bin.eqlN _ 0)) rfl ?_
  refine Ops.r (Run.pickT rfl rfl (by first | rfl | assumption | decide | (simp; done) | (simp; omega) | (simp [*]; done))) rfl ?_
  refine Ops.r (Run.mv rfl) rfl ?_
  refine Ops.rg rfl (by decide +kernel) (Run.mv rfl) rfl ?_
  refine Ops.rg rfl (by decide +kernel) (Run.bin rfl rfl (Bin.eqlN _ 3)) rfl ?_
  refine Ops.r (Run.pickT rfl rfl (by first | rfl | assumption | decide | (simp; done) | (simp; omega) | (simp [*]; done))) rfl ?_
  refine Ops.r (Run.mv rfl) rfl ?_
  refine Ops.rg rfl (by decide +kernel) (Run.mv rfl) rfl ?_
  refine Ops.rg rfl (by decide +kernel) (Run.bin rfl rfl (Bin.eqlN _ 2)) rfl ?_
  refine Ops.r (Run.pickT rfl rfl (by first | rfl | assumption | decide | (simp; done) | (simp; omega) | (simp [*]; done))) rfl ?_
  refine Ops.r (Run.mv rfl) rfl ?_
  refine Ops.r (Run.pickT rfl rfl (by first | rfl | assumption | decide | (simp; done) | (simp; omega) | (simp [*]; done))) rfl ?_
  refine Ops.r (Run.asg rfl) rfl ?_
  refine Ops.nil ?_
  refine thenQ_n ?_
  refine VC.sub [(0, _)] (.cons rfl .nil) ?_
  refine VC.ret ?_
  refine end1 rfl ?_
  refine ⟨rfl, ?_⟩
  have F1 := hf1
  have u1 : ∀ x ∈ ob none, w.heap.size ≤ x := up_nil
  have F2 := F1.own hf2 (up_cons (by omega) u1)
  have u2 := up_step u1 hA2 F1.size
  have F3 := F2.own hf3 (up_cons (by omega) u2)
  have u3 := up_step u2 hA3 F2.size
  have F4 := F3.own hf4 (by simp)
  have F5 := F4.own hf5 (up_cons (by omega) u3)
  have u5 := up_step u3 hA5 F4.size
  have F6 := F5.own hf6 (by simp)
  have F7 := F6.own hf7 (by simp)
  have h7 : w.heap.size ≤ g7 := Nat.le_trans F6.size (hA7 g7 (by simp))
  have F8 := F7.own hf8 (up_one h7)
  have F9 := F8.own hf9 (up_one h7)
  have F11 := F9.drawn hd11
  exact F11.own hf12 (by simp)

end Go.Proofs.Ytebaojedpnnliaa
