/-
  Lemmas on the way, joined: DefLB.
-/
import Derived.Test.YtnmieihcjjiccaaPk4
namespace Go.Proofs.Ytnmieihcjjiccaa
open Go.RowKit
set_option maxRecDepth 100000 in
theorem best_law (B0 : Option Addr) (n0 c0 : Nat) (l0 : List Nat) (w : World) (hn0 : l0.length = n0) (hc0 : n0 ≤ c0) (hb0 : ∀ b ∈ l0, b < 256) (hr0 : Rd w 1 B0 n0 (NB l0)) :
  Calls Try.prog 4 #[.slice B0 n0 c0] w fun e w' => e = .returned (.bool true) ∧ Frm [] w w' := by
 subst hn0
 refine VC.calls (nt := 37) (res := #[.tmp 2]) Try.func4 rfl Try.ntmps4 Try.results4 rfl ?_
 refine jS (jR (jA ?_))
 refine jO (jN (jv1 0 ?_))
 refine jS (jR (jM ?_))
 refine Ops.cl (Enters.fn (evs.cons rfl evs.nil) Try.call6) (few13_spec B0 c0 l0 w hc0 hb0 hr0) rfl ?_
 rintro e _ ⟨⟨B, c, bs, rfl, hc, hr, hB, hl⟩, rfl⟩
 refine ⟨_, rfl, ?_⟩
 refine jA ?_
 refine jO (jN (jv1 0 ?_))
 refine jS (jR (jM ?_))
 refine Ops.cl (Enters.fn (evs.cons rfl evs.nil) Try.call12) (defl_any B c bs w hl hc hB hr) rfl ?_
 rintro e w1 ⟨A1, d1, x, k, rfl, hrx, hdx, hxb, K, hK1⟩
 refine ⟨_, rfl, ?_⟩
 refine jM ?_
 refine Ops.r (Run.extract rfl rfl) rfl ?_
 refine Ops.r (Run.extract rfl rfl) rfl ?_
 refine jA ?_
 refine jA ?_
 refine jO (jN (jv3 0 3 4 ?_))
 refine jS (jS (jR (jM ?_)))
 refine Ops.r (Run.lenS rfl Try.underlying22) rfl ?_
 refine Ops.r (Run.bin rfl rfl (Bin.gtrN _ 65536)) rfl ?_
 refine jO (jN (jv4 0 3 4 14 ?_))
 refine VC.condD rfl (fun hc1 => ?_) (fun hc1 => ?_)
 ·
  obtain ⟨_, rfl, rfl⟩ : 65536 < bs.length ∧ x = [] ∧ k = 5 := by
   rcases hK1 with ⟨h, _⟩ | h
   ·
    omega
   ·
    exact h
  refine jS (jR (jM ?_))
  refine Ops.r (Run.lenS rfl Try.underlying22) rfl ?_
  refine Ops.r (Run.bin rfl rfl (Bin.eqlN _ 0)) rfl ?_
  refine jM ?_
  refine Ops.rg rfl (by first | rfl | (simp; done) | (simp [strB]; done)) (Run.mv rfl) rfl ?_
  refine Ops.rg rfl (by first | rfl | (simp; done) | (simp [strB]; done)) (Run.bin rfl rfl (Bin.eqlN _ 5)) rfl ?_
  refine Ops.r (Run.pickT rfl rfl (by first | rfl | (simp; done) | (simp [strB]; done))) rfl ?_
  refine jM ?_
  refine Ops.clg rfl (by first | rfl | (simp; done) | (simp [strB]; done)) (Enters.fn evs.nil Try.call9) (awake13_spec _) rfl ?_
  rintro e w8 ⟨rfl, hf8⟩
  refine ⟨_, rfl, ?_⟩
  refine Ops.r (Run.pickT rfl rfl (by first | rfl | (simp; done) | (simp [strB]; done))) rfl ?_
  refine jA ?_
  refine jO (jN (jv1 2 ?_))
  refine jT ?_
  refine thenQ_r (end1 rfl ?_)
  exact ⟨rfl, K.trans hf8 (by simp)⟩
 ·
  obtain ⟨hl7, rfl, rfl⟩ : bs.length ≤ 700 ∧ x = bestK bs 2 ∧ k = 0 := by
   rcases hK1 with h | ⟨h, _⟩
   ·
    exact h
   ·
    omega
  have hrx := rd_str hrx hxb
  refine jQ (jN (jv3 0 3 4 ?_))
  refine jS ?_
  refine VC.held (fun v => Frm [] w v ∧ Rd v 1 A1 (bestK bs 2).length (U8 ((bestK bs 2).map UInt8.ofNat))) jK ?_
  have hS : (fun v => Frm [] w v ∧ Rd v 1 A1 (bestK bs 2).length (U8 ((bestK bs 2).map UInt8.ofNat))) w1.drew := ⟨K.drawn (Drawn.drew _), hrx.frm (Drawn.drew w1).frm (by simp)⟩
  refine jH 0 rfl hS (fun w0 hw0 => Run.mv rfl) ?_
  refine jH 1 rfl hS (fun w0 hw0 => Run.strOf rfl Try.underlying22 Try.underlying5 Try.underlying9 hw0.2) ?_
  refine jH 2 rfl hS (fun w0 hw0 => Run.mv rfl) ?_
  refine HOps.cl 3 rfl jK (Enters.fn (evs.cons rfl evs.nil) Try.call13) (rdefl_spec B c bs _ (by omega) hc hB (hr.frm hS.1 (by simp))) trivial rfl rfl ?_
  rintro e w5 ⟨rfl, hf5⟩
  have hS := And.intro (hS.1.trans hf5 (by simp)) (hS.2.frm hf5 (by simp))
  refine ⟨_, rfl, hS, ?_⟩
  refine jH 4 rfl hS (fun w0 hw0 => Run.eqlStr rfl rfl) ?_
  refine jH 5 rfl hS (fun w0 hw0 => Run.mv rfl) ?_
  refine HOps.take 6 rfl jK jK jK hS (fun w0 hw0 => Run.mv rfl) (Up.g rfl (by first | rfl | (simp; done) | (simp [strB]; done))) rfl rfl ?_
  refine HOps.take 7 rfl jK jK jK hS (fun w0 hw0 => Run.bin rfl rfl (Bin.eqlN _ 0)) (Up.g rfl (by first | rfl | (simp; done) | (simp [strB]; done))) rfl rfl ?_
  refine jH 8 rfl hS (fun w0 hw0 => Run.pickT rfl rfl (by first | rfl | (simp; done) | (simp [strB]; done))) ?_
  refine jH 9 rfl hS (fun w0 hw0 => Run.mv rfl) ?_
  refine HOps.cl 10 rfl jK (Enters.fn evs.nil Try.call9) (awake13_spec _) (Up.g rfl (by first | rfl | (simp; done) | (simp [strB]; done))) rfl rfl ?_
  rintro e w7 ⟨rfl, hf7⟩
  have hS := And.intro (hS.1.trans hf7 (by simp)) (hS.2.frm hf7 (by simp))
  refine ⟨_, rfl, hS, ?_⟩
  refine jH 11 rfl hS (fun w0 hw0 => Run.pickT rfl rfl (by first | rfl | (simp; done) | (simp [strB]; done))) ?_
  refine jH 12 rfl hS (fun w0 hw0 => Run.asg rfl) ?_
  refine HOps.done jK ?_
  refine jN (jv1 2 ?_)
  refine jT ?_
  refine end1 rfl ?_
  exact ⟨rfl, hS.1⟩
end Go.Proofs.Ytnmieihcjjiccaa
