/-
  Lemmas on the way, joined: RfI.
-/
import Derived.Test.YtenbjndldenkfaaGreatDoorPk5
namespace Go.Proofs.YtenbjndldenkfaaGreatDoor
open Go.RowKit Go.Sort

set_option maxRecDepth 100000 in
set_option maxHeartbeats 800000 in
theorem sstr_walk (A : Option Addr) (c : Nat) (s0 q0 : Tx) (w : World) (ht : Tab w) (hs0 : s0.length ≤ 9223372036854775807) (hrd : Rd w 1 A q0.length (U8 q0)) (hc : q0.length ≤ c) :
    Calls Tryz.prog 3 #[encStr s0, .slice A q0.length c] w fun e w' => e = .returned (.bool true) ∧ Frm [] w w' := by
  have K := Frm.refl [] w
  refine VC.calls (nt := 28) (res := #[.tmp 4]) Tryz.func3 rfl Tryz.ntmps3 Tryz.results3 rfl ?_
  refine VC.seq ?_
  refine VC.region ?_
  refine Ops.r (Run.asg rfl) rfl ?_
  refine Ops.nil ?_
  refine thenQ_n ?_
  refine VC.sub [(0, _), (1, _)] (.cons rfl (.cons rfl .nil)) ?_
  refine VC.seq ?_
  refine VC.seq ?_
  refine VC.region ?_
  refine Ops.r (Run.mv rfl) rfl ?_
  refine Ops.r (Run.lenT rfl Tryz.underlying9) rfl ?_
  refine Ops.r (Run.bin rfl rfl (Bin.gtrN _ 300)) rfl ?_
  refine Ops.nil ?_
  refine thenQ_n ?_
  refine VC.sub [(0, _), (1, _), (7, _)] (.cons rfl (.cons rfl (.cons rfl .nil))) ?_
  refine VC.meet (σ := Unit) (fun s => [(0, encStr (s0.take 300)), (1, .slice A q0.length c)]) (fun s wr => w = wr) ?_ ?_
  · skip
    refine VC.condD rfl (fun hc1 => ?_) (fun hc1 => ?_)
    · skip
      refine VC.region ?_
      refine Ops.r (Run.mv rfl) rfl ?_
      refine Ops.r (Run.sliceT 0 300 rfl Tryz.underlying9 evB.none_ (evB.some_ rfl) (by omega) (by omega)) rfl ?_
      refine Ops.r (Run.asg rfl) rfl ?_
      refine Ops.nil ?_
      refine thenQ_n ⟨(), (.cons (by rw [List.drop_zero]; rfl) (.cons rfl .nil)), ?_⟩
      exact rfl
    · skip
      refine VC.skip ?_
      refine thenQ_n ⟨(), (.cons (by rw [List.take_of_length_le (by omega)]; rfl) (.cons rfl .nil)), ?_⟩
      exact rfl
  · skip
    rintro _ _ rfl Γ hΓ
    have ha3 : (s0.take 300).length ≤ 300 := by simp; omega
    generalize s0.take 300 = t at *
    refine thenQ_n (VC.sub _ hΓ ?_)
    refine VC.seq ?_
    refine VC.region ?_
    refine Ops.r (Run.mv rfl) rfl ?_
    refine Ops.cl (Enters.fn (evs.cons rfl evs.nil) Tryz.call9) ((few20_spec A c q0 _ hrd hc)) rfl ?_
    rintro e _ ⟨rfl, A1, c1, rfl, hrq, hc1l⟩
    refine ⟨_, rfl, ?_⟩
    have hq1 : (q0.take 1200).length ≤ 1200 := by simp; omega
    generalize q0.take 1200 = q at *
    refine Ops.r (Run.asg rfl) rfl ?_
    refine Ops.nil ?_
    refine thenQ_n ?_
    refine VC.sub [(0, _), (1, _)] (.cons rfl (.cons rfl .nil)) ?_
    refine VC.seq ?_
    refine VC.held (fun W => Frm [] w W) (by kernel_rfl) ?_
    have hS : Frm [] w w.drew := (Frm.refl _ _).drew
    refine HOps.take 0 rfl (by kernel_rfl) (by kernel_rfl) (by kernel_rfl) hS (fun w0 hw0 => Run.mv rfl) trivial rfl rfl ?_
    refine HOps.take 2 rfl (by kernel_rfl) (by kernel_rfl) (by kernel_rfl) hS (fun w0 hw0 => Run.mv rfl) trivial rfl rfl ?_
    refine HOps.cl 1 rfl (by kernel_rfl) (Enters.fn (evs.cons rfl evs.nil) Tryz.call10) ((string_spec t _ (ht.frm hS) (by omega))) trivial rfl rfl ?_
    rintro e w1 ⟨rfl, fw1⟩
    have hS := hS.trans fw1 (by simp)
    refine ⟨_, rfl, hS, ?_⟩
    refine HOps.cl 3 rfl (by kernel_rfl) (Enters.fn (evs.cons rfl evs.nil) Tryz.call11) ((rstring_spec t _ (by omega))) trivial rfl rfl ?_
    rintro e _ ⟨rfl, rfl⟩
    refine ⟨_, rfl, hS, ?_⟩
    refine HOps.take 4 rfl (by kernel_rfl) (by kernel_rfl) (by kernel_rfl) hS (fun w0 hw0 => Run.eqlT rfl rfl) trivial rfl rfl ?_
    refine HOps.take 5 rfl (by kernel_rfl) (by kernel_rfl) (by kernel_rfl) hS (fun w0 hw0 => Run.mv rfl) trivial rfl rfl ?_
    refine HOps.take 6 rfl (by kernel_rfl) (by kernel_rfl) (by kernel_rfl) hS (fun w0 hw0 => Run.mv rfl) (Up.g rfl au) rfl rfl ?_
    refine HOps.take 8 rfl (by kernel_rfl) (by kernel_rfl) (by kernel_rfl) hS (fun w0 hw0 => Run.mv rfl) (Up.g rfl au) rfl rfl ?_
    refine HOps.take 9 rfl (by kernel_rfl) (by kernel_rfl) (by kernel_rfl) hS (fun w0 hw0 => Run.strOfT rfl Tryz.underlying22 Tryz.underlying5 Tryz.underlying9 (hrq.frm hw0 (by simp))) (Up.g rfl au) rfl rfl ?_
    refine HOps.cl 7 rfl (by kernel_rfl) (Enters.fn (evs.cons rfl evs.nil) Tryz.call12) ((envelope_spec A1 c1 q _ (ht.frm hS) (hrq.frm hS (by simp)) (by omega) hc1l)) (Up.g rfl au) rfl rfl ?_
    rintro e w2 ⟨rfl, fw2⟩
    have hS := hS.trans fw2 (by simp)
    refine ⟨_, rfl, hS, ?_⟩
    refine HOps.cl 10 rfl (by kernel_rfl) (Enters.fn (evs.cons rfl evs.nil) Tryz.call13) ((renv_spec q _ (by omega))) (Up.g rfl au) rfl rfl ?_
    rintro e w3 ⟨rfl, fw3⟩
    have hS := hS.trans fw3 (by simp)
    refine ⟨_, rfl, hS, ?_⟩
    refine HOps.take 11 rfl (by kernel_rfl) (by kernel_rfl) (by kernel_rfl) hS (fun w0 hw0 => Run.eqlT rfl rfl) (Up.g rfl au) rfl rfl ?_
    refine HOps.take 12 rfl (by kernel_rfl) (by kernel_rfl) (by kernel_rfl) hS (fun w0 hw0 => Run.pickT rfl rfl au) trivial rfl rfl ?_
    refine HOps.take 13 rfl (by kernel_rfl) (by kernel_rfl) (by kernel_rfl) hS (fun w0 hw0 => Run.mv rfl) trivial rfl rfl ?_
    refine HOps.cl 14 rfl (by kernel_rfl) (Enters.fn evs.nil Tryz.call14) ((awake22_spec _ (ht.frm hS))) (Up.g rfl au) rfl rfl ?_
    rintro e w4 ⟨rfl, fw4⟩
    have hS := hS.trans fw4 (by simp)
    refine ⟨_, rfl, hS, ?_⟩
    refine HOps.take 15 rfl (by kernel_rfl) (by kernel_rfl) (by kernel_rfl) hS (fun w0 hw0 => Run.pickT rfl rfl au) trivial rfl rfl ?_
    refine HOps.take 16 rfl (by kernel_rfl) (by kernel_rfl) (by kernel_rfl) hS (fun w0 hw0 => Run.asg rfl) trivial rfl rfl ?_
    refine HOps.done (by kernel_rfl) ?_
    refine thenQ_n ?_
    refine VC.sub [(4, _)] (.cons rfl .nil) ?_
    refine VC.ret ?_
    refine end1 rfl ?_
    exact ⟨by simp, hS⟩

end Go.Proofs.YtenbjndldenkfaaGreatDoor

