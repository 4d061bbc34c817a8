/-
  The law 'BoxExpunges' of layer 26: what goes of any box, each place as it is then, and the blobs. No condition.
-/
import Derived.Test.YtmfglifjnoilnaaBoxLP
import Derived.Test.YtmfglifjnoilnaaBoxL2
namespace Go.Proofs.Ytmfglifjnoilnaa
open Go.RowKit Go.Sort

theorem IB_cut {w : World} {A : Option Addr} {c : Nat} {l : List Int} (m : Nat) (h : Rd w 1 A l.length (IB l)) (hc : l.length ≤ c) (hm : m ≤ l.length) : Rd w 1 (cutA A c 0 1) (l.take m).length (IB (l.take m)) := by
  have e := h.cut (l := 0) (r := m) (cap := c) (by omega) (by omega) hc
  have e1 : (l.take m).length = m := by simp; omega
  have e2 : IB (l.take m) = ((IB l).drop (0 * 1)).take ((m - 0) * 1) := by simp [IB, List.map_take]
  rw [e1, e2]
  exact e
theorem NI_len (l : List Nat) : (NI l).length = l.length := by simp [NI, IB]
abbrev NZ (l : List Nat) : List Int := l.map fun x : Nat => (x : Int)

set_option maxRecDepth 100000 in
theorem expunges_walk (va na : Int) (A : Option Addr) (c : Nat) (l : List Mc) (O : Option Addr) (oc : Nat) (only : List Int) (every : Bool) (w : World) (hl : RawM w A l) (hc : l.length ≤ c) (ho : Rd w 1 O only.length (IB only)) (hoc : only.length ≤ oc) :
    Calls Try.prog 3 #[.agg #[.int .i64 va, .int .i64 na, .slice A l.length c], .slice O only.length oc, .bool every] w fun e w' => e = .returned (.bool true) ∧ Frm [] w w' := by
  refine VC.calls (nt := 128) (res := #[.tmp 6]) Try.func3 rfl Try.ntmps3 Try.results3 rfl ?_
  refine VC.seq ?_
  refine VC.region ?_
  refine Ops.m (Does.box rfl) rfl ?_
  rintro _ w1 ⟨rfl, hF1⟩
  have hb3 : Blk w1 w.heap.size 24 (BVc va na A l.length c).toArray := hF1.blk
  have K := hF1.frm
  have hs3 : w.heap.size ≤ w.heap.size := Nat.le_refl _
  generalize hg3 : w.heap.size = g3 at hb3 hs3 ⊢
  refine Ops.r (Run.asg rfl) rfl ?_
  refine Ops.nil ?_
  refine thenQ_n ?_
  refine VC.sub [(1, _), (2, _), (3, _)] (.cons rfl (.cons rfl (.cons rfl .nil))) ?_
  refine VC.seq ?_
  refine VC.region ?_
  refine Ops.r (Run.loadA rfl Try.isAgg24 Try.sizeOf24 (fun j v hj => hb3.cells j v hj) (by first | rfl | (simp; done))) rfl ?_
  refine Ops.cl (Enters.fn (evs.cons rfl evs.nil) Try.call8) (few26_spec va na A c l _ (hl.frm K) hc) rfl ?_
  rintro e w2 ⟨hf_w2, B3, d3, l3, rfl, hO3, hM3, hl3, _⟩
  refine ⟨_, rfl, ?_⟩
  have hb3 := hb3.frm hf_w2 (by simp)
  have K := Frm.trans K hf_w2 (by simp)
  refine Ops.st (Acts.storeA rfl rfl Try.sizeOf24 hb3 rfl (BVc_one va na B3 l3.length d3)) ?_
  rintro w3 ⟨hbn_w3, hf_w3, hsz_w3⟩
  have hO3 := hO3.blk hf_w3 hb3 (by decide) (by decide)
  have hb3 := hbn_w3
  have K := Frm.own K hf_w3 (fun y hy => by simp at hy; omega)
  refine Ops.nil ?_
  refine thenQ_n ?_
  refine VC.sub [(1, _), (2, _), (3, _)] (.cons rfl (.cons rfl (.cons rfl .nil))) ?_
  refine VC.seq ?_
  refine VC.seq ?_
  refine VC.region ?_
  refine Ops.r (Run.mv rfl) rfl ?_
  refine Ops.r (Run.lenS rfl Try.underlying25) rfl ?_
  refine Ops.r (Run.bin rfl rfl (Bin.gtrN _ 200)) rfl ?_
  refine Ops.nil ?_
  refine thenQ_n ?_
  refine VC.sub [(1, _), (2, _), (3, _), (20, _)] (.cons rfl (.cons rfl (.cons rfl (.cons rfl .nil)))) ?_
  refine VC.meet (σ := Option Addr × Nat) (fun s => [(1, .slice s.1 (only.take 200).length s.2), (2, .bool every), (3, .pointer (some ⟨g3, 0, none⟩))]) (fun s wm => w3 = wm ∧ Rd wm 1 s.1 (only.take 200).length (IB (only.take 200))) ?_ ?_
  · skip
    refine VC.condD rfl (fun hc1 => ?_) (fun hc1 => ?_)
    · skip
      refine VC.region ?_
      refine Ops.r (Run.mv rfl) rfl ?_
      refine Ops.r (Run.sliceS 0 200 rfl Try.underlying25 Try.sizeOf3 evB.none_ (evB.some_ rfl) (by omega) (by omega)) rfl ?_
      refine Ops.r (Run.asg rfl) rfl ?_
      refine Ops.nil ?_
      refine thenQ_n ⟨(cutA O oc 0 1, oc - 0), (.cons (by rw [show (only.take 200).length = 200 - 0 by simp; omega]; rfl) (.cons rfl (.cons rfl .nil))), ?_⟩
      exact ⟨rfl, IB_cut 200 (ho.frm K (by simp)) hoc (by omega)⟩
    · skip
      refine VC.skip ?_
      refine thenQ_n ⟨(O, oc), (.cons (by rw [List.take_of_length_le (by omega)]; rfl) (.cons rfl (.cons rfl .nil))), ?_⟩
      rw [List.take_of_length_le (by omega)]
      exact ⟨rfl, ho.frm K (by simp)⟩
  · skip
    rintro ⟨O2, co2⟩ _ ⟨rfl, hro⟩ Γ hΓ
    dsimp only at hro
    have hol : (only.take 200).length ≤ 200 := by simp; omega
    generalize hoo : only.take 200 = on2 at *
    refine thenQ_n (VC.sub _ hΓ ?_)
    refine VC.seq ?_
    refine VC.region ?_
    refine Ops.r (Run.loadA rfl Try.isAgg24 Try.sizeOf24 (fun j v hj => hb3.cells j v hj) (by first | rfl | (simp; done))) rfl ?_
    refine Ops.r (Run.mv rfl) rfl ?_
    refine Ops.r (Run.mv rfl) rfl ?_
    refine Ops.cl (Enters.fn (evs.cons rfl (evs.cons rfl (evs.cons rfl evs.nil))) Try.call9) (expunge_spec va na B3 d3 l3 every O2 co2 on2 _ hO3.rdm hro (by omega)) rfl ?_
    rintro e w4 ⟨hf_w4, v7, n7, B7, d7, l7, P, dP, ps, D, dD, bs, k7, rfl, hO7, hP, hD, hE⟩
    refine ⟨_, rfl, ?_⟩
    have hb3 := hb3.frm hf_w4 (by simp)
    have hO3 := hO3.frm hf_w4
    have K := Frm.trans K hf_w4 (by simp)
    have K4 := Frm.refl [] w4
    refine Ops.r (Run.mv rfl) rfl ?_
    refine Ops.r (Run.extract rfl rfl) rfl ?_
    refine Ops.r (Run.extract rfl rfl) rfl ?_
    refine Ops.r (Run.extract rfl rfl) rfl ?_
    refine Ops.r (Run.extract rfl rfl) rfl ?_
    refine Ops.m (Does.alloc zero24) rfl ?_
    rintro _ w5 ⟨rfl, hF_w5⟩
    have hb7 := hF_w5.blk
    have hs7_K := K.size
    have hs7_K4 := K4.size
    have lt_hb3_7 := hb3.lt
    have hb3 := hb3.frm hF_w5.frm (by simp)
    have hO3 := hO3.frm hF_w5.frm
    have hO7 := hO7.frm hF_w5.frm
    have hP := hP.frm hF_w5.frm (by simp)
    have hD := hD.frm hF_w5.frm (by simp)
    have K := Frm.trans K hF_w5.frm (by simp)
    have K4 := Frm.trans K4 hF_w5.frm (by simp)
    generalize hg7 : w4.heap.size = g7 at hb7 hs7_K hs7_K4 lt_hb3_7 ⊢
    refine Ops.st (Acts.storeA rfl rfl Try.sizeOf24 hb7 rfl (BVc_one v7 n7 B7 l7.length d7)) ?_
    rintro w6 ⟨hbn_w6, hf_w6, hsz_w6⟩
    have hb3 := hb3.frm hf_w6 (by simp; omega)
    have hO3 := hO3.blk hf_w6 hb7 (by decide) (by decide)
    have hO7 := hO7.blk hf_w6 hb7 (by decide) (by decide)
    have hP := hP.frm hf_w6 (fun y hy => by have := hP.ne_blk hb7 (by decide); simp; rintro rfl; exact this hy)
    have hD := hD.frm hf_w6 (fun y hy => by have := hD.ne_blk hb7 (by decide); simp; rintro rfl; exact this hy)
    have hb7 := hbn_w6
    have K := Frm.own K hf_w6 (fun y hy => by simp at hy; omega)
    have K4 := Frm.own K4 hf_w6 (fun y hy => by simp at hy; omega)
    refine Ops.r (Run.asg rfl) rfl ?_
    refine Ops.r (Run.asg rfl) rfl ?_
    refine Ops.r (Run.asg rfl) rfl ?_
    refine Ops.nil ?_
    refine thenQ_n ?_
    refine VC.sub [(1, _), (2, _), (3, _), (7, _), (8, _), (9, _), (10, _)] (.cons rfl (.cons rfl (.cons rfl (.cons rfl (.cons rfl (.cons rfl (.cons rfl .nil))))))) ?_
    refine VC.seq ?_
    refine VC.region ?_
    refine Ops.r (Run.loadA rfl Try.isAgg24 Try.sizeOf24 (fun j v hj => hb3.cells j v hj) (by first | rfl | (simp; done))) rfl ?_
    refine Ops.r (Run.mv rfl) rfl ?_
    refine Ops.r (Run.mv rfl) rfl ?_
    refine Ops.cl (Enters.fn (evs.cons rfl (evs.cons rfl (evs.cons rfl evs.nil))) Try.call10) (marked_spec va na B3 d3 l3 every O2 co2 on2 _ hO3.rdm ((hro.frm hf_w4 (by simp)).frm K4 (by simp)) (by omega)) rfl ?_
    rintro e w7 ⟨hf_w7, C11, d11, rfl, hO11, _⟩
    refine ⟨_, rfl, ?_⟩
    have hb3 := hb3.frm hf_w7 (by simp)
    have hO3 := hO3.frm hf_w7
    have hO7 := hO7.frm hf_w7
    have hP := hP.frm hf_w7 (by simp)
    have hD := hD.frm hf_w7 (by simp)
    have hb7 := hb7.frm hf_w7 (by simp)
    have K := Frm.trans K hf_w7 (by simp)
    have K4 := Frm.trans K4 hf_w7 (by simp)
    refine Ops.r (Run.asg rfl) rfl ?_
    refine Ops.nil ?_
    refine thenQ_n ?_
    refine VC.sub [(1, _), (2, _), (3, _), (7, _), (8, _), (9, _), (10, _), (11, _)] (.cons rfl (.cons rfl (.cons rfl (.cons rfl (.cons rfl (.cons rfl (.cons rfl (.cons rfl .nil)))))))) ?_
    refine VC.seq ?_
    refine VC.seq ?_
    refine VC.region ?_
    refine Ops.r (Run.loadA rfl Try.isAgg24 Try.sizeOf24 (fun j v hj => hb3.cells j v hj) (by first | rfl | (simp; done))) rfl ?_
    refine Ops.cl (Enters.fn (evs.cons rfl evs.nil) Try.call11) (rmay_spec va na B3 d3 l3 _ hO3.rdm (by omega)) rfl ?_
    rintro e w8 ⟨rfl, hf_w8⟩
    refine ⟨_, rfl, ?_⟩
    have hb3 := hb3.frm hf_w8 (by simp)
    have hO3 := hO3.frm hf_w8
    have hO7 := hO7.frm hf_w8
    have hP := hP.frm hf_w8 (by simp)
    have hD := hD.frm hf_w8 (by simp)
    have hb7 := hb7.frm hf_w8 (by simp)
    have hO11 := hO11.frm hf_w8 (by simp)
    have K := Frm.trans K hf_w8 (by simp)
    have K4 := Frm.trans K4 hf_w8 (by simp)
    refine Ops.r (Run.not rfl) rfl ?_
    refine Ops.nil ?_
    refine thenQ_n ?_
    refine VC.sub [(1, _), (2, _), (3, _), (7, _), (8, _), (9, _), (10, _), (11, _), (38, _)] (.cons rfl (.cons rfl (.cons rfl (.cons rfl (.cons rfl (.cons rfl (.cons rfl (.cons rfl (.cons rfl .nil))))))))) ?_
    refine VC.condB rfl (fun hc2 => ?_) (fun hc2 => ?_)
    · skip
      have hc2' : ¬ mayB ⟨va, na, Ms l3⟩ := by simpa using hc2
      obtain ⟨_, rfl, rfl, rfl, hl7, rfl, rfl⟩ := hE.resolve_right (fun h => hc2' h.1)
      have e11 : namedB (goesQ every on2) ⟨va, na, Ms l3⟩ = [] := if_neg hc2'
      rw [e11]
      subst hl7
      refine VC.seq ?_
      refine VC.region ?_
      refine Ops.r (Run.loadA rfl Try.isAgg24 Try.sizeOf24 (fun j v hj => hb7.cells j v hj) (by first | rfl | (simp; done))) rfl ?_
      refine Ops.cl (Enters.fn (evs.cons rfl evs.nil) Try.call12) (none_spec 0 0 B7 d7 [] _ (RdM.nil _ _) (by decide)) rfl ?_
      rintro e w9 ⟨rfl, hf_w9⟩
      rw [decide_eq_true (⟨rfl, rfl, rfl⟩)]
      refine ⟨_, rfl, ?_⟩
      have hb3 := hb3.frm hf_w9 (by simp)
      have hO3 := hO3.frm hf_w9
      have hO7 := hO7.frm hf_w9
      have hP := hP.frm hf_w9 (by simp)
      have hD := hD.frm hf_w9 (by simp)
      have hb7 := hb7.frm hf_w9 (by simp)
      have hO11 := hO11.frm hf_w9 (by simp)
      have K := Frm.trans K hf_w9 (by simp)
      have K4 := Frm.trans K4 hf_w9 (by simp)
      refine Ops.r (Run.mv rfl) rfl ?_
      refine Ops.rg rfl (by first | rfl | assumption | exact decide_eq_true (by assumption) | exact decide_eq_false (by assumption) | decide | (simp; done) | (simp; omega) | (simp [*]; done)) (Run.mv rfl) rfl ?_
      refine Ops.rg rfl (by first | rfl | assumption | exact decide_eq_true (by assumption) | exact decide_eq_false (by assumption) | decide | (simp; done) | (simp; omega) | (simp [*]; done)) (Run.lenS rfl Try.underlying25) rfl ?_
      refine Ops.rg rfl (by first | rfl | assumption | exact decide_eq_true (by assumption) | exact decide_eq_false (by assumption) | decide | (simp; done) | (simp; omega) | (simp [*]; done)) (Run.bin rfl rfl (Bin.eqlN _ 0)) rfl ?_
      refine Ops.r (Run.pickT rfl rfl (by first | rfl | assumption | exact decide_eq_true (by assumption) | exact decide_eq_false (by assumption) | decide | (simp; done) | (simp; omega) | (simp [*]; done))) rfl ?_
      refine Ops.r (Run.mv rfl) rfl ?_
      refine Ops.rg rfl (by first | rfl | assumption | exact decide_eq_true (by assumption) | exact decide_eq_false (by assumption) | decide | (simp; done) | (simp; omega) | (simp [*]; done)) (Run.mv rfl) rfl ?_
      refine Ops.rg rfl (by first | rfl | assumption | exact decide_eq_true (by assumption) | exact decide_eq_false (by assumption) | decide | (simp; done) | (simp; omega) | (simp [*]; done)) (Run.lenS rfl Try.underlying27) rfl ?_
      refine Ops.rg rfl (by first | rfl | assumption | exact decide_eq_true (by assumption) | exact decide_eq_false (by assumption) | decide | (simp; done) | (simp; omega) | (simp [*]; done)) (Run.bin rfl rfl (Bin.eqlN _ 0)) rfl ?_
      refine Ops.r (Run.pickT rfl rfl (by first | rfl | assumption | exact decide_eq_true (by assumption) | exact decide_eq_false (by assumption) | decide | (simp; done) | (simp; omega) | (simp [*]; done))) rfl ?_
      refine Ops.r (Run.mv rfl) rfl ?_
      refine Ops.rg rfl (by first | rfl | assumption | exact decide_eq_true (by assumption) | exact decide_eq_false (by assumption) | decide | (simp; done) | (simp; omega) | (simp [*]; done)) (Run.mv rfl) rfl ?_
      refine Ops.rg rfl (by first | rfl | assumption | exact decide_eq_true (by assumption) | exact decide_eq_false (by assumption) | decide | (simp; done) | (simp; omega) | (simp [*]; done)) (Run.bin rfl rfl (Bin.eqlN _ 1)) rfl ?_
      refine Ops.r (Run.pickT rfl rfl (by first | rfl | assumption | exact decide_eq_true (by assumption) | exact decide_eq_false (by assumption) | decide | (simp; done) | (simp; omega) | (simp [*]; done))) rfl ?_
      refine Ops.r (Run.mv rfl) rfl ?_
      refine Ops.rg rfl (by first | rfl | assumption | exact decide_eq_true (by assumption) | exact decide_eq_false (by assumption) | decide | (simp; done) | (simp; omega) | (simp [*]; done)) (Run.mv rfl) rfl ?_
      refine Ops.rg rfl (by first | rfl | assumption | exact decide_eq_true (by assumption) | exact decide_eq_false (by assumption) | decide | (simp; done) | (simp; omega) | (simp [*]; done)) (Run.lenS rfl Try.underlying25) rfl ?_
      refine Ops.rg rfl (by first | rfl | assumption | exact decide_eq_true (by assumption) | exact decide_eq_false (by assumption) | decide | (simp; done) | (simp; omega) | (simp [*]; done)) (Run.bin rfl rfl (Bin.eqlN _ 0)) rfl ?_
      refine Ops.r (Run.pickT rfl rfl (by first | rfl | assumption | exact decide_eq_true (by assumption) | exact decide_eq_false (by assumption) | decide | (simp; done) | (simp; omega) | (simp [*]; done))) rfl ?_
      refine Ops.r (Run.mv rfl) rfl ?_
      refine Ops.clg rfl (by first | rfl | assumption | exact decide_eq_true (by assumption) | exact decide_eq_false (by assumption) | decide | (simp; done) | (simp; omega) | (simp [*]; done)) (Enters.fn evs.nil Try.call13) (awake26_spec _) rfl ?_
      rintro e w10 ⟨rfl, hf_w10⟩
      refine ⟨_, rfl, ?_⟩
      have hb3 := hb3.frm hf_w10 (by simp)
      have hO3 := hO3.frm hf_w10
      have hO7 := hO7.frm hf_w10
      have hP := hP.frm hf_w10 (by simp)
      have hD := hD.frm hf_w10 (by simp)
      have hb7 := hb7.frm hf_w10 (by simp)
      have hO11 := hO11.frm hf_w10 (by simp)
      have K := Frm.trans K hf_w10 (by simp)
      have K4 := Frm.trans K4 hf_w10 (by simp)
      refine Ops.r (Run.pickT rfl rfl (by first | rfl | assumption | exact decide_eq_true (by assumption) | exact decide_eq_false (by assumption) | decide | (simp; done) | (simp; omega) | (simp [*]; done))) rfl ?_
      refine Ops.r (Run.asg rfl) rfl ?_
      refine Ops.nil ?_
      refine thenQ_n ?_
      refine VC.sub [(6, _)] (.cons rfl .nil) ?_
      refine VC.ret ?_
      refine thenQ_r (end1 rfl ?_)
      exact ⟨rfl, K⟩
    · skip
      have hmay : mayB ⟨va, na, Ms l3⟩ := by simpa using hc2
      obtain ⟨_, rfl, rfl, rfl, hl7, hps, hbs⟩ := hE.resolve_left (fun h => h.1 hmay)
      have e11 : namedB (goesQ every on2) ⟨v7, n7, Ms l3⟩ = NZ (marksQ (goesQ every on2) 0 (Ms l3)) := if_pos hmay
      rw [e11] at hO11 ⊢
      have hNl : (marksQ (goesQ every on2) 0 (Ms l3)).length ≤ l3.length := by have := marksQ_len (goesQ every on2) (Ms l3) 0; simpa [Ms] using this
      have hpl : ps.length = (marksQ (goesQ every on2) 0 (Ms l3)).length := by rw [hps, shift_len]
      have hNZ : (NZ (marksQ (goesQ every on2) 0 (Ms l3))).length = (marksQ (goesQ every on2) 0 (Ms l3)).length := by simp [NZ]
      refine VC.skip ?_
      refine thenQ_n ?_
      refine VC.sub [(1, _), (2, _), (3, _), (7, _), (8, _), (9, _), (10, _), (11, _)] (.cons rfl (.cons rfl (.cons rfl (.cons rfl (.cons rfl (.cons rfl (.cons rfl (.cons rfl .nil)))))))) ?_
      refine VC.seq ?_
      refine VC.region ?_
      refine Ops.r (Run.loadA rfl Try.isAgg24 Try.sizeOf24 (fun j v hj => hb3.cells j v hj) (by first | rfl | (simp; done))) rfl ?_
      refine Ops.r (Run.mv rfl) rfl ?_
      refine Ops.r (Run.mv rfl) rfl ?_
      refine Ops.cl (Enters.fn (evs.cons rfl (evs.cons rfl (evs.cons rfl evs.nil))) Try.call14) (rexpunge_spec v7 n7 B3 d3 l3 every O2 co2 on2 _ hO3.rdm (by omega) ((hro.frm hf_w4 (by simp)).frm K4 (by simp)) (by omega)) rfl ?_
      rintro e w11 ⟨hf_w11, B12, d12, l12, P12, dP12, ps12, D12, dD12, bs12, rfl, hR12, hP12, hD12, hM12, hps12, hbs12⟩
      have hsh : ps12 = ps := by rw [hps12, hps, shift_marks (goesQ every on2) (Ms l3) 0 0 (Nat.le_refl _)]
      subst hsh
      have hbb : bs12 = bs := by rw [hbs12, hbs, blobs_marks (goesQ every on2) (Ms l3) (Ms l3) 0 rfl]
      subst hbb
      refine ⟨_, rfl, ?_⟩
      have hb3 := hb3.frm hf_w11 (by simp)
      have hO3 := hO3.frm hf_w11
      have hO7 := hO7.frm hf_w11
      have hP := hP.frm hf_w11 (by simp)
      have hD := hD.frm hf_w11 (by simp)
      have hb7 := hb7.frm hf_w11 (by simp)
      have hO11 := hO11.frm hf_w11 (by simp)
      have K := Frm.trans K hf_w11 (by simp)
      have K4 := Frm.trans K4 hf_w11 (by simp)
      have K11 := Frm.refl [] w11
      refine Ops.r (Run.mv rfl) rfl ?_
      refine Ops.r (Run.extract rfl rfl) rfl ?_
      refine Ops.r (Run.extract rfl rfl) rfl ?_
      refine Ops.r (Run.extract rfl rfl) rfl ?_
      refine Ops.m (Does.alloc zero24) rfl ?_
      rintro _ w12 ⟨rfl, hF_w12⟩
      have hb12 := hF_w12.blk
      have hs12_K := K.size
      have hs12_K4 := K4.size
      have hs12_K11 := K11.size
      have lt_hb3_12 := hb3.lt
      have lt_hb7_12 := hb7.lt
      have hb3 := hb3.frm hF_w12.frm (by simp)
      have hO3 := hO3.frm hF_w12.frm
      have hO7 := hO7.frm hF_w12.frm
      have hP := hP.frm hF_w12.frm (by simp)
      have hD := hD.frm hF_w12.frm (by simp)
      have hb7 := hb7.frm hF_w12.frm (by simp)
      have hO11 := hO11.frm hF_w12.frm (by simp)
      have K := Frm.trans K hF_w12.frm (by simp)
      have K4 := Frm.trans K4 hF_w12.frm (by simp)
      have K11 := Frm.trans K11 hF_w12.frm (by simp)
      generalize hg12 : w11.heap.size = g12 at hb12 hs12_K hs12_K4 hs12_K11 lt_hb3_12 lt_hb7_12 ⊢
      refine Ops.st (Acts.storeA rfl rfl Try.sizeOf24 hb12 rfl (BVc_one v7 n7 B12 l12.length d12)) ?_
      rintro w13 ⟨hbn_w13, hf_w13, hsz_w13⟩
      have hb3 := hb3.frm hf_w13 (by simp; omega)
      have hO3 := hO3.blk hf_w13 hb12 (by decide) (by decide)
      have hO7 := hO7.blk hf_w13 hb12 (by decide) (by decide)
      have hP := hP.frm hf_w13 (fun y hy => by have := hP.ne_blk hb12 (by decide); simp; rintro rfl; exact this hy)
      have hD := hD.frm hf_w13 (fun y hy => by have := hD.ne_blk hb12 (by decide); simp; rintro rfl; exact this hy)
      have hb7 := hb7.frm hf_w13 (by simp; omega)
      have hO11 := hO11.frm hf_w13 (fun y hy => by have := hO11.ne_blk hb12 (by decide); simp; rintro rfl; exact this hy)
      have hb12 := hbn_w13
      have K := Frm.own K hf_w13 (fun y hy => by simp at hy; omega)
      have K4 := Frm.own K4 hf_w13 (fun y hy => by simp at hy; omega)
      have K11 := Frm.own K11 hf_w13 (fun y hy => by simp at hy; omega)
      have hl7l : l7.length ≤ 129 := by
        have := congrArg List.length hl7
        have h2 := List.length_filter_le (fun m => !(goesQ every on2) m) (Ms l3)
        simp only [Ms, List.length_map] at this h2
        omega
      have hl12l : l12.length ≤ 129 := by
        have := congrArg List.length hM12
        have h2 := List.length_filter_le (fun m => !(goesQ every on2) m) (Ms l3)
        simp only [Ms, List.length_map] at this h2
        omega
      have hR12 := hR12.frm K11
      have hP12 := hP12.frm K11 (by simp)
      have hD12 := hD12.frm K11 (by simp)
      refine Ops.r (Run.asg rfl) rfl ?_
      refine Ops.r (Run.asg rfl) rfl ?_
      refine Ops.nil ?_
      refine thenQ_n ?_
      refine VC.sub [(7, _), (8, _), (9, _), (10, _), (11, _), (12, _), (13, _), (14, _)] (.cons rfl (.cons rfl (.cons rfl (.cons rfl (.cons rfl (.cons rfl (.cons rfl (.cons rfl .nil)))))))) ?_
      refine VC.seq ?_
      refine VC.seq ?_
      refine VC.region ?_
      refine Ops.r (Run.loadA rfl Try.isAgg24 Try.sizeOf24 (fun j v hj => hb7.cells j v hj) (by first | rfl | (simp; done))) rfl ?_
      refine Ops.r (Run.loadA rfl Try.isAgg24 Try.sizeOf24 (fun j v hj => hb12.cells j v hj) (by first | rfl | (simp; done))) rfl ?_
      refine Ops.cl (Enters.fn (evs.cons rfl (evs.cons rfl evs.nil)) Try.call15) (rsameB_spec v7 n7 v7 n7 B7 B12 d7 d12 l7 l12 _ hO7.rdm hR12 (by omega) (by omega)) rfl ?_
      rintro e w14 ⟨rfl, hf_w14⟩
      rw [decide_eq_true (⟨rfl, rfl, by rw [hl7, hM12]⟩)]
      refine ⟨_, rfl, ?_⟩
      have hb3 := hb3.frm hf_w14 (by simp)
      have hO3 := hO3.frm hf_w14
      have hO7 := hO7.frm hf_w14
      have hP := hP.frm hf_w14 (by simp)
      have hD := hD.frm hf_w14 (by simp)
      have hb7 := hb7.frm hf_w14 (by simp)
      have hO11 := hO11.frm hf_w14 (by simp)
      have hb12 := hb12.frm hf_w14 (by simp)
      have hR12 := hR12.frm hf_w14
      have hP12 := hP12.frm hf_w14 (by simp)
      have hD12 := hD12.frm hf_w14 (by simp)
      have K := Frm.trans K hf_w14 (by simp)
      have K4 := Frm.trans K4 hf_w14 (by simp)
      have K11 := Frm.trans K11 hf_w14 (by simp)
      refine Ops.r (Run.not rfl) rfl ?_
      refine Ops.r (Run.mv rfl) rfl ?_
      refine Ops.rg rfl (by first | rfl | assumption | exact decide_eq_true (by assumption) | exact decide_eq_false (by assumption) | decide | (simp; done) | (simp; omega) | (simp [*]; done)) (Run.mv rfl) rfl ?_
      refine Ops.rg rfl (by first | rfl | assumption | exact decide_eq_true (by assumption) | exact decide_eq_false (by assumption) | decide | (simp; done) | (simp; omega) | (simp [*]; done)) (Run.mv rfl) rfl ?_
      refine Ops.clg rfl (by first | rfl | assumption | exact decide_eq_true (by assumption) | exact decide_eq_false (by assumption) | decide | (simp; done) | (simp; omega) | (simp [*]; done)) (Enters.fn (evs.cons rfl (evs.cons rfl evs.nil)) Try.call16) ((by simpa [NZ] using sameI_spec P P12 dP dP12 (NZ ps12) (NZ ps12) _ (by simpa [NZ] using hP.rd) (by simpa [NZ] using hP12) (by simp [NZ]; omega) (by simp [NZ]; omega))) rfl ?_
      rintro e w15 ⟨rfl, hf_w15⟩
      refine ⟨_, rfl, ?_⟩
      have hb3 := hb3.frm hf_w15 (by simp)
      have hO3 := hO3.frm hf_w15
      have hO7 := hO7.frm hf_w15
      have hP := hP.frm hf_w15 (by simp)
      have hD := hD.frm hf_w15 (by simp)
      have hb7 := hb7.frm hf_w15 (by simp)
      have hO11 := hO11.frm hf_w15 (by simp)
      have hb12 := hb12.frm hf_w15 (by simp)
      have hR12 := hR12.frm hf_w15
      have hP12 := hP12.frm hf_w15 (by simp)
      have hD12 := hD12.frm hf_w15 (by simp)
      have K := Frm.trans K hf_w15 (by simp)
      have K4 := Frm.trans K4 hf_w15 (by simp)
      have K11 := Frm.trans K11 hf_w15 (by simp)
      refine Ops.rg rfl (by first | rfl | assumption | exact decide_eq_true (by assumption) | exact decide_eq_false (by assumption) | decide | (simp; done) | (simp; omega) | (simp [*]; done)) (Run.not rfl) rfl ?_
      refine Ops.r (Run.pickF rfl rfl (by first | rfl | assumption | exact decide_eq_true (by assumption) | exact decide_eq_false (by assumption) | decide | (simp; done) | (simp; omega) | (simp [*]; done))) rfl ?_
      refine Ops.r (Run.mv rfl) rfl ?_
      refine Ops.rg rfl (by first | rfl | assumption | exact decide_eq_true (by assumption) | exact decide_eq_false (by assumption) | decide | (simp; done) | (simp; omega) | (simp [*]; done)) (Run.mv rfl) rfl ?_
      refine Ops.rg rfl (by first | rfl | assumption | exact decide_eq_true (by assumption) | exact decide_eq_false (by assumption) | decide | (simp; done) | (simp; omega) | (simp [*]; done)) (Run.lenS rfl Try.underlying27) rfl ?_
      refine Ops.rg rfl (by first | rfl | assumption | exact decide_eq_true (by assumption) | exact decide_eq_false (by assumption) | decide | (simp; done) | (simp; omega) | (simp [*]; done)) (Run.mv rfl) rfl ?_
      refine Ops.rg rfl (by first | rfl | assumption | exact decide_eq_true (by assumption) | exact decide_eq_false (by assumption) | decide | (simp; done) | (simp; omega) | (simp [*]; done)) (Run.lenS rfl Try.underlying27) rfl ?_
      refine Ops.rg rfl (by first | rfl | assumption | exact decide_eq_true (by assumption) | exact decide_eq_false (by assumption) | decide | (simp; done) | (simp; omega) | (simp [*]; done)) (Run.bin rfl rfl (Bin.neqN _ _)) rfl ?_
      refine Ops.r (Run.pickF rfl rfl (by simp)) rfl ?_
      refine Ops.r (Run.mv rfl) rfl ?_
      refine Ops.rg rfl (by first | rfl | assumption | exact decide_eq_true (by assumption) | exact decide_eq_false (by assumption) | decide | (simp; done) | (simp; omega) | (simp [*]; done)) (Run.mv rfl) rfl ?_
      refine Ops.rg rfl (by first | rfl | assumption | exact decide_eq_true (by assumption) | exact decide_eq_false (by assumption) | decide | (simp; done) | (simp; omega) | (simp [*]; done)) (Run.bin rfl rfl (Bin.neqN _ 0)) rfl ?_
      refine Ops.r (Run.pickF rfl rfl (by first | rfl | assumption | exact decide_eq_true (by assumption) | exact decide_eq_false (by assumption) | decide | (simp; done) | (simp; omega) | (simp [*]; done))) rfl ?_
      refine Ops.r (Run.mv rfl) rfl ?_
      refine Ops.rg rfl (by first | rfl | assumption | exact decide_eq_true (by assumption) | exact decide_eq_false (by assumption) | decide | (simp; done) | (simp; omega) | (simp [*]; done)) (Run.mv rfl) rfl ?_
      refine Ops.rg rfl (by first | rfl | assumption | exact decide_eq_true (by assumption) | exact decide_eq_false (by assumption) | decide | (simp; done) | (simp; omega) | (simp [*]; done)) (Run.lenS rfl Try.underlying25) rfl ?_
      refine Ops.rg rfl (by first | rfl | assumption | exact decide_eq_true (by assumption) | exact decide_eq_false (by assumption) | decide | (simp; done) | (simp; omega) | (simp [*]; done)) (Run.mv rfl) rfl ?_
      refine Ops.rg rfl (by first | rfl | assumption | exact decide_eq_true (by assumption) | exact decide_eq_false (by assumption) | decide | (simp; done) | (simp; omega) | (simp [*]; done)) (Run.lenS rfl Try.underlying25) rfl ?_
      refine Ops.rg rfl (by first | rfl | assumption | exact decide_eq_true (by assumption) | exact decide_eq_false (by assumption) | decide | (simp; done) | (simp; omega) | (simp [*]; done)) (Run.bin rfl rfl (Bin.neqN _ _)) rfl ?_
      refine Ops.r (Run.pickF rfl rfl (by simp)) rfl ?_
      refine Ops.nil ?_
      refine thenQ_n ?_
      refine VC.sub [(9, _), (11, _), (13, _), (14, _), (98, _)] (.cons rfl (.cons rfl (.cons rfl (.cons rfl (.cons rfl .nil))))) ?_
      refine VC.condF rfl (decide_eq_false (by omega)) ?_
      refine VC.skip ?_
      refine thenQ_n ?_
      refine VC.sub [(9, _), (11, _), (13, _), (14, _)] (.cons rfl (.cons rfl (.cons rfl (.cons rfl .nil)))) ?_
      refine VC.seq ?_
      refine VC.seq ?_
      refine VC.region ?_
      refine Ops.r (v := .int .i64 ((0 : Nat) : Int)) (Run.asg rfl) rfl ?_
      refine Ops.nil ?_
      refine thenQ_n ?_
      refine VC.block ?_
      refine VC.loop (σ := Nat) (fun s => [(9, .slice D bs12.length dD), (11, .slice C11 (NZ (marksQ (goesQ every on2) 0 (Ms l3))).length d11), (13, .slice P12 ps12.length dP12), (14, .slice D12 bs12.length dD12), (15, .int .i64 ((s : Nat) : Int))]) (fun s wr => s ≤ bs12.length ∧ Frm [] w15 wr) (fun s => bs12.length - s) 0 (.cons rfl (.cons rfl (.cons rfl (.cons rfl (.cons rfl .nil))))) ⟨by omega, Frm.refl _ _⟩ ?_
      rintro i wr ⟨hi, hfr⟩
      have hbl : bs12.length = (marksQ (goesQ every on2) 0 (Ms l3)).length := by rw [hbs]; simp [blobsP]
      refine VC.seq ?_
      refine VC.seq ?_
      refine VC.region ?_
      refine Ops.r (Run.mv rfl) rfl ?_
      refine Ops.r (Run.mv rfl) rfl ?_
      refine Ops.r (Run.lenS rfl Try.underlying27) rfl ?_
      refine Ops.r (Run.bin rfl rfl (Bin.lssN _ _)) rfl ?_
      refine Ops.nil ?_
      refine thenQ_n ?_
      refine VC.sub [(9, _), (11, _), (13, _), (14, _), (15, _), (102, _)] (.cons rfl (.cons rfl (.cons rfl (.cons rfl (.cons rfl (.cons rfl .nil)))))) ?_
      refine VC.condD rfl (fun hc4 => ?_) (fun hc4 => ?_)
      · skip
        have hip : i < ps12.length := by omega
        have hiN : i < (marksQ (goesQ every on2) 0 (Ms l3)).length := by omega
        have hiZ : i < (NZ (marksQ (goesQ every on2) 0 (Ms l3))).length := by omega
        have hfd := hfr.drew
        obtain ⟨a1, u1, rfl, q1, c1⟩ := (hD.rd.frm hfd (by simp)).at1 hc4
        obtain rfl : u1 = .int .u64 ((bs12[i] : Nat) : Int) := by simpa [UBl, List.getElem?_eq_getElem hc4] using q1.symm
        obtain ⟨a2, u2, rfl, q2, c2⟩ := (hD12.frm hfd (by simp)).at1 hc4
        obtain rfl : u2 = .int .u64 ((bs12[i] : Nat) : Int) := by simpa [UBl, List.getElem?_eq_getElem hc4] using q2.symm
        obtain ⟨a3, u3, rfl, q3, c3⟩ := (hO11.rd.frm hfd (by simp)).at1 hiZ
        obtain rfl : u3 = .int .i64 (((marksQ (goesQ every on2) 0 (Ms l3))[i] : Nat) : Int) := by simpa [IB, NZ, List.getElem?_eq_getElem hiN] using q3.symm
        obtain ⟨a4, u4, rfl, q4, c4⟩ := (hP12.frm hfd (by simp)).at1 hip
        obtain rfl : u4 = .int .i64 ((ps12[i] : Nat) : Int) := by simpa [IB, List.getElem?_eq_getElem hip] using q4.symm
        have hge := marksQ_ge (goesQ every on2) (Ms l3) 0 i hiN
        have hpi : ps12[i] = (marksQ (goesQ every on2) 0 (Ms l3))[i] - (0 + i) := by
          have h1 := shiftP_get (marksQ (goesQ every on2) 0 (Ms l3)) 0 i (by rw [shift_len]; exact hiN) hiN
          rw [← h1]
          congr 1
        have hle := marksQ_mem (goesQ every on2) (Ms l3) 0 _ (List.getElem_mem hiN)
        have hM3l : (Ms l3).length ≤ 129 := by simpa [Ms] using hl3
        have hpn : (((marksQ (goesQ every on2) 0 (Ms l3))[i] : Nat) : Int) = ((ps12[i] + i : Nat) : Int) := by omega
        refine VC.skip ?_
        refine thenQ_n ?_
        refine VC.sub [(9, _), (11, _), (13, _), (14, _), (15, _)] (.cons rfl (.cons rfl (.cons rfl (.cons rfl (.cons rfl .nil))))) ?_
        refine VC.seq ?_
        refine VC.block ?_
        refine VC.seq ?_
        refine VC.still (by kernel_rfl) (by kernel_rfl) ?_
        refine SOps.r (Run.mv rfl) rfl ?_
        refine SOps.r (Run.mv rfl) rfl ?_
        refine SOps.r (Run.index1 i rfl rfl Try.underlying27 Try.sizeOf38 hc4) rfl ?_
        refine SOps.r (Run.load rfl Try.isAgg38 c1) rfl ?_
        refine SOps.r (Run.mv rfl) rfl ?_
        refine SOps.r (Run.mv rfl) rfl ?_
        refine SOps.r (Run.index1 i rfl rfl Try.underlying27 Try.sizeOf38 hc4) rfl ?_
        refine SOps.r (Run.load rfl Try.isAgg38 c2) rfl ?_
        refine SOps.r (Run.bin rfl rfl (Bin.neqN _ _)) rfl ?_
        refine SOps.r (Run.mv rfl) rfl ?_
        refine SOps.rg rfl (by first | rfl | assumption | exact decide_eq_true (by assumption) | exact decide_eq_false (by assumption) | decide | (simp; done) | (simp; omega) | (simp [*]; done)) (Run.mv rfl) rfl ?_
        refine SOps.rg rfl (by first | rfl | assumption | exact decide_eq_true (by assumption) | exact decide_eq_false (by assumption) | decide | (simp; done) | (simp; omega) | (simp [*]; done)) (Run.mv rfl) rfl ?_
        refine SOps.rg rfl (by first | rfl | assumption | exact decide_eq_true (by assumption) | exact decide_eq_false (by assumption) | decide | (simp; done) | (simp; omega) | (simp [*]; done)) (Run.index1 i rfl rfl Try.underlying25 Try.sizeOf3 hiZ) rfl ?_
        refine SOps.rg rfl (by first | rfl | assumption | exact decide_eq_true (by assumption) | exact decide_eq_false (by assumption) | decide | (simp; done) | (simp; omega) | (simp [*]; done)) (Run.load rfl Try.isAgg3 c3) rfl ?_
        refine SOps.rg rfl (by first | rfl | assumption | exact decide_eq_true (by assumption) | exact decide_eq_false (by assumption) | decide | (simp; done) | (simp; omega) | (simp [*]; done)) (Run.mv rfl) rfl ?_
        refine SOps.rg rfl (by first | rfl | assumption | exact decide_eq_true (by assumption) | exact decide_eq_false (by assumption) | decide | (simp; done) | (simp; omega) | (simp [*]; done)) (Run.mv rfl) rfl ?_
        refine SOps.rg rfl (by first | rfl | assumption | exact decide_eq_true (by assumption) | exact decide_eq_false (by assumption) | decide | (simp; done) | (simp; omega) | (simp [*]; done)) (Run.index1 i rfl rfl Try.underlying25 Try.sizeOf3 hip) rfl ?_
        refine SOps.rg rfl (by first | rfl | assumption | exact decide_eq_true (by assumption) | exact decide_eq_false (by assumption) | decide | (simp; done) | (simp; omega) | (simp [*]; done)) (Run.load rfl Try.isAgg3 c4) rfl ?_
        refine SOps.rg rfl (by first | rfl | assumption | exact decide_eq_true (by assumption) | exact decide_eq_false (by assumption) | decide | (simp; done) | (simp; omega) | (simp [*]; done)) (Run.mv rfl) rfl ?_
        refine SOps.rg rfl (by first | rfl | assumption | exact decide_eq_true (by assumption) | exact decide_eq_false (by assumption) | decide | (simp; done) | (simp; omega) | (simp [*]; done)) (Run.bin rfl rfl (Bin.add_i64 _ _ (by omega))) rfl ?_
        refine SOps.rg rfl (by first | rfl | assumption | exact decide_eq_true (by assumption) | exact decide_eq_false (by assumption) | decide | (simp; done) | (simp; omega) | (simp [*]; done)) (Run.bin rfl rfl (Bin.neqN _ _)) rfl ?_
        refine SOps.r (Run.pickF rfl rfl (by simp)) rfl ?_
        refine SOps.nil ?_
        refine thenQ_n ?_
        refine VC.sub [(9, _), (11, _), (13, _), (14, _), (15, _), (126, _)] (.cons rfl (.cons rfl (.cons rfl (.cons rfl (.cons rfl (.cons rfl .nil)))))) ?_
        refine VC.condF rfl (by first | rfl | exact decide_eq_false (fun h => h hpn) | (simp; omega)) ?_
        refine VC.skip ?_
        refine blockQ_n (thenQ_n ?_)
        refine VC.sub [(9, _), (11, _), (13, _), (14, _), (15, _)] (.cons rfl (.cons rfl (.cons rfl (.cons rfl (.cons rfl .nil))))) ?_
        refine VC.region ?_
        refine Ops.r (Run.mv rfl) rfl ?_
        refine Ops.r (Run.bin rfl rfl (Bin.add_i64 _ 1 (by omega))) rfl ?_
        refine Ops.r (Run.asg rfl) rfl ?_
        refine Ops.nil ?_
        refine thenQ_n ⟨(i + 1), (.cons rfl (.cons rfl (.cons rfl (.cons rfl (.cons rfl .nil))))), ?_, ?_⟩
        · skip
          exact ⟨hc4, hfd⟩
        · skip
          first | omega | (dsimp only; omega)
      · skip
        refine VC.exit ?_
        refine thenQ_x (thenQ_x (blockQ_x ?_))
        refine thenQ_n ?_
        refine VC.sub [] .nil ?_
        refine VC.seq ?_
        refine VC.region ?_
        refine Ops.cl (Enters.fn evs.nil Try.call13) (awake26_spec _) rfl ?_
        rintro e w16 ⟨rfl, hf16⟩
        refine ⟨_, rfl, ?_⟩
        refine Ops.r (Run.asg rfl) rfl ?_
        refine Ops.nil ?_
        refine thenQ_n ?_
        refine VC.sub [(6, _)] (.cons rfl .nil) ?_
        refine VC.ret ?_
        refine end1 rfl ?_
        exact ⟨rfl, K.trans (hfr.trans hf16 (by simp)) (by simp)⟩

end Go.Proofs.Ytmfglifjnoilnaa
