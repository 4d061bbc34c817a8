/-
  The law 'BoxPlaces' of layer 26: the places that are told, taken out one behind the other, leave what stays. No condition.
-/
import Derived.Test.YtmfglifjnoilnaaBoxL3
namespace Go.Proofs.Ytmfglifjnoilnaa
open Go.RowKit Go.Sort

theorem expunge_good {q : MsgP → Bool} {l l7 : List Mc} {ps bs : List Nat} (h1 : Ms l7 = (Ms l).filter fun m => !q m) (hps : ps = shiftP 0 (marksQ q 0 (Ms l))) (hbs : bs = blobsP (Ms l) (marksQ q 0 (Ms l))) :
    (∃ last, Ms last = Ms l7 ∧ GoodP last l ps bs) ∧ ps.Pairwise (· ≤ ·) ∧ bs.length = ps.length := by
  have e1 : ps = placesQ q 0 (Ms l) := by rw [hps, shift_marks q (Ms l) 0 0 (Nat.le_refl _)]
  have e2 : bs = ((Ms l).filter q).map MsgP.blob := by rw [hbs, blobs_marks q (Ms l) (Ms l) 0 rfl]
  refine ⟨⟨l.filter fun x => !q x.m, by rw [Ms_filter, h1], ?_⟩, ?_, ?_⟩
  · have := good_places q l []
    rw [e1, e2]
    exact this
  · rw [e1]; exact (places_rise q (Ms l) 0).2
  · rw [hps, hbs, shift_len]; simp [blobsP]
theorem GoodP.uncons {last xs : List Mc} {ps bs : List Nat} {i : Nat} (h : GoodP last xs (ps.drop i) (bs.drop i)) (hi : i < ps.length) (hib : i < bs.length) :
    1 ≤ ps[i] ∧ ps[i] ≤ xs.length ∧ (∀ hx : ps[i] - 1 < xs.length, (xs[ps[i] - 1]).m.blob = bs[i]) ∧ GoodP last (delP xs ps[i]) (ps.drop (i + 1)) (bs.drop (i + 1)) := by
  rw [List.drop_eq_getElem_cons hi, List.drop_eq_getElem_cons hib] at h
  obtain ⟨h1, h2, b, r, h3, h4, h5⟩ := h
  injection h3 with h3 h6
  subst h3 h6
  refine ⟨h1, h2, fun hx => ?_, h5⟩
  rw [List.getElem?_eq_getElem hx] at h4
  simpa using h4
theorem delP_sub (xs : List Mc) (p : Nat) : ∀ x ∈ delP xs p, x ∈ xs := by
  intro x hx
  unfold delP at hx
  rcases List.mem_append.1 hx with h | h
  · exact List.mem_of_mem_take h
  · exact List.mem_of_mem_drop h
theorem delP_len (xs : List Mc) (p : Nat) : (delP xs p).length ≤ xs.length + xs.length := by
  unfold delP; simp; omega
theorem delP_len1 (xs : List Mc) (p : Nat) (h1 : 1 ≤ p) (h2 : p ≤ xs.length) : (delP xs p).length + 1 = xs.length := by
  unfold delP; simp; omega
theorem MC_drop (l : List Mc) (m : Nat) (hm : m ≤ l.length) : (MC l).drop (m * 6) = MC (l.drop m) := by
  have e1 : MC l = MC (l.take m) ++ MC (l.drop m) := by rw [← MC_append, List.take_append_drop]
  have e2 : (MC (l.take m)).length = m * 6 := by rw [MC_len, List.length_take]; congr 1; omega
  rw [e1, List.drop_append, List.drop_eq_nil_of_le (by omega), e2, Nat.sub_self]
  rfl
theorem RdM.cut {w : World} {A : Option Addr} {l : List Mc} {c r : Nat} (h : Rd w 6 A l.length (MC l)) (m : Nat) (hm : m ≤ r) (hr : r ≤ l.length) (hc : l.length ≤ c) : Rd w 6 (cutA A c m 6) (r - m) (MC ((l.drop m).take (r - m))) := by
  have h1 := h.cut (l := m) (r := r) (cap := c) hm hr hc
  rw [MC_drop l m (by omega), MC_take _ _ (by simp; omega)] at h1
  exact h1

set_option maxRecDepth 100000 in
theorem places_walk (va na : Int) (A : Option Addr) (c : Nat) (l : List Mc) (O : Option Addr) (oc : Nat) (only : List Int) (every : Bool) (w : World) (hl : RawM w A l) (hc : l.length ≤ c) (ho : Rd w 1 O only.length (IB only)) (hoc : only.length ≤ oc) :
    Calls Try.prog 5 #[.agg #[.int .i64 va, .int .i64 na, .slice A l.length c], .slice O only.length oc, .bool every] w fun e w' => e = .returned (.bool true) ∧ Frm [] w w' := by
  refine VC.calls (nt := 145) (res := #[.tmp 6]) Try.func5 rfl Try.ntmps5 Try.results5 rfl ?_
  refine VC.seq ?_
  refine VC.region ?_
  refine Ops.m (Does.box rfl) rfl ?_
  rintro _ w1 ⟨rfl, hF1⟩
  have hb3 : Blk w1 w.heap.size 24 (BVc va na A l.length c).toArray := hF1.blk
  have K := hF1.frm
  have hs3 : w.heap.size ≤ w.heap.size := Nat.le_refl _
  generalize hg3 : w.heap.size = g3 at hb3 hs3 ⊢
  refine Ops.r (Run.asg rfl) rfl ?_
  refine Ops.nil ?_
  refine thenQ_n ?_
  refine VC.sub [(1, _), (2, _), (3, _)] (.cons rfl (.cons rfl (.cons rfl .nil))) ?_
  refine VC.seq ?_
  refine VC.region ?_
  refine Ops.r (Run.loadA rfl Try.isAgg24 Try.sizeOf24 (fun j v hj => hb3.cells j v hj) (by first | rfl | (simp; done))) rfl ?_
  refine Ops.cl (Enters.fn (evs.cons rfl evs.nil) Try.call8) (few26_spec va na A c l _ (hl.frm K) hc) rfl ?_
  rintro e w2 ⟨hf_w2, B3, d3, l3, rfl, hO3, hM3, hl3, _⟩
  refine ⟨_, rfl, ?_⟩
  have hb3 := hb3.frm hf_w2 (by simp)
  have K := Frm.trans K hf_w2 (by simp)
  refine Ops.st (Acts.storeA rfl rfl Try.sizeOf24 hb3 rfl (BVc_one va na B3 l3.length d3)) ?_
  rintro w3 ⟨hbn_w3, hf_w3, hsz_w3⟩
  have hO3 := hO3.blk hf_w3 hb3 (by decide) (by decide)
  have hb3 := hbn_w3
  have K := Frm.own K hf_w3 (fun y hy => by simp at hy; omega)
  refine Ops.nil ?_
  refine thenQ_n ?_
  refine VC.sub [(1, _), (2, _), (3, _)] (.cons rfl (.cons rfl (.cons rfl .nil))) ?_
  refine VC.seq ?_
  refine VC.seq ?_
  refine VC.region ?_
  refine Ops.r (Run.mv rfl) rfl ?_
  refine Ops.r (Run.lenS rfl Try.underlying25) rfl ?_
  refine Ops.r (Run.bin rfl rfl (Bin.gtrN _ 200)) rfl ?_
  refine Ops.nil ?_
  refine thenQ_n ?_
  refine VC.sub [(1, _), (2, _), (3, _), (19, _)] (.cons rfl (.cons rfl (.cons rfl (.cons rfl .nil)))) ?_
  refine VC.meet (σ := Option Addr × Nat) (fun s => [(1, .slice s.1 (only.take 200).length s.2), (2, .bool every), (3, .pointer (some ⟨g3, 0, none⟩))]) (fun s wm => w3 = wm ∧ Rd wm 1 s.1 (only.take 200).length (IB (only.take 200))) ?_ ?_
  · skip
    refine VC.condD rfl (fun hc1 => ?_) (fun hc1 => ?_)
    · skip
      refine VC.region ?_
      refine Ops.r (Run.mv rfl) rfl ?_
      refine Ops.r (Run.sliceS 0 200 rfl Try.underlying25 Try.sizeOf3 evB.none_ (evB.some_ rfl) (by omega) (by omega)) rfl ?_
      refine Ops.r (Run.asg rfl) rfl ?_
      refine Ops.nil ?_
      refine thenQ_n ⟨(cutA O oc 0 1, oc - 0), (.cons (by rw [show (only.take 200).length = 200 - 0 by simp; omega]; rfl) (.cons rfl (.cons rfl .nil))), ?_⟩
      exact ⟨rfl, IB_cut 200 (ho.frm K (by simp)) hoc (by omega)⟩
    · skip
      refine VC.skip ?_
      refine thenQ_n ⟨(O, oc), (.cons (by rw [List.take_of_length_le (by omega)]; rfl) (.cons rfl (.cons rfl .nil))), ?_⟩
      rw [List.take_of_length_le (by omega)]
      exact ⟨rfl, ho.frm K (by simp)⟩
  · skip
    rintro ⟨O2, co2⟩ _ ⟨rfl, hro⟩ Γ hΓ
    dsimp only at hro
    have hol : (only.take 200).length ≤ 200 := by simp; omega
    generalize hoo : only.take 200 = on2 at *
    refine thenQ_n (VC.sub _ hΓ ?_)
    refine VC.seq ?_
    refine VC.region ?_
    refine Ops.r (Run.loadA rfl Try.isAgg24 Try.sizeOf24 (fun j v hj => hb3.cells j v hj) (by first | rfl | (simp; done))) rfl ?_
    refine Ops.r (Run.mv rfl) rfl ?_
    refine Ops.r (Run.mv rfl) rfl ?_
    refine Ops.cl (Enters.fn (evs.cons rfl (evs.cons rfl (evs.cons rfl evs.nil))) Try.call9) (expunge_spec va na B3 d3 l3 every O2 co2 on2 _ hO3.rdm hro (by omega)) rfl ?_
    rintro e w4 ⟨hf_w4, v7, n7, B7, d7, l7, P, dP, ps, D, dD, bs, k7, rfl, hO7, hP, hD, hE⟩
    refine ⟨_, rfl, ?_⟩
    have hb3 := hb3.frm hf_w4 (by simp)
    have hO3 := hO3.frm hf_w4
    have K := Frm.trans K hf_w4 (by simp)
    refine Ops.r (Run.mv rfl) rfl ?_
    refine Ops.r (Run.extract rfl rfl) rfl ?_
    refine Ops.r (Run.extract rfl rfl) rfl ?_
    refine Ops.r (Run.extract rfl rfl) rfl ?_
    refine Ops.r (Run.extract rfl rfl) rfl ?_
    refine Ops.m (Does.alloc zero24) rfl ?_
    rintro _ w5 ⟨rfl, hF_w5⟩
    have hb7 := hF_w5.blk
    have hs7_K := K.size
    have lt_hb3_7 := hb3.lt
    have hb3 := hb3.frm hF_w5.frm (by simp)
    have hO3 := hO3.frm hF_w5.frm
    have hO7 := hO7.frm hF_w5.frm
    have hP := hP.frm hF_w5.frm (by simp)
    have hD := hD.frm hF_w5.frm (by simp)
    have K := Frm.trans K hF_w5.frm (by simp)
    generalize hg7 : w4.heap.size = g7 at hb7 hs7_K lt_hb3_7 ⊢
    refine Ops.st (Acts.storeA rfl rfl Try.sizeOf24 hb7 rfl (BVc_one v7 n7 B7 l7.length d7)) ?_
    rintro w6 ⟨hbn_w6, hf_w6, hsz_w6⟩
    have hb3 := hb3.frm hf_w6 (by simp; omega)
    have hO3 := hO3.blk hf_w6 hb7 (by decide) (by decide)
    have hO7 := hO7.blk hf_w6 hb7 (by decide) (by decide)
    have hP := hP.frm hf_w6 (fun y hy => by have := hP.ne_blk hb7 (by decide); simp; rintro rfl; exact this hy)
    have hD := hD.frm hf_w6 (fun y hy => by have := hD.ne_blk hb7 (by decide); simp; rintro rfl; exact this hy)
    have hb7 := hbn_w6
    have K := Frm.own K hf_w6 (fun y hy => by simp at hy; omega)
    refine Ops.r (Run.asg rfl) rfl ?_
    refine Ops.r (Run.asg rfl) rfl ?_
    refine Ops.r (Run.asg rfl) rfl ?_
    refine Ops.nil ?_
    refine thenQ_n ?_
    refine VC.sub [(2, _), (3, _), (7, _), (8, _), (9, _), (10, _)] (.cons rfl (.cons rfl (.cons rfl (.cons rfl (.cons rfl (.cons rfl .nil)))))) ?_
    refine VC.seq ?_
    refine VC.seq ?_
    refine VC.region ?_
    refine Ops.r (Run.mv rfl) rfl ?_
    refine Ops.r (Run.bin rfl rfl (Bin.neqN _ 0)) rfl ?_
    refine Ops.nil ?_
    refine thenQ_n ?_
    refine VC.sub [(2, _), (3, _), (7, _), (8, _), (9, _), (32, _)] (.cons rfl (.cons rfl (.cons rfl (.cons rfl (.cons rfl (.cons rfl .nil)))))) ?_
    refine VC.condD rfl (fun hc2 => ?_) (fun hc2 => ?_)
    · skip
      obtain ⟨_, rfl, rfl, rfl, hl7, rfl, rfl⟩ := hE.resolve_right (fun h => by have := h.2.1; subst this; exact hc2 rfl)
      subst hl7
      refine VC.seq ?_
      refine VC.region ?_
      refine Ops.r (Run.loadA rfl Try.isAgg24 Try.sizeOf24 (fun j v hj => hb7.cells j v hj) (by first | rfl | (simp; done))) rfl ?_
      refine Ops.cl (Enters.fn (evs.cons rfl evs.nil) Try.call12) (none_spec 0 0 B7 d7 [] _ (RdM.nil _ _) (by decide)) rfl ?_
      rintro e w7 ⟨rfl, hf_w7⟩
      rw [decide_eq_true (⟨rfl, rfl, rfl⟩)]
      refine ⟨_, rfl, ?_⟩
      have hb3 := hb3.frm hf_w7 (by simp)
      have hO3 := hO3.frm hf_w7
      have hO7 := hO7.frm hf_w7
      have hP := hP.frm hf_w7 (by simp)
      have hD := hD.frm hf_w7 (by simp)
      have hb7 := hb7.frm hf_w7 (by simp)
      have K := Frm.trans K hf_w7 (by simp)
      refine Ops.r (Run.mv rfl) rfl ?_
      refine Ops.rg rfl (by first | rfl | assumption | exact decide_eq_true (by assumption) | exact decide_eq_false (by assumption) | decide | (simp; done) | (simp; omega) | (simp [*]; done)) (Run.mv rfl) rfl ?_
      refine Ops.rg rfl (by first | rfl | assumption | exact decide_eq_true (by assumption) | exact decide_eq_false (by assumption) | decide | (simp; done) | (simp; omega) | (simp [*]; done)) (Run.lenS rfl Try.underlying25) rfl ?_
      refine Ops.rg rfl (by first | rfl | assumption | exact decide_eq_true (by assumption) | exact decide_eq_false (by assumption) | decide | (simp; done) | (simp; omega) | (simp [*]; done)) (Run.bin rfl rfl (Bin.eqlN _ 0)) rfl ?_
      refine Ops.r (Run.pickT rfl rfl (by first | rfl | assumption | exact decide_eq_true (by assumption) | exact decide_eq_false (by assumption) | decide | (simp; done) | (simp; omega) | (simp [*]; done))) rfl ?_
      refine Ops.r (Run.mv rfl) rfl ?_
      refine Ops.rg rfl (by first | rfl | assumption | exact decide_eq_true (by assumption) | exact decide_eq_false (by assumption) | decide | (simp; done) | (simp; omega) | (simp [*]; done)) (Run.mv rfl) rfl ?_
      refine Ops.rg rfl (by first | rfl | assumption | exact decide_eq_true (by assumption) | exact decide_eq_false (by assumption) | decide | (simp; done) | (simp; omega) | (simp [*]; done)) (Run.lenS rfl Try.underlying27) rfl ?_
      refine Ops.rg rfl (by first | rfl | assumption | exact decide_eq_true (by assumption) | exact decide_eq_false (by assumption) | decide | (simp; done) | (simp; omega) | (simp [*]; done)) (Run.bin rfl rfl (Bin.eqlN _ 0)) rfl ?_
      refine Ops.r (Run.pickT rfl rfl (by first | rfl | assumption | exact decide_eq_true (by assumption) | exact decide_eq_false (by assumption) | decide | (simp; done) | (simp; omega) | (simp [*]; done))) rfl ?_
      refine Ops.r (Run.mv rfl) rfl ?_
      refine Ops.clg rfl (by first | rfl | assumption | exact decide_eq_true (by assumption) | exact decide_eq_false (by assumption) | decide | (simp; done) | (simp; omega) | (simp [*]; done)) (Enters.fn evs.nil Try.call13) (awake26_spec _) rfl ?_
      rintro e w8 ⟨rfl, hf_w8⟩
      refine ⟨_, rfl, ?_⟩
      have hb3 := hb3.frm hf_w8 (by simp)
      have hO3 := hO3.frm hf_w8
      have hO7 := hO7.frm hf_w8
      have hP := hP.frm hf_w8 (by simp)
      have hD := hD.frm hf_w8 (by simp)
      have hb7 := hb7.frm hf_w8 (by simp)
      have K := Frm.trans K hf_w8 (by simp)
      refine Ops.r (Run.pickT rfl rfl (by first | rfl | assumption | exact decide_eq_true (by assumption) | exact decide_eq_false (by assumption) | decide | (simp; done) | (simp; omega) | (simp [*]; done))) rfl ?_
      refine Ops.r (Run.asg rfl) rfl ?_
      refine Ops.nil ?_
      refine thenQ_n ?_
      refine VC.sub [(6, _)] (.cons rfl .nil) ?_
      refine VC.ret ?_
      refine thenQ_r (end1 rfl ?_)
      exact ⟨rfl, K⟩
    · skip
      obtain ⟨hmay, hk7, rfl, rfl, hl7, hps, hbs⟩ := hE.resolve_left (fun h => hc2 (by rw [h.2.1]; decide))
      obtain ⟨⟨last, hlast, hgood⟩, hrise, hbl⟩ := expunge_good hl7 hps hbs
      have hl7l : l7.length ≤ 129 := by
        have := congrArg List.length hl7
        have h2 := List.length_filter_le (fun m => !(goesQ every on2) m) (Ms l3)
        simp only [Ms, List.length_map] at this h2
        omega
      have hpl : ps.length ≤ 129 := by
        have := marksQ_len (goesQ every on2) (Ms l3) 0
        rw [hps, shift_len]
        simp only [Ms, List.length_map] at this ⊢
        omega
      have K0 := K
      have hw6 := K0.size
      refine VC.skip ?_
      refine thenQ_n ?_
      refine VC.sub [(2, _), (3, _), (7, _), (8, _), (9, _)] (.cons rfl (.cons rfl (.cons rfl (.cons rfl (.cons rfl .nil))))) ?_
      refine VC.seq ?_
      refine VC.region ?_
      refine Ops.m (Does.buildS0 Try.underlying22 Try.sizeOf45) rfl ?_
      rintro _ w9 ⟨rfl, hF9⟩
      have ho9 : Own w9 45 6 (some ⟨w6.heap.size, 0, none⟩) 0 0 [] := Own.of_blk (n := 0) hF9.blk rfl (by decide)
      refine Ops.r (Run.fieldAddr rfl Try.underlying24 rfl Try.sizeOf22 (by decide)) rfl ?_
      refine Ops.r (Run.load rfl Try.isAgg22 ((hb3.frm hF9.frm (by simp)).cell 2)) rfl ?_
      refine Ops.m (Does.app rfl rfl Try.underlying22 (info45) rfl (by decide) ho9 (hO3.own.rd.frm hF9.frm (by simp)) (flat_one Mc.cells Mc.cells_one _) (by omega) (by omega)) rfl ?_
      rintro _ w10 ⟨A10, c10, rfl, ho10, hf10, hob10⟩
      rw [List.nil_append, Nat.zero_add] at ho10
      rw [Nat.zero_add]
      have K610 : Frm [] w6 w10 := hF9.frm.own hf10 (by simp [ob])
      have hge10 : ∀ x ∈ ob A10, w6.heap.size ≤ x := up_app (by simp [ob]) hob10 hF9.frm.size
      refine Ops.r (Run.asg rfl) rfl ?_
      refine Ops.nil ?_
      refine thenQ_n ?_
      refine VC.sub [(2, _), (3, _), (7, _), (8, _), (9, _), (11, _)] (.cons rfl (.cons rfl (.cons rfl (.cons rfl (.cons rfl (.cons rfl .nil)))))) ?_
      refine VC.seq ?_
      refine VC.seq ?_
      refine VC.region ?_
      refine Ops.r (Run.mv rfl) rfl ?_
      refine Ops.r (Run.lenS rfl Try.underlying25) rfl ?_
      refine Ops.r (Run.mv rfl) rfl ?_
      refine Ops.r (Run.lenS rfl Try.underlying27) rfl ?_
      refine Ops.r (Run.bin rfl rfl (Bin.neqN _ _)) rfl ?_
      refine Ops.nil ?_
      refine thenQ_n ?_
      refine VC.sub [(2, _), (3, _), (7, _), (8, _), (9, _), (11, _), (56, _)] (.cons rfl (.cons rfl (.cons rfl (.cons rfl (.cons rfl (.cons rfl (.cons rfl .nil))))))) ?_
      refine VC.condF rfl (decide_eq_false (by omega)) ?_
      refine VC.skip ?_
      refine thenQ_n ?_
      refine VC.sub [(2, _), (3, _), (7, _), (8, _), (9, _), (11, _)] (.cons rfl (.cons rfl (.cons rfl (.cons rfl (.cons rfl (.cons rfl .nil)))))) ?_
      refine VC.seq ?_
      refine VC.seq ?_
      refine VC.region ?_
      refine Ops.r (v := .int .i64 ((0 : Nat) : Int)) (Run.asg rfl) rfl ?_
      refine Ops.nil ?_
      refine thenQ_n ?_
      refine VC.block ?_
      refine VC.loop (σ := Nat × Option Addr × Nat × List Mc) (fun s => [(2, .bool every), (3, .pointer (some ⟨g3, 0, none⟩)), (7, .pointer (some ⟨g7, 0, none⟩)), (8, .slice P ps.length dP), (9, .slice D bs.length dD), (11, .slice s.2.1 s.2.2.2.length s.2.2.1), (12, .int .i64 ((s.1 : Nat) : Int))]) (fun s wr => s.1 ≤ ps.length ∧ Own wr 45 6 s.2.1 s.2.2.2.length s.2.2.1 (MC s.2.2.2) ∧ (∀ b ∈ ob s.2.1, w6.heap.size ≤ b) ∧ GoodP last s.2.2.2 (ps.drop s.1) (bs.drop s.1) ∧ (∀ x ∈ s.2.2.2, x ∈ l3) ∧ s.2.2.2.length ≤ 129 ∧ Frm [] w6 wr) (fun s => ps.length - s.1) (0, A10, c10, l3) (.cons rfl (.cons rfl (.cons rfl (.cons rfl (.cons rfl (.cons rfl (.cons rfl .nil))))))) ⟨by omega, ho10, hge10, by simpa using hgood, fun _ h => h, by omega, K610⟩ ?_
      rintro ⟨i, L, dL, xs⟩ wr ⟨hi, hL, hgL, hgd, hsub, hxl, hfr⟩
      dsimp only at hi hL hgL hgd hsub hxl ⊢
      refine VC.seq ?_
      refine VC.seq ?_
      refine VC.region ?_
      refine Ops.r (Run.mv rfl) rfl ?_
      refine Ops.r (Run.mv rfl) rfl ?_
      refine Ops.r (Run.lenS rfl Try.underlying25) rfl ?_
      refine Ops.r (Run.bin rfl rfl (Bin.lssN _ _)) rfl ?_
      refine Ops.nil ?_
      refine thenQ_n ?_
      refine VC.sub [(2, _), (3, _), (7, _), (8, _), (9, _), (11, _), (12, _), (60, _)] (.cons rfl (.cons rfl (.cons rfl (.cons rfl (.cons rfl (.cons rfl (.cons rfl (.cons rfl .nil)))))))) ?_
      refine VC.condD rfl (fun hc4 => ?_) (fun hc4 => ?_)
      · skip
        have hib : i < bs.length := by omega
        obtain ⟨hq1, hq2, hq3, hq4⟩ := hgd.uncons hc4 hib
        have hq5 := hq3 (by omega)
        have hdl := delP_len1 xs _ hq1 hq2
        have hds := delP_sub xs ps[i]
        have hprev : ∀ (h : 0 < i), ¬ ps[i] < ps[i - 1]'(Nat.lt_of_le_of_lt (Nat.sub_le i 1) hc4) := fun h => by
          have := (List.pairwise_iff_getElem.1 hrise) (i - 1) i (by omega) hc4 (by omega)
          omega
        have hfd := hfr.drew
        have hLd := hL.frm (Drawn.drew wr).frm (by simp)
        have rdp : ∀ j (hj : j < ps.length), ∃ ad, P = some ad ∧ wr.drew.cell? (ad.add j) = some (.int .i64 ((ps[j] : Nat) : Int)) := fun j hj => by
          obtain ⟨ad, u, e, q1, c1⟩ := (hP.rd.frm hfd (by simp)).at1 hj
          obtain rfl : u = .int .i64 ((ps[j] : Nat) : Int) := by simpa [IB, List.getElem?_eq_getElem hj] using q1.symm
          exact ⟨ad, e, c1⟩
        obtain ⟨adP, rfl, cp⟩ := rdp i hc4
        have cprev : ∀ (h : 0 < i), wr.drew.cell? (adP.add (i - 1)) = some (.int .i64 (((ps[i - 1]'(Nat.lt_of_le_of_lt (Nat.sub_le i 1) hc4) : Nat)) : Int)) := fun h => by
          obtain ⟨ad, e, c1⟩ := rdp (i - 1) (by omega)
          injection e with e
          rw [e]; exact c1
        obtain ⟨adD, uD, rfl, qD, cD⟩ := (hD.rd.frm hfd (by simp)).at1 hib
        obtain rfl : uD = .int .u64 ((bs[i] : Nat) : Int) := by simpa [UBl, List.getElem?_eq_getElem hib] using qD.symm
        have hpx : ps[i] - 1 < xs.length := by omega
        obtain ⟨adL, rfl, cL0⟩ := hLd.rd.elem hpx
        have cL : wr.drew.cell? ((adL.add ((ps[i] - 1) * 6)).add 4) = some (.int .u64 ((bs[i] : Nat) : Int)) := by
          refine cL0 4 _ ?_
          rw [flat_get Mc.cells 6 Mc.cells_len xs _ hpx, ← hq5]
          rfl
        clear cL0 hq3 hq5
        generalize hpi : ps[i] = p at *
        have h67 : ¬ p < 1 := by omega
        have h75 : ¬ xs.length < p := by omega
        have h91 : ¬ (bs[i] ≠ bs[i]) := fun h => h rfl
        have cp0 : wr.cell? (adP.add i) = some (.int .i64 ((p : Nat) : Int)) := cp
        refine VC.skip ?_
        refine thenQ_n ?_
        refine VC.sub [(2, _), (3, _), (7, _), (8, _), (9, _), (11, _), (12, _)] (.cons rfl (.cons rfl (.cons rfl (.cons rfl (.cons rfl (.cons rfl (.cons rfl .nil))))))) ?_
        refine VC.seq ?_
        refine VC.block ?_
        refine VC.seq ?_
        refine VC.seq ?_
        refine VC.splitR [(2, .bool every), (3, .pointer (some ⟨g3, 0, none⟩)), (7, .pointer (some ⟨g7, 0, none⟩)), (8, .slice (some adP) ps.length dP), (9, .slice (some adD) bs.length dD), (11, .slice (some adL) xs.length dL), (12, .int .i64 ((i : Nat) : Int))] (Drawn wr) 108 (.bool (decide (False))) ?_ ?_
        · refine VC.still (by kernel_rfl) (by kernel_rfl) ?_
          refine SOps.r (Run.mv rfl) rfl ?_
          refine SOps.r (Run.mv rfl) rfl ?_
          refine SOps.r (Run.index1 i rfl rfl Try.underlying25 Try.sizeOf3 hc4) rfl ?_
          refine SOps.r (Run.load rfl Try.isAgg3 cp) rfl ?_
          refine SOps.r (Run.bin rfl rfl (Bin.lssN _ 1)) rfl ?_
          refine SOps.r (Run.mv rfl) rfl ?_
          refine SOps.rg rfl (by first | rfl | assumption | exact decide_eq_true (by assumption) | exact decide_eq_false (by assumption) | decide | (simp; done) | (simp; omega) | (simp [*]; done)) (Run.mv rfl) rfl ?_
          refine SOps.rg rfl (by first | rfl | assumption | exact decide_eq_true (by assumption) | exact decide_eq_false (by assumption) | decide | (simp; done) | (simp; omega) | (simp [*]; done)) (Run.mv rfl) rfl ?_
          refine SOps.rg rfl (by first | rfl | assumption | exact decide_eq_true (by assumption) | exact decide_eq_false (by assumption) | decide | (simp; done) | (simp; omega) | (simp [*]; done)) (Run.index1 i rfl rfl Try.underlying25 Try.sizeOf3 hc4) rfl ?_
          refine SOps.rg rfl (by first | rfl | assumption | exact decide_eq_true (by assumption) | exact decide_eq_false (by assumption) | decide | (simp; done) | (simp; omega) | (simp [*]; done)) (Run.load rfl Try.isAgg3 cp) rfl ?_
          refine SOps.rg rfl (by first | rfl | assumption | exact decide_eq_true (by assumption) | exact decide_eq_false (by assumption) | decide | (simp; done) | (simp; omega) | (simp [*]; done)) (Run.mv rfl) rfl ?_
          refine SOps.rg rfl (by first | rfl | assumption | exact decide_eq_true (by assumption) | exact decide_eq_false (by assumption) | decide | (simp; done) | (simp; omega) | (simp [*]; done)) (Run.lenS rfl Try.underlying22) rfl ?_
          refine SOps.rg rfl (by first | rfl | assumption | exact decide_eq_true (by assumption) | exact decide_eq_false (by assumption) | decide | (simp; done) | (simp; omega) | (simp [*]; done)) (Run.bin rfl rfl (Bin.gtrN _ _)) rfl ?_
          refine SOps.r (Run.pickF rfl rfl (by first | rfl | assumption | exact decide_eq_true (by assumption) | exact decide_eq_false (by assumption) | decide | (simp; done) | (simp; omega) | (simp [*]; done))) rfl ?_
          refine SOps.r (Run.mv rfl) rfl ?_
          refine SOps.rg rfl (by first | rfl | assumption | exact decide_eq_true (by assumption) | exact decide_eq_false (by assumption) | decide | (simp; done) | (simp; omega) | (simp [*]; done)) (Run.mv rfl) rfl ?_
          refine SOps.rg rfl (by first | rfl | assumption | exact decide_eq_true (by assumption) | exact decide_eq_false (by assumption) | decide | (simp; done) | (simp; omega) | (simp [*]; done)) (Run.mv rfl) rfl ?_
          refine SOps.rg rfl (by first | rfl | assumption | exact decide_eq_true (by assumption) | exact decide_eq_false (by assumption) | decide | (simp; done) | (simp; omega) | (simp [*]; done)) (Run.mv rfl) rfl ?_
          refine SOps.rg rfl (by first | rfl | assumption | exact decide_eq_true (by assumption) | exact decide_eq_false (by assumption) | decide | (simp; done) | (simp; omega) | (simp [*]; done)) (Run.index1 i rfl rfl Try.underlying25 Try.sizeOf3 hc4) rfl ?_
          refine SOps.rg rfl (by first | rfl | assumption | exact decide_eq_true (by assumption) | exact decide_eq_false (by assumption) | decide | (simp; done) | (simp; omega) | (simp [*]; done)) (Run.load rfl Try.isAgg3 cp) rfl ?_
          refine SOps.rg rfl (by first | rfl | assumption | exact decide_eq_true (by assumption) | exact decide_eq_false (by assumption) | decide | (simp; done) | (simp; omega) | (simp [*]; done)) (Run.bin rfl rfl (Bin.sub_i64 _ 1 (by omega) (by omega))) rfl ?_
          refine SOps.rg rfl (by first | rfl | assumption | exact decide_eq_true (by assumption) | exact decide_eq_false (by assumption) | decide | (simp; done) | (simp; omega) | (simp [*]; done)) (Run.indexS (p - 1) rfl rfl Try.underlying22 Try.sizeOf45 (by omega)) rfl ?_
          refine SOps.rg rfl (by first | rfl | assumption | exact decide_eq_true (by assumption) | exact decide_eq_false (by assumption) | decide | (simp; done) | (simp; omega) | (simp [*]; done)) (Run.fieldAddr rfl Try.underlying45 rfl Try.sizeOf38 (by decide)) rfl ?_
          refine SOps.rg rfl (by first | rfl | assumption | exact decide_eq_true (by assumption) | exact decide_eq_false (by assumption) | decide | (simp; done) | (simp; omega) | (simp [*]; done)) (Run.load rfl Try.isAgg38 cL) rfl ?_
          refine SOps.rg rfl (by first | rfl | assumption | exact decide_eq_true (by assumption) | exact decide_eq_false (by assumption) | decide | (simp; done) | (simp; omega) | (simp [*]; done)) (Run.mv rfl) rfl ?_
          refine SOps.rg rfl (by first | rfl | assumption | exact decide_eq_true (by assumption) | exact decide_eq_false (by assumption) | decide | (simp; done) | (simp; omega) | (simp [*]; done)) (Run.mv rfl) rfl ?_
          refine SOps.rg rfl (by first | rfl | assumption | exact decide_eq_true (by assumption) | exact decide_eq_false (by assumption) | decide | (simp; done) | (simp; omega) | (simp [*]; done)) (Run.index1 i rfl rfl Try.underlying27 Try.sizeOf38 hib) rfl ?_
          refine SOps.rg rfl (by first | rfl | assumption | exact decide_eq_true (by assumption) | exact decide_eq_false (by assumption) | decide | (simp; done) | (simp; omega) | (simp [*]; done)) (Run.load rfl Try.isAgg38 cD) rfl ?_
          refine SOps.rg rfl (by first | rfl | assumption | exact decide_eq_true (by assumption) | exact decide_eq_false (by assumption) | decide | (simp; done) | (simp; omega) | (simp [*]; done)) (Run.bin rfl rfl (Bin.neqN _ _)) rfl ?_
          refine SOps.r (Run.pickF rfl rfl (by first | rfl | assumption | exact decide_eq_true (by assumption) | exact decide_eq_false (by assumption) | decide | (simp; done) | (simp; omega) | (simp [*]; done))) rfl ?_
          refine SOps.r (Run.mv rfl) rfl ?_
          refine SOps.rg rfl (by first | rfl | assumption | exact decide_eq_true (by assumption) | exact decide_eq_false (by assumption) | decide | (simp; done) | (simp; omega) | (simp [*]; done)) (Run.mv rfl) rfl ?_
          refine SOps.rg rfl (by first | rfl | assumption | exact decide_eq_true (by assumption) | exact decide_eq_false (by assumption) | decide | (simp; done) | (simp; omega) | (simp [*]; done)) (Run.bin rfl rfl (Bin.gtrN _ 0)) rfl ?_
          by_cases hs95 : 0 < i
          · skip
            have h106 := hprev hs95
            refine SOps.rg rfl (by first | rfl | assumption | exact decide_eq_true (by assumption) | exact decide_eq_false (by assumption) | decide | (simp; done) | (simp; omega) | (simp [*]; done)) (Run.mv rfl) rfl ?_
            refine SOps.rg rfl (by first | rfl | assumption | exact decide_eq_true (by assumption) | exact decide_eq_false (by assumption) | decide | (simp; done) | (simp; omega) | (simp [*]; done)) (Run.mv rfl) rfl ?_
            refine SOps.rg rfl (by first | rfl | assumption | exact decide_eq_true (by assumption) | exact decide_eq_false (by assumption) | decide | (simp; done) | (simp; omega) | (simp [*]; done)) (Run.mv rfl) rfl ?_
            refine SOps.rg rfl (by first | rfl | assumption | exact decide_eq_true (by assumption) | exact decide_eq_false (by assumption) | decide | (simp; done) | (simp; omega) | (simp [*]; done)) (Run.index1 i rfl rfl Try.underlying25 Try.sizeOf3 hc4) rfl ?_
            refine SOps.rg rfl (by first | rfl | assumption | exact decide_eq_true (by assumption) | exact decide_eq_false (by assumption) | decide | (simp; done) | (simp; omega) | (simp [*]; done)) (Run.load rfl Try.isAgg3 cp) rfl ?_
            refine SOps.rg rfl (by first | rfl | assumption | exact decide_eq_true (by assumption) | exact decide_eq_false (by assumption) | decide | (simp; done) | (simp; omega) | (simp [*]; done)) (Run.mv rfl) rfl ?_
            refine SOps.rg rfl (by first | rfl | assumption | exact decide_eq_true (by assumption) | exact decide_eq_false (by assumption) | decide | (simp; done) | (simp; omega) | (simp [*]; done)) (Run.mv rfl) rfl ?_
            refine SOps.rg rfl (by first | rfl | assumption | exact decide_eq_true (by assumption) | exact decide_eq_false (by assumption) | decide | (simp; done) | (simp; omega) | (simp [*]; done)) (Run.bin rfl rfl (Bin.sub_i64 _ 1 (by omega) (by omega))) rfl ?_
            refine SOps.rg rfl (by first | rfl | assumption | exact decide_eq_true (by assumption) | exact decide_eq_false (by assumption) | decide | (simp; done) | (simp; omega) | (simp [*]; done)) (Run.index1 (i - 1) rfl rfl Try.underlying25 Try.sizeOf3 (by omega)) rfl ?_
            refine SOps.rg rfl (by first | rfl | assumption | exact decide_eq_true (by assumption) | exact decide_eq_false (by assumption) | decide | (simp; done) | (simp; omega) | (simp [*]; done)) (Run.load rfl Try.isAgg3 (cprev hs95)) rfl ?_
            refine SOps.rg rfl (by first | rfl | assumption | exact decide_eq_true (by assumption) | exact decide_eq_false (by assumption) | decide | (simp; done) | (simp; omega) | (simp [*]; done)) (Run.bin rfl rfl (Bin.lssN _ _)) rfl ?_
            refine SOps.rg rfl (by first | rfl | assumption | exact decide_eq_true (by assumption) | exact decide_eq_false (by assumption) | decide | (simp; done) | (simp; omega) | (simp [*]; done)) (Run.pickT rfl rfl (by first | rfl | assumption | exact decide_eq_true (by assumption) | exact decide_eq_false (by assumption) | decide | (simp; done) | (simp; omega) | (simp [*]; done))) rfl ?_
            refine SOps.r (Run.pickF rfl rfl (by first | rfl | assumption | exact decide_eq_true (by assumption) | exact decide_eq_false (by assumption) | decide | (simp; done) | (simp; omega) | (simp [*]; done))) rfl ?_
            refine SOps.nil ?_
            refine thenQ_n ⟨(.cons (congrArg (fun b => some (Value.bool b)) (by first | rfl | exact decide_eq_decide.2 ⟨fun h => absurd h (hprev hs95), False.elim⟩)) (.cons rfl (.cons rfl (.cons rfl (.cons rfl (.cons rfl (.cons rfl (.cons rfl .nil)))))))), (Drawn.drew wr)⟩
          · skip
            refine SOps.rg rfl (by first | rfl | assumption | exact decide_eq_true (by assumption) | exact decide_eq_false (by assumption) | decide | (simp; done) | (simp; omega) | (simp [*]; done)) (Run.mv rfl) rfl ?_
            refine SOps.sk rfl (by first | rfl | assumption | exact decide_eq_true (by assumption) | exact decide_eq_false (by assumption) | decide | (simp; done) | (simp; omega) | (simp [*]; done)) rfl ?_
            refine SOps.sk rfl (by first | rfl | assumption | exact decide_eq_true (by assumption) | exact decide_eq_false (by assumption) | decide | (simp; done) | (simp; omega) | (simp [*]; done)) rfl ?_
            refine SOps.sk rfl (by first | rfl | assumption | exact decide_eq_true (by assumption) | exact decide_eq_false (by assumption) | decide | (simp; done) | (simp; omega) | (simp [*]; done)) rfl ?_
            refine SOps.sk rfl (by first | rfl | assumption | exact decide_eq_true (by assumption) | exact decide_eq_false (by assumption) | decide | (simp; done) | (simp; omega) | (simp [*]; done)) rfl ?_
            refine SOps.sk rfl (by first | rfl | assumption | exact decide_eq_true (by assumption) | exact decide_eq_false (by assumption) | decide | (simp; done) | (simp; omega) | (simp [*]; done)) rfl ?_
            refine SOps.sk rfl (by first | rfl | assumption | exact decide_eq_true (by assumption) | exact decide_eq_false (by assumption) | decide | (simp; done) | (simp; omega) | (simp [*]; done)) rfl ?_
            refine SOps.sk rfl (by first | rfl | assumption | exact decide_eq_true (by assumption) | exact decide_eq_false (by assumption) | decide | (simp; done) | (simp; omega) | (simp [*]; done)) rfl ?_
            refine SOps.sk rfl (by first | rfl | assumption | exact decide_eq_true (by assumption) | exact decide_eq_false (by assumption) | decide | (simp; done) | (simp; omega) | (simp [*]; done)) rfl ?_
            refine SOps.sk rfl (by first | rfl | assumption | exact decide_eq_true (by assumption) | exact decide_eq_false (by assumption) | decide | (simp; done) | (simp; omega) | (simp [*]; done)) rfl ?_
            refine SOps.sk rfl (by first | rfl | assumption | exact decide_eq_true (by assumption) | exact decide_eq_false (by assumption) | decide | (simp; done) | (simp; omega) | (simp [*]; done)) rfl ?_
            refine SOps.rg rfl (by first | rfl | assumption | exact decide_eq_true (by assumption) | exact decide_eq_false (by assumption) | decide | (simp; done) | (simp; omega) | (simp [*]; done)) (Run.pickF rfl rfl (by first | rfl | assumption | exact decide_eq_true (by assumption) | exact decide_eq_false (by assumption) | decide | (simp; done) | (simp; omega) | (simp [*]; done))) rfl ?_
            refine SOps.r (Run.pickF rfl rfl (by first | rfl | assumption | exact decide_eq_true (by assumption) | exact decide_eq_false (by assumption) | decide | (simp; done) | (simp; omega) | (simp [*]; done))) rfl ?_
            refine SOps.nil ?_
            refine thenQ_n ⟨(.cons (congrArg (fun b => some (Value.bool b)) (by first | rfl | exact decide_eq_decide.2 ⟨fun h => absurd h (hprev hs95), False.elim⟩)) (.cons rfl (.cons rfl (.cons rfl (.cons rfl (.cons rfl (.cons rfl (.cons rfl .nil)))))))), (Drawn.drew wr)⟩
        · intro Γ w11 hΓ hd11
          refine thenQ_n (VC.sub _ hΓ ?_)
          refine VC.condF rfl (by simp) ?_
          refine VC.skip ?_
          refine thenQ_n ?_
          refine VC.sub [(2, _), (3, _), (7, _), (8, _), (9, _), (11, _), (12, _)] (.cons rfl (.cons rfl (.cons rfl (.cons rfl (.cons rfl (.cons rfl (.cons rfl .nil))))))) ?_
          refine VC.seq ?_
          refine VC.region ?_
          refine Ops.r (Run.asg rfl) rfl ?_
          refine Ops.nil ?_
          refine thenQ_n ?_
          refine VC.seq ?_
          refine VC.region ?_
          refine Ops.r (Run.mv rfl) rfl ?_
          refine Ops.r (Run.mv rfl) rfl ?_
          refine Ops.r (Run.mv rfl) rfl ?_
          refine Ops.r (Run.mv rfl) rfl ?_
          refine Ops.r (Run.index1 i rfl rfl Try.underlying25 Try.sizeOf3 hc4) rfl ?_
          refine Ops.r (Run.load rfl Try.isAgg3 (Frm.cell hd11.frm cp0 (by simp))) rfl ?_
          refine Ops.r (Run.bin rfl rfl (Bin.sub_i64 _ 1 (by omega) (by omega))) rfl ?_
          refine Ops.r (Run.sliceS 0 (p - 1) rfl Try.underlying22 Try.sizeOf45 evB.none_ (evB.some_ rfl) (by omega) (by have := hL.le; omega)) rfl ?_
          refine Ops.m (Does.app rfl rfl Try.underlying22 (info45) rfl (by decide) (Own.nil _ _ _) (RdM.cut (hL.rd.drawn hd11) 0 (by omega) (by omega) hL.le) (flat_one Mc.cells Mc.cells_one _) (by omega) (by omega)) rfl ?_
          rintro _ w16 ⟨A16, c16, rfl, ho16, hf16, hob16⟩
          rw [List.nil_append] at ho16
          have hf16' : Frm [] wr w16 := (hd11.frm).trans hf16 (by simp [ob])
          have hfr16 : Frm [] wr w16 := hf16'
          have hge16 : ∀ b ∈ ob A16, w6.heap.size ≤ b := up_app (by simp [ob]) hob16 (Nat.le_trans hfr.size hd11.frm.size)
          have hL16 := hL.frm hf16' (by simp)
          have hfr6 := hfr.trans hf16' (by simp)
          refine Ops.r (Run.asg rfl) rfl ?_
          refine Ops.nil ?_
          refine thenQ_n ?_
          refine VC.sub [(2, _), (3, _), (7, _), (8, _), (9, _), (11, _), (12, _), (13, _)] (.cons rfl (.cons rfl (.cons rfl (.cons rfl (.cons rfl (.cons rfl (.cons rfl (.cons rfl .nil)))))))) ?_
          refine VC.region ?_
          refine Ops.r (Run.mv rfl) rfl ?_
          refine Ops.r (Run.mv rfl) rfl ?_
          refine Ops.r (Run.mv rfl) rfl ?_
          refine Ops.r (Run.mv rfl) rfl ?_
          refine Ops.r (Run.index1 i rfl rfl Try.underlying25 Try.sizeOf3 hc4) rfl ?_
          refine Ops.r (Run.load rfl Try.isAgg3 ((hfr16.cell cp0 (by simp)))) rfl ?_
          refine Ops.r (Run.sliceS p xs.length rfl Try.underlying22 Try.sizeOf45 (evB.some_ rfl) evB.none_ (by omega) (by have := hL.le; omega)) rfl ?_
          refine Ops.m (Does.app rfl rfl Try.underlying22 (info45) rfl (by decide) ho16 (RdM.cut hL16.rd p (by omega) (Nat.le_refl _) hL.le) (flat_one Mc.cells Mc.cells_one _) (by omega) (by omega)) rfl ?_
          rintro _ w17 ⟨A17, c17, rfl, ho17, hf17, hob17⟩
          have hge17 := up_app hge16 hob17 hfr6.size
          have hfr17 := hfr6.own hf17 hge16
          have hdm : MC ((xs.drop 0).take (p - 1 - 0)) ++ MC ((xs.drop p).take (xs.length - p)) = MC (delP xs p) := by
            rw [← MC_append]
            unfold delP
            rw [List.drop_zero, Nat.sub_zero, List.take_of_length_le (l := xs.drop p) (by simp)]
          have hdn : 0 + (p - 1 - 0) + (xs.length - p) = (delP xs p).length := by omega
          rw [hdm, hdn] at ho17
          refine Ops.r (Run.asg rfl) rfl ?_
          refine Ops.nil ?_
          refine blockQ_n (thenQ_n ?_)
          refine VC.sub [(2, _), (3, _), (7, _), (8, _), (9, _), (11, _), (12, _)] (.cons rfl (.cons rfl (.cons rfl (.cons rfl (.cons rfl (.cons rfl (.cons rfl .nil))))))) ?_
          refine VC.region ?_
          refine Ops.r (Run.mv rfl) rfl ?_
          refine Ops.r (Run.bin rfl rfl (Bin.add_i64 _ 1 (by omega))) rfl ?_
          refine Ops.r (Run.asg rfl) rfl ?_
          refine Ops.nil ?_
          refine thenQ_n ⟨(i + 1, A17, c17, delP xs p), (.cons rfl (.cons rfl (.cons rfl (.cons rfl (.cons rfl (.cons (by rw [hdn]; rfl) (.cons rfl .nil))))))), ?_, ?_⟩
          · skip
            exact ⟨hc4, ho17, hge17, hq4, fun x hx => hsub x (hds x hx), show (delP xs p).length ≤ 129 by omega, hfr17⟩
          · skip
            first | omega | (dsimp only; omega)
      · skip
        have him : i = ps.length := by omega
        subst him
        rw [List.drop_eq_nil_of_le (Nat.le_refl _)] at hgd
        obtain ⟨_, rfl⟩ := hgd
        have hxs : Ms xs = Ms l7 := hlast
        have hmx : (Ms l7) = (Ms l3).filter fun m => !(goesQ every on2) m := hl7
        refine VC.exit ?_
        refine thenQ_x (thenQ_x (blockQ_x ?_))
        refine thenQ_n ?_
        refine VC.sub [(2, _), (3, _), (7, _), (11, _)] (.cons rfl (.cons rfl (.cons rfl (.cons rfl .nil)))) ?_
        refine VC.seq ?_
        refine VC.region ?_
        refine Ops.r (Run.loadA rfl Try.isAgg24 Try.sizeOf24 (fun j v hj => (hb3.frm hfr (by simp)).cells j v hj) (by first | rfl | (simp; done))) rfl ?_
        refine Ops.m (Does.alloc zero24) rfl ?_
        rintro _ w18 ⟨rfl, hF18⟩
        have hb14 := hF18.blk
        have hs14 := hfr.size
        have hlt14 := hL.lt
        have hL := hL.frm hF18.frm (by simp)
        have hfr := hfr.trans hF18.frm (by simp)
        generalize hg14 : wr.heap.size = g14 at hb14 hs14 hlt14 ⊢
        refine Ops.st (Acts.storeA rfl rfl Try.sizeOf24 hb14 rfl (BVc_one v7 n7 B3 l3.length d3)) ?_
        rintro w19 ⟨hb14, hf19, hsz19⟩
        have hL := hL.frm hf19 (fun y hy hy2 => by simp at hy2; have := hlt14 y hy; omega)
        have hfr := hfr.own hf19 (fun y hy => by simp at hy; omega)
        refine Ops.nil ?_
        refine thenQ_n ?_
        refine VC.sub [(2, _), (7, _), (11, _), (14, _)] (.cons rfl (.cons rfl (.cons rfl (.cons rfl .nil)))) ?_
        refine VC.seq ?_
        refine VC.region ?_
        refine Ops.r (Run.mv rfl) rfl ?_
        refine Ops.r (Run.fieldAddr rfl Try.underlying24 rfl Try.sizeOf22 (by decide)) rfl ?_
        refine Ops.st (Acts.store rfl rfl Try.sizeOf22 hb14 rfl rfl) ?_
        rintro w20 ⟨hb14, hf20, hsz20⟩
        have hb14 : Blk w20 g14 24 (BVc v7 n7 L xs.length dL).toArray := hb14
        have hL := hL.frm hf20 (fun y hy hy2 => by simp at hy2; have := hlt14 y hy; omega)
        have hfr := hfr.own hf20 (fun y hy => by simp at hy; omega)
        have hRx : RdM w20 L xs := ⟨hL.rd, fun x hx => (hO3.rdm.fl x (hsub x hx)).frm hfr (by simp)⟩
        have hR7 := hO7.rdm.frm hfr
        have hb7 := hb7.frm hfr (by simp)
        refine Ops.nil ?_
        refine thenQ_n ?_
        refine VC.sub [(2, _), (7, _), (14, _)] (.cons rfl (.cons rfl (.cons rfl .nil))) ?_
        refine VC.seq ?_
        refine VC.splitR [] (Frm [] w20) 6 (.bool (decide (True))) ?_ ?_
        · refine VC.region ?_
          refine Ops.r (Run.loadA rfl Try.isAgg24 Try.sizeOf24 (fun j v hj => hb7.cells j v hj) (by first | rfl | (simp; done))) rfl ?_
          refine Ops.r (Run.loadA rfl Try.isAgg24 Try.sizeOf24 (fun j v hj => hb14.cells j v hj) (by first | rfl | (simp; done))) rfl ?_
          refine Ops.cl (Enters.fn (evs.cons rfl (evs.cons rfl evs.nil)) Try.call15) (rsameB_spec v7 n7 v7 n7 B7 L d7 dL l7 xs _ hR7 hRx (by omega) (by omega)) rfl ?_
          rintro e w21 ⟨rfl, hf21⟩
          rw [decide_eq_true ⟨rfl, rfl, hxs.symm⟩]
          refine ⟨_, rfl, ?_⟩
          refine Ops.r (Run.mv rfl) rfl ?_
          refine Ops.rg rfl (by first | rfl | assumption | exact decide_eq_true (by assumption) | exact decide_eq_false (by assumption) | decide | (simp; done) | (simp; omega) | (simp [*]; done)) (Run.mv rfl) rfl ?_
          refine Ops.rg rfl (by first | rfl | assumption | exact decide_eq_true (by assumption) | exact decide_eq_false (by assumption) | decide | (simp; done) | (simp; omega) | (simp [*]; done)) (Run.not rfl) rfl ?_
          by_cases hs134 : (!every) = true
          · skip
            refine Ops.rg rfl (by first | rfl | assumption | exact decide_eq_true (by assumption) | exact decide_eq_false (by assumption) | decide | (simp; done) | (simp; omega) | (simp [*]; done)) (Run.mv rfl) rfl ?_
            refine Ops.sk rfl (by first | rfl | assumption | exact decide_eq_true (by assumption) | exact decide_eq_false (by assumption) | decide | (simp; done) | (simp; omega) | (simp [*]; done)) rfl ?_
            refine Ops.sk rfl (by first | rfl | assumption | exact decide_eq_true (by assumption) | exact decide_eq_false (by assumption) | decide | (simp; done) | (simp; omega) | (simp [*]; done)) rfl ?_
            refine Ops.sk rfl (by first | rfl | assumption | exact decide_eq_true (by assumption) | exact decide_eq_false (by assumption) | decide | (simp; done) | (simp; omega) | (simp [*]; done)) rfl ?_
            refine Ops.sk rfl (by first | rfl | assumption | exact decide_eq_true (by assumption) | exact decide_eq_false (by assumption) | decide | (simp; done) | (simp; omega) | (simp [*]; done)) rfl ?_
            refine Ops.rg rfl (by first | rfl | assumption | exact decide_eq_true (by assumption) | exact decide_eq_false (by assumption) | decide | (simp; done) | (simp; omega) | (simp [*]; done)) (Run.pickT rfl rfl (by first | rfl | assumption | exact decide_eq_true (by assumption) | exact decide_eq_false (by assumption) | decide | (simp; done) | (simp; omega) | (simp [*]; done))) rfl ?_
            refine Ops.r (Run.pickT rfl rfl (by first | rfl | assumption | exact decide_eq_true (by assumption) | exact decide_eq_false (by assumption) | decide | (simp; done) | (simp; omega) | (simp [*]; done))) rfl ?_
            refine Ops.r (Run.mv rfl) rfl ?_
            refine Ops.clg rfl (by first | rfl | assumption | exact decide_eq_true (by assumption) | exact decide_eq_false (by assumption) | decide | (simp; done) | (simp; omega) | (simp [*]; done)) (Enters.fn evs.nil Try.call13) (awake26_spec _) rfl ?_
            rintro e w23 ⟨rfl, hf23⟩
            refine ⟨_, rfl, ?_⟩
            have hf23 : Frm [] w20 w23 := by first | exact hf22.trans hf23 (by simp) | exact hf21.trans hf23 (by simp)
            refine Ops.r (Run.pickT rfl rfl (by first | rfl | assumption | exact decide_eq_true (by assumption) | exact decide_eq_false (by assumption) | decide | (simp; done) | (simp; omega) | (simp [*]; done))) rfl ?_
            refine Ops.r (Run.asg rfl) rfl ?_
            refine Ops.nil ?_
            refine thenQ_n ⟨(.cons (congrArg (fun b => some (Value.bool b)) (by first | rfl | simp | simp [*])) .nil), (hf23)⟩
          · skip
            refine Ops.rg rfl (by first | rfl | assumption | exact decide_eq_true (by assumption) | exact decide_eq_false (by assumption) | decide | (simp; done) | (simp; omega) | (simp [*]; done)) (Run.mv rfl) rfl ?_
            refine Ops.rg rfl (by first | rfl | assumption | exact decide_eq_true (by assumption) | exact decide_eq_false (by assumption) | decide | (simp; done) | (simp; omega) | (simp [*]; done)) (Run.loadA rfl Try.isAgg24 Try.sizeOf24 (fun j v hj => (hb7.frm hf21 (by simp)).cells j v hj) (by first | rfl | (simp; done))) rfl ?_
            refine Ops.clg rfl (by first | rfl | assumption | exact decide_eq_true (by assumption) | exact decide_eq_false (by assumption) | decide | (simp; done) | (simp; omega) | (simp [*]; done)) (Enters.fn (evs.cons rfl (evs.cons rfl (evs.cons rfl evs.nil))) Try.call10) (marked_spec v7 n7 B7 d7 l7 true none 0 [] _ (hR7.frm hf21) (Rd.nil _ _ _) (by decide)) rfl ?_
            rintro e w22 ⟨hf22, C22, d22, rfl, _, _⟩
            have hnil : namedB (goesQ true []) ⟨v7, n7, Ms l7⟩ = [] := by
              have hev : every = true := by simpa using hs134
              subst hev
              unfold namedB
              rw [marks_none]
              · simp
              · intro m hm
                rw [hmx] at hm
                have := (List.mem_filter.1 hm).2
                rw [goes_every] at this
                simpa using this
            rw [hnil]
            have hf22 := hf21.trans hf22 (by simp)
            refine ⟨_, rfl, ?_⟩
            refine Ops.rg rfl (by first | rfl | assumption | exact decide_eq_true (by assumption) | exact decide_eq_false (by assumption) | decide | (simp; done) | (simp; omega) | (simp [*]; done)) (Run.lenS rfl Try.underlying25) rfl ?_
            refine Ops.rg rfl (by first | rfl | assumption | exact decide_eq_true (by assumption) | exact decide_eq_false (by assumption) | decide | (simp; done) | (simp; omega) | (simp [*]; done)) (Run.bin rfl rfl (Bin.eqlN _ 0)) rfl ?_
            refine Ops.rg rfl (by first | rfl | assumption | exact decide_eq_true (by assumption) | exact decide_eq_false (by assumption) | decide | (simp; done) | (simp; omega) | (simp [*]; done)) (Run.pickF rfl rfl (by first | rfl | assumption | exact decide_eq_true (by assumption) | exact decide_eq_false (by assumption) | decide | (simp; done) | (simp; omega) | (simp [*]; done))) rfl ?_
            refine Ops.r (Run.pickT rfl rfl (by first | rfl | assumption | exact decide_eq_true (by assumption) | exact decide_eq_false (by assumption) | decide | (simp; done) | (simp; omega) | (simp [*]; done))) rfl ?_
            refine Ops.r (Run.mv rfl) rfl ?_
            refine Ops.clg rfl (by first | rfl | assumption | exact decide_eq_true (by assumption) | exact decide_eq_false (by assumption) | decide | (simp; done) | (simp; omega) | (simp [*]; done)) (Enters.fn evs.nil Try.call13) (awake26_spec _) rfl ?_
            rintro e w23 ⟨rfl, hf23⟩
            refine ⟨_, rfl, ?_⟩
            have hf23 : Frm [] w20 w23 := by first | exact hf22.trans hf23 (by simp) | exact hf21.trans hf23 (by simp)
            refine Ops.r (Run.pickT rfl rfl (by first | rfl | assumption | exact decide_eq_true (by assumption) | exact decide_eq_false (by assumption) | decide | (simp; done) | (simp; omega) | (simp [*]; done))) rfl ?_
            refine Ops.r (Run.asg rfl) rfl ?_
            refine Ops.nil ?_
            refine thenQ_n ⟨(.cons (congrArg (fun b => some (Value.bool b)) (by first | rfl | simp | simp [*])) .nil), (hf23)⟩
        · intro Γ wR hΓ hR
          refine thenQ_n (VC.sub _ hΓ ?_)
          refine VC.ret ?_
          refine end1 rfl ?_
          exact ⟨by simp, K0.trans (hfr.trans hR (by simp)) (by simp)⟩

end Go.Proofs.Ytmfglifjnoilnaa
