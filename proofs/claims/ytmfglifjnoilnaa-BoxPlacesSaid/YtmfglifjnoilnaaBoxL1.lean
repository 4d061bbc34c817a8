/-
  The law 'BoxDoes' of layer 26: what is appended, and what flags are changed. No condition.
-/
import Derived.Test.YtmfglifjnoilnaaBoxXD
import Derived.Test.YtmfglifjnoilnaaEngB
namespace Go.Proofs.Ytmfglifjnoilnaa
open Go.RowKit Go.Sort

theorem OwM.off {w w' : World} {A : Option Addr} {d g : Nat} {l : List Mc} {t : TypeId} {cs : Array Value} (h : OwM w A d l) (k : Frm [g] w w') (hg : g ∉ ob A) (hb : Blk w g t cs) (h2 : 9 ≠ t) : OwM w' A d l :=
  ⟨h.own.frm k (fun y hy => by simp; rintro rfl; exact hg hy), fun x hx => (h.fl x hx).frm k (fun y hy => by have := (h.fl x hx).ne_blk hb h2; simp; rintro rfl; exact this hy), h.fit⟩
theorem take_of_le {α : Type} (l : List α) (n : Nat) (h : l.length ≤ n) : l.take n = l := List.take_of_length_le h
theorem fewF_fewF (l : List Tx) : fewF (fewF l) = fewF l := by
  obtain ⟨h1, h2⟩ := fewF_facts l
  have e : fewF (fewF l) = ((fewF l).take 24).map fun x => x.take 30 := rfl
  rw [e, List.take_of_length_le h1]
  exact (List.map_congr_left (g := id) fun x hx => List.take_of_length_le (h2 x hx)).trans (List.map_id _)
theorem fewM_len (l : List MsgP) : (fewM l).length ≤ 129 := by unfold fewM; simp; omega
theorem fewM_fewM (l : List MsgP) : fewM (fewM l) = fewM l := by
  have e : fewM (fewM l) = ((fewM l).take 129).map fun m => { m with flags := fewF m.flags } := rfl
  rw [e, List.take_of_length_le (fewM_len l)]
  unfold fewM
  rw [List.map_map]
  exact List.map_congr_left fun m _ => by simp only [Function.comp, fewF_fewF]
theorem IsBx.same {w w' : World} {F : Except Nat BoxV} {v n v' n' : Int} {B B' : Option Addr} {d d' : Nat} {l l' : List Mc} {k k' : Nat} (h : IsBx w F v n B d l k) (h' : IsBx w' F v' n' B' d' l' k') : k = k' ∧ v = v' ∧ n = n' ∧ Ms l = Ms l' := by
  obtain ⟨_, h | h⟩ := h <;> obtain ⟨_, h' | h'⟩ := h'
  · obtain ⟨h1, h2⟩ := h
    obtain ⟨h3, h4⟩ := h'
    rw [h2] at h4
    injection h4 with h4
    injection h4 with e1 e2 e3
    exact ⟨by rw [h1, h3], e1, e2, e3⟩
  · obtain ⟨h1, h2⟩ := h
    obtain ⟨h3, h4, _⟩ := h'
    rw [h2] at h4; cases h4
  · obtain ⟨h1, h2, _⟩ := h
    obtain ⟨h3, h4⟩ := h'
    rw [h2] at h4; cases h4
  · obtain ⟨h1, h2, a, b, _, _, c⟩ := h
    obtain ⟨h3, h4, a', b', _, _, c'⟩ := h'
    rw [h2] at h4
    injection h4 with h4
    exact ⟨h4, by rw [a, a'], by rw [b, b'], by rw [c, c']⟩
theorem appendB_len {b b' : BoxV} {m : MsgP} (h : appendB b m = .ok b') : b'.l.length ≤ 128 := by
  unfold appendB at h
  split at h
  · cases h
  · split at h
    · cases h
    · split at h
      · cases h
      · injection h with h
        subst h
        simp
        omega
theorem changeB_len {b b' : BoxV} {p o : Int} {f : List Tx} (h : changeB b p o f = .ok b') : b'.l.length ≤ 128 := by
  unfold changeB at h
  split at h
  · cases h
  · rename_i hm
    have hm := Classical.not_not.1 hm
    split at h
    · cases h
    · split at h
      · cases h
      · split at h
        · cases h
        · injection h with h
          subst h
          have := hm.1.2.2.2.2
          simp
          omega
theorem IsBx.len {w : World} {F : Except Nat BoxV} {v n : Int} {B : Option Addr} {d : Nat} {l : List Mc} {k m : Nat} (h : IsBx w F v n B d l k) (hF : ∀ b, F = .ok b → b.l.length ≤ m) : l.length ≤ m := by
  obtain ⟨_, ⟨_, h2⟩ | ⟨_, _, _, _, _, _, rfl⟩⟩ := h
  · have := hF _ h2
    simpa [Ms] using this
  · simp

set_option maxRecDepth 100000 in
theorem does_walk (va na : Int) (A : Option Addr) (c : Nat) (l : List Mc) (x : Mc) (place op : Int) (w : World) (hl : RawM w A l) (hc : l.length ≤ c) (hx : Rd w 1 x.A x.m.flags.length (SB x.m.flags)) (hxc : x.m.flags.length ≤ x.c) :
    Calls Try.prog 6 #[.agg (BVc va na A l.length c ++ (x.cells ++ ([.int .i64 place] ++ ([.int .i64 op] ++ [] : List Value) : List Value) : List Value) : List Value).toArray] w fun e w' => e = .returned (.bool true) ∧ Frm [] w w' := by
  refine VC.calls (nt := 113) (res := #[.tmp 2]) Try.func6 rfl Try.ntmps6 Try.results6 rfl ?_
  refine VC.seq ?_
  refine VC.region ?_
  refine Ops.m (Does.box rfl) rfl ?_
  rintro _ w1 ⟨rfl, hF1⟩
  have hb1 : Blk w1 w.heap.size 52 (BVc va na A l.length c ++ (x.cells ++ ([.int .i64 place] ++ ([.int .i64 op] ++ [] : List Value) : List Value) : List Value) : List Value).toArray := hF1.blk
  have K := hF1.frm
  generalize hg1 : w.heap.size = g1 at hb1 ⊢
  refine Ops.r (Run.asg rfl) rfl ?_
  refine Ops.nil ?_
  refine thenQ_n ?_
  refine VC.sub [(1, _)] (.cons rfl .nil) ?_
  refine VC.seq ?_
  refine VC.held (fun W => Frm [] w1 W) (by kernel_rfl) ?_
  have hS : Frm [] w1 w1.drew := (Frm.refl _ _).drew
  refine HOps.take 0 rfl (by kernel_rfl) (by kernel_rfl) (by kernel_rfl) hS (fun w0 hw0 => Run.fieldAddr rfl Try.underlying52 rfl Try.sizeOf24 (by decide)) trivial rfl rfl ?_
  refine HOps.take 1 rfl (by kernel_rfl) (by kernel_rfl) (by kernel_rfl) hS (fun w0 hw0 => Run.loadA rfl Try.isAgg24 Try.sizeOf24 ((hb1.frm hw0 (by simp)).sub 0 (BVc va na A l.length c) rfl) (by first | rfl | (simp; done))) trivial rfl rfl ?_
  refine HOps.take 3 rfl (by kernel_rfl) (by kernel_rfl) (by kernel_rfl) hS (fun w0 hw0 => Run.fieldAddr rfl Try.underlying52 rfl Try.sizeOf45 (by decide)) trivial rfl rfl ?_
  refine HOps.take 4 rfl (by kernel_rfl) (by kernel_rfl) (by kernel_rfl) hS (fun w0 hw0 => Run.loadA rfl Try.isAgg45 Try.sizeOf45 ((hb1.frm hw0 (by simp)).sub 3 x.cells rfl) (by first | rfl | (simp; done))) trivial rfl rfl ?_
  refine HOps.take 5 rfl (by kernel_rfl) (by kernel_rfl) (by kernel_rfl) hS (fun w0 hw0 => Run.fieldAddr rfl Try.underlying52 rfl Try.sizeOf3 (by decide)) trivial rfl rfl ?_
  refine HOps.take 6 rfl (by kernel_rfl) (by kernel_rfl) (by kernel_rfl) hS (fun w0 hw0 => Run.load rfl Try.isAgg3 ((hb1.frm hw0 (by simp)).cell 9)) trivial rfl rfl ?_
  refine HOps.take 7 rfl (by kernel_rfl) (by kernel_rfl) (by kernel_rfl) hS (fun w0 hw0 => Run.fieldAddr rfl Try.underlying52 rfl Try.sizeOf3 (by decide)) trivial rfl rfl ?_
  refine HOps.take 8 rfl (by kernel_rfl) (by kernel_rfl) (by kernel_rfl) hS (fun w0 hw0 => Run.load rfl Try.isAgg3 ((hb1.frm hw0 (by simp)).cell 10)) trivial rfl rfl ?_
  refine HOps.par (target := #[true, true, true, true, true, true, true, true, true, true, true, false, false, false, false]) [⟨2, 20, [], false, fun _ u lo hi W => ∃ B d l', u = .agg #[.int .i64 va, .int .i64 na, .slice B l'.length d] ∧ OwM W B d l' ∧ Ms l' = fewM (Ms l) ∧ l'.length ≤ 129 ∧ ∀ b ∈ ob B, lo ≤ b ∧ b < hi⟩, PT.made 9 3 24 #[.int .i64 0, .int .i64 0, .slice none 0 0], PT.made 10 4 45 #[.int .i64 0, .int .i64 0, .int .i64 0, .int .i64 0, .int .u64 0, .slice none 0 0]] 3 rfl (by kernel_rfl) (show List.Nodup ([20, 3, 4] : List Nat) by decide) (show List.Nodup ([2, 9, 10] : List Nat) by decide) (fun t ht => ?_) (fun t ht => ?_) (fun W hW => ?_) (fun t ht => ?_) (fun t ht => ?_) (fun t ht W g hW hD hE => ?_) (fun g W hW hA => ?_)
  · skip
    simp only [List.mem_cons, List.not_mem_nil, or_false] at ht
    rcases ht with rfl | rfl | rfl
    · skip
      rfl
    · skip
      rfl
    · skip
      rfl
  · skip
    simp only [List.mem_cons, List.not_mem_nil, or_false] at ht
    rcases ht with rfl | rfl | rfl
    · skip
      exact fun x hx => absurd hx (by simp)
    · skip
      exact fun x hx => absurd hx (by simp)
    · skip
      exact fun x hx => absurd hx (by simp)
  · exact hS.trans hW (by simp)
  · skip
    simp only [List.mem_cons, List.not_mem_nil, or_false] at ht
    rcases ht with rfl | rfl | rfl
    · skip
      exact fun _ v lo hi W W' hf ⟨B, d, l', h1, h2, h3, h4, h5⟩ => ⟨B, d, l', h1, h2.frm hf, h3, h4, h5⟩
    · skip
      exact PT.made_st
    · skip
      exact PT.made_st
  · skip
    simp only [List.mem_cons, List.not_mem_nil, or_false] at ht
    rcases ht with rfl | rfl | rfl
    · skip
      exact fun _ _ _ _ _ _ _ h => h
    · skip
      exact fun _ _ _ _ _ _ _ h => h
    · skip
      exact fun _ _ _ _ _ _ _ h => h
  · skip
    simp only [List.mem_cons, List.not_mem_nil, or_false] at ht
    rcases ht with rfl | rfl | rfl
    · skip
      refine PStep.cl rfl rfl rfl rfl rfl (Enters.fn (evs.cons rfl evs.nil) Try.call8) (few26_spec va na A c l W (hl.frm (K.drew.trans hW (by simp))) hc) ?_
      rintro e W' ⟨hf, B, d, l', rfl, h2, h3, h4, h5⟩
      exact ⟨_, rfl, hf, B, d, l', rfl, h2, h3, h4, fun b hb => ⟨h5 b hb, h2.own.lt b hb⟩⟩
    · skip
      exact PT.made_ok rfl rfl zero24
    · skip
      exact PT.made_ok rfl rfl zero45
  have hA20 := hA.1 _ (.head _)
  have hA3 := hA.1 _ (.tail _ (.head _))
  have hA4 := hA.1 _ (.tail _ (.tail _ (.head _)))
  have hA20_3 := hA.2 _ (.head _) _ (.tail _ (.head _)) (show (20 : Nat) ≠ 3 by decide)
  have hA20_4 := hA.2 _ (.head _) _ (.tail _ (.tail _ (.head _))) (show (20 : Nat) ≠ 4 by decide)
  have hA3_4 := hA.2 _ (.tail _ (.head _)) _ (.tail _ (.tail _ (.head _))) (show (3 : Nat) ≠ 4 by decide)
  clear hA
  simp only [List.map_cons, List.map_nil, List.cons_append, List.nil_append]
  dsimp only at hA20 hA3 hA4 hA20_3 hA20_4 hA3_4
  generalize g 20 = q20 at *
  obtain ⟨u20, lo20, hi20⟩ := q20
  generalize g 3 = q3 at *
  obtain ⟨u3, lo3, hi3⟩ := q3
  generalize g 4 = q4 at *
  obtain ⟨u4, lo4, hi4⟩ := q4
  dsimp only at hA20 hA3 hA4 hA20_3 hA20_4 hA3_4 ⊢
  obtain ⟨⟨⟨rfl, hlt3⟩, hb3⟩, hA3⟩ := hA3
  obtain ⟨⟨⟨rfl, hlt4⟩, hb4⟩, hA4⟩ := hA4
  obtain ⟨B3, d3, l3, rfl, hO3, hM3, hl3, hB3⟩ := hA20.1
  have hne34 : lo4 ∉ ob B3 := fun h => by have := hB3 _ h; omega
  have hS := hS.trans hW (by simp)
  have hK1 := K.size
  have K := K.trans hS (by simp)
  change w1.heap.size ≤ _ ∧ _ at hA3
  change w1.heap.size ≤ _ ∧ _ at hA4
  clear hA20
  refine HOps.st 11 rfl (by kernel_rfl) (Acts.storeA rfl rfl Try.sizeOf24 hb3 rfl (BVc_one va na B3 l3.length d3)) trivial rfl ?_
  rintro w3 ⟨hbn_w3, hf_w3, hsz_w3⟩
  have hb4 := hb4.frm hf_w3 (by simp; omega)
  have hO3 := hO3.blk hf_w3 hb3 (by decide) (by decide)
  have hb3 := hbn_w3
  have K := Frm.own K hf_w3 (fun y hy => by simp at hy; omega)
  have hS := Frm.own hS hf_w3 (fun y hy => by simp at hy; omega)
  refine ⟨hS, ?_⟩
  refine HOps.st 12 rfl (by kernel_rfl) (Acts.storeA rfl rfl Try.sizeOf45 hb4 rfl (x.cells_one)) trivial rfl ?_
  rintro w4 ⟨hbn_w4, hf_w4, hsz_w4⟩
  have hb3 := hb3.frm hf_w4 (by simp; omega)
  have hO3 := hO3.off hf_w4 hne34 hb4 (by decide)
  have hb4 : Blk w4 lo4 45 (x.cells.toArray) := hbn_w4
  have K := Frm.own K hf_w4 (fun y hy => by simp at hy; omega)
  have hS := Frm.own hS hf_w4 (fun y hy => by simp at hy; omega)
  refine ⟨hS, ?_⟩
  refine HOps.take 13 rfl (by kernel_rfl) (by kernel_rfl) (by kernel_rfl) hS (fun w0 hw0 => Run.asg rfl) trivial rfl rfl ?_
  refine HOps.take 14 rfl (by kernel_rfl) (by kernel_rfl) (by kernel_rfl) hS (fun w0 hw0 => Run.asg rfl) trivial rfl rfl ?_
  refine HOps.done (by kernel_rfl) ?_
  refine thenQ_n ?_
  refine VC.sub [(3, _), (4, _), (5, _), (6, _)] (.cons rfl (.cons rfl (.cons rfl (.cons rfl .nil)))) ?_
  refine VC.seq ?_
  refine VC.region ?_
  refine Ops.r (Run.fieldAddr rfl Try.underlying45 rfl Try.sizeOf43 (by decide)) rfl ?_
  refine Ops.r (Run.load rfl Try.isAgg43 (hb4.cell 5)) rfl ?_
  refine Ops.cl (Enters.fn (evs.cons rfl evs.nil) Try.call20) (few24_spec x.A x.c x.m.flags _ hxc (hx.frm K (by simp))) rfl ?_
  rintro e w5 ⟨hf_w5, F, dF, rfl, hOF, _⟩
  refine ⟨_, rfl, ?_⟩
  have hb3 := hb3.frm hf_w5 (by simp)
  have hb4 := hb4.frm hf_w5 (by simp)
  have hO3 := hO3.frm hf_w5
  have K := Frm.trans K hf_w5 (by simp)
  have hff := fewF_facts x.m.flags
  refine Ops.r (Run.fieldAddr rfl Try.underlying45 rfl Try.sizeOf43 (by decide)) rfl ?_
  refine Ops.st (Acts.store rfl rfl Try.sizeOf43 hb4 rfl rfl) ?_
  rintro w6 ⟨hbn_w6, hf_w6, hsz_w6⟩
  have hb3 := hb3.frm hf_w6 (by simp; omega)
  have hO3 := hO3.off hf_w6 hne34 hb4 (by decide)
  have hOF := hOF.frm hf_w6 (fun y hy => by have := hOF.ne_blk hb4 (by decide); simp; rintro rfl; exact this hy)
  have hb4 : Blk w6 lo4 45 ((⟨{ x.m with flags := fewF x.m.flags }, F, dF⟩ : Mc).cells.toArray) := hbn_w6
  have K := Frm.own K hf_w6 (fun y hy => by simp at hy; omega)
  refine Ops.nil ?_
  refine thenQ_n ?_
  refine VC.sub [(3, _), (4, _), (5, _), (6, _)] (.cons rfl (.cons rfl (.cons rfl (.cons rfl .nil)))) ?_
  refine VC.seq ?_
  refine VC.region ?_
  refine Ops.r (Run.loadA rfl Try.isAgg24 Try.sizeOf24 (fun j v hj => hb3.cells j v hj) (by first | rfl | (simp; done))) rfl ?_
  refine Ops.cl (Enters.fn (evs.cons rfl evs.nil) Try.call8) (few26_spec va na B3 d3 l3 _ hO3.raw hO3.own.le) rfl ?_
  rintro e w7 ⟨hf_w7, B7, d7, l7, rfl, hO7, hM7, hl7, _⟩
  refine ⟨_, rfl, ?_⟩
  have hb3 := hb3.frm hf_w7 (by simp)
  have hb4 := hb4.frm hf_w7 (by simp)
  have hO3 := hO3.frm hf_w7
  have hOF := hOF.frm hf_w7 (by simp)
  have K := Frm.trans K hf_w7 (by simp)
  refine Ops.m (Does.alloc zero24) rfl ?_
  rintro _ w8 ⟨rfl, hF_w8⟩
  have hb7 := hF_w8.blk
  have hs7_K := K.size
  have lt_hb3_7 := hb3.lt
  have lt_hb4_7 := hb4.lt
  have hb3 := hb3.frm hF_w8.frm (by simp)
  have hb4 := hb4.frm hF_w8.frm (by simp)
  have hO3 := hO3.frm hF_w8.frm
  have hOF := hOF.frm hF_w8.frm (by simp)
  have hO7 := hO7.frm hF_w8.frm
  have K := Frm.trans K hF_w8.frm (by simp)
  generalize hg7 : w7.heap.size = g7 at hb7 hs7_K lt_hb3_7 lt_hb4_7 ⊢
  refine Ops.st (Acts.storeA rfl rfl Try.sizeOf24 hb7 rfl (BVc_one va na B7 l7.length d7)) ?_
  rintro w9 ⟨hbn_w9, hf_w9, hsz_w9⟩
  have hb3 := hb3.frm hf_w9 (by simp; omega)
  have hb4 := hb4.frm hf_w9 (by simp; omega)
  have hO3 := hO3.blk hf_w9 hb7 (by decide) (by decide)
  have hOF := hOF.frm hf_w9 (fun y hy => by have := hOF.ne_blk hb7 (by decide); simp; rintro rfl; exact this hy)
  have hO7 := hO7.blk hf_w9 hb7 (by decide) (by decide)
  have hb7 := hbn_w9
  have K := Frm.own K hf_w9 (fun y hy => by simp at hy; omega)
  refine Ops.nil ?_
  refine thenQ_n ?_
  refine VC.sub [(3, _), (4, _), (5, _), (6, _), (7, _)] (.cons rfl (.cons rfl (.cons rfl (.cons rfl (.cons rfl .nil))))) ?_
  refine VC.seq ?_
  refine VC.region ?_
  refine Ops.r (Run.loadA rfl Try.isAgg24 Try.sizeOf24 (fun j v hj => hb3.cells j v hj) (by first | rfl | (simp; done))) rfl ?_
  refine Ops.r (Run.loadA rfl Try.isAgg45 Try.sizeOf45 (fun j v hj => hb4.cells j v hj) (by first | rfl | (simp; done))) rfl ?_
  refine Ops.cl (Enters.fn (evs.cons rfl (evs.cons rfl evs.nil)) Try.call18) (append_spec va na B3 d3 l3 (⟨{ x.m with flags := fewF x.m.flags }, F, dF⟩ : Mc) _ hO3.rdm (by omega) ⟨hOF.rd, by have := hff.1; dsimp only; omega, fun q hq => by have := hff.2 q hq; omega⟩) rfl ?_
  rintro e w10 ⟨hf_w10, v8, n8, B8, d8, l8, k8, rfl, hI8, hO8⟩
  refine ⟨_, rfl, ?_⟩
  have hb3 := hb3.frm hf_w10 (by simp)
  have hb4 := hb4.frm hf_w10 (by simp)
  have hO3 := hO3.frm hf_w10
  have hOF := hOF.frm hf_w10 (by simp)
  have hO7 := hO7.frm hf_w10
  have hb7 := hb7.frm hf_w10 (by simp)
  have K := Frm.trans K hf_w10 (by simp)
  have hl8 := hI8.len fun b hb => appendB_len hb
  refine Ops.r (Run.mv rfl) rfl ?_
  refine Ops.r (Run.extract rfl rfl) rfl ?_
  refine Ops.r (Run.extract rfl rfl) rfl ?_
  refine Ops.r (Run.extract rfl rfl) rfl ?_
  refine Ops.m (Does.alloc zero24) rfl ?_
  rintro _ w11 ⟨rfl, hF_w11⟩
  have hb8 := hF_w11.blk
  have hs8_K := K.size
  have lt_hb3_8 := hb3.lt
  have lt_hb4_8 := hb4.lt
  have lt_hb7_8 := hb7.lt
  have hb3 := hb3.frm hF_w11.frm (by simp)
  have hb4 := hb4.frm hF_w11.frm (by simp)
  have hO3 := hO3.frm hF_w11.frm
  have hOF := hOF.frm hF_w11.frm (by simp)
  have hO7 := hO7.frm hF_w11.frm
  have hb7 := hb7.frm hF_w11.frm (by simp)
  have hO8 := hO8.frm hF_w11.frm
  have K := Frm.trans K hF_w11.frm (by simp)
  generalize hg8 : w10.heap.size = g8 at hb8 hs8_K lt_hb3_8 lt_hb4_8 lt_hb7_8 ⊢
  refine Ops.st (Acts.storeA rfl rfl Try.sizeOf24 hb8 rfl (BVc_one v8 n8 B8 l8.length d8)) ?_
  rintro w12 ⟨hbn_w12, hf_w12, hsz_w12⟩
  have hb3 := hb3.frm hf_w12 (by simp; omega)
  have hb4 := hb4.frm hf_w12 (by simp; omega)
  have hO3 := hO3.blk hf_w12 hb8 (by decide) (by decide)
  have hOF := hOF.frm hf_w12 (fun y hy => by have := hOF.ne_blk hb8 (by decide); simp; rintro rfl; exact this hy)
  have hO7 := hO7.blk hf_w12 hb8 (by decide) (by decide)
  have hb7 := hb7.frm hf_w12 (by simp; omega)
  have hO8 := hO8.blk hf_w12 hb8 (by decide) (by decide)
  have hb8 := hbn_w12
  have K := Frm.own K hf_w12 (fun y hy => by simp at hy; omega)
  refine Ops.r (Run.asg rfl) rfl ?_
  refine Ops.r (Run.asg rfl) rfl ?_
  refine Ops.nil ?_
  refine thenQ_n ?_
  refine VC.sub [(3, _), (4, _), (5, _), (6, _), (7, _), (8, _), (9, _), (10, _)] (.cons rfl (.cons rfl (.cons rfl (.cons rfl (.cons rfl (.cons rfl (.cons rfl (.cons rfl .nil)))))))) ?_
  refine VC.seq ?_
  refine VC.region ?_
  refine Ops.r (Run.loadA rfl Try.isAgg24 Try.sizeOf24 (fun j v hj => hb3.cells j v hj) (by first | rfl | (simp; done))) rfl ?_
  refine Ops.r (Run.loadA rfl Try.isAgg45 Try.sizeOf45 (fun j v hj => hb4.cells j v hj) (by first | rfl | (simp; done))) rfl ?_
  refine Ops.cl (Enters.fn (evs.cons rfl (evs.cons rfl evs.nil)) Try.call21) (rappend_spec va na B3 d3 l3 (⟨{ x.m with flags := fewF x.m.flags }, F, dF⟩ : Mc) _ hO3.rdm (by omega) ⟨hOF.rd, by have := hff.1; dsimp only; omega, fun q hq => by have := hff.2 q hq; omega⟩) rfl ?_
  rintro e w13 ⟨hf_w13, v11, n11, B11, d11, l11, k11, rfl, hI11⟩
  refine ⟨_, rfl, ?_⟩
  have hb3 := hb3.frm hf_w13 (by simp)
  have hb4 := hb4.frm hf_w13 (by simp)
  have hO3 := hO3.frm hf_w13
  have hOF := hOF.frm hf_w13 (by simp)
  have hO7 := hO7.frm hf_w13
  have hb7 := hb7.frm hf_w13 (by simp)
  have hO8 := hO8.frm hf_w13
  have hb8 := hb8.frm hf_w13 (by simp)
  have K := Frm.trans K hf_w13 (by simp)
  have K13 := Frm.refl [] w13
  obtain ⟨rfl, rfl, rfl, hE⟩ := hI8.same hI11
  have hl11 := hI11.len fun b hb => appendB_len hb
  refine Ops.r (Run.mv rfl) rfl ?_
  refine Ops.r (Run.extract rfl rfl) rfl ?_
  refine Ops.r (Run.extract rfl rfl) rfl ?_
  refine Ops.r (Run.extract rfl rfl) rfl ?_
  refine Ops.m (Does.alloc zero24) rfl ?_
  rintro _ w14 ⟨rfl, hF_w14⟩
  have hb11 := hF_w14.blk
  have hs11_K := K.size
  have hs11_K13 := K13.size
  have lt_hb3_11 := hb3.lt
  have lt_hb4_11 := hb4.lt
  have lt_hb7_11 := hb7.lt
  have lt_hb8_11 := hb8.lt
  have hb3 := hb3.frm hF_w14.frm (by simp)
  have hb4 := hb4.frm hF_w14.frm (by simp)
  have hO3 := hO3.frm hF_w14.frm
  have hOF := hOF.frm hF_w14.frm (by simp)
  have hO7 := hO7.frm hF_w14.frm
  have hb7 := hb7.frm hF_w14.frm (by simp)
  have hO8 := hO8.frm hF_w14.frm
  have hb8 := hb8.frm hF_w14.frm (by simp)
  have K := Frm.trans K hF_w14.frm (by simp)
  have K13 := Frm.trans K13 hF_w14.frm (by simp)
  generalize hg11 : w13.heap.size = g11 at hb11 hs11_K hs11_K13 lt_hb3_11 lt_hb4_11 lt_hb7_11 lt_hb8_11 ⊢
  refine Ops.st (Acts.storeA rfl rfl Try.sizeOf24 hb11 rfl (BVc_one v8 n8 B11 l11.length d11)) ?_
  rintro w15 ⟨hbn_w15, hf_w15, hsz_w15⟩
  have hb3 := hb3.frm hf_w15 (by simp; omega)
  have hb4 := hb4.frm hf_w15 (by simp; omega)
  have hO3 := hO3.blk hf_w15 hb11 (by decide) (by decide)
  have hOF := hOF.frm hf_w15 (fun y hy => by have := hOF.ne_blk hb11 (by decide); simp; rintro rfl; exact this hy)
  have hO7 := hO7.blk hf_w15 hb11 (by decide) (by decide)
  have hb7 := hb7.frm hf_w15 (by simp; omega)
  have hO8 := hO8.blk hf_w15 hb11 (by decide) (by decide)
  have hb8 := hb8.frm hf_w15 (by simp; omega)
  have hb11 := hbn_w15
  have K := Frm.own K hf_w15 (fun y hy => by simp at hy; omega)
  have K13 := Frm.own K13 hf_w15 (fun y hy => by simp at hy; omega)
  refine Ops.r (Run.asg rfl) rfl ?_
  refine Ops.r (Run.asg rfl) rfl ?_
  refine Ops.nil ?_
  refine thenQ_n ?_
  refine VC.sub [(3, _), (4, _), (5, _), (6, _), (7, _), (8, _), (9, _), (10, _), (11, _), (12, _), (13, _)] (.cons rfl (.cons rfl (.cons rfl (.cons rfl (.cons rfl (.cons rfl (.cons rfl (.cons rfl (.cons rfl (.cons rfl (.cons rfl .nil))))))))))) ?_
  refine VC.seq ?_
  refine VC.region ?_
  refine Ops.r (Run.loadA rfl Try.isAgg24 Try.sizeOf24 (fun j v hj => hb3.cells j v hj) (by first | rfl | (simp; done))) rfl ?_
  refine Ops.r (Run.mv rfl) rfl ?_
  refine Ops.r (Run.mv rfl) rfl ?_
  refine Ops.r (Run.fieldAddr rfl Try.underlying45 rfl Try.sizeOf43 (by decide)) rfl ?_
  refine Ops.r (Run.load rfl Try.isAgg43 (hb4.cell 5)) rfl ?_
  refine Ops.cl (Enters.fn (evs.cons rfl (evs.cons rfl (evs.cons rfl (evs.cons rfl evs.nil)))) Try.call19) (change_spec va na B3 d3 l3 place op F dF (fewF x.m.flags) _ hO3.rdm (by omega) (fun q hq => by have := hff.2 q hq; omega) hOF.rd) rfl ?_
  rintro e w16 ⟨hf_w16, v14, n14, B14, d14, l14, k14, rfl, hI14, hO14⟩
  refine ⟨_, rfl, ?_⟩
  have hb3 := hb3.frm hf_w16 (by simp)
  have hb4 := hb4.frm hf_w16 (by simp)
  have hO3 := hO3.frm hf_w16
  have hOF := hOF.frm hf_w16 (by simp)
  have hO7 := hO7.frm hf_w16
  have hb7 := hb7.frm hf_w16 (by simp)
  have hO8 := hO8.frm hf_w16
  have hb8 := hb8.frm hf_w16 (by simp)
  have hb11 := hb11.frm hf_w16 (by simp)
  have K := Frm.trans K hf_w16 (by simp)
  have K13 := Frm.trans K13 hf_w16 (by simp)
  have hl14 := hI14.len fun b hb => changeB_len hb
  refine Ops.r (Run.mv rfl) rfl ?_
  refine Ops.r (Run.extract rfl rfl) rfl ?_
  refine Ops.r (Run.extract rfl rfl) rfl ?_
  refine Ops.m (Does.alloc zero24) rfl ?_
  rintro _ w17 ⟨rfl, hF_w17⟩
  have hb14 := hF_w17.blk
  have hs14_K := K.size
  have hs14_K13 := K13.size
  have lt_hb3_14 := hb3.lt
  have lt_hb4_14 := hb4.lt
  have lt_hb7_14 := hb7.lt
  have lt_hb8_14 := hb8.lt
  have lt_hb11_14 := hb11.lt
  have hb3 := hb3.frm hF_w17.frm (by simp)
  have hb4 := hb4.frm hF_w17.frm (by simp)
  have hO3 := hO3.frm hF_w17.frm
  have hOF := hOF.frm hF_w17.frm (by simp)
  have hO7 := hO7.frm hF_w17.frm
  have hb7 := hb7.frm hF_w17.frm (by simp)
  have hO8 := hO8.frm hF_w17.frm
  have hb8 := hb8.frm hF_w17.frm (by simp)
  have hb11 := hb11.frm hF_w17.frm (by simp)
  have hO14 := hO14.frm hF_w17.frm
  have K := Frm.trans K hF_w17.frm (by simp)
  have K13 := Frm.trans K13 hF_w17.frm (by simp)
  generalize hg14 : w16.heap.size = g14 at hb14 hs14_K hs14_K13 lt_hb3_14 lt_hb4_14 lt_hb7_14 lt_hb8_14 lt_hb11_14 ⊢
  refine Ops.st (Acts.storeA rfl rfl Try.sizeOf24 hb14 rfl (BVc_one v14 n14 B14 l14.length d14)) ?_
  rintro w18 ⟨hbn_w18, hf_w18, hsz_w18⟩
  have hb3 := hb3.frm hf_w18 (by simp; omega)
  have hb4 := hb4.frm hf_w18 (by simp; omega)
  have hO3 := hO3.blk hf_w18 hb14 (by decide) (by decide)
  have hOF := hOF.frm hf_w18 (fun y hy => by have := hOF.ne_blk hb14 (by decide); simp; rintro rfl; exact this hy)
  have hO7 := hO7.blk hf_w18 hb14 (by decide) (by decide)
  have hb7 := hb7.frm hf_w18 (by simp; omega)
  have hO8 := hO8.blk hf_w18 hb14 (by decide) (by decide)
  have hb8 := hb8.frm hf_w18 (by simp; omega)
  have hb11 := hb11.frm hf_w18 (by simp; omega)
  have hO14 := hO14.blk hf_w18 hb14 (by decide) (by decide)
  have hb14 := hbn_w18
  have K := Frm.own K hf_w18 (fun y hy => by simp at hy; omega)
  have K13 := Frm.own K13 hf_w18 (fun y hy => by simp at hy; omega)
  refine Ops.r (Run.asg rfl) rfl ?_
  refine Ops.nil ?_
  refine thenQ_n ?_
  refine VC.sub [(3, _), (4, _), (5, _), (6, _), (7, _), (8, _), (9, _), (10, _), (11, _), (12, _), (13, _), (14, _), (15, _)] (.cons rfl (.cons rfl (.cons rfl (.cons rfl (.cons rfl (.cons rfl (.cons rfl (.cons rfl (.cons rfl (.cons rfl (.cons rfl (.cons rfl (.cons rfl .nil))))))))))))) ?_
  refine VC.seq ?_
  refine VC.region ?_
  refine Ops.r (Run.loadA rfl Try.isAgg24 Try.sizeOf24 (fun j v hj => hb3.cells j v hj) (by first | rfl | (simp; done))) rfl ?_
  refine Ops.r (Run.mv rfl) rfl ?_
  refine Ops.r (Run.mv rfl) rfl ?_
  refine Ops.r (Run.fieldAddr rfl Try.underlying45 rfl Try.sizeOf43 (by decide)) rfl ?_
  refine Ops.r (Run.load rfl Try.isAgg43 (hb4.cell 5)) rfl ?_
  refine Ops.cl (Enters.fn (evs.cons rfl (evs.cons rfl (evs.cons rfl (evs.cons rfl evs.nil)))) Try.call22) (rchangeB_spec va na B3 d3 l3 place op F dF (fewF x.m.flags) _ hO3.rdm (by omega) (by omega) (fun q hq => by have := hff.2 q hq; omega) hOF.rd) rfl ?_
  rintro e w19 ⟨hf_w19, v16, n16, B16, d16, l16, k16, rfl, hI16⟩
  refine ⟨_, rfl, ?_⟩
  have hb3 := hb3.frm hf_w19 (by simp)
  have hb4 := hb4.frm hf_w19 (by simp)
  have hO3 := hO3.frm hf_w19
  have hOF := hOF.frm hf_w19 (by simp)
  have hO7 := hO7.frm hf_w19
  have hb7 := hb7.frm hf_w19 (by simp)
  have hO8 := hO8.frm hf_w19
  have hb8 := hb8.frm hf_w19 (by simp)
  have hb11 := hb11.frm hf_w19 (by simp)
  have hO14 := hO14.frm hf_w19
  have hb14 := hb14.frm hf_w19 (by simp)
  have K := Frm.trans K hf_w19 (by simp)
  have K13 := Frm.trans K13 hf_w19 (by simp)
  have K19 := Frm.refl [] w19
  obtain ⟨rfl, rfl, rfl, hE2⟩ := hI14.same hI16
  have hl16 := hI16.len fun b hb => changeB_len hb
  refine Ops.r (Run.mv rfl) rfl ?_
  refine Ops.r (Run.extract rfl rfl) rfl ?_
  refine Ops.r (Run.extract rfl rfl) rfl ?_
  refine Ops.m (Does.alloc zero24) rfl ?_
  rintro _ w20 ⟨rfl, hF_w20⟩
  have hb16 := hF_w20.blk
  have hs16_K := K.size
  have hs16_K13 := K13.size
  have hs16_K19 := K19.size
  have lt_hb3_16 := hb3.lt
  have lt_hb4_16 := hb4.lt
  have lt_hb7_16 := hb7.lt
  have lt_hb8_16 := hb8.lt
  have lt_hb11_16 := hb11.lt
  have lt_hb14_16 := hb14.lt
  have hb3 := hb3.frm hF_w20.frm (by simp)
  have hb4 := hb4.frm hF_w20.frm (by simp)
  have hO3 := hO3.frm hF_w20.frm
  have hOF := hOF.frm hF_w20.frm (by simp)
  have hO7 := hO7.frm hF_w20.frm
  have hb7 := hb7.frm hF_w20.frm (by simp)
  have hO8 := hO8.frm hF_w20.frm
  have hb8 := hb8.frm hF_w20.frm (by simp)
  have hb11 := hb11.frm hF_w20.frm (by simp)
  have hO14 := hO14.frm hF_w20.frm
  have hb14 := hb14.frm hF_w20.frm (by simp)
  have K := Frm.trans K hF_w20.frm (by simp)
  have K13 := Frm.trans K13 hF_w20.frm (by simp)
  have K19 := Frm.trans K19 hF_w20.frm (by simp)
  generalize hg16 : w19.heap.size = g16 at hb16 hs16_K hs16_K13 hs16_K19 lt_hb3_16 lt_hb4_16 lt_hb7_16 lt_hb8_16 lt_hb11_16 lt_hb14_16 ⊢
  refine Ops.st (Acts.storeA rfl rfl Try.sizeOf24 hb16 rfl (BVc_one v14 n14 B16 l16.length d16)) ?_
  rintro w21 ⟨hbn_w21, hf_w21, hsz_w21⟩
  have hb3 := hb3.frm hf_w21 (by simp; omega)
  have hb4 := hb4.frm hf_w21 (by simp; omega)
  have hO3 := hO3.blk hf_w21 hb16 (by decide) (by decide)
  have hOF := hOF.frm hf_w21 (fun y hy => by have := hOF.ne_blk hb16 (by decide); simp; rintro rfl; exact this hy)
  have hO7 := hO7.blk hf_w21 hb16 (by decide) (by decide)
  have hb7 := hb7.frm hf_w21 (by simp; omega)
  have hO8 := hO8.blk hf_w21 hb16 (by decide) (by decide)
  have hb8 := hb8.frm hf_w21 (by simp; omega)
  have hb11 := hb11.frm hf_w21 (by simp; omega)
  have hO14 := hO14.blk hf_w21 hb16 (by decide) (by decide)
  have hb14 := hb14.frm hf_w21 (by simp; omega)
  have hb16 := hbn_w21
  have K := Frm.own K hf_w21 (fun y hy => by simp at hy; omega)
  have K13 := Frm.own K13 hf_w21 (fun y hy => by simp at hy; omega)
  have K19 := Frm.own K19 hf_w21 (fun y hy => by simp at hy; omega)
  have hR11 := hI11.1.frm K13
  have hR16 := hI16.1.frm K19
  have hR8 := hO8.rdm
  have hR14 := hO14.rdm
  have hR3 := hO3.rdm
  have hR7 := hO7.rdm
  refine Ops.r (Run.asg rfl) rfl ?_
  refine Ops.nil ?_
  refine thenQ_n ?_
  refine VC.sub [(3, _), (7, _), (8, _), (9, _), (10, _), (11, _), (12, _), (13, _), (14, _), (15, _), (16, _), (17, _)] (.cons rfl (.cons rfl (.cons rfl (.cons rfl (.cons rfl (.cons rfl (.cons rfl (.cons rfl (.cons rfl (.cons rfl (.cons rfl (.cons rfl .nil)))))))))))) ?_
  refine VC.seq ?_
  refine VC.meet (σ := Unit) (fun s => [(2, .bool true)]) (fun s wr => Frm [] w21 wr) ?_ ?_
  · skip
    refine VC.held (fun W => Frm [] w21 W) (by kernel_rfl) ?_
    have hS : Frm [] w21 w21.drew := (Frm.refl _ _).drew
    refine HOps.take 0 rfl (by kernel_rfl) (by kernel_rfl) (by kernel_rfl) hS (fun w0 hw0 => Run.loadA rfl Try.isAgg24 Try.sizeOf24 (fun j v hj => (hb8.frm hw0 (by simp)).cells j v hj) (by first | rfl | (simp; done))) trivial rfl rfl ?_
    refine HOps.take 1 rfl (by kernel_rfl) (by kernel_rfl) (by kernel_rfl) hS (fun w0 hw0 => Run.loadA rfl Try.isAgg24 Try.sizeOf24 (fun j v hj => (hb11.frm hw0 (by simp)).cells j v hj) (by first | rfl | (simp; done))) trivial rfl rfl ?_
    refine HOps.cl 2 rfl (by kernel_rfl) (Enters.fn (evs.cons rfl (evs.cons rfl evs.nil)) Try.call15) (rsameB_spec v8 n8 v8 n8 B8 B11 d8 d11 l8 l11 _ (hR8.frm hS) (hR11.frm hS) (by omega) (by omega)) trivial rfl rfl ?_
    rintro e w23 ⟨rfl, hf_w23⟩
    have hS := Frm.trans hS hf_w23 (by simp)
    rw [decide_eq_true (⟨rfl, rfl, hE⟩)]
    refine ⟨_, rfl, hS, ?_⟩
    refine HOps.take 3 rfl (by kernel_rfl) (by kernel_rfl) (by kernel_rfl) hS (fun w0 hw0 => Run.mv rfl) trivial rfl rfl ?_
    refine HOps.take 4 rfl (by kernel_rfl) (by kernel_rfl) (by kernel_rfl) hS (fun w0 hw0 => Run.mv rfl) (Up.g rfl (by first | rfl | assumption | exact decide_eq_true (by assumption) | exact decide_eq_false (by assumption) | decide | (simp; done) | (simp; omega) | (simp [*]; done))) rfl rfl ?_
    refine HOps.take 5 rfl (by kernel_rfl) (by kernel_rfl) (by kernel_rfl) hS (fun w0 hw0 => Run.mv rfl) (Up.g rfl (by first | rfl | assumption | exact decide_eq_true (by assumption) | exact decide_eq_false (by assumption) | decide | (simp; done) | (simp; omega) | (simp [*]; done))) rfl rfl ?_
    refine HOps.take 6 rfl (by kernel_rfl) (by kernel_rfl) (by kernel_rfl) hS (fun w0 hw0 => Run.bin rfl rfl (Bin.eql _ _)) (Up.g rfl (by first | rfl | assumption | exact decide_eq_true (by assumption) | exact decide_eq_false (by assumption) | decide | (simp; done) | (simp; omega) | (simp [*]; done))) rfl rfl ?_
    refine HOps.take 7 rfl (by kernel_rfl) (by kernel_rfl) (by kernel_rfl) hS (fun w0 hw0 => Run.pickT rfl rfl (by first | rfl | assumption | exact decide_eq_true (by assumption) | exact decide_eq_false (by assumption) | decide | (simp; done) | (simp; omega) | (simp [*]; done))) trivial rfl rfl ?_
    refine HOps.take 8 rfl (by kernel_rfl) (by kernel_rfl) (by kernel_rfl) hS (fun w0 hw0 => Run.mv rfl) trivial rfl rfl ?_
    refine HOps.take 9 rfl (by kernel_rfl) (by kernel_rfl) (by kernel_rfl) hS (fun w0 hw0 => Run.mv rfl) (Up.g rfl (by first | rfl | assumption | exact decide_eq_true (by assumption) | exact decide_eq_false (by assumption) | decide | (simp; done) | (simp; omega) | (simp [*]; done))) rfl rfl ?_
    refine HOps.take 10 rfl (by kernel_rfl) (by kernel_rfl) (by kernel_rfl) hS (fun w0 hw0 => Run.mv rfl) (Up.g rfl (by first | rfl | assumption | exact decide_eq_true (by assumption) | exact decide_eq_false (by assumption) | decide | (simp; done) | (simp; omega) | (simp [*]; done))) rfl rfl ?_
    refine HOps.take 11 rfl (by kernel_rfl) (by kernel_rfl) (by kernel_rfl) hS (fun w0 hw0 => Run.bin rfl rfl (Bin.eqlN _ _)) (Up.g rfl (by first | rfl | assumption | exact decide_eq_true (by assumption) | exact decide_eq_false (by assumption) | decide | (simp; done) | (simp; omega) | (simp [*]; done))) rfl rfl ?_
    refine HOps.take 12 rfl (by kernel_rfl) (by kernel_rfl) (by kernel_rfl) hS (fun w0 hw0 => Run.pickT rfl rfl (by first | rfl | assumption | exact decide_eq_true (by assumption) | exact decide_eq_false (by assumption) | decide | (simp; done) | (simp; omega) | (simp [*]; done))) trivial rfl rfl ?_
    refine HOps.take 13 rfl (by kernel_rfl) (by kernel_rfl) (by kernel_rfl) hS (fun w0 hw0 => Run.mv rfl) trivial rfl rfl ?_
    refine HOps.take 14 rfl (by kernel_rfl) (by kernel_rfl) (by kernel_rfl) hS (fun w0 hw0 => Run.loadA rfl Try.isAgg24 Try.sizeOf24 (fun j v hj => (hb14.frm hw0 (by simp)).cells j v hj) (by first | rfl | (simp; done))) (Up.g rfl (by first | rfl | assumption | exact decide_eq_true (by assumption) | exact decide_eq_false (by assumption) | decide | (simp; done) | (simp; omega) | (simp [*]; done))) rfl rfl ?_
    refine HOps.take 15 rfl (by kernel_rfl) (by kernel_rfl) (by kernel_rfl) hS (fun w0 hw0 => Run.loadA rfl Try.isAgg24 Try.sizeOf24 (fun j v hj => (hb16.frm hw0 (by simp)).cells j v hj) (by first | rfl | (simp; done))) (Up.g rfl (by first | rfl | assumption | exact decide_eq_true (by assumption) | exact decide_eq_false (by assumption) | decide | (simp; done) | (simp; omega) | (simp [*]; done))) rfl rfl ?_
    refine HOps.cl 16 rfl (by kernel_rfl) (Enters.fn (evs.cons rfl (evs.cons rfl evs.nil)) Try.call15) (rsameB_spec v14 n14 v14 n14 B14 B16 d14 d16 l14 l16 _ (hR14.frm hS) (hR16.frm hS) (by omega) (by omega)) (Up.g rfl (by first | rfl | assumption | exact decide_eq_true (by assumption) | exact decide_eq_false (by assumption) | decide | (simp; done) | (simp; omega) | (simp [*]; done))) rfl rfl ?_
    rintro e w24 ⟨rfl, hf_w24⟩
    have hS := Frm.trans hS hf_w24 (by simp)
    rw [decide_eq_true (⟨rfl, rfl, hE2⟩)]
    refine ⟨_, rfl, hS, ?_⟩
    refine HOps.take 17 rfl (by kernel_rfl) (by kernel_rfl) (by kernel_rfl) hS (fun w0 hw0 => Run.pickT rfl rfl (by first | rfl | assumption | exact decide_eq_true (by assumption) | exact decide_eq_false (by assumption) | decide | (simp; done) | (simp; omega) | (simp [*]; done))) trivial rfl rfl ?_
    refine HOps.take 18 rfl (by kernel_rfl) (by kernel_rfl) (by kernel_rfl) hS (fun w0 hw0 => Run.mv rfl) trivial rfl rfl ?_
    refine HOps.take 19 rfl (by kernel_rfl) (by kernel_rfl) (by kernel_rfl) hS (fun w0 hw0 => Run.mv rfl) (Up.g rfl (by first | rfl | assumption | exact decide_eq_true (by assumption) | exact decide_eq_false (by assumption) | decide | (simp; done) | (simp; omega) | (simp [*]; done))) rfl rfl ?_
    refine HOps.take 20 rfl (by kernel_rfl) (by kernel_rfl) (by kernel_rfl) hS (fun w0 hw0 => Run.mv rfl) (Up.g rfl (by first | rfl | assumption | exact decide_eq_true (by assumption) | exact decide_eq_false (by assumption) | decide | (simp; done) | (simp; omega) | (simp [*]; done))) rfl rfl ?_
    refine HOps.take 21 rfl (by kernel_rfl) (by kernel_rfl) (by kernel_rfl) hS (fun w0 hw0 => Run.bin rfl rfl (Bin.eqlN _ _)) (Up.g rfl (by first | rfl | assumption | exact decide_eq_true (by assumption) | exact decide_eq_false (by assumption) | decide | (simp; done) | (simp; omega) | (simp [*]; done))) rfl rfl ?_
    refine HOps.take 22 rfl (by kernel_rfl) (by kernel_rfl) (by kernel_rfl) hS (fun w0 hw0 => Run.pickT rfl rfl (by first | rfl | assumption | exact decide_eq_true (by assumption) | exact decide_eq_false (by assumption) | decide | (simp; done) | (simp; omega) | (simp [*]; done))) trivial rfl rfl ?_
    refine HOps.take 23 rfl (by kernel_rfl) (by kernel_rfl) (by kernel_rfl) hS (fun w0 hw0 => Run.mv rfl) trivial rfl rfl ?_
    refine HOps.take 24 rfl (by kernel_rfl) (by kernel_rfl) (by kernel_rfl) hS (fun w0 hw0 => Run.loadA rfl Try.isAgg24 Try.sizeOf24 (fun j v hj => (hb3.frm hw0 (by simp)).cells j v hj) (by first | rfl | (simp; done))) (Up.g rfl (by first | rfl | assumption | exact decide_eq_true (by assumption) | exact decide_eq_false (by assumption) | decide | (simp; done) | (simp; omega) | (simp [*]; done))) rfl rfl ?_
    refine HOps.take 25 rfl (by kernel_rfl) (by kernel_rfl) (by kernel_rfl) hS (fun w0 hw0 => Run.loadA rfl Try.isAgg24 Try.sizeOf24 (fun j v hj => (hb7.frm hw0 (by simp)).cells j v hj) (by first | rfl | (simp; done))) (Up.g rfl (by first | rfl | assumption | exact decide_eq_true (by assumption) | exact decide_eq_false (by assumption) | decide | (simp; done) | (simp; omega) | (simp [*]; done))) rfl rfl ?_
    refine HOps.cl 26 rfl (by kernel_rfl) (Enters.fn (evs.cons rfl (evs.cons rfl evs.nil)) Try.call15) (rsameB_spec va na va na B3 B7 d3 d7 l3 l7 _ (hR3.frm hS) (hR7.frm hS) (by omega) (by omega)) (Up.g rfl (by first | rfl | assumption | exact decide_eq_true (by assumption) | exact decide_eq_false (by assumption) | decide | (simp; done) | (simp; omega) | (simp [*]; done))) rfl rfl ?_
    rintro e w25 ⟨rfl, hf_w25⟩
    have hS := Frm.trans hS hf_w25 (by simp)
    rw [decide_eq_true (⟨rfl, rfl, by rw [hM7, hM3, fewM_fewM]⟩)]
    refine ⟨_, rfl, hS, ?_⟩
    refine HOps.take 27 rfl (by kernel_rfl) (by kernel_rfl) (by kernel_rfl) hS (fun w0 hw0 => Run.pickT rfl rfl (by first | rfl | assumption | exact decide_eq_true (by assumption) | exact decide_eq_false (by assumption) | decide | (simp; done) | (simp; omega) | (simp [*]; done))) trivial rfl rfl ?_
    refine HOps.take 28 rfl (by kernel_rfl) (by kernel_rfl) (by kernel_rfl) hS (fun w0 hw0 => Run.mv rfl) trivial rfl rfl ?_
    refine HOps.take 29 rfl (by kernel_rfl) (by kernel_rfl) (by kernel_rfl) hS (fun w0 hw0 => Run.loadA rfl Try.isAgg24 Try.sizeOf24 (fun j v hj => (hb8.frm hw0 (by simp)).cells j v hj) (by first | rfl | (simp; done))) (Up.g rfl (by first | rfl | assumption | exact decide_eq_true (by assumption) | exact decide_eq_false (by assumption) | decide | (simp; done) | (simp; omega) | (simp [*]; done))) rfl rfl ?_
    refine HOps.take 30 rfl (by kernel_rfl) (by kernel_rfl) (by kernel_rfl) hS (fun w0 hw0 => Run.loadA rfl Try.isAgg24 Try.sizeOf24 (fun j v hj => (hb14.frm hw0 (by simp)).cells j v hj) (by first | rfl | (simp; done))) (Up.g rfl (by first | rfl | assumption | exact decide_eq_true (by assumption) | exact decide_eq_false (by assumption) | decide | (simp; done) | (simp; omega) | (simp [*]; done))) rfl rfl ?_
    refine HOps.take 32 rfl (by kernel_rfl) (by kernel_rfl) (by kernel_rfl) hS (fun w0 hw0 => Run.loadA rfl Try.isAgg24 Try.sizeOf24 (fun j v hj => (hb8.frm hw0 (by simp)).cells j v hj) (by first | rfl | (simp; done))) (Up.g rfl (by first | rfl | assumption | exact decide_eq_true (by assumption) | exact decide_eq_false (by assumption) | decide | (simp; done) | (simp; omega) | (simp [*]; done))) rfl rfl ?_
    refine HOps.cl 31 rfl (by kernel_rfl) (Enters.fn (evs.cons rfl (evs.cons rfl evs.nil)) Try.call23) (bsame_spec v8 n8 v14 n14 B8 B14 d8 d14 l8 l14 _ (hR8.frm hS) (hR14.frm hS)) (Up.g rfl (by first | rfl | assumption | exact decide_eq_true (by assumption) | exact decide_eq_false (by assumption) | decide | (simp; done) | (simp; omega) | (simp [*]; done))) rfl rfl ?_
    rintro e w26 ⟨rfl, hf_w26⟩
    have hS := Frm.trans hS hf_w26 (by simp)
    refine ⟨_, rfl, hS, ?_⟩
    refine HOps.cl 33 rfl (by kernel_rfl) (Enters.fn (evs.cons rfl evs.nil) Try.call11) (rmay_spec v8 n8 B8 d8 l8 _ (hR8.frm hS) (by omega)) (Up.g rfl (by first | rfl | assumption | exact decide_eq_true (by assumption) | exact decide_eq_false (by assumption) | decide | (simp; done) | (simp; omega) | (simp [*]; done))) rfl rfl ?_
    rintro e w27 ⟨rfl, hf_w27⟩
    have hS := Frm.trans hS hf_w27 (by simp)
    refine ⟨_, rfl, hS, ?_⟩
    by_cases hs98 : mayB ⟨v8, n8, Ms l8⟩
    · skip
      refine HOps.take 34 rfl (by kernel_rfl) (by kernel_rfl) (by kernel_rfl) hS (fun w0 hw0 => Run.mv rfl) (Up.g rfl (by first | rfl | assumption | exact decide_eq_true (by assumption) | exact decide_eq_false (by assumption) | decide | (simp; done) | (simp; omega) | (simp [*]; done))) rfl rfl ?_
      refine HOps.take 35 rfl (by kernel_rfl) (by kernel_rfl) (by kernel_rfl) hS (fun w0 hw0 => Run.loadA rfl Try.isAgg24 Try.sizeOf24 (fun j v hj => (hb14.frm hw0 (by simp)).cells j v hj) (by first | rfl | (simp; done))) (Up.g rfl (by first | rfl | assumption | exact decide_eq_true (by assumption) | exact decide_eq_false (by assumption) | decide | (simp; done) | (simp; omega) | (simp [*]; done))) rfl rfl ?_
      refine HOps.cl 36 rfl (by kernel_rfl) (Enters.fn (evs.cons rfl evs.nil) Try.call11) (rmay_spec v14 n14 B14 d14 l14 _ (hR14.frm hS) (by omega)) (Up.g rfl (by first | rfl | assumption | exact decide_eq_true (by assumption) | exact decide_eq_false (by assumption) | decide | (simp; done) | (simp; omega) | (simp [*]; done))) rfl rfl ?_
      rintro e w28 ⟨rfl, hf_w28⟩
      have hS := Frm.trans hS hf_w28 (by simp)
      refine ⟨_, rfl, hS, ?_⟩
      by_cases hs101 : mayB ⟨v14, n14, Ms l14⟩
      · skip
        refine HOps.take 37 rfl (by kernel_rfl) (by kernel_rfl) (by kernel_rfl) hS (fun w0 hw0 => Run.pickT rfl rfl (by first | rfl | assumption | exact decide_eq_true (by assumption) | exact decide_eq_false (by assumption) | decide | (simp; done) | (simp; omega) | (simp [*]; done))) (Up.g rfl (by first | rfl | assumption | exact decide_eq_true (by assumption) | exact decide_eq_false (by assumption) | decide | (simp; done) | (simp; omega) | (simp [*]; done))) rfl rfl ?_
        refine HOps.take 38 rfl (by kernel_rfl) (by kernel_rfl) (by kernel_rfl) hS (fun w0 hw0 => Run.mv rfl) (Up.g rfl (by first | rfl | assumption | exact decide_eq_true (by assumption) | exact decide_eq_false (by assumption) | decide | (simp; done) | (simp; omega) | (simp [*]; done))) rfl rfl ?_
        refine HOps.take 39 rfl (by kernel_rfl) (by kernel_rfl) (by kernel_rfl) hS (fun w0 hw0 => Run.loadA rfl Try.isAgg24 Try.sizeOf24 (fun j v hj => (hb8.frm hw0 (by simp)).cells j v hj) (by first | rfl | (simp; done))) (Up.g rfl (by first | rfl | assumption | exact decide_eq_true (by assumption) | exact decide_eq_false (by assumption) | decide | (simp; done) | (simp; omega) | (simp [*]; done))) rfl rfl ?_
        refine HOps.take 40 rfl (by kernel_rfl) (by kernel_rfl) (by kernel_rfl) hS (fun w0 hw0 => Run.loadA rfl Try.isAgg24 Try.sizeOf24 (fun j v hj => (hb14.frm hw0 (by simp)).cells j v hj) (by first | rfl | (simp; done))) (Up.g rfl (by first | rfl | assumption | exact decide_eq_true (by assumption) | exact decide_eq_false (by assumption) | decide | (simp; done) | (simp; omega) | (simp [*]; done))) rfl rfl ?_
        refine HOps.cl 41 rfl (by kernel_rfl) (Enters.fn (evs.cons rfl (evs.cons rfl evs.nil)) Try.call15) (rsameB_spec v8 n8 v14 n14 B8 B14 d8 d14 l8 l14 _ (hR8.frm hS) (hR14.frm hS) (by omega) (by omega)) (Up.g rfl (by first | rfl | assumption | exact decide_eq_true (by assumption) | exact decide_eq_false (by assumption) | decide | (simp; done) | (simp; omega) | (simp [*]; done))) rfl rfl ?_
        rintro e w29 ⟨rfl, hf_w29⟩
        have hS := Frm.trans hS hf_w29 (by simp)
        refine ⟨_, rfl, hS, ?_⟩
        refine HOps.take 42 rfl (by kernel_rfl) (by kernel_rfl) (by kernel_rfl) hS (fun w0 hw0 => Run.pickT rfl rfl (by first | rfl | assumption | exact decide_eq_true (by assumption) | exact decide_eq_false (by assumption) | decide | (simp; done) | (simp; omega) | (simp [*]; done))) (Up.g rfl (by first | rfl | assumption | exact decide_eq_true (by assumption) | exact decide_eq_false (by assumption) | decide | (simp; done) | (simp; omega) | (simp [*]; done))) rfl rfl ?_
        refine HOps.take 43 rfl (by kernel_rfl) (by kernel_rfl) (by kernel_rfl) hS (fun w0 hw0 => Run.eqlB rfl rfl Try.underlying4) (Up.g rfl (by first | rfl | assumption | exact decide_eq_true (by assumption) | exact decide_eq_false (by assumption) | decide | (simp; done) | (simp; omega) | (simp [*]; done))) rfl rfl ?_
        refine HOps.take 44 rfl (by kernel_rfl) (by kernel_rfl) (by kernel_rfl) hS (fun w0 hw0 => Run.pickT rfl rfl (by first | rfl | assumption | exact decide_eq_true (by assumption) | exact decide_eq_false (by assumption) | decide | (simp; done) | (simp; omega) | (simp [*]; done))) trivial rfl rfl ?_
        refine HOps.take 45 rfl (by kernel_rfl) (by kernel_rfl) (by kernel_rfl) hS (fun w0 hw0 => Run.mv rfl) trivial rfl rfl ?_
        refine HOps.cl 46 rfl (by kernel_rfl) (Enters.fn evs.nil Try.call13) (awake26_spec _) (Up.g rfl (by simp [hs98, hs101])) rfl rfl ?_
        rintro e w30 ⟨rfl, hf_w30⟩
        have hS := Frm.trans hS hf_w30 (by simp)
        refine ⟨_, rfl, hS, ?_⟩
        refine HOps.take 47 rfl (by kernel_rfl) (by kernel_rfl) (by kernel_rfl) hS (fun w0 hw0 => Run.pickT rfl rfl (by simp [hs98, hs101])) trivial rfl rfl ?_
        refine HOps.take 48 rfl (by kernel_rfl) (by kernel_rfl) (by kernel_rfl) hS (fun w0 hw0 => Run.asg rfl) trivial rfl rfl ?_
        refine HOps.done (by kernel_rfl) ?_
        refine thenQ_n ⟨(), (.cons rfl .nil), ?_⟩
        exact hS
      · skip
        refine HOps.take 37 rfl (by kernel_rfl) (by kernel_rfl) (by kernel_rfl) hS (fun w0 hw0 => Run.pickT rfl rfl (by first | rfl | assumption | exact decide_eq_true (by assumption) | exact decide_eq_false (by assumption) | decide | (simp; done) | (simp; omega) | (simp [*]; done))) (Up.g rfl (by first | rfl | assumption | exact decide_eq_true (by assumption) | exact decide_eq_false (by assumption) | decide | (simp; done) | (simp; omega) | (simp [*]; done))) rfl rfl ?_
        refine HOps.take 38 rfl (by kernel_rfl) (by kernel_rfl) (by kernel_rfl) hS (fun w0 hw0 => Run.mv rfl) (Up.g rfl (by first | rfl | assumption | exact decide_eq_true (by assumption) | exact decide_eq_false (by assumption) | decide | (simp; done) | (simp; omega) | (simp [*]; done))) rfl rfl ?_
        refine HOps.skip 39 rfl (by kernel_rfl) (by kernel_rfl) (by kernel_rfl) hS rfl rfl (by simp [hs98, hs101]) rfl rfl ?_
        refine HOps.skip 40 rfl (by kernel_rfl) (by kernel_rfl) (by kernel_rfl) hS rfl rfl (by simp [hs98, hs101]) rfl rfl ?_
        refine HOps.skip 41 rfl (by kernel_rfl) (by kernel_rfl) (by kernel_rfl) hS rfl rfl (by simp [hs98, hs101]) rfl rfl ?_
        refine HOps.take 42 rfl (by kernel_rfl) (by kernel_rfl) (by kernel_rfl) hS (fun w0 hw0 => Run.pickF rfl rfl (by first | rfl | assumption | exact decide_eq_true (by assumption) | exact decide_eq_false (by assumption) | decide | (simp; done) | (simp; omega) | (simp [*]; done))) (Up.g rfl (by first | rfl | assumption | exact decide_eq_true (by assumption) | exact decide_eq_false (by assumption) | decide | (simp; done) | (simp; omega) | (simp [*]; done))) rfl rfl ?_
        refine HOps.take 43 rfl (by kernel_rfl) (by kernel_rfl) (by kernel_rfl) hS (fun w0 hw0 => Run.eqlB rfl rfl Try.underlying4) (Up.g rfl (by first | rfl | assumption | exact decide_eq_true (by assumption) | exact decide_eq_false (by assumption) | decide | (simp; done) | (simp; omega) | (simp [*]; done))) rfl rfl ?_
        refine HOps.take 44 rfl (by kernel_rfl) (by kernel_rfl) (by kernel_rfl) hS (fun w0 hw0 => Run.pickT rfl rfl (by first | rfl | assumption | exact decide_eq_true (by assumption) | exact decide_eq_false (by assumption) | decide | (simp; done) | (simp; omega) | (simp [*]; done))) trivial rfl rfl ?_
        refine HOps.take 45 rfl (by kernel_rfl) (by kernel_rfl) (by kernel_rfl) hS (fun w0 hw0 => Run.mv rfl) trivial rfl rfl ?_
        refine HOps.cl 46 rfl (by kernel_rfl) (Enters.fn evs.nil Try.call13) (awake26_spec _) (Up.g rfl (by simp [hs98, hs101])) rfl rfl ?_
        rintro e w30 ⟨rfl, hf_w30⟩
        have hS := Frm.trans hS hf_w30 (by simp)
        refine ⟨_, rfl, hS, ?_⟩
        refine HOps.take 47 rfl (by kernel_rfl) (by kernel_rfl) (by kernel_rfl) hS (fun w0 hw0 => Run.pickT rfl rfl (by simp [hs98, hs101])) trivial rfl rfl ?_
        refine HOps.take 48 rfl (by kernel_rfl) (by kernel_rfl) (by kernel_rfl) hS (fun w0 hw0 => Run.asg rfl) trivial rfl rfl ?_
        refine HOps.done (by kernel_rfl) ?_
        refine thenQ_n ⟨(), (.cons rfl .nil), ?_⟩
        exact hS
    · skip
      refine HOps.take 34 rfl (by kernel_rfl) (by kernel_rfl) (by kernel_rfl) hS (fun w0 hw0 => Run.mv rfl) (Up.g rfl (by first | rfl | assumption | exact decide_eq_true (by assumption) | exact decide_eq_false (by assumption) | decide | (simp; done) | (simp; omega) | (simp [*]; done))) rfl rfl ?_
      refine HOps.skip 35 rfl (by kernel_rfl) (by kernel_rfl) (by kernel_rfl) hS rfl rfl (by simp [hs98]) rfl rfl ?_
      refine HOps.skip 36 rfl (by kernel_rfl) (by kernel_rfl) (by kernel_rfl) hS rfl rfl (by simp [hs98]) rfl rfl ?_
      refine HOps.take 37 rfl (by kernel_rfl) (by kernel_rfl) (by kernel_rfl) hS (fun w0 hw0 => Run.pickF rfl rfl (by first | rfl | assumption | exact decide_eq_true (by assumption) | exact decide_eq_false (by assumption) | decide | (simp; done) | (simp; omega) | (simp [*]; done))) (Up.g rfl (by first | rfl | assumption | exact decide_eq_true (by assumption) | exact decide_eq_false (by assumption) | decide | (simp; done) | (simp; omega) | (simp [*]; done))) rfl rfl ?_
      refine HOps.take 38 rfl (by kernel_rfl) (by kernel_rfl) (by kernel_rfl) hS (fun w0 hw0 => Run.mv rfl) (Up.g rfl (by first | rfl | assumption | exact decide_eq_true (by assumption) | exact decide_eq_false (by assumption) | decide | (simp; done) | (simp; omega) | (simp [*]; done))) rfl rfl ?_
      refine HOps.skip 39 rfl (by kernel_rfl) (by kernel_rfl) (by kernel_rfl) hS rfl rfl (by simp [hs98]) rfl rfl ?_
      refine HOps.skip 40 rfl (by kernel_rfl) (by kernel_rfl) (by kernel_rfl) hS rfl rfl (by simp [hs98]) rfl rfl ?_
      refine HOps.skip 41 rfl (by kernel_rfl) (by kernel_rfl) (by kernel_rfl) hS rfl rfl (by simp [hs98]) rfl rfl ?_
      refine HOps.take 42 rfl (by kernel_rfl) (by kernel_rfl) (by kernel_rfl) hS (fun w0 hw0 => Run.pickF rfl rfl (by simp [hs98])) (Up.g rfl (by first | rfl | assumption | exact decide_eq_true (by assumption) | exact decide_eq_false (by assumption) | decide | (simp; done) | (simp; omega) | (simp [*]; done))) rfl rfl ?_
      refine HOps.take 43 rfl (by kernel_rfl) (by kernel_rfl) (by kernel_rfl) hS (fun w0 hw0 => Run.eqlB rfl rfl Try.underlying4) (Up.g rfl (by first | rfl | assumption | exact decide_eq_true (by assumption) | exact decide_eq_false (by assumption) | decide | (simp; done) | (simp; omega) | (simp [*]; done))) rfl rfl ?_
      refine HOps.take 44 rfl (by kernel_rfl) (by kernel_rfl) (by kernel_rfl) hS (fun w0 hw0 => Run.pickT rfl rfl (by first | rfl | assumption | exact decide_eq_true (by assumption) | exact decide_eq_false (by assumption) | decide | (simp; done) | (simp; omega) | (simp [*]; done))) trivial rfl rfl ?_
      refine HOps.take 45 rfl (by kernel_rfl) (by kernel_rfl) (by kernel_rfl) hS (fun w0 hw0 => Run.mv rfl) trivial rfl rfl ?_
      refine HOps.cl 46 rfl (by kernel_rfl) (Enters.fn evs.nil Try.call13) (awake26_spec _) (Up.g rfl (by simp [hs98])) rfl rfl ?_
      rintro e w30 ⟨rfl, hf_w30⟩
      have hS := Frm.trans hS hf_w30 (by simp)
      refine ⟨_, rfl, hS, ?_⟩
      refine HOps.take 47 rfl (by kernel_rfl) (by kernel_rfl) (by kernel_rfl) hS (fun w0 hw0 => Run.pickT rfl rfl (by simp [hs98])) trivial rfl rfl ?_
      refine HOps.take 48 rfl (by kernel_rfl) (by kernel_rfl) (by kernel_rfl) hS (fun w0 hw0 => Run.asg rfl) trivial rfl rfl ?_
      refine HOps.done (by kernel_rfl) ?_
      refine thenQ_n ⟨(), (.cons rfl .nil), ?_⟩
      exact hS
  · skip
    intro _ wf hff Γ hΓ
    refine thenQ_n (VC.sub _ hΓ ?_)
    refine VC.ret ?_
    refine end1 rfl ?_
    exact ⟨rfl, K.trans hff (by simp)⟩

end Go.Proofs.Ytmfglifjnoilnaa
