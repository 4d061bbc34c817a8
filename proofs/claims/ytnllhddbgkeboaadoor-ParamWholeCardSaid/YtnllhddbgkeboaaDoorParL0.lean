/-
  What the laws of layer 19 say it with: texts cut, the examples.
-/
import Derived.Test.YtnllhddbgkeboaaDoorParH
namespace Go.Proofs.YtnllhddbgkeboaaDoor
open Go.RowKit Go.Sort

def few400 (q : Tx) : Tx := q.take 400
theorem few400_le (q : Tx) : (few400 q).length ≤ 400 := by unfold few400; simp; omega
theorem Med.of {m : Med} {a b : Tx} {c : List Par} (h1 : m.ty = a) (h2 : m.sub = b) (h3 : m.ps = c) : m = ⟨a, b, c⟩ := by cases m; simp_all
theorem sameQ_self (m : Med) : sameQ m m = true := decide_eq_true ⟨rfl, rfl, rfl⟩
theorem ex19a : medQ [84, 101, 120, 116, 47, 72, 84, 77, 76, 59, 32, 67, 104, 97, 114, 115, 101, 116, 61, 34, 97, 59, 92, 34, 98, 34, 32, 59, 32, 120, 61, 121, 32, 122] = ⟨[116, 101, 120, 116], [104, 116, 109, 108], [([99, 104, 97, 114, 115, 101, 116], [97, 59, 34, 98]), ([120], [121])]⟩ := Med.of (by decide +kernel) (by decide +kernel) (by decide +kernel)
theorem ex19b : medQ [116, 101, 120, 116] = ⟨[116, 101, 120, 116], [112, 108, 97, 105, 110], []⟩ := Med.of (by decide +kernel) (by decide +kernel) (by decide +kernel)
theorem ex19c : medQ [97, 47, 98, 59, 32, 61, 99, 59, 32, 100] = ⟨[97], [98], []⟩ := Med.of (by decide +kernel) (by decide +kernel) (by decide +kernel)

set_option maxRecDepth 100000 in
theorem few19_spec (q : Tx) (w : World) (hq : q.length ≤ 9223372036854775807) : Calls Tryd.prog 11 #[encStr q] w fun e w' => e = .returned (encStr (few400 q)) ∧ w = w' := by
  refine VC.calls (nt := 9) (res := #[.tmp 2]) Tryd.func11 rfl Tryd.ntmps11 Tryd.results11 rfl ?_
  refine VC.seq ?_
  refine VC.region ?_
  refine Ops.r (Run.asg rfl) rfl ?_
  refine Ops.nil ?_
  refine thenQ_n ?_
  refine VC.sub [(0, _)] (.cons rfl .nil) ?_
  refine VC.seq ?_
  refine VC.seq ?_
  refine VC.region ?_
  refine Ops.r (Run.mv rfl) rfl ?_
  refine Ops.r (Run.lenT rfl Tryd.underlying9) rfl ?_
  refine Ops.r (Run.bin rfl rfl (Bin.gtrN _ 400)) rfl ?_
  refine Ops.nil ?_
  refine thenQ_n ?_
  refine VC.sub [(0, _), (5, _)] (.cons rfl (.cons rfl .nil)) ?_
  refine VC.condD rfl (fun hc1 => ?_) (fun hc1 => ?_)
  · skip
    refine VC.seq ?_
    refine VC.region ?_
    refine Ops.r (Run.mv rfl) rfl ?_
    refine Ops.r (Run.sliceT 0 400 rfl Tryd.underlying9 evB.none_ (evB.some_ rfl) (by omega) (by omega)) rfl ?_
    refine Ops.r (Run.asg rfl) rfl ?_
    refine Ops.nil ?_
    refine thenQ_n ?_
    refine VC.sub [(2, _)] (.cons rfl .nil) ?_
    refine VC.ret ?_
    refine thenQ_r (end1 rfl ?_)
    exact ⟨by unfold few400; simp, rfl⟩
  · skip
    refine VC.skip ?_
    refine thenQ_n ?_
    refine VC.sub [(0, _)] (.cons rfl .nil) ?_
    refine VC.seq ?_
    refine VC.region ?_
    refine Ops.r (Run.mv rfl) rfl ?_
    refine Ops.r (Run.asg rfl) rfl ?_
    refine Ops.nil ?_
    refine thenQ_n ?_
    refine VC.sub [(2, _)] (.cons rfl .nil) ?_
    refine VC.ret ?_
    refine end1 rfl ?_
    exact ⟨by unfold few400; rw [List.take_of_length_le (by omega)], rfl⟩

set_option maxRecDepth 100000 in
theorem awake19_spec (w : World) : Calls Tryd.prog 17 #[] w fun e w' => e = .returned (.bool true) ∧ Frm [] w w' := by
  have K := Frm.refl [] w
  refine VC.calls (nt := 23) (res := #[.tmp 0]) Tryd.func17 rfl Tryd.ntmps17 Tryd.results17 rfl ?_
  refine VC.seq ?_
  refine VC.region ?_
  refine Ops.r (Run.asg rfl) rfl ?_
  refine Ops.nil ?_
  refine thenQ_n ?_
  refine VC.sub [] .nil ?_
  refine VC.seq ?_
  refine VC.region ?_
  refine Ops.cl (Enters.fn (evs.cons rfl evs.nil) Tryd.call13) (read_spec [84, 101, 120, 116, 47, 72, 84, 77, 76, 59, 32, 67, 104, 97, 114, 115, 101, 116, 61, 34, 97, 59, 92, 34, 98, 34, 32, 59, 32, 120, 61, 121, 32, 122] _ (by decide)) rfl ?_
  rintro e w1 ⟨hf_w1, A1, c1, rfl, hO1, _⟩
  rw [ex19a] at hO1 ⊢
  refine ⟨_, rfl, ?_⟩
  have K := Frm.trans K hf_w1 (by simp)
  refine Ops.m (Does.alloc zero26) rfl ?_
  rintro _ w2 ⟨rfl, hF_w2⟩
  have hb1 := hF_w2.blk
  have hs1_K := K.size
  have hO1 := hO1.frm hF_w2.frm (by simp)
  have K := Frm.trans K hF_w2.frm (by simp)
  generalize hg1 : w1.heap.size = g1 at hb1 hs1_K ⊢
  refine Ops.st (Acts.storeA rfl rfl Tryd.sizeOf26 hb1 rfl (MdC_one (⟨[116, 101, 120, 116], [104, 116, 109, 108], [([99, 104, 97, 114, 115, 101, 116], [97, 59, 34, 98]), ([120], [121])]⟩ : Med) A1 c1)) ?_
  rintro w3 ⟨hbn_w3, hf_w3, hsz_w3⟩
  have hO1 := hO1.frm hf_w3 (fun y hy => by have := hO1.ne_blk hb1 (by decide); simp; rintro rfl; exact this hy)
  have hb1 : Blk w3 g1 26 (MdC (⟨[116, 101, 120, 116], [104, 116, 109, 108], [([99, 104, 97, 114, 115, 101, 116], [97, 59, 34, 98]), ([120], [121])]⟩ : Med) A1 c1) := hbn_w3
  have K := Frm.own K hf_w3 (fun y hy => by simp at hy; omega)
  refine Ops.nil ?_
  refine thenQ_n ?_
  refine VC.sub [(1, _)] (.cons rfl .nil) ?_
  refine VC.seq ?_
  refine VC.region ?_
  refine Ops.cl (Enters.fn (evs.cons rfl evs.nil) Tryd.call13) (read_spec [116, 101, 120, 116] _ (by decide)) rfl ?_
  rintro e w4 ⟨hf_w4, A2, c2, rfl, hO2, _⟩
  rw [ex19b] at hO2 ⊢
  refine ⟨_, rfl, ?_⟩
  have hO1 := hO1.frm hf_w4 (by simp)
  have hb1 := hb1.frm hf_w4 (by simp)
  have K := Frm.trans K hf_w4 (by simp)
  refine Ops.m (Does.alloc zero26) rfl ?_
  rintro _ w5 ⟨rfl, hF_w5⟩
  have hb2 := hF_w5.blk
  have hs2_K := K.size
  have lt_hb1_2 := hb1.lt
  have hO1 := hO1.frm hF_w5.frm (by simp)
  have hb1 := hb1.frm hF_w5.frm (by simp)
  have hO2 := hO2.frm hF_w5.frm (by simp)
  have K := Frm.trans K hF_w5.frm (by simp)
  generalize hg2 : w4.heap.size = g2 at hb2 hs2_K lt_hb1_2 ⊢
  refine Ops.st (Acts.storeA rfl rfl Tryd.sizeOf26 hb2 rfl (MdC_one (⟨[116, 101, 120, 116], [112, 108, 97, 105, 110], []⟩ : Med) A2 c2)) ?_
  rintro w6 ⟨hbn_w6, hf_w6, hsz_w6⟩
  have hO1 := hO1.frm hf_w6 (fun y hy => by have := hO1.ne_blk hb2 (by decide); simp; rintro rfl; exact this hy)
  have hb1 := hb1.frm hf_w6 (by simp; omega)
  have hO2 := hO2.frm hf_w6 (fun y hy => by have := hO2.ne_blk hb2 (by decide); simp; rintro rfl; exact this hy)
  have hb2 : Blk w6 g2 26 (MdC (⟨[116, 101, 120, 116], [112, 108, 97, 105, 110], []⟩ : Med) A2 c2) := hbn_w6
  have K := Frm.own K hf_w6 (fun y hy => by simp at hy; omega)
  refine Ops.nil ?_
  refine thenQ_n ?_
  refine VC.sub [(1, _), (2, _)] (.cons rfl (.cons rfl .nil)) ?_
  refine VC.seq ?_
  refine VC.region ?_
  refine Ops.cl (Enters.fn (evs.cons rfl evs.nil) Tryd.call13) (read_spec [97, 47, 98, 59, 32, 61, 99, 59, 32, 100] _ (by decide)) rfl ?_
  rintro e w7 ⟨hf_w7, A3, c3, rfl, hO3, _⟩
  rw [ex19c] at hO3 ⊢
  refine ⟨_, rfl, ?_⟩
  have hO1 := hO1.frm hf_w7 (by simp)
  have hb1 := hb1.frm hf_w7 (by simp)
  have hO2 := hO2.frm hf_w7 (by simp)
  have hb2 := hb2.frm hf_w7 (by simp)
  have K := Frm.trans K hf_w7 (by simp)
  refine Ops.m (Does.alloc zero26) rfl ?_
  rintro _ w8 ⟨rfl, hF_w8⟩
  have hb3 := hF_w8.blk
  have hs3_K := K.size
  have lt_hb1_3 := hb1.lt
  have lt_hb2_3 := hb2.lt
  have hO1 := hO1.frm hF_w8.frm (by simp)
  have hb1 := hb1.frm hF_w8.frm (by simp)
  have hO2 := hO2.frm hF_w8.frm (by simp)
  have hb2 := hb2.frm hF_w8.frm (by simp)
  have hO3 := hO3.frm hF_w8.frm (by simp)
  have K := Frm.trans K hF_w8.frm (by simp)
  generalize hg3 : w7.heap.size = g3 at hb3 hs3_K lt_hb1_3 lt_hb2_3 ⊢
  refine Ops.st (Acts.storeA rfl rfl Tryd.sizeOf26 hb3 rfl (MdC_one (⟨[97], [98], []⟩ : Med) A3 c3)) ?_
  rintro w9 ⟨hbn_w9, hf_w9, hsz_w9⟩
  have hO1 := hO1.frm hf_w9 (fun y hy => by have := hO1.ne_blk hb3 (by decide); simp; rintro rfl; exact this hy)
  have hb1 := hb1.frm hf_w9 (by simp; omega)
  have hO2 := hO2.frm hf_w9 (fun y hy => by have := hO2.ne_blk hb3 (by decide); simp; rintro rfl; exact this hy)
  have hb2 := hb2.frm hf_w9 (by simp; omega)
  have hO3 := hO3.frm hf_w9 (fun y hy => by have := hO3.ne_blk hb3 (by decide); simp; rintro rfl; exact this hy)
  have hb3 : Blk w9 g3 26 (MdC (⟨[97], [98], []⟩ : Med) A3 c3) := hbn_w9
  have K := Frm.own K hf_w9 (fun y hy => by simp at hy; omega)
  refine Ops.nil ?_
  refine thenQ_n ?_
  refine VC.sub [(1, _), (2, _), (3, _)] (.cons rfl (.cons rfl (.cons rfl .nil))) ?_
  refine VC.seq ?_
  refine VC.region ?_
  refine Ops.r (Run.loadA rfl Tryd.isAgg26 Tryd.sizeOf26 (fun j v hj => hb1.cells j v hj) (by first | rfl | (simp; done))) rfl ?_
  refine Ops.r (Run.build (evs.cons rfl (evs.cons rfl evs.nil)) zero36 (places36).choose_spec.1 (places36).choose_spec.2 rfl) rfl ?_
  refine Ops.r (Run.build (evs.cons rfl (evs.cons rfl evs.nil)) zero36 (places36).choose_spec.1 (places36).choose_spec.2 rfl) rfl ?_
  refine Ops.m (Does.buildN (cells := (PC [([99, 104, 97, 114, 115, 101, 116], [97, 59, 34, 98]), ([120], [121])]).toArray) (evs.cons rfl (evs.cons rfl evs.nil)) Tryd.underlying24 Tryd.sizeOf36 zero36 rfl rfl (by kernel_rfl)) rfl ?_
  rintro _ w10 ⟨rfl, hF10⟩
  have hr10 : Rd w10 2 (some ⟨_, 0, none⟩) 2 (PC [([99, 104, 97, 114, 115, 101, 116], [97, 59, 34, 98]), ([120], [121])]) := Rd.of_blk (n := 2) (size := 2) hF10.blk rfl
  have hO1 := hO1.frm hF10.frm (by simp)
  have hb1 := hb1.frm hF10.frm (by simp)
  have hO2 := hO2.frm hF10.frm (by simp)
  have hb2 := hb2.frm hF10.frm (by simp)
  have hO3 := hO3.frm hF10.frm (by simp)
  have hb3 := hb3.frm hF10.frm (by simp)
  have K := Frm.trans K hF10.frm (by simp)
  refine Ops.r (Run.build (evs.cons rfl (evs.cons rfl (evs.cons rfl evs.nil))) zero26 (places26).choose_spec.1 (places26).choose_spec.2 rfl) rfl ?_
  refine Ops.cl (Enters.fn (evs.cons rfl (evs.cons rfl evs.nil)) Tryd.call12) (rsame_spec (⟨[116, 101, 120, 116], [104, 116, 109, 108], [([99, 104, 97, 114, 115, 101, 116], [97, 59, 34, 98]), ([120], [121])]⟩ : Med) (⟨[116, 101, 120, 116], [104, 116, 109, 108], [([99, 104, 97, 114, 115, 101, 116], [97, 59, 34, 98]), ([120], [121])]⟩ : Med) A1 _ c1 2 _ hO1.rd (hr10) (by decide) (by decide)) rfl ?_
  rintro e w11 ⟨rfl, hf_w11⟩
  rw [sameQ_self]
  refine ⟨_, rfl, ?_⟩
  have hO1 := hO1.frm hf_w11 (by simp)
  have hb1 := hb1.frm hf_w11 (by simp)
  have hO2 := hO2.frm hf_w11 (by simp)
  have hb2 := hb2.frm hf_w11 (by simp)
  have hO3 := hO3.frm hf_w11 (by simp)
  have hb3 := hb3.frm hf_w11 (by simp)
  have K := Frm.trans K hf_w11 (by simp)
  refine Ops.r (Run.mv rfl) rfl ?_
  refine Ops.rg rfl (by first | rfl | assumption | exact decide_eq_true (by assumption) | exact decide_eq_false (by assumption) | decide | (simp; done) | (simp; omega) | (simp [*]; done)) (Run.loadA rfl Tryd.isAgg26 Tryd.sizeOf26 (fun j v hj => hb2.cells j v hj) (by first | rfl | (simp; done))) rfl ?_
  refine Ops.rg rfl (by first | rfl | assumption | exact decide_eq_true (by assumption) | exact decide_eq_false (by assumption) | decide | (simp; done) | (simp; omega) | (simp [*]; done)) (Run.build (evs.cons rfl (evs.cons rfl evs.nil)) zero26 (places26).choose_spec.1 (places26).choose_spec.2 rfl) rfl ?_
  refine Ops.clg rfl (by first | rfl | assumption | exact decide_eq_true (by assumption) | exact decide_eq_false (by assumption) | decide | (simp; done) | (simp; omega) | (simp [*]; done)) (Enters.fn (evs.cons rfl (evs.cons rfl evs.nil)) Tryd.call12) (rsame_spec (⟨[116, 101, 120, 116], [112, 108, 97, 105, 110], []⟩ : Med) (⟨[116, 101, 120, 116], [112, 108, 97, 105, 110], []⟩ : Med) A2 none c2 0 _ hO2.rd (Rd.nil _ _ _) (by decide) (by decide)) rfl ?_
  rintro e w12 ⟨rfl, hf_w12⟩
  rw [sameQ_self]
  refine ⟨_, rfl, ?_⟩
  have hO1 := hO1.frm hf_w12 (by simp)
  have hb1 := hb1.frm hf_w12 (by simp)
  have hO2 := hO2.frm hf_w12 (by simp)
  have hb2 := hb2.frm hf_w12 (by simp)
  have hO3 := hO3.frm hf_w12 (by simp)
  have hb3 := hb3.frm hf_w12 (by simp)
  have K := Frm.trans K hf_w12 (by simp)
  refine Ops.r (Run.pickT rfl rfl (by first | rfl | assumption | exact decide_eq_true (by assumption) | exact decide_eq_false (by assumption) | decide | (simp; done) | (simp; omega) | (simp [*]; done))) rfl ?_
  refine Ops.r (Run.mv rfl) rfl ?_
  refine Ops.rg rfl (by first | rfl | assumption | exact decide_eq_true (by assumption) | exact decide_eq_false (by assumption) | decide | (simp; done) | (simp; omega) | (simp [*]; done)) (Run.loadA rfl Tryd.isAgg26 Tryd.sizeOf26 (fun j v hj => hb3.cells j v hj) (by first | rfl | (simp; done))) rfl ?_
  refine Ops.rg rfl (by first | rfl | assumption | exact decide_eq_true (by assumption) | exact decide_eq_false (by assumption) | decide | (simp; done) | (simp; omega) | (simp [*]; done)) (Run.build (evs.cons rfl (evs.cons rfl evs.nil)) zero26 (places26).choose_spec.1 (places26).choose_spec.2 rfl) rfl ?_
  refine Ops.clg rfl (by first | rfl | assumption | exact decide_eq_true (by assumption) | exact decide_eq_false (by assumption) | decide | (simp; done) | (simp; omega) | (simp [*]; done)) (Enters.fn (evs.cons rfl (evs.cons rfl evs.nil)) Tryd.call12) (rsame_spec (⟨[97], [98], []⟩ : Med) (⟨[97], [98], []⟩ : Med) A3 none c3 0 _ hO3.rd (Rd.nil _ _ _) (by decide) (by decide)) rfl ?_
  rintro e w13 ⟨rfl, hf_w13⟩
  rw [sameQ_self]
  refine ⟨_, rfl, ?_⟩
  have hO1 := hO1.frm hf_w13 (by simp)
  have hb1 := hb1.frm hf_w13 (by simp)
  have hO2 := hO2.frm hf_w13 (by simp)
  have hb2 := hb2.frm hf_w13 (by simp)
  have hO3 := hO3.frm hf_w13 (by simp)
  have hb3 := hb3.frm hf_w13 (by simp)
  have K := Frm.trans K hf_w13 (by simp)
  refine Ops.r (Run.pickT rfl rfl (by first | rfl | assumption | exact decide_eq_true (by assumption) | exact decide_eq_false (by assumption) | decide | (simp; done) | (simp; omega) | (simp [*]; done))) rfl ?_
  refine Ops.r (Run.asg rfl) rfl ?_
  refine Ops.nil ?_
  refine thenQ_n ?_
  refine VC.sub [(0, _)] (.cons rfl .nil) ?_
  refine VC.ret ?_
  refine end1 rfl ?_
  exact ⟨rfl, K⟩

end Go.Proofs.YtnllhddbgkeboaaDoor
