/-
  The examples of layer 21.
-/
import Derived.Test.YtenbjndldenkfaaGreatDoorSecM
namespace Go.Proofs.YtenbjndldenkfaaGreatDoor
open Go.RowKit Go.Sort

deriving instance DecidableEq for Wnt
def b21 : Tx := [65, 58, 32, 49, 13, 10, 13, 10, 120]
set_option maxRecDepth 100000 in
theorem ex21a : readQ [49, 46, 50, 46, 104, 101, 97, 100, 101, 114, 46, 102, 105, 101, 108, 100, 115, 32, 40, 84, 111, 32, 68, 97, 116, 101, 41] = some (⟨[1, 2], fldT, [[84, 111], [68, 97, 116, 101]]⟩ : Wnt) := by decide +kernel
set_option maxRecDepth 100000 in
theorem ex21b : readQ [77, 73, 77, 69] = none := by decide +kernel
set_option maxRecDepth 100000 in
theorem ex21c : getQ b21 (⟨[1], [], []⟩ : Wnt) = some [120] := by decide +kernel
set_option maxRecDepth 100000 in
theorem ex21d : getQ b21 (⟨[2], [], []⟩ : Wnt) = none := by decide +kernel
set_option maxRecDepth 100000 in
theorem ex21e : getQ b21 (⟨[1], mimT, []⟩ : Wnt) = some [65, 58, 32, 49, 13, 10, 13, 10] := by decide +kernel

set_option maxRecDepth 100000 in
theorem awake21_spec (w : World) (hv : LibV w) : Calls Tryz.prog 20 #[] w fun e w' => e = .returned (.bool true) ∧ Frm [] w w' := by
  have K := Frm.refl [] w
  refine VC.calls (nt := 76) (res := #[.tmp 0]) Tryz.func20 rfl Tryz.ntmps20 Tryz.results20 rfl ?_
  refine VC.seq ?_
  refine VC.region ?_
  refine Ops.r (Run.asg rfl) rfl ?_
  refine Ops.nil ?_
  refine thenQ_n ?_
  refine VC.sub [] .nil ?_
  refine VC.seq ?_
  refine VC.region ?_
  refine Ops.cl (Enters.fn (evs.cons rfl evs.nil) Tryz.call46) ((sread_spec [49, 46, 50, 46, 104, 101, 97, 100, 101, 114, 46, 102, 105, 101, 108, 100, 115, 32, 40, 84, 111, 32, 68, 97, 116, 101, 41] _ (by decide) (hv.frm0 K))) rfl ?_
  rintro e w1 ⟨f1, PA, pc, NA, nc, rfl, hOP, hON⟩
  rw [ex21a] at hOP hON ⊢
  refine ⟨_, rfl, ?_⟩
  dsimp only [Option.getD_some, Option.isSome_some, if_true] at hOP hON ⊢
  
  have K := K.trans f1 (by simp)
  refine Ops.r (Run.mv rfl) rfl ?_
  refine Ops.r (Run.extract rfl rfl) rfl ?_
  refine Ops.r (Run.extract rfl rfl) rfl ?_
  refine Ops.m (Does.alloc zero38) rfl ?_
  rintro _ w2 ⟨rfl, hF2⟩
  have hb1 : Blk w2 w1.heap.size 38 _ := hF2.blk
  have K1 := K.size
  have hOP := hOP.frm hF2.frm (by simp)
  have hON := hON.frm hF2.frm (by simp)
  have K := K.trans hF2.frm (by simp)
  generalize hg1 : w1.heap.size = g1 at hb1 K1 ⊢
  refine Ops.st (Acts.storeA rfl rfl Tryz.sizeOf38 hb1 rfl (WtC_one (⟨[1, 2], fldT, [[84, 111], [68, 97, 116, 101]]⟩ : Wnt) PA pc NA nc)) ?_
  rintro w3 ⟨hb1n, f3, _⟩
  have hb1o := hb1
  have hb1 : Blk w3 g1 38 (WtC (⟨[1, 2], fldT, [[84, 111], [68, 97, 116, 101]]⟩ : Wnt) PA pc NA nc) := hb1n
  have hOP := hOP.frm f3 (fun y hy => by have := hOP.ne_blk hb1o (by decide); simp; rintro rfl; exact this hy)
  have hON := hON.frm f3 (fun y hy => by have := hON.ne_blk hb1o (by decide); simp; rintro rfl; exact this hy)
  have K := Frm.own K f3 (fun y hy => by simp at hy; omega)
  refine Ops.r (Run.asg rfl) rfl ?_
  refine Ops.nil ?_
  refine thenQ_n ?_
  refine VC.sub [(1, _), (2, _)] (.cons rfl (.cons rfl .nil)) ?_
  refine VC.seq ?_
  refine VC.region ?_
  refine Ops.m (Does.buildN (cells := (U8 b21).toArray) (evs.cons rfl (evs.cons rfl (evs.cons rfl (evs.cons rfl (evs.cons rfl (evs.cons rfl (evs.cons rfl (evs.cons rfl (evs.cons rfl evs.nil))))))))) Tryz.underlying22 Tryz.sizeOf5 zero5 rfl rfl (by kernel_rfl)) rfl ?_
  rintro _ w4 ⟨rfl, hF4⟩
  have hbb : Blk w4 w3.heap.size 5 (U8 b21).toArray := hF4.blk
  have K3 := K.size
  have hOP := hOP.frm hF4.frm (by simp)
  have hON := hON.frm hF4.frm (by simp)
  have hb1 := hb1.frm hF4.frm (by simp)
  have K := K.trans hF4.frm (by simp)
  generalize hgb : w3.heap.size = gb at hbb K3 ⊢
  have hgb1 : gb ≠ g1 := hbb.ne hb1 (by decide)
  refine Ops.m (Does.mark rfl Tryz.underlying22 Tryz.underlying5 hbb) rfl ?_
  rintro _ w5 ⟨rfl, hfro, f5⟩
  have hrb : Rd w5 1 (some ⟨gb, 0, none⟩) b21.length (U8 b21) := hfro.rd (by show (U8 b21).take b21.length = U8 b21; exact List.take_of_length_le (by simp [U8]))
  have hOP := hOP.frm f5 (fun y hy => by have := hOP.ne_blk hbb (by decide); simp; rintro rfl; exact this hy)
  have hON := hON.frm f5 (fun y hy => by have := hON.ne_blk hbb (by decide); simp; rintro rfl; exact this hy)
  have hb1 := hb1.frm f5 (by simp; exact hgb1.symm)
  have K := Frm.own K f5 (fun y hy => by simp at hy; omega)
  refine Ops.r (Run.asg rfl) rfl ?_
  refine Ops.nil ?_
  refine thenQ_n ?_
  refine VC.sub [(1, _), (2, _), (3, _)] (.cons rfl (.cons rfl (.cons rfl .nil))) ?_
  refine VC.seq ?_
  refine VC.region ?_
  refine Ops.r (Run.mv rfl) rfl ?_
  refine Ops.m (Does.buildS1 rfl Tryz.underlying33 Tryz.sizeOf3 zero3 (by decide) (by decide) rfl rfl) rfl ?_
  rintro _ w6 ⟨rfl, hFw6⟩
  have hrp : Rd w6 1 (some ⟨_, 0, none⟩) 1 (PI [1]) := Rd.of_blk (n := 1) (size := 1) hFw6.blk rfl
  have hOP := hOP.frm hFw6.frm (by simp)
  have hON := hON.frm hFw6.frm (by simp)
  have hb1 := hb1.frm hFw6.frm (by simp)
  have hrb := hrb.frm hFw6.frm (by simp)
  have K := K.trans hFw6.frm (by simp)
  refine Ops.r (Run.build (evs.cons rfl (evs.nil)) zero38 (places38).choose_spec.1 (places38).choose_spec.2 (cells := WtC (⟨[1], [], []⟩ : Wnt) (some ⟨_, 0, none⟩) 1 none 0) rfl) rfl ?_
  refine Ops.cl (Enters.fn (evs.cons rfl (evs.cons rfl evs.nil)) Tryz.call19) ((get_spec (some ⟨gb, 0, none⟩) 9 b21 (⟨[1], [], []⟩ : Wnt) (some ⟨_, 0, none⟩) none 1 0 _ hrb (by decide) (by decide) hrp (by decide) (by decide) (Rd.nil _ _ _) (by decide) (by decide) (by decide))) rfl ?_
  rintro e w7 ⟨hfw7, Ax, cx, rfl, hOx, _⟩
  rw [ex21c] at hOx ⊢
  refine ⟨_, rfl, ?_⟩
  have hOP := hOP.frm hfw7 (by simp)
  have hON := hON.frm hfw7 (by simp)
  have hb1 := hb1.frm hfw7 (by simp)
  have hrb := hrb.frm hfw7 (by simp)
  have K := K.trans hfw7 (by simp)
  refine Ops.r (Run.mv rfl) rfl ?_
  refine Ops.r (Run.extract rfl rfl) rfl ?_
  refine Ops.r (Run.extract rfl rfl) rfl ?_
  refine Ops.r (Run.asg rfl) rfl ?_
  refine Ops.r (Run.asg rfl) rfl ?_
  refine Ops.nil ?_
  refine thenQ_n ?_
  refine VC.sub [(1, _), (2, _), (3, _), (4, _), (5, _)] (.cons rfl (.cons rfl (.cons rfl (.cons rfl (.cons rfl .nil))))) ?_
  refine VC.seq ?_
  refine VC.region ?_
  refine Ops.r (Run.mv rfl) rfl ?_
  refine Ops.m (Does.buildS1 rfl Tryz.underlying33 Tryz.sizeOf3 zero3 (by decide) (by decide) rfl rfl) rfl ?_
  rintro _ w8 ⟨rfl, hFw8⟩
  have hrp : Rd w8 1 (some ⟨_, 0, none⟩) 1 (PI [2]) := Rd.of_blk (n := 1) (size := 1) hFw8.blk rfl
  have hOP := hOP.frm hFw8.frm (by simp)
  have hON := hON.frm hFw8.frm (by simp)
  have hb1 := hb1.frm hFw8.frm (by simp)
  have hrb := hrb.frm hFw8.frm (by simp)
  have hOx := hOx.frm hFw8.frm (by simp)
  have K := K.trans hFw8.frm (by simp)
  refine Ops.r (Run.build (evs.cons rfl (evs.nil)) zero38 (places38).choose_spec.1 (places38).choose_spec.2 (cells := WtC (⟨[2], [], []⟩ : Wnt) (some ⟨_, 0, none⟩) 1 none 0) rfl) rfl ?_
  refine Ops.cl (Enters.fn (evs.cons rfl (evs.cons rfl evs.nil)) Tryz.call19) ((get_spec (some ⟨gb, 0, none⟩) 9 b21 (⟨[2], [], []⟩ : Wnt) (some ⟨_, 0, none⟩) none 1 0 _ hrb (by decide) (by decide) hrp (by decide) (by decide) (Rd.nil _ _ _) (by decide) (by decide) (by decide))) rfl ?_
  rintro e w9 ⟨hfw9, An, cn, rfl, hOn, _⟩
  rw [ex21d] at hOn ⊢
  refine ⟨_, rfl, ?_⟩
  have hOP := hOP.frm hfw9 (by simp)
  have hON := hON.frm hfw9 (by simp)
  have hb1 := hb1.frm hfw9 (by simp)
  have hrb := hrb.frm hfw9 (by simp)
  have hOx := hOx.frm hfw9 (by simp)
  have K := K.trans hfw9 (by simp)
  refine Ops.r (Run.mv rfl) rfl ?_
  refine Ops.r (Run.extract rfl rfl) rfl ?_
  refine Ops.r (Run.extract rfl rfl) rfl ?_
  refine Ops.r (Run.asg rfl) rfl ?_
  refine Ops.r (Run.asg rfl) rfl ?_
  refine Ops.nil ?_
  refine thenQ_n ?_
  refine VC.sub [(1, _), (2, _), (3, _), (4, _), (5, _), (7, _)] (.cons rfl (.cons rfl (.cons rfl (.cons rfl (.cons rfl (.cons rfl .nil)))))) ?_
  refine VC.seq ?_
  refine VC.region ?_
  refine Ops.r (Run.mv rfl) rfl ?_
  refine Ops.m (Does.buildS1 rfl Tryz.underlying33 Tryz.sizeOf3 zero3 (by decide) (by decide) rfl rfl) rfl ?_
  rintro _ w10 ⟨rfl, hFw10⟩
  have hrp : Rd w10 1 (some ⟨_, 0, none⟩) 1 (PI [1]) := Rd.of_blk (n := 1) (size := 1) hFw10.blk rfl
  have hOP := hOP.frm hFw10.frm (by simp)
  have hON := hON.frm hFw10.frm (by simp)
  have hb1 := hb1.frm hFw10.frm (by simp)
  have hrb := hrb.frm hFw10.frm (by simp)
  have hOx := hOx.frm hFw10.frm (by simp)
  have hOn := hOn.frm hFw10.frm (by simp)
  have K := K.trans hFw10.frm (by simp)
  refine Ops.r (Run.build (evs.cons rfl (evs.cons rfl (evs.nil))) zero38 (places38).choose_spec.1 (places38).choose_spec.2 (cells := WtC (⟨[1], mimT, []⟩ : Wnt) (some ⟨_, 0, none⟩) 1 none 0) rfl) rfl ?_
  refine Ops.cl (Enters.fn (evs.cons rfl (evs.cons rfl evs.nil)) Tryz.call19) ((get_spec (some ⟨gb, 0, none⟩) 9 b21 (⟨[1], mimT, []⟩ : Wnt) (some ⟨_, 0, none⟩) none 1 0 _ hrb (by decide) (by decide) hrp (by decide) (by decide) (Rd.nil _ _ _) (by decide) (by decide) (by decide))) rfl ?_
  rintro e w11 ⟨hfw11, Ay, cy, rfl, hOy, _⟩
  rw [ex21e] at hOy ⊢
  refine ⟨_, rfl, ?_⟩
  have hOP := hOP.frm hfw11 (by simp)
  have hON := hON.frm hfw11 (by simp)
  have hb1 := hb1.frm hfw11 (by simp)
  have hrb := hrb.frm hfw11 (by simp)
  have hOx := hOx.frm hfw11 (by simp)
  have hOn := hOn.frm hfw11 (by simp)
  have K := K.trans hfw11 (by simp)
  refine Ops.r (Run.mv rfl) rfl ?_
  refine Ops.r (Run.extract rfl rfl) rfl ?_
  refine Ops.r (Run.extract rfl rfl) rfl ?_
  refine Ops.r (Run.asg rfl) rfl ?_
  refine Ops.r (Run.asg rfl) rfl ?_
  refine Ops.nil ?_
  refine thenQ_n ?_
  refine VC.sub [(1, _), (2, _), (4, _), (5, _), (7, _), (8, _), (9, _)] (.cons rfl (.cons rfl (.cons rfl (.cons rfl (.cons rfl (.cons rfl (.cons rfl .nil))))))) ?_
  refine VC.seq ?_
  refine VC.region ?_
  refine Ops.cl (Enters.fn (evs.cons rfl evs.nil) Tryz.call46) ((sread_spec [77, 73, 77, 69] _ (by decide) (hv.frm0 K))) rfl ?_
  rintro e w12 ⟨f12, PA2, pc2, NA2, nc2, rfl, hOP2, hON2⟩
  rw [ex21b] at hOP2 hON2 ⊢
  refine ⟨_, rfl, ?_⟩
  have hOP := hOP.frm f12 (by simp)
  have hON := hON.frm f12 (by simp)
  have hb1 := hb1.frm f12 (by simp)
  have hrb := hrb.frm f12 (by simp)
  have hOx := hOx.frm f12 (by simp)
  have hOn := hOn.frm f12 (by simp)
  have hOy := hOy.frm f12 (by simp)
  have K := K.trans f12 (by simp)
  refine Ops.r (Run.mv rfl) rfl ?_
  refine Ops.r (Run.extract rfl rfl) rfl ?_
  refine Ops.r (Run.extract rfl rfl) rfl ?_
  refine Ops.m (Does.alloc zero38) rfl ?_
  rintro _ w13 ⟨rfl, hF13⟩
  have hb10 : Blk w13 w12.heap.size 38 _ := hF13.blk
  have K12 := K.size
  have lt1 := hb1.lt
  have ltP := hOP.lt
  have ltN := hON.lt
  have ltx := hOx.lt
  have lty := hOy.lt
  have hOP := hOP.frm hF13.frm (by simp)
  have hON := hON.frm hF13.frm (by simp)
  have hb1 := hb1.frm hF13.frm (by simp)
  have hrb := hrb.frm hF13.frm (by simp)
  have hOx := hOx.frm hF13.frm (by simp)
  have hOn := hOn.frm hF13.frm (by simp)
  have hOy := hOy.frm hF13.frm (by simp)
  have K := K.trans hF13.frm (by simp)
  generalize hg10 : w12.heap.size = g10 at hb10 K12 lt1 ltP ltN ltx lty ⊢
  refine Ops.st (Acts.storeA rfl rfl Tryz.sizeOf38 hb10 rfl (WtC_one wnt0 PA2 pc2 NA2 nc2)) ?_
  rintro w14 ⟨_, f14, _⟩
  have hb1 := hb1.frm f14 (by simp; omega)
  have hOP := hOP.frm f14 (fun y hy => by have := ltP y hy; simp; omega)
  have hON := hON.frm f14 (fun y hy => by have := ltN y hy; simp; omega)
  have hOx := hOx.frm f14 (fun y hy => by have := ltx y hy; simp; omega)
  have hOy := hOy.frm f14 (fun y hy => by have := lty y hy; simp; omega)
  have K := Frm.own K f14 (fun y hy => by simp at hy; omega)
  refine Ops.r (Run.asg rfl) rfl ?_
  refine Ops.nil ?_
  refine thenQ_n ?_
  refine VC.sub [(1, _), (2, _), (4, _), (5, _), (7, _), (8, _), (9, _), (11, _)] (.cons rfl (.cons rfl (.cons rfl (.cons rfl (.cons rfl (.cons rfl (.cons rfl (.cons rfl .nil)))))))) ?_
  refine VC.seq ?_
  refine VC.region ?_
  refine Ops.r (Run.loadA rfl Tryz.isAgg38 Tryz.sizeOf38 (fun j v hj => hb1.cells j v hj) (by first | rfl | (simp; done))) rfl ?_
  refine Ops.m (Does.buildN (cells := (PI [1, 2]).toArray) (evs.cons rfl (evs.cons rfl evs.nil)) Tryz.underlying33 Tryz.sizeOf3 zero3 rfl rfl (by kernel_rfl)) rfl ?_
  rintro _ w15 ⟨rfl, hF15⟩
  have hr44 : Rd w15 1 (some ⟨_, 0, none⟩) 2 (PI [1, 2]) := Rd.of_blk (n := 2) (size := 1) hF15.blk rfl
  have hOP := hOP.frm hF15.frm (by simp)
  have hON := hON.frm hF15.frm (by simp)
  have hb1 := hb1.frm hF15.frm (by simp)
  have hOx := hOx.frm hF15.frm (by simp)
  have hOy := hOy.frm hF15.frm (by simp)
  have K := K.trans hF15.frm (by simp)
  refine Ops.m (Does.buildN (cells := (SB [[84, 111], [68, 97, 116, 101]]).toArray) (evs.cons rfl (evs.cons rfl evs.nil)) Tryz.underlying36 Tryz.sizeOf9 zero9 rfl rfl (by kernel_rfl)) rfl ?_
  rintro _ w16 ⟨rfl, hF16⟩
  have hr45 : Rd w16 1 (some ⟨_, 0, none⟩) 2 (SB [[84, 111], [68, 97, 116, 101]]) := Rd.of_blk (n := 2) (size := 1) hF16.blk rfl
  have hOP := hOP.frm hF16.frm (by simp)
  have hON := hON.frm hF16.frm (by simp)
  have hb1 := hb1.frm hF16.frm (by simp)
  have hOx := hOx.frm hF16.frm (by simp)
  have hOy := hOy.frm hF16.frm (by simp)
  have hr44 := hr44.frm hF16.frm (by simp)
  have K := K.trans hF16.frm (by simp)
  refine Ops.r (Run.build (evs.cons rfl (evs.cons rfl (evs.cons rfl evs.nil))) zero38 (places38).choose_spec.1 (places38).choose_spec.2 (cells := WtC (⟨[1, 2], fldT, [[84, 111], [68, 97, 116, 101]]⟩ : Wnt) (some ⟨_, 0, none⟩) 2 (some ⟨_, 0, none⟩) 2) rfl) rfl ?_
  refine Ops.cl (Enters.fn (evs.cons rfl (evs.cons rfl evs.nil)) Tryz.call47) ((same_want_spec (⟨[1, 2], fldT, [[84, 111], [68, 97, 116, 101]]⟩ : Wnt) (⟨[1, 2], fldT, [[84, 111], [68, 97, 116, 101]]⟩ : Wnt) PA NA (some ⟨_, 0, none⟩) (some ⟨_, 0, none⟩) pc nc 2 2 _ hOP.rd hON.rd hr44 hr45 (by decide) (by decide))) rfl ?_
  rintro e w17 ⟨rfl, f17⟩
  rw [decide_eq_true (show SameW (⟨[1, 2], fldT, [[84, 111], [68, 97, 116, 101]]⟩ : Wnt) (⟨[1, 2], fldT, [[84, 111], [68, 97, 116, 101]]⟩ : Wnt) from ⟨rfl, rfl, rfl⟩)]
  refine ⟨_, rfl, ?_⟩
  have hOP := hOP.frm f17 (by simp)
  have hON := hON.frm f17 (by simp)
  have hb1 := hb1.frm f17 (by simp)
  have hOx := hOx.frm f17 (by simp)
  have hOy := hOy.frm f17 (by simp)
  have hr44 := hr44.frm f17 (by simp)
  have K := K.trans f17 (by simp)
  refine Ops.r (Run.mv rfl) rfl ?_
  refine Ops.rg rfl (by first | rfl | assumption | exact decide_eq_true (by assumption) | exact decide_eq_false (by assumption) | decide | (simp; done) | (simp; omega) | (simp [*]; done)) (Run.mv rfl) rfl ?_
  refine Ops.rg rfl (by first | rfl | assumption | exact decide_eq_true (by assumption) | exact decide_eq_false (by assumption) | decide | (simp; done) | (simp; omega) | (simp [*]; done)) (Run.bin rfl rfl (Bin.eqlN _ 0)) rfl ?_
  refine Ops.r (Run.pickT rfl rfl (by first | rfl | assumption | exact decide_eq_true (by assumption) | exact decide_eq_false (by assumption) | decide | (simp; done) | (simp; omega) | (simp [*]; done))) rfl ?_
  refine Ops.r (Run.mv rfl) rfl ?_
  refine Ops.rg rfl (by first | rfl | assumption | exact decide_eq_true (by assumption) | exact decide_eq_false (by assumption) | decide | (simp; done) | (simp; omega) | (simp [*]; done)) (Run.mv rfl) rfl ?_
  refine Ops.rg rfl (by first | rfl | assumption | exact decide_eq_true (by assumption) | exact decide_eq_false (by assumption) | decide | (simp; done) | (simp; omega) | (simp [*]; done)) (Run.strOfT rfl Tryz.underlying22 Tryz.underlying5 Tryz.underlying9 hOx.rd) rfl ?_
  refine Ops.rg rfl (by first | rfl | assumption | exact decide_eq_true (by assumption) | exact decide_eq_false (by assumption) | decide | (simp; done) | (simp; omega) | (simp [*]; done)) (Run.eqlT rfl rfl) rfl ?_
  refine Ops.r (Run.pickT rfl rfl (by first | rfl | assumption | exact decide_eq_true (by assumption) | exact decide_eq_false (by assumption) | decide | (simp; done) | (simp; omega) | (simp [*]; done))) rfl ?_
  refine Ops.r (Run.mv rfl) rfl ?_
  refine Ops.rg rfl (by first | rfl | assumption | exact decide_eq_true (by assumption) | exact decide_eq_false (by assumption) | decide | (simp; done) | (simp; omega) | (simp [*]; done)) (Run.mv rfl) rfl ?_
  refine Ops.r (Run.pickT rfl rfl (by first | rfl | assumption | exact decide_eq_true (by assumption) | exact decide_eq_false (by assumption) | decide | (simp; done) | (simp; omega) | (simp [*]; done))) rfl ?_
  refine Ops.r (Run.mv rfl) rfl ?_
  refine Ops.rg rfl (by first | rfl | assumption | exact decide_eq_true (by assumption) | exact decide_eq_false (by assumption) | decide | (simp; done) | (simp; omega) | (simp [*]; done)) (Run.mv rfl) rfl ?_
  refine Ops.rg rfl (by first | rfl | assumption | exact decide_eq_true (by assumption) | exact decide_eq_false (by assumption) | decide | (simp; done) | (simp; omega) | (simp [*]; done)) (Run.not rfl) rfl ?_
  refine Ops.r (Run.pickT rfl rfl (by first | rfl | assumption | exact decide_eq_true (by assumption) | exact decide_eq_false (by assumption) | decide | (simp; done) | (simp; omega) | (simp [*]; done))) rfl ?_
  refine Ops.r (Run.mv rfl) rfl ?_
  refine Ops.rg rfl (by first | rfl | assumption | exact decide_eq_true (by assumption) | exact decide_eq_false (by assumption) | decide | (simp; done) | (simp; omega) | (simp [*]; done)) (Run.mv rfl) rfl ?_
  refine Ops.rg rfl (by first | rfl | assumption | exact decide_eq_true (by assumption) | exact decide_eq_false (by assumption) | decide | (simp; done) | (simp; omega) | (simp [*]; done)) (Run.strOfT rfl Tryz.underlying22 Tryz.underlying5 Tryz.underlying9 hOy.rd) rfl ?_
  refine Ops.rg rfl (by first | rfl | assumption | exact decide_eq_true (by assumption) | exact decide_eq_false (by assumption) | decide | (simp; done) | (simp; omega) | (simp [*]; done)) (Run.eqlT rfl rfl) rfl ?_
  refine Ops.r (Run.pickT rfl rfl (by first | rfl | assumption | exact decide_eq_true (by assumption) | exact decide_eq_false (by assumption) | decide | (simp; done) | (simp; omega) | (simp [*]; done))) rfl ?_
  refine Ops.r (Run.mv rfl) rfl ?_
  refine Ops.rg rfl (by first | rfl | assumption | exact decide_eq_true (by assumption) | exact decide_eq_false (by assumption) | decide | (simp; done) | (simp; omega) | (simp [*]; done)) (Run.mv rfl) rfl ?_
  refine Ops.r (Run.pickT rfl rfl (by first | rfl | assumption | exact decide_eq_true (by assumption) | exact decide_eq_false (by assumption) | decide | (simp; done) | (simp; omega) | (simp [*]; done))) rfl ?_
  refine Ops.r (Run.mv rfl) rfl ?_
  refine Ops.rg rfl (by first | rfl | assumption | exact decide_eq_true (by assumption) | exact decide_eq_false (by assumption) | decide | (simp; done) | (simp; omega) | (simp [*]; done)) (Run.mv rfl) rfl ?_
  refine Ops.rg rfl (by first | rfl | assumption | exact decide_eq_true (by assumption) | exact decide_eq_false (by assumption) | decide | (simp; done) | (simp; omega) | (simp [*]; done)) (Run.bin rfl rfl (Bin.eqlN _ 3)) rfl ?_
  refine Ops.r (Run.pickT rfl rfl (by first | rfl | assumption | exact decide_eq_true (by assumption) | exact decide_eq_false (by assumption) | decide | (simp; done) | (simp; omega) | (simp [*]; done))) rfl ?_
  refine Ops.r (Run.asg rfl) rfl ?_
  refine Ops.nil ?_
  refine thenQ_n ?_
  refine VC.sub [(0, _)] (.cons rfl .nil) ?_
  refine VC.ret ?_
  refine end1 rfl ?_
  exact ⟨rfl, K⟩

end Go.Proofs.YtenbjndldenkfaaGreatDoor
