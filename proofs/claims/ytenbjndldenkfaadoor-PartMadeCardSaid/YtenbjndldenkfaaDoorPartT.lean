/-
  The parts of a letter whole; what the laws of layer 20 say it with.
-/
import Derived.Test.YtenbjndldenkfaaDoorPartU
import Derived.Test.YtenbjndldenkfaaDoorEng17
namespace Go.Proofs.YtenbjndldenkfaaDoor
open Go.RowKit Go.Sort

set_option maxRecDepth 100000 in
theorem all_spec (A : Option Addr) (c : Nat) (q : Tx) (w : World) (hrd : Rd w 1 A q.length (U8 q)) (hq : q.length ≤ 400000) (hc : q.length ≤ c) :
    Calls Tryd.prog 6 #[.slice A q.length c] w fun e w' => Frm [] w w' ∧ ∃ (l : List Pc) (LA : Option Addr) (lc : Nat), l.map (·.1) = partsQ q ∧ e = .returned (.slice LA l.length lc) ∧ Own w' 32 9 LA l.length lc (PP l) ∧ OwnPs w' l ∧ ∀ x ∈ ob LA, w.heap.size ≤ x := by
  refine VC.calls (nt := 15) (res := #[.tmp 2]) Tryd.func6 rfl Tryd.ntmps6 Tryd.results6 rfl ?_
  refine VC.seq ?_
  refine VC.region ?_
  refine Ops.r (Run.asg rfl) rfl ?_
  refine Ops.nil ?_
  refine thenQ_n ?_
  refine VC.sub [(0, _)] (.cons rfl .nil) ?_
  refine VC.seq ?_
  refine VC.region ?_
  refine Ops.r (Run.mv rfl) rfl ?_
  refine Ops.r (Run.build (evs.cons rfl evs.nil) zero37 (places37).choose_spec.1 (places37).choose_spec.2 rfl) rfl ?_
  refine Ops.m (Does.box rfl) rfl ?_
  rintro _ w1 ⟨rfl, hF1⟩
  have hbg : Blk w1 w.heap.size 37 #[.slice A q.length c, .slice none 0 0] := hF1.blk
  have K := hF1.frm
  have hlt := hbg.lt
  refine Ops.r (Run.asg rfl) rfl ?_
  refine Ops.nil ?_
  refine thenQ_n ?_
  refine VC.sub [(0, _), (3, _)] (.cons rfl (.cons rfl .nil)) ?_
  refine VC.seq ?_
  refine VC.region ?_
  refine Ops.r (Run.mv rfl) rfl ?_
  refine Ops.r (Run.mv rfl) rfl ?_
  refine Ops.r (Run.lenS rfl Tryd.underlying24) rfl ?_
  refine Ops.cl (Enters.fn (evs.cons rfl (evs.cons rfl (evs.cons rfl (evs.cons rfl (evs.cons rfl (evs.cons rfl evs.nil)))))) Tryd.call8) ((find_all 6 0 rfl w.heap.size A c q [] none 0 0 q.length (-1) false _ (hrd.frm K (by simp)) hq hc (Nat.zero_le _) (Nat.le_refl _) (by simp) (by omega) (by simp) (by intro i x hx; simp at hx) hbg (Own.nil _ _ _) (by intro x hx; simp at hx) (fun x hx => ⟨by have := hrd.lt (obN_mem hx).1 x (obN_mem hx).2; omega, by simp [ob]⟩))) rfl ?_
  rintro e w2 ⟨rfl, l, LA, lc, hm, hbg, hO, hPs, hf2, hub⟩
  refine ⟨_, rfl, ?_⟩
  have K2 := Frm.own K hf2 (fun y hy => by simp [ob] at hy; omega)
  have hm : l.map (·.1) = partsQ q := hm
  refine Ops.nil ?_
  refine thenQ_n ?_
  refine VC.sub [(3, _)] (.cons rfl .nil) ?_
  refine VC.seq ?_
  refine VC.region ?_
  refine Ops.r (Run.mv rfl) rfl ?_
  refine Ops.r (Run.nilck rfl) rfl ?_
  refine Ops.r (Run.fieldAddr rfl Tryd.underlying37 rfl Tryd.sizeOf26 (by decide)) rfl ?_
  refine Ops.r (Run.load rfl Tryd.isAgg26 (hbg.cell 1)) rfl ?_
  refine Ops.r (Run.asg rfl) rfl ?_
  refine Ops.nil ?_
  refine thenQ_n ?_
  refine VC.sub [(2, _)] (.cons rfl .nil) ?_
  refine VC.ret ?_
  refine end1 rfl ?_
  exact ⟨K2, l, LA, lc, hm, rfl, hO, hPs, fun x hx => by rcases hub x hx with h | h; simp [ob] at h; omega⟩

def letT : Tx := [67, 111, 110, 116, 101, 110, 116, 45, 84, 121, 112, 101, 58, 32, 109, 117, 108, 116, 105, 112, 97, 114, 116, 47, 109, 105, 120, 101, 100, 59, 32, 98, 111, 117, 110, 100, 97, 114, 121, 61, 120, 13, 10, 13, 10]
def l2T : Tx := [13, 10, 97, 13, 10]
theorem letT_len : letT.length = 45 := by decide
theorem l2T_len : l2T.length = 5 := by decide

set_option maxRecDepth 100000 in
theorem letter_spec (a b : Tx) (w : World) (ha : a.length ≤ 1000) (hb : b.length ≤ 1000) :
    Calls Tryd.prog 7 #[encStr a, encStr b] w fun e w' => Frm [] w w' ∧ ∃ A c, e = .returned (.slice A (letT ++ a ++ l2T ++ b).length c) ∧ (letT ++ a ++ l2T ++ b).length ≤ c ∧ Rd w' 1 A (letT ++ a ++ l2T ++ b).length (U8 (letT ++ a ++ l2T ++ b)) := by
  have e0 := letT_len
  have e1 : (letT ++ a).length = 45 + a.length := by rw [List.length_append, e0]
  have e2 : (letT ++ a ++ l2T).length = 50 + a.length := by rw [List.length_append, e1, l2T_len]; omega
  have e3 := l2T_len
  refine VC.calls (nt := 11) (res := #[.tmp 4]) Tryd.func7 rfl Tryd.ntmps7 Tryd.results7 rfl ?_
  refine VC.seq ?_
  refine VC.region ?_
  refine Ops.r (Run.asg rfl) rfl ?_
  refine Ops.nil ?_
  refine thenQ_n ?_
  refine VC.sub [(0, _), (1, _)] (.cons rfl (.cons rfl .nil)) ?_
  refine VC.seq ?_
  refine VC.region ?_
  refine Ops.r (Run.mv rfl) rfl ?_
  refine Ops.r (Run.addT (a := letT) (b := a) rfl rfl (by omega)) rfl ?_
  refine Ops.r (Run.addT (a := letT ++ a) (b := l2T) rfl rfl (by omega)) rfl ?_
  refine Ops.r (Run.mv rfl) rfl ?_
  refine Ops.r (Run.addT (a := letT ++ a ++ l2T) (b := b) rfl rfl (by omega)) rfl ?_
  refine Ops.m (Does.bytesOfC rfl Tryd.underlying9 Tryd.underlying24 Tryd.underlying5) rfl ?_
  rintro _ w1 ⟨c, cs, rfl, hc, hfro, htk, K⟩
  refine Ops.r (Run.asg rfl) rfl ?_
  refine Ops.nil ?_
  refine thenQ_n ?_
  refine VC.sub [(4, _)] (.cons rfl .nil) ?_
  refine VC.ret ?_
  refine end1 rfl ?_
  exact ⟨K, _, c, rfl, hc, hfro.rd htk⟩

deriving instance DecidableEq for Med
deriving instance DecidableEq for Prt
set_option maxRecDepth 100000 in
theorem ex20a : partsQ (letT ++ [45, 45, 120, 13, 10] ++ l2T ++ [45, 45, 120, 45, 45, 13, 10]) = [(⟨1, 0, 45, 62, ⟨multT, [109, 105, 120, 101, 100], [(bndT, [120])]⟩, -1, 1⟩ : Prt), (⟨0, 50, 52, 53, med0, 0, 0⟩ : Prt)] := by decide +kernel
set_option maxRecDepth 100000 in
theorem ex20b : (partsQ (letT ++ [45, 45, 120, 13, 10] ++ l2T ++ [])).length = 2 := by decide +kernel
set_option maxRecDepth 100000 in
theorem ex20c : partsQ (letT ++ [] ++ l2T ++ [45, 45, 121, 13, 10]) = [(⟨0, 0, 45, 55, ⟨multT, [109, 105, 120, 101, 100], [(bndT, [120])]⟩, -1, 0⟩ : Prt)] := by decide +kernel
theorem PP_get {w : World} {ad : Addr} {l : List Pc} {k : Nat} (h : Rd w 9 (some ad) l.length (PP l)) (hk : k < l.length) : ∀ j v, (PP1 l[k])[j]? = some v → w.cell? ((ad.add (k * 9)).add j) = some v := by
  obtain ⟨ad', e, h⟩ := PP_at h hk
  cases e
  exact h
theorem map_two {l : List Pc} {p0 p1 : Prt} (h : l.map (·.1) = [p0, p1]) : ∃ y0 y1, l = [(p0, y0), (p1, y1)] := by
  match l, h with
  | [a, b], h =>
    simp only [List.map_cons, List.map_nil, List.cons.injEq, and_true] at h
    exact ⟨a.2, b.2, by rw [← h.1, ← h.2]⟩
theorem map_one {l : List Pc} {p0 : Prt} (h : l.map (·.1) = [p0]) : ∃ y0, l = [(p0, y0)] := by
  match l, h with
  | [a], h =>
    simp only [List.map_cons, List.map_nil, List.cons.injEq, and_true] at h
    exact ⟨a.2, by rw [← h]⟩

set_option maxRecDepth 100000 in
theorem awake20_spec (w : World) : Calls Tryd.prog 5 #[] w fun e w' => e = .returned (.bool true) ∧ Frm [] w w' := by
  have K := Frm.refl [] w
  refine VC.calls (nt := 81) (res := #[.tmp 0]) Tryd.func5 rfl Tryd.ntmps5 Tryd.results5 rfl ?_
  refine VC.seq ?_
  refine VC.region ?_
  refine Ops.r (Run.asg rfl) rfl ?_
  refine Ops.nil ?_
  refine thenQ_n ?_
  refine VC.sub [] .nil ?_
  refine VC.seq ?_
  refine VC.region ?_
  refine Ops.cl (Enters.fn (evs.cons rfl (evs.cons rfl evs.nil)) Tryd.call7) ((letter_spec [45, 45, 120, 13, 10] [45, 45, 120, 45, 45, 13, 10] _ (by decide) (by decide))) rfl ?_
  rintro e w1 ⟨hf1, A1, c1, rfl, hc1, hr1⟩
  refine ⟨_, rfl, ?_⟩
  have K := K.trans hf1 (by simp)
  refine Ops.cl (Enters.fn (evs.cons rfl evs.nil) Tryd.call6) ((all_spec A1 c1 (letT ++ [45, 45, 120, 13, 10] ++ l2T ++ [45, 45, 120, 45, 45, 13, 10]) _ hr1 (by decide) hc1)) rfl ?_
  rintro e w2 ⟨hg1, l1, LA1, lc1, hm1, rfl, hO1, _, _⟩
  refine ⟨_, rfl, ?_⟩
  have K := K.trans hg1 (by simp)
  obtain ⟨y0, y1, rfl⟩ := map_two (hm1.trans ex20a)
  refine Ops.r (Run.asg rfl) rfl ?_
  refine Ops.nil ?_
  refine thenQ_n ?_
  refine VC.sub [(1, _)] (.cons rfl .nil) ?_
  refine VC.seq ?_
  refine VC.region ?_
  refine Ops.cl (Enters.fn (evs.cons rfl (evs.cons rfl evs.nil)) Tryd.call7) ((letter_spec [45, 45, 120, 13, 10] [] _ (by decide) (by decide))) rfl ?_
  rintro e w3 ⟨hf2, A2, c2, rfl, hc2, hr2⟩
  refine ⟨_, rfl, ?_⟩
  have K := K.trans hf2 (by simp)
  refine Ops.cl (Enters.fn (evs.cons rfl evs.nil) Tryd.call6) ((all_spec A2 c2 (letT ++ [45, 45, 120, 13, 10] ++ l2T ++ []) _ hr2 (by decide) hc2)) rfl ?_
  rintro e w4 ⟨hg2, l2, LA2, lc2, hm2, rfl, hO2, _, _⟩
  refine ⟨_, rfl, ?_⟩
  have K := K.trans hg2 (by simp)
  have hl2 : l2.length = 2 := by have := congrArg List.length hm2; rw [List.length_map, ex20b] at this; exact this
  rw [hl2]
  refine Ops.r (Run.asg rfl) rfl ?_
  refine Ops.nil ?_
  refine thenQ_n ?_
  refine VC.sub [(1, _), (2, _)] (.cons rfl (.cons rfl .nil)) ?_
  refine VC.seq ?_
  refine VC.region ?_
  refine Ops.cl (Enters.fn (evs.cons rfl (evs.cons rfl evs.nil)) Tryd.call7) ((letter_spec [] [45, 45, 121, 13, 10] _ (by decide) (by decide))) rfl ?_
  rintro e w5 ⟨hf3, A3, c3, rfl, hc3, hr3⟩
  refine ⟨_, rfl, ?_⟩
  have K := K.trans hf3 (by simp)
  refine Ops.cl (Enters.fn (evs.cons rfl evs.nil) Tryd.call6) ((all_spec A3 c3 (letT ++ [] ++ l2T ++ [45, 45, 121, 13, 10]) _ hr3 (by decide) hc3)) rfl ?_
  rintro e w6 ⟨hg3, l3, LA3, lc3, hm3, rfl, hO3, _, _⟩
  refine ⟨_, rfl, ?_⟩
  have K := K.trans hg3 (by simp)
  obtain ⟨y2, rfl⟩ := map_one (hm3.trans ex20c)
  have hO1 := ((((hO1.frm hf2 (by simp)).frm hg2 (by simp)).frm hf3 (by simp)).frm hg3 (by simp)).frm (Frm.refl [] _).drew (by simp)
  have hO3 := hO3.frm (Frm.refl [] _).drew (by simp)
  obtain ⟨ad1, rfl, _⟩ := PP_at hO1.rd (k := 0) (by simp)
  obtain ⟨ad3, rfl, _⟩ := PP_at hO3.rd (k := 0) (by simp)
  have hA0 := fun {w0 : World} (k : Frm [] w6.drew w0) => PP_get (hO1.frm k (by simp)).rd (k := 0) (by simp)
  have hA1 := fun {w0 : World} (k : Frm [] w6.drew w0) => PP_get (hO1.frm k (by simp)).rd (k := 1) (by simp)
  have hC0 := fun {w0 : World} (k : Frm [] w6.drew w0) => PP_get (hO3.frm k (by simp)).rd (k := 0) (by simp)
  refine Ops.r (Run.asg rfl) rfl ?_
  refine Ops.nil ?_
  refine thenQ_n ?_
  refine VC.sub [(1, _), (2, _), (3, _)] (.cons rfl (.cons rfl (.cons rfl .nil))) ?_
  refine VC.seq ?_
  refine VC.held (fun V => Frm [] w6.drew V) (by kernel_rfl) ?_
  have hS := Frm.refl [] w6.drew
  have K := K.drew
  refine HOps.take 0 rfl (by kernel_rfl) (by kernel_rfl) (by kernel_rfl) hS (fun w0 hw0 => Run.mv rfl) trivial rfl rfl ?_
  refine HOps.take 1 rfl (by kernel_rfl) (by kernel_rfl) (by kernel_rfl) hS (fun w0 hw0 => Run.lenS rfl Tryd.underlying26) trivial rfl rfl ?_
  refine HOps.take 2 rfl (by kernel_rfl) (by kernel_rfl) (by kernel_rfl) hS (fun w0 hw0 => Run.bin rfl rfl (Bin.eqlN _ 2)) trivial rfl rfl ?_
  refine HOps.take 3 rfl (by kernel_rfl) (by kernel_rfl) (by kernel_rfl) hS (fun w0 hw0 => Run.mv rfl) trivial rfl rfl ?_
  refine HOps.take 4 rfl (by kernel_rfl) (by kernel_rfl) (by kernel_rfl) hS (fun w0 hw0 => Run.mv rfl) (Up.g rfl (by first | rfl | assumption | exact decide_eq_true (by assumption) | exact decide_eq_false (by assumption) | decide | (simp; done) | (simp; omega) | (simp [*]; done))) rfl rfl ?_
  refine HOps.take 5 rfl (by kernel_rfl) (by kernel_rfl) (by kernel_rfl) hS (fun w0 hw0 => Run.indexS 0 rfl rfl Tryd.underlying26 Tryd.sizeOf32 (by simp)) (Up.g rfl (by first | rfl | assumption | exact decide_eq_true (by assumption) | exact decide_eq_false (by assumption) | decide | (simp; done) | (simp; omega) | (simp [*]; done))) rfl rfl ?_
  refine HOps.take 6 rfl (by kernel_rfl) (by kernel_rfl) (by kernel_rfl) hS (fun w0 hw0 => Run.fieldAddr rfl Tryd.underlying32 rfl Tryd.sizeOf3 (by decide)) (Up.g rfl (by first | rfl | assumption | exact decide_eq_true (by assumption) | exact decide_eq_false (by assumption) | decide | (simp; done) | (simp; omega) | (simp [*]; done))) rfl rfl ?_
  refine HOps.take 7 rfl (by kernel_rfl) (by kernel_rfl) (by kernel_rfl) hS (fun w0 hw0 => Run.load rfl Tryd.isAgg3 (hA0 hw0 0 (.int .i64 ((1 : Nat) : Int)) rfl)) (Up.g rfl (by first | rfl | assumption | exact decide_eq_true (by assumption) | exact decide_eq_false (by assumption) | decide | (simp; done) | (simp; omega) | (simp [*]; done))) rfl rfl ?_
  refine HOps.take 8 rfl (by kernel_rfl) (by kernel_rfl) (by kernel_rfl) hS (fun w0 hw0 => Run.bin rfl rfl (Bin.eqlN _ 1)) (Up.g rfl (by first | rfl | assumption | exact decide_eq_true (by assumption) | exact decide_eq_false (by assumption) | decide | (simp; done) | (simp; omega) | (simp [*]; done))) rfl rfl ?_
  refine HOps.take 9 rfl (by kernel_rfl) (by kernel_rfl) (by kernel_rfl) hS (fun w0 hw0 => Run.pickT rfl rfl (by first | rfl | assumption | exact decide_eq_true (by assumption) | exact decide_eq_false (by assumption) | decide | (simp; done) | (simp; omega) | (simp [*]; done))) trivial rfl rfl ?_
  refine HOps.take 10 rfl (by kernel_rfl) (by kernel_rfl) (by kernel_rfl) hS (fun w0 hw0 => Run.mv rfl) trivial rfl rfl ?_
  refine HOps.take 11 rfl (by kernel_rfl) (by kernel_rfl) (by kernel_rfl) hS (fun w0 hw0 => Run.mv rfl) (Up.g rfl (by first | rfl | assumption | exact decide_eq_true (by assumption) | exact decide_eq_false (by assumption) | decide | (simp; done) | (simp; omega) | (simp [*]; done))) rfl rfl ?_
  refine HOps.take 12 rfl (by kernel_rfl) (by kernel_rfl) (by kernel_rfl) hS (fun w0 hw0 => Run.indexS 0 rfl rfl Tryd.underlying26 Tryd.sizeOf32 (by simp)) (Up.g rfl (by first | rfl | assumption | exact decide_eq_true (by assumption) | exact decide_eq_false (by assumption) | decide | (simp; done) | (simp; omega) | (simp [*]; done))) rfl rfl ?_
  refine HOps.take 13 rfl (by kernel_rfl) (by kernel_rfl) (by kernel_rfl) hS (fun w0 hw0 => Run.fieldAddr rfl Tryd.underlying32 rfl Tryd.sizeOf3 (by decide)) (Up.g rfl (by first | rfl | assumption | exact decide_eq_true (by assumption) | exact decide_eq_false (by assumption) | decide | (simp; done) | (simp; omega) | (simp [*]; done))) rfl rfl ?_
  refine HOps.take 14 rfl (by kernel_rfl) (by kernel_rfl) (by kernel_rfl) hS (fun w0 hw0 => Run.load rfl Tryd.isAgg3 (hA0 hw0 8 (.int .i64 ((1 : Nat) : Int)) rfl)) (Up.g rfl (by first | rfl | assumption | exact decide_eq_true (by assumption) | exact decide_eq_false (by assumption) | decide | (simp; done) | (simp; omega) | (simp [*]; done))) rfl rfl ?_
  refine HOps.take 15 rfl (by kernel_rfl) (by kernel_rfl) (by kernel_rfl) hS (fun w0 hw0 => Run.bin rfl rfl (Bin.eqlN _ 1)) (Up.g rfl (by first | rfl | assumption | exact decide_eq_true (by assumption) | exact decide_eq_false (by assumption) | decide | (simp; done) | (simp; omega) | (simp [*]; done))) rfl rfl ?_
  refine HOps.take 16 rfl (by kernel_rfl) (by kernel_rfl) (by kernel_rfl) hS (fun w0 hw0 => Run.pickT rfl rfl (by first | rfl | assumption | exact decide_eq_true (by assumption) | exact decide_eq_false (by assumption) | decide | (simp; done) | (simp; omega) | (simp [*]; done))) trivial rfl rfl ?_
  refine HOps.take 17 rfl (by kernel_rfl) (by kernel_rfl) (by kernel_rfl) hS (fun w0 hw0 => Run.mv rfl) trivial rfl rfl ?_
  refine HOps.take 18 rfl (by kernel_rfl) (by kernel_rfl) (by kernel_rfl) hS (fun w0 hw0 => Run.mv rfl) (Up.g rfl (by first | rfl | assumption | exact decide_eq_true (by assumption) | exact decide_eq_false (by assumption) | decide | (simp; done) | (simp; omega) | (simp [*]; done))) rfl rfl ?_
  refine HOps.take 19 rfl (by kernel_rfl) (by kernel_rfl) (by kernel_rfl) hS (fun w0 hw0 => Run.indexS 1 rfl rfl Tryd.underlying26 Tryd.sizeOf32 (by simp)) (Up.g rfl (by first | rfl | assumption | exact decide_eq_true (by assumption) | exact decide_eq_false (by assumption) | decide | (simp; done) | (simp; omega) | (simp [*]; done))) rfl rfl ?_
  refine HOps.take 20 rfl (by kernel_rfl) (by kernel_rfl) (by kernel_rfl) hS (fun w0 hw0 => Run.fieldAddr rfl Tryd.underlying32 rfl Tryd.sizeOf3 (by decide)) (Up.g rfl (by first | rfl | assumption | exact decide_eq_true (by assumption) | exact decide_eq_false (by assumption) | decide | (simp; done) | (simp; omega) | (simp [*]; done))) rfl rfl ?_
  refine HOps.take 21 rfl (by kernel_rfl) (by kernel_rfl) (by kernel_rfl) hS (fun w0 hw0 => Run.load rfl Tryd.isAgg3 (hA1 hw0 7 (.int .i64 0) rfl)) (Up.g rfl (by first | rfl | assumption | exact decide_eq_true (by assumption) | exact decide_eq_false (by assumption) | decide | (simp; done) | (simp; omega) | (simp [*]; done))) rfl rfl ?_
  refine HOps.take 22 rfl (by kernel_rfl) (by kernel_rfl) (by kernel_rfl) hS (fun w0 hw0 => Run.bin rfl rfl (Bin.eql _ 0)) (Up.g rfl (by first | rfl | assumption | exact decide_eq_true (by assumption) | exact decide_eq_false (by assumption) | decide | (simp; done) | (simp; omega) | (simp [*]; done))) rfl rfl ?_
  refine HOps.take 23 rfl (by kernel_rfl) (by kernel_rfl) (by kernel_rfl) hS (fun w0 hw0 => Run.pickT rfl rfl (by first | rfl | assumption | exact decide_eq_true (by assumption) | exact decide_eq_false (by assumption) | decide | (simp; done) | (simp; omega) | (simp [*]; done))) trivial rfl rfl ?_
  refine HOps.take 24 rfl (by kernel_rfl) (by kernel_rfl) (by kernel_rfl) hS (fun w0 hw0 => Run.mv rfl) trivial rfl rfl ?_
  refine HOps.take 25 rfl (by kernel_rfl) (by kernel_rfl) (by kernel_rfl) hS (fun w0 hw0 => Run.mv rfl) (Up.g rfl (by first | rfl | assumption | exact decide_eq_true (by assumption) | exact decide_eq_false (by assumption) | decide | (simp; done) | (simp; omega) | (simp [*]; done))) rfl rfl ?_
  refine HOps.take 26 rfl (by kernel_rfl) (by kernel_rfl) (by kernel_rfl) hS (fun w0 hw0 => Run.indexS 1 rfl rfl Tryd.underlying26 Tryd.sizeOf32 (by simp)) (Up.g rfl (by first | rfl | assumption | exact decide_eq_true (by assumption) | exact decide_eq_false (by assumption) | decide | (simp; done) | (simp; omega) | (simp [*]; done))) rfl rfl ?_
  refine HOps.take 27 rfl (by kernel_rfl) (by kernel_rfl) (by kernel_rfl) hS (fun w0 hw0 => Run.fieldAddr rfl Tryd.underlying32 rfl Tryd.sizeOf3 (by decide)) (Up.g rfl (by first | rfl | assumption | exact decide_eq_true (by assumption) | exact decide_eq_false (by assumption) | decide | (simp; done) | (simp; omega) | (simp [*]; done))) rfl rfl ?_
  refine HOps.take 28 rfl (by kernel_rfl) (by kernel_rfl) (by kernel_rfl) hS (fun w0 hw0 => Run.load rfl Tryd.isAgg3 (hA1 hw0 0 (.int .i64 ((0 : Nat) : Int)) rfl)) (Up.g rfl (by first | rfl | assumption | exact decide_eq_true (by assumption) | exact decide_eq_false (by assumption) | decide | (simp; done) | (simp; omega) | (simp [*]; done))) rfl rfl ?_
  refine HOps.take 29 rfl (by kernel_rfl) (by kernel_rfl) (by kernel_rfl) hS (fun w0 hw0 => Run.bin rfl rfl (Bin.eqlN _ 0)) (Up.g rfl (by first | rfl | assumption | exact decide_eq_true (by assumption) | exact decide_eq_false (by assumption) | decide | (simp; done) | (simp; omega) | (simp [*]; done))) rfl rfl ?_
  refine HOps.take 30 rfl (by kernel_rfl) (by kernel_rfl) (by kernel_rfl) hS (fun w0 hw0 => Run.pickT rfl rfl (by first | rfl | assumption | exact decide_eq_true (by assumption) | exact decide_eq_false (by assumption) | decide | (simp; done) | (simp; omega) | (simp [*]; done))) trivial rfl rfl ?_
  refine HOps.take 31 rfl (by kernel_rfl) (by kernel_rfl) (by kernel_rfl) hS (fun w0 hw0 => Run.mv rfl) trivial rfl rfl ?_
  refine HOps.take 32 rfl (by kernel_rfl) (by kernel_rfl) (by kernel_rfl) hS (fun w0 hw0 => Run.mv rfl) (Up.g rfl (by first | rfl | assumption | exact decide_eq_true (by assumption) | exact decide_eq_false (by assumption) | decide | (simp; done) | (simp; omega) | (simp [*]; done))) rfl rfl ?_
  refine HOps.take 33 rfl (by kernel_rfl) (by kernel_rfl) (by kernel_rfl) hS (fun w0 hw0 => Run.indexS 1 rfl rfl Tryd.underlying26 Tryd.sizeOf32 (by simp)) (Up.g rfl (by first | rfl | assumption | exact decide_eq_true (by assumption) | exact decide_eq_false (by assumption) | decide | (simp; done) | (simp; omega) | (simp [*]; done))) rfl rfl ?_
  refine HOps.take 34 rfl (by kernel_rfl) (by kernel_rfl) (by kernel_rfl) hS (fun w0 hw0 => Run.fieldAddr rfl Tryd.underlying32 rfl Tryd.sizeOf3 (by decide)) (Up.g rfl (by first | rfl | assumption | exact decide_eq_true (by assumption) | exact decide_eq_false (by assumption) | decide | (simp; done) | (simp; omega) | (simp [*]; done))) rfl rfl ?_
  refine HOps.take 35 rfl (by kernel_rfl) (by kernel_rfl) (by kernel_rfl) hS (fun w0 hw0 => Run.load rfl Tryd.isAgg3 (hA1 hw0 3 (.int .i64 ((53 : Nat) : Int)) rfl)) (Up.g rfl (by first | rfl | assumption | exact decide_eq_true (by assumption) | exact decide_eq_false (by assumption) | decide | (simp; done) | (simp; omega) | (simp [*]; done))) rfl rfl ?_
  refine HOps.take 36 rfl (by kernel_rfl) (by kernel_rfl) (by kernel_rfl) hS (fun w0 hw0 => Run.mv rfl) (Up.g rfl (by first | rfl | assumption | exact decide_eq_true (by assumption) | exact decide_eq_false (by assumption) | decide | (simp; done) | (simp; omega) | (simp [*]; done))) rfl rfl ?_
  refine HOps.take 37 rfl (by kernel_rfl) (by kernel_rfl) (by kernel_rfl) hS (fun w0 hw0 => Run.indexS 1 rfl rfl Tryd.underlying26 Tryd.sizeOf32 (by simp)) (Up.g rfl (by first | rfl | assumption | exact decide_eq_true (by assumption) | exact decide_eq_false (by assumption) | decide | (simp; done) | (simp; omega) | (simp [*]; done))) rfl rfl ?_
  refine HOps.take 38 rfl (by kernel_rfl) (by kernel_rfl) (by kernel_rfl) hS (fun w0 hw0 => Run.fieldAddr rfl Tryd.underlying32 rfl Tryd.sizeOf3 (by decide)) (Up.g rfl (by first | rfl | assumption | exact decide_eq_true (by assumption) | exact decide_eq_false (by assumption) | decide | (simp; done) | (simp; omega) | (simp [*]; done))) rfl rfl ?_
  refine HOps.take 39 rfl (by kernel_rfl) (by kernel_rfl) (by kernel_rfl) hS (fun w0 hw0 => Run.load rfl Tryd.isAgg3 (hA1 hw0 2 (.int .i64 ((52 : Nat) : Int)) rfl)) (Up.g rfl (by first | rfl | assumption | exact decide_eq_true (by assumption) | exact decide_eq_false (by assumption) | decide | (simp; done) | (simp; omega) | (simp [*]; done))) rfl rfl ?_
  refine HOps.take 40 rfl (by kernel_rfl) (by kernel_rfl) (by kernel_rfl) hS (fun w0 hw0 => Run.bin rfl rfl (Bin.sub_i64 _ _ (by omega) (by omega))) (Up.g rfl (by first | rfl | assumption | exact decide_eq_true (by assumption) | exact decide_eq_false (by assumption) | decide | (simp; done) | (simp; omega) | (simp [*]; done))) rfl rfl ?_
  refine HOps.take 41 rfl (by kernel_rfl) (by kernel_rfl) (by kernel_rfl) hS (fun w0 hw0 => Run.bin rfl rfl (Bin.eqlN _ 1)) (Up.g rfl (by first | rfl | assumption | exact decide_eq_true (by assumption) | exact decide_eq_false (by assumption) | decide | (simp; done) | (simp; omega) | (simp [*]; done))) rfl rfl ?_
  refine HOps.take 42 rfl (by kernel_rfl) (by kernel_rfl) (by kernel_rfl) hS (fun w0 hw0 => Run.pickT rfl rfl (by first | rfl | assumption | exact decide_eq_true (by assumption) | exact decide_eq_false (by assumption) | decide | (simp; done) | (simp; omega) | (simp [*]; done))) trivial rfl rfl ?_
  refine HOps.take 43 rfl (by kernel_rfl) (by kernel_rfl) (by kernel_rfl) hS (fun w0 hw0 => Run.mv rfl) trivial rfl rfl ?_
  refine HOps.take 44 rfl (by kernel_rfl) (by kernel_rfl) (by kernel_rfl) hS (fun w0 hw0 => Run.mv rfl) (Up.g rfl (by first | rfl | assumption | exact decide_eq_true (by assumption) | exact decide_eq_false (by assumption) | decide | (simp; done) | (simp; omega) | (simp [*]; done))) rfl rfl ?_
  refine HOps.take 45 rfl (by kernel_rfl) (by kernel_rfl) (by kernel_rfl) hS (fun w0 hw0 => Run.lenS rfl Tryd.underlying26) (Up.g rfl (by first | rfl | assumption | exact decide_eq_true (by assumption) | exact decide_eq_false (by assumption) | decide | (simp; done) | (simp; omega) | (simp [*]; done))) rfl rfl ?_
  refine HOps.take 46 rfl (by kernel_rfl) (by kernel_rfl) (by kernel_rfl) hS (fun w0 hw0 => Run.bin rfl rfl (Bin.eqlN _ 2)) (Up.g rfl (by first | rfl | assumption | exact decide_eq_true (by assumption) | exact decide_eq_false (by assumption) | decide | (simp; done) | (simp; omega) | (simp [*]; done))) rfl rfl ?_
  refine HOps.take 47 rfl (by kernel_rfl) (by kernel_rfl) (by kernel_rfl) hS (fun w0 hw0 => Run.pickT rfl rfl (by first | rfl | assumption | exact decide_eq_true (by assumption) | exact decide_eq_false (by assumption) | decide | (simp; done) | (simp; omega) | (simp [*]; done))) trivial rfl rfl ?_
  refine HOps.take 48 rfl (by kernel_rfl) (by kernel_rfl) (by kernel_rfl) hS (fun w0 hw0 => Run.mv rfl) trivial rfl rfl ?_
  refine HOps.take 49 rfl (by kernel_rfl) (by kernel_rfl) (by kernel_rfl) hS (fun w0 hw0 => Run.mv rfl) (Up.g rfl (by first | rfl | assumption | exact decide_eq_true (by assumption) | exact decide_eq_false (by assumption) | decide | (simp; done) | (simp; omega) | (simp [*]; done))) rfl rfl ?_
  refine HOps.take 50 rfl (by kernel_rfl) (by kernel_rfl) (by kernel_rfl) hS (fun w0 hw0 => Run.lenS rfl Tryd.underlying26) (Up.g rfl (by first | rfl | assumption | exact decide_eq_true (by assumption) | exact decide_eq_false (by assumption) | decide | (simp; done) | (simp; omega) | (simp [*]; done))) rfl rfl ?_
  refine HOps.take 51 rfl (by kernel_rfl) (by kernel_rfl) (by kernel_rfl) hS (fun w0 hw0 => Run.bin rfl rfl (Bin.eqlN _ 1)) (Up.g rfl (by first | rfl | assumption | exact decide_eq_true (by assumption) | exact decide_eq_false (by assumption) | decide | (simp; done) | (simp; omega) | (simp [*]; done))) rfl rfl ?_
  refine HOps.take 52 rfl (by kernel_rfl) (by kernel_rfl) (by kernel_rfl) hS (fun w0 hw0 => Run.pickT rfl rfl (by first | rfl | assumption | exact decide_eq_true (by assumption) | exact decide_eq_false (by assumption) | decide | (simp; done) | (simp; omega) | (simp [*]; done))) trivial rfl rfl ?_
  refine HOps.take 53 rfl (by kernel_rfl) (by kernel_rfl) (by kernel_rfl) hS (fun w0 hw0 => Run.mv rfl) trivial rfl rfl ?_
  refine HOps.take 54 rfl (by kernel_rfl) (by kernel_rfl) (by kernel_rfl) hS (fun w0 hw0 => Run.mv rfl) (Up.g rfl (by first | rfl | assumption | exact decide_eq_true (by assumption) | exact decide_eq_false (by assumption) | decide | (simp; done) | (simp; omega) | (simp [*]; done))) rfl rfl ?_
  refine HOps.take 55 rfl (by kernel_rfl) (by kernel_rfl) (by kernel_rfl) hS (fun w0 hw0 => Run.indexS 0 rfl rfl Tryd.underlying26 Tryd.sizeOf32 (by simp)) (Up.g rfl (by first | rfl | assumption | exact decide_eq_true (by assumption) | exact decide_eq_false (by assumption) | decide | (simp; done) | (simp; omega) | (simp [*]; done))) rfl rfl ?_
  refine HOps.take 56 rfl (by kernel_rfl) (by kernel_rfl) (by kernel_rfl) hS (fun w0 hw0 => Run.fieldAddr rfl Tryd.underlying32 rfl Tryd.sizeOf3 (by decide)) (Up.g rfl (by first | rfl | assumption | exact decide_eq_true (by assumption) | exact decide_eq_false (by assumption) | decide | (simp; done) | (simp; omega) | (simp [*]; done))) rfl rfl ?_
  refine HOps.take 57 rfl (by kernel_rfl) (by kernel_rfl) (by kernel_rfl) hS (fun w0 hw0 => Run.load rfl Tryd.isAgg3 (hC0 hw0 0 (.int .i64 ((0 : Nat) : Int)) rfl)) (Up.g rfl (by first | rfl | assumption | exact decide_eq_true (by assumption) | exact decide_eq_false (by assumption) | decide | (simp; done) | (simp; omega) | (simp [*]; done))) rfl rfl ?_
  refine HOps.take 58 rfl (by kernel_rfl) (by kernel_rfl) (by kernel_rfl) hS (fun w0 hw0 => Run.bin rfl rfl (Bin.eqlN _ 0)) (Up.g rfl (by first | rfl | assumption | exact decide_eq_true (by assumption) | exact decide_eq_false (by assumption) | decide | (simp; done) | (simp; omega) | (simp [*]; done))) rfl rfl ?_
  refine HOps.take 59 rfl (by kernel_rfl) (by kernel_rfl) (by kernel_rfl) hS (fun w0 hw0 => Run.pickT rfl rfl (by first | rfl | assumption | exact decide_eq_true (by assumption) | exact decide_eq_false (by assumption) | decide | (simp; done) | (simp; omega) | (simp [*]; done))) trivial rfl rfl ?_
  refine HOps.take 60 rfl (by kernel_rfl) (by kernel_rfl) (by kernel_rfl) hS (fun w0 hw0 => Run.mv rfl) trivial rfl rfl ?_
  refine HOps.take 61 rfl (by kernel_rfl) (by kernel_rfl) (by kernel_rfl) hS (fun w0 hw0 => Run.mv rfl) (Up.g rfl (by first | rfl | assumption | exact decide_eq_true (by assumption) | exact decide_eq_false (by assumption) | decide | (simp; done) | (simp; omega) | (simp [*]; done))) rfl rfl ?_
  refine HOps.take 62 rfl (by kernel_rfl) (by kernel_rfl) (by kernel_rfl) hS (fun w0 hw0 => Run.indexS 0 rfl rfl Tryd.underlying26 Tryd.sizeOf32 (by simp)) (Up.g rfl (by first | rfl | assumption | exact decide_eq_true (by assumption) | exact decide_eq_false (by assumption) | decide | (simp; done) | (simp; omega) | (simp [*]; done))) rfl rfl ?_
  refine HOps.take 63 rfl (by kernel_rfl) (by kernel_rfl) (by kernel_rfl) hS (fun w0 hw0 => Run.fieldAddr rfl Tryd.underlying32 rfl Tryd.sizeOf3 (by decide)) (Up.g rfl (by first | rfl | assumption | exact decide_eq_true (by assumption) | exact decide_eq_false (by assumption) | decide | (simp; done) | (simp; omega) | (simp [*]; done))) rfl rfl ?_
  refine HOps.take 64 rfl (by kernel_rfl) (by kernel_rfl) (by kernel_rfl) hS (fun w0 hw0 => Run.load rfl Tryd.isAgg3 (hC0 hw0 7 (.int .i64 (-1)) rfl)) (Up.g rfl (by first | rfl | assumption | exact decide_eq_true (by assumption) | exact decide_eq_false (by assumption) | decide | (simp; done) | (simp; omega) | (simp [*]; done))) rfl rfl ?_
  refine HOps.take 65 rfl (by kernel_rfl) (by kernel_rfl) (by kernel_rfl) hS (fun w0 hw0 => Run.bin rfl rfl (Bin.eql _ (-1))) (Up.g rfl (by first | rfl | assumption | exact decide_eq_true (by assumption) | exact decide_eq_false (by assumption) | decide | (simp; done) | (simp; omega) | (simp [*]; done))) rfl rfl ?_
  refine HOps.take 66 rfl (by kernel_rfl) (by kernel_rfl) (by kernel_rfl) hS (fun w0 hw0 => Run.pickT rfl rfl (by first | rfl | assumption | exact decide_eq_true (by assumption) | exact decide_eq_false (by assumption) | decide | (simp; done) | (simp; omega) | (simp [*]; done))) trivial rfl rfl ?_
  refine HOps.take 67 rfl (by kernel_rfl) (by kernel_rfl) (by kernel_rfl) hS (fun w0 hw0 => Run.mv rfl) trivial rfl rfl ?_
  refine HOps.take 68 rfl (by kernel_rfl) (by kernel_rfl) (by kernel_rfl) hS (fun w0 hw0 => Run.pickT rfl rfl (by first | rfl | assumption | exact decide_eq_true (by assumption) | exact decide_eq_false (by assumption) | decide | (simp; done) | (simp; omega) | (simp [*]; done))) trivial rfl rfl ?_
  refine HOps.take 69 rfl (by kernel_rfl) (by kernel_rfl) (by kernel_rfl) hS (fun w0 hw0 => Run.mv rfl) trivial rfl rfl ?_
  refine HOps.take 70 rfl (by kernel_rfl) (by kernel_rfl) (by kernel_rfl) hS (fun w0 hw0 => Run.pickT rfl rfl (by first | rfl | assumption | exact decide_eq_true (by assumption) | exact decide_eq_false (by assumption) | decide | (simp; done) | (simp; omega) | (simp [*]; done))) trivial rfl rfl ?_
  refine HOps.take 71 rfl (by kernel_rfl) (by kernel_rfl) (by kernel_rfl) hS (fun w0 hw0 => Run.asg rfl) trivial rfl rfl ?_
  refine HOps.done (by kernel_rfl) ?_
  refine thenQ_n ?_
  refine VC.sub [(0, _)] (.cons rfl .nil) ?_
  refine VC.ret ?_
  refine end1 rfl ?_
  exact ⟨rfl, K⟩

end Go.Proofs.YtenbjndldenkfaaDoor
