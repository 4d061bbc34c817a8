/-
  The walks of the document's answer for layer 10: Merged.
-/
import Derived.Test.YtebaojedpnnliaaLimR
import Derived.Test.YtebaojedpnnliaaEng8
namespace Go.Proofs.Ytebaojedpnnliaa
open Go.RowKit

theorem fold_len (qs : List (Nat × List Nat)) : ∀ c, (qs.foldl insP c).length = c.length + qs.length := by
  have h1 : ∀ (c : List (Nat × List Nat)) q, (insP c q).length = c.length + 1 := by
    intro c
    induction c with
    | nil => intro q; rfl
    | cons a r ih =>
      intro q
      rw [insP]
      split
      · simp
      · rw [List.length_cons, ih, List.length_cons]
  induction qs with
  | nil => intro c; rfl
  | cons q r ih => intro c; rw [List.foldl_cons, ih, h1, List.length_cons]; omega
theorem flat_cut {α : Type} (f : α → List Value) (sz : Nat) (hf : ∀ a, (f a).length = sz) (l : List α) (a b : Nat) : ((l.flatMap f).drop (a * sz)).take (b * sz) = ((l.drop a).take b).flatMap f := by
  have hd : ∀ (l : List α) a, (l.flatMap f).drop (a * sz) = (l.drop a).flatMap f := by
    intro l
    induction l with
    | nil => intro a; simp
    | cons x r ih =>
      intro a
      cases a with
      | zero => simp
      | succ a =>
        rw [List.flatMap_cons, show (a + 1) * sz = (f x).length + a * sz by rw [hf, Nat.succ_mul]; omega, List.drop_length_add_append, ih]
        rfl
  have ht : ∀ (l : List α) b, (l.flatMap f).take (b * sz) = (l.take b).flatMap f := by
    intro l
    induction l with
    | nil => intro a; simp
    | cons x r ih =>
      intro a
      cases a with
      | zero => simp
      | succ a =>
        rw [List.flatMap_cons, show (a + 1) * sz = (f x).length + a * sz by rw [hf, Nat.succ_mul]; omega, List.take_length_add_append, ih]
        rfl
  rw [hd, ht]
theorem Rd_sub {α : Type} {w : World} {A : Option Addr} {cap sz : Nat} {l : List α} (f : α → List Value) (hf : ∀ a, (f a).length = sz) (h : Rd w sz A l.length (l.flatMap f)) (a b : Nat) (h1 : a ≤ b) (h2 : b ≤ l.length) (hc : l.length ≤ cap) : Rd w sz (cutA A cap a sz) (b - a) (((l.drop a).take (b - a)).flatMap f) := by
  rw [← flat_cut f sz hf]
  exact h.cut h1 h2 hc

set_option maxRecDepth 100000 in
theorem refMerged_spec (n : Nat) (A1 A2 : Option Addr) (c1 c2 : Nat) (ps ls : List PkC) (w : World) (hn : n ≤ 320) (hr1 : Rd w 2 A1 ps.length (ps.flatMap (RC n))) (h1 : ∀ p ∈ ps, RkOk w n p) (hr2 : Rd w 2 A2 ls.length (ls.flatMap (RC n))) (h2 : ∀ p ∈ ls, RkOk w n p)
    (hl1 : ps.length ≤ 10000) (hl2 : ls.length ≤ 10000) (hs : ∀ p ∈ ls, p.count ≤ 2305843009213693951 ∧ p.sy.length ≤ 100000) (G : Nat → Prop) (hG : ∀ x, w.heap.size ≤ x → G x) (hg1 : ∀ p ∈ ps, ∀ x ∈ ob p.A, G x) :
    Calls Try.prog 61 #[.slice A1 ps.length c1, .slice A2 ls.length c2] w fun e w' => ∃ B c qs, e = .returned (.slice B qs.length c) ∧ Rps w' n B c qs ∧ qs.map PkC.abs = (pairsP (ls.map PkC.abs)).foldl insP (ps.map PkC.abs) ∧ Frm [] w w' ∧ (∀ x ∈ ob B, w.heap.size ≤ x) ∧ ∀ p ∈ qs, ∀ x ∈ ob p.A, G x := by
  refine VC.calls (nt := 62) (res := #[.tmp 4]) Try.func61 rfl Try.ntmps61 Try.results61 rfl ?_
  refine VC.seq ?_
  refine VC.region ?_
  refine Ops.r (Run.asg rfl) rfl ?_
  refine Ops.nil ?_
  refine thenQ_n ?_
  refine VC.sub [(0, _), (1, _)] (.cons rfl (.cons rfl .nil)) ?_
  refine VC.seq ?_
  refine VC.region ?_
  refine Ops.m (Does.buildS0 Try.underlying102 Try.sizeOf105) rfl ?_
  rintro _ w1 ⟨rfl, hF1⟩
  have ho1 : Own w1 105 2 (some ⟨w.heap.size, 0, none⟩) 0 0 [] := Own.of_blk (n := 0) hF1.blk rfl (by decide)
  have hup1 : ∀ x ∈ ob (some (⟨w.heap.size, 0, none⟩ : Addr)), w.heap.size ≤ x := fun x hx => by simp [ob] at hx; omega
  refine Ops.r (Run.mv rfl) rfl ?_
  refine Ops.m (Does.app rfl rfl Try.underlying102 (info105) rfl (by decide) ho1 (hr1.frm hF1.frm (by simp)) (flat_one (RC n) (RC_one n) ps) (by omega) (by omega)) rfl ?_
  rintro _ w2 ⟨B2, cb2, rfl, ho2, hf2, hob2⟩
  rw [Nat.zero_add]
  rw [Nat.zero_add, List.nil_append] at ho2
  have hfr2 := hF1.frm.own hf2 hup1
  have hP2 : Rps w2 n B2 cb2 ps := ⟨ho2, fun p hp => (h1 p hp).frm hfr2 (by simp)⟩
  have hu2 := up_app hup1 hob2 hF1.frm.size
  refine Ops.r (Run.asg rfl) rfl ?_
  refine Ops.nil ?_
  refine thenQ_n ?_
  refine VC.sub [(1, _), (5, _)] (.cons rfl (.cons rfl .nil)) ?_
  refine VC.seq ?_
  refine VC.seq ?_
  refine VC.region ?_
  refine Ops.r (v := .int .i64 ((0 : Nat) : Int)) (Run.asg rfl) rfl ?_
  refine Ops.nil ?_
  refine thenQ_n ?_
  refine VC.block ?_
  refine VC.loop (σ := Nat × Option Addr × Nat × List PkC) (fun s => [(1, .slice A2 ls.length c2), (5, .slice s.2.1 s.2.2.2.length s.2.2.1), (6, .int .i64 ((2 * s.1 : Nat) : Int))]) (fun s wr => 2 * s.1 ≤ ls.length + 1 ∧ Rps wr n s.2.1 s.2.2.1 s.2.2.2 ∧ s.2.2.2.map PkC.abs = (pairsP ((ls.map PkC.abs).take (2 * s.1))).foldl insP (ps.map PkC.abs) ∧ Frm [] w wr ∧ (∀ x ∈ ob s.2.1, w.heap.size ≤ x) ∧ ∀ p ∈ s.2.2.2, ∀ x ∈ ob p.A, G x) (fun s => ls.length + 2 - 2 * s.1) (0, B2, cb2, ps) (.cons rfl (.cons rfl (.cons rfl .nil))) ⟨by omega, hP2, rfl, hfr2, hu2, hg1⟩ ?_
  rintro ⟨k, B, c, qs⟩ w7 ⟨hk, hP, hq, hfr, huB, hqg⟩
  dsimp only at hk hP hq hfr huB hqg ⊢
  have hql : qs.length ≤ ps.length + ls.length := by
    have h5 := congrArg List.length hq
    rw [List.length_map, fold_len, List.length_map, pairsP_len, List.length_take, List.length_map] at h5
    omega
  refine VC.seq ?_
  refine VC.seq ?_
  refine VC.region ?_
  refine Ops.r (Run.mv rfl) rfl ?_
  refine Ops.r (Run.bin rfl rfl (Bin.add_i64 _ 1 (by omega))) rfl ?_
  refine Ops.r (Run.mv rfl) rfl ?_
  refine Ops.r (Run.lenS rfl Try.underlying102) rfl ?_
  refine Ops.r (Run.bin rfl rfl (Bin.lssN _ _)) rfl ?_
  refine Ops.nil ?_
  refine thenQ_n ?_
  refine VC.sub [(1, _), (5, _), (6, _), (17, _)] (.cons rfl (.cons rfl (.cons rfl (.cons rfl .nil)))) ?_
  refine VC.condD rfl (fun hc1 => ?_) (fun hc1 => ?_)
  · skip
    have hkl : 2 * k < ls.length := by omega
    obtain ⟨ad, rfl, hea⟩ := hr2.elem hkl
    obtain ⟨ad2, had, heb⟩ := hr2.elem hc1
    obtain rfl : ad = ad2 := by injection had
    have hpt := pairsP_take (ls.map PkC.abs) k (by simpa using hc1)
    rw [List.getElem_map, List.getElem_map] at hpt
    have ha := h2 _ (List.getElem_mem hkl)
    have hb := h2 _ (List.getElem_mem hc1)
    have hsa := hs _ (List.getElem_mem hkl)
    have hsb := hs _ (List.getElem_mem hc1)
    rw [flat_get (RC n) 2 (RC_len n) ls _ hkl] at hea
    rw [flat_get (RC n) 2 (RC_len n) ls _ hc1] at heb
    generalize ls[2 * k] = a at *
    generalize ls[2 * k + 1] = b at *
    refine VC.skip ?_
    refine thenQ_n ?_
    refine VC.sub [(1, _), (5, _), (6, _)] (.cons rfl (.cons rfl (.cons rfl .nil))) ?_
    refine VC.seq ?_
    refine VC.block ?_
    refine VC.seq ?_
    refine VC.held (fun v => Frm [] w v) (by kernel_rfl) ?_
    have hS : (fun v => Frm [] w v) w7.drew := hfr.drawn (Drawn.drew _)
    have hPd : Rps w7.drew n B c qs := hP.frm (Drawn.drew _).frm (by simp) (fun _ _ _ _ => by simp)
    refine HOps.take 0 rfl (by kernel_rfl) (by kernel_rfl) (by kernel_rfl) hS (fun w0 hw0 => Run.mv rfl) trivial rfl rfl ?_
    refine HOps.take 1 rfl (by kernel_rfl) (by kernel_rfl) (by kernel_rfl) hS (fun w0 hw0 => Run.mv rfl) trivial rfl rfl ?_
    refine HOps.take 2 rfl (by kernel_rfl) (by kernel_rfl) (by kernel_rfl) hS (fun w0 hw0 => Run.indexS _ rfl rfl Try.underlying102 Try.sizeOf105 (by omega)) trivial rfl rfl ?_
    refine HOps.take 3 rfl (by kernel_rfl) (by kernel_rfl) (by kernel_rfl) hS (fun w0 hw0 => Run.loadA rfl Try.isAgg105 Try.sizeOf105 (fun j v h => hw0.cell (hea j v h) (by simp)) (by first | rfl | (simp; done))) trivial rfl rfl ?_
    refine HOps.take 4 rfl (by kernel_rfl) (by kernel_rfl) (by kernel_rfl) hS (fun w0 hw0 => Run.mv rfl) trivial rfl rfl ?_
    refine HOps.take 5 rfl (by kernel_rfl) (by kernel_rfl) (by kernel_rfl) hS (fun w0 hw0 => Run.mv rfl) trivial rfl rfl ?_
    refine HOps.take 6 rfl (by kernel_rfl) (by kernel_rfl) (by kernel_rfl) hS (fun w0 hw0 => Run.bin rfl rfl (Bin.add_i64 _ 1 (by omega))) trivial rfl rfl ?_
    refine HOps.take 7 rfl (by kernel_rfl) (by kernel_rfl) (by kernel_rfl) hS (fun w0 hw0 => Run.indexS _ rfl rfl Try.underlying102 Try.sizeOf105 (by omega)) trivial rfl rfl ?_
    refine HOps.take 8 rfl (by kernel_rfl) (by kernel_rfl) (by kernel_rfl) hS (fun w0 hw0 => Run.loadA rfl Try.isAgg105 Try.sizeOf105 (fun j v h => hw0.cell (heb j v h) (by simp)) (by first | rfl | (simp; done))) trivial rfl rfl ?_
    refine HOps.cm (fun u v w' => ∃ A4 c4 gp, u = .agg (RC n ⟨a.count + b.count, A4, c4, a.sy ++ b.sy⟩).toArray ∧ v = .pointer (some ⟨gp, 0, none⟩) ∧ Blk w' gp 105 (Value.agg #[.int .i64 0, .slice none 0 0]).cells ∧ RkOk w' n ⟨a.count + b.count, A4, c4, a.sy ++ b.sy⟩ ∧ Frm [] w7.drew w' ∧ (∀ x ∈ ob A4, w.heap.size ≤ x) ∧ w7.heap.size ≤ gp) 9 10 (l2 := [9, 10]) rfl rfl (by kernel_rfl) (by simp) (by simp) (by kernel_rfl) (by kernel_rfl) (by kernel_rfl) rfl rfl rfl rfl rfl rfl rfl (Enters.fn (evs.cons rfl (evs.cons rfl evs.nil)) Try.call67) (two_spec n a b _ hn (ha.frm hS (by simp)) (hb.frm hS (by simp)) (by omega) (by omega)) ?_ (Does.alloc zero105) ?_ ?_
    · skip
      rintro e w4 ⟨A4, c4, rfl, hp4, hf4, hA4⟩
      have hS4 := Frm.own hS hf4 (by simp)
      refine ⟨_, rfl, hS4, (Does.alloc zero105).mono ?_⟩
      rintro _ w5 ⟨rfl, hF5⟩
      have hz1 : w7.heap.size ≤ w4.heap.size := hf4.size
      exact ⟨hS4.own hF5.frm (by simp), A4, c4, _, rfl, rfl, hF5.blk, hp4.frm hF5.frm (by simp), hf4.own hF5.frm (by simp), fun x hx => Nat.le_trans hfr.size (hA4 x hx), hz1⟩
    · skip
      rintro _ w4 ⟨rfl, hF4⟩
      have hS4 := Frm.own hS hF4.frm (by simp)
      refine ⟨hS4, Enters.fn (evs.cons rfl (evs.cons rfl evs.nil)) Try.call67, (two_spec n a b _ hn (ha.frm hS4 (by simp)) (hb.frm hS4 (by simp)) (by omega) (by omega)).mono ?_⟩
      rintro e w5 ⟨A5, c5, rfl, hp5, hf5, hA5⟩
      have hz1 : w7.heap.size ≤ w4.heap.size := hF4.frm.size
      exact ⟨_, rfl, hS4.own hf5 (by simp), A5, c5, _, rfl, rfl, hF4.blk.frm hf5 (by simp), hp5, hF4.frm.own hf5 (by simp), fun x hx => Nat.le_trans hfr.size (Nat.le_trans hz1 (hA5 x hx)), Nat.le_refl _⟩
    rintro _ _ w5 ⟨A4, c4, gp, rfl, rfl, hbp, hpk5, hf57, hA4, hgp⟩
    have hsz7 := hfr.size
    generalize hpk : (⟨a.count + b.count, A4, c4, a.sy ++ b.sy⟩ : PkC) = p at *
    have hpa : p.abs = both2 a.abs b.abs := by subst hpk; rfl
    have hpc : p.count = a.count + b.count := by subst hpk; rfl
    have hpG : ∀ x ∈ ob p.A, w.heap.size ≤ x := by subst hpk; exact hA4
    refine HOps.st 11 rfl (by kernel_rfl) (Acts.storeA rfl rfl Try.sizeOf105 hbp rfl (RC_one _ _)) trivial rfl ?_
    rintro w6 ⟨hb6, hf6, hs6⟩
    have hpgp : ∀ x ∈ ob p.A, x ∉ [gp] := fun x hx h5 => by simp at h5; subst h5; exact Own.ne_blk hpk5 hbp (by decide) hx
    have hpk6 := hpk5.frm hf6 hpgp
    have hf67 : Frm [] w7.drew w6 := hf57.own hf6 (fun x hx => by simp at hx; subst hx; exact hgp)
    have hP6 := hPd.frm hf67 (by simp) (fun _ _ _ _ => by simp)
    have hfr6 : Frm [] w w6 := hS.own hf67 (by simp)
    have hb6 : Blk w6 gp 105 (RC n p).toArray := hb6
    refine ⟨hfr6, ?_⟩
    refine HOps.done (by kernel_rfl) ?_
    refine thenQ_n ?_
    refine VC.sub [(1, _), (5, _), (6, _), (7, _)] (.cons rfl (.cons rfl (.cons rfl (.cons rfl .nil)))) ?_
    refine VC.seq ?_
    refine VC.region ?_
    refine Ops.r (Run.mv rfl) rfl ?_
    refine Ops.r (Run.lenS rfl Try.underlying102) rfl ?_
    refine Ops.r (Run.asg rfl) rfl ?_
    refine Ops.nil ?_
    refine thenQ_n ?_
    refine VC.sub [(1, _), (5, _), (6, _), (7, _), (8, _)] (.cons rfl (.cons rfl (.cons rfl (.cons rfl (.cons rfl .nil))))) ?_
    refine VC.seq ?_
    refine VC.block ?_
    refine VC.loop (σ := Nat) (fun s => [(1, .slice (some ad) ls.length c2), (5, .slice B qs.length c), (6, .int .i64 ((2 * k : Nat) : Int)), (7, .pointer (some ⟨gp, 0, none⟩)), (8, .int .i64 ((s : Nat) : Int))]) (fun s wr => s ≤ qs.length ∧ (∀ x ∈ (qs.map PkC.abs).drop s, p.count < x.1) ∧ Drawn w6 wr) (fun s => s) qs.length (.cons rfl (.cons rfl (.cons rfl (.cons rfl (.cons rfl .nil))))) ⟨by omega, by rw [List.drop_eq_nil_of_le (by simp)]; simp, Drawn.refl _⟩ ?_
    rintro at0 wr ⟨hat, habv, hd⟩
    have hd2 := hd.trans (Drawn.drew wr)
    refine VC.seq ?_
    refine VC.seq ?_
    refine VC.splitR [(1, .slice (some ad) ls.length c2), (5, .slice B qs.length c), (6, .int .i64 ((2 * k : Nat) : Int)), (7, .pointer (some ⟨gp, 0, none⟩)), (8, .int .i64 ((at0 : Nat) : Int))] (fun w1 => w1 = wr.drew) 44 (.bool (decide (0 < at0 ∧ p.count < (qs.getD (at0 - 1) PkC.zero).count))) ?_ ?_
    · refine VC.still (by kernel_rfl) (by kernel_rfl) ?_
      refine SOps.r (Run.mv rfl) rfl ?_
      refine SOps.r (Run.bin rfl rfl (Bin.gtrN _ 0)) rfl ?_
      by_cases hs33 : 0 < at0
      · skip
        have ha1 : at0 - 1 < qs.length := by omega
        obtain ⟨adq, rfl, heq⟩ := (hP6.1.rd.drawn hd2).elem ha1
        rw [flat_get (RC n) 2 (RC_len n) qs _ ha1, show qs[at0 - 1] = qs.getD (at0 - 1) PkC.zero by simp [List.getD, List.getElem?_eq_getElem ha1]] at heq
        refine SOps.r (Run.mv rfl) rfl ?_
        refine SOps.rg rfl (by first | rfl | assumption | exact decide_eq_true (by assumption) | exact decide_eq_false (by assumption) | decide | (simp; done) | (simp; omega) | (simp [*]; done)) (Run.mv rfl) rfl ?_
        refine SOps.rg rfl (by first | rfl | assumption | exact decide_eq_true (by assumption) | exact decide_eq_false (by assumption) | decide | (simp; done) | (simp; omega) | (simp [*]; done)) (Run.mv rfl) rfl ?_
        refine SOps.rg rfl (by first | rfl | assumption | exact decide_eq_true (by assumption) | exact decide_eq_false (by assumption) | decide | (simp; done) | (simp; omega) | (simp [*]; done)) (Run.bin rfl rfl (Bin.sub_i64 _ 1 (by omega) (by omega))) rfl ?_
        refine SOps.rg rfl (by first | rfl | assumption | exact decide_eq_true (by assumption) | exact decide_eq_false (by assumption) | decide | (simp; done) | (simp; omega) | (simp [*]; done)) (Run.indexS _ rfl rfl Try.underlying102 Try.sizeOf105 (by omega)) rfl ?_
        refine SOps.rg rfl (by first | rfl | assumption | exact decide_eq_true (by assumption) | exact decide_eq_false (by assumption) | decide | (simp; done) | (simp; omega) | (simp [*]; done)) (Run.fieldAddr rfl Try.underlying105 rfl Try.sizeOf3 (by decide)) rfl ?_
        refine SOps.rg rfl (by first | rfl | assumption | exact decide_eq_true (by assumption) | exact decide_eq_false (by assumption) | decide | (simp; done) | (simp; omega) | (simp [*]; done)) (Run.load rfl Try.isAgg3 (heq 0 _ rfl)) rfl ?_
        refine SOps.rg rfl (by first | rfl | assumption | exact decide_eq_true (by assumption) | exact decide_eq_false (by assumption) | decide | (simp; done) | (simp; omega) | (simp [*]; done)) (Run.fieldAddr rfl Try.underlying105 rfl Try.sizeOf3 (by decide)) rfl ?_
        refine SOps.rg rfl (by first | rfl | assumption | exact decide_eq_true (by assumption) | exact decide_eq_false (by assumption) | decide | (simp; done) | (simp; omega) | (simp [*]; done)) (Run.load rfl Try.isAgg3 ((hb6.drawn hd2).cell 0)) rfl ?_
        refine SOps.rg rfl (by first | rfl | assumption | exact decide_eq_true (by assumption) | exact decide_eq_false (by assumption) | decide | (simp; done) | (simp; omega) | (simp [*]; done)) (Run.bin rfl rfl (Bin.gtrN _ _)) rfl ?_
        by_cases hs43 : p.count < (qs.getD (at0 - 1) PkC.zero).count
        · skip
          refine SOps.r (Run.pickT rfl rfl (by first | rfl | assumption | exact decide_eq_true (by assumption) | exact decide_eq_false (by assumption) | decide | (simp; done) | (simp; omega) | (simp [*]; done))) rfl ?_
          refine SOps.nil ?_
          refine thenQ_n ⟨(.cons (congrArg (fun b => some (Value.bool b)) (by grind)) (.cons rfl (.cons rfl (.cons rfl (.cons rfl (.cons rfl .nil)))))), (rfl)⟩
        · skip
          refine SOps.r (Run.pickT rfl rfl (by first | rfl | assumption | exact decide_eq_true (by assumption) | exact decide_eq_false (by assumption) | decide | (simp; done) | (simp; omega) | (simp [*]; done))) rfl ?_
          refine SOps.nil ?_
          refine thenQ_n ⟨(.cons (congrArg (fun b => some (Value.bool b)) (by grind)) (.cons rfl (.cons rfl (.cons rfl (.cons rfl (.cons rfl .nil)))))), (rfl)⟩
      · skip
        refine SOps.r (Run.mv rfl) rfl ?_
        refine SOps.sk rfl (by first | rfl | assumption | exact decide_eq_true (by assumption) | exact decide_eq_false (by assumption) | decide | (simp; done) | (simp; omega) | (simp [*]; done)) rfl ?_
        refine SOps.sk rfl (by first | rfl | assumption | exact decide_eq_true (by assumption) | exact decide_eq_false (by assumption) | decide | (simp; done) | (simp; omega) | (simp [*]; done)) rfl ?_
        refine SOps.sk rfl (by first | rfl | assumption | exact decide_eq_true (by assumption) | exact decide_eq_false (by assumption) | decide | (simp; done) | (simp; omega) | (simp [*]; done)) rfl ?_
        refine SOps.sk rfl (by first | rfl | assumption | exact decide_eq_true (by assumption) | exact decide_eq_false (by assumption) | decide | (simp; done) | (simp; omega) | (simp [*]; done)) rfl ?_
        refine SOps.sk rfl (by first | rfl | assumption | exact decide_eq_true (by assumption) | exact decide_eq_false (by assumption) | decide | (simp; done) | (simp; omega) | (simp [*]; done)) rfl ?_
        refine SOps.sk rfl (by first | rfl | assumption | exact decide_eq_true (by assumption) | exact decide_eq_false (by assumption) | decide | (simp; done) | (simp; omega) | (simp [*]; done)) rfl ?_
        refine SOps.sk rfl (by first | rfl | assumption | exact decide_eq_true (by assumption) | exact decide_eq_false (by assumption) | decide | (simp; done) | (simp; omega) | (simp [*]; done)) rfl ?_
        refine SOps.sk rfl (by first | rfl | assumption | exact decide_eq_true (by assumption) | exact decide_eq_false (by assumption) | decide | (simp; done) | (simp; omega) | (simp [*]; done)) rfl ?_
        refine SOps.sk rfl (by first | rfl | assumption | exact decide_eq_true (by assumption) | exact decide_eq_false (by assumption) | decide | (simp; done) | (simp; omega) | (simp [*]; done)) rfl ?_
        refine SOps.r (Run.pickF rfl rfl (by first | rfl | assumption | exact decide_eq_true (by assumption) | exact decide_eq_false (by assumption) | decide | (simp; done) | (simp; omega) | (simp [*]; done))) rfl ?_
        refine SOps.nil ?_
        refine thenQ_n ⟨(.cons (congrArg (fun b => some (Value.bool b)) (by grind)) (.cons rfl (.cons rfl (.cons rfl (.cons rfl (.cons rfl .nil)))))), (rfl)⟩
    · intro Γ w8 hΓ hw8
      refine thenQ_n (VC.sub _ hΓ ?_)
      refine VC.condD rfl (fun hc2 => ?_) (fun hc2 => ?_)
      · skip
        subst hw8
        have ha1 : at0 - 1 < qs.length := by omega
        refine VC.skip ?_
        refine thenQ_n ?_
        refine VC.sub [(1, _), (5, _), (6, _), (7, _), (8, _)] (.cons rfl (.cons rfl (.cons rfl (.cons rfl (.cons rfl .nil))))) ?_
        refine VC.block ?_
        refine VC.region ?_
        refine Ops.r (Run.mv rfl) rfl ?_
        refine Ops.r (Run.bin rfl rfl (Bin.sub_i64 _ 1 (by omega) (by omega))) rfl ?_
        refine Ops.r (Run.asg rfl) rfl ?_
        refine Ops.nil ?_
        refine blockQ_n (thenQ_n ⟨(at0 - 1), (.cons rfl (.cons rfl (.cons rfl (.cons rfl (.cons rfl .nil))))), ?_, ?_⟩)
        · skip
          refine ⟨by omega, fun x hx => ?_, hd2⟩
          rw [List.drop_eq_getElem_cons (by rw [List.length_map]; exact ha1)] at hx
          rcases List.mem_cons.1 hx with rfl | hx
          · rw [List.getElem_map]
            have h5 := hc2.2
            simp only [List.getD, List.getElem?_eq_getElem ha1, Option.getD_some] at h5
            exact h5
          · exact habv x (by rw [show at0 - 1 + 1 = at0 by omega] at hx; exact hx)
        · skip
          first | omega | (dsimp only; omega)
      · skip
        subst hw8
        have hfx := hfr6.drawn hd2
        have hbx := hb6.drawn hd2
        have hpx := hpk6.frm hd2.frm (by simp)
        have hPx := hP6.frm hd2.frm (by simp) (fun _ _ _ _ => by simp)
        have hqc := hPx.1.le
        have hszx := hfx.size
        generalize wr.drew = wx at *
        have hins : insP (qs.map PkC.abs) p.abs = (qs.take at0 ++ p :: qs.drop at0).map PkC.abs := by
          rw [List.map_append, List.map_cons, List.map_take, List.map_drop, ← insP_at (X := (qs.map PkC.abs).take at0) (Y := (qs.map PkC.abs).drop at0) habv ?_, List.take_append_drop]
          by_cases h0 : at0 = 0
          · exact .inl (by rw [h0]; rfl)
          · right
            have ha1 : at0 - 1 < qs.length := by omega
            refine ⟨(qs.getD (at0 - 1) PkC.zero).abs, ?_, ?_⟩
            · rw [List.getLast?_eq_getElem?, List.length_take, List.length_map, Nat.min_eq_left hat, List.getElem?_take_of_lt (by omega), List.getElem?_map, List.getElem?_eq_getElem ha1]
              simp [List.getD, List.getElem?_eq_getElem ha1]
            · have h5 : ¬ p.count < (qs.getD (at0 - 1) PkC.zero).count := fun h6 => hc2 ⟨by omega, h6⟩
              show (qs.getD (at0 - 1) PkC.zero).count ≤ p.count
              omega
        refine VC.exit ?_
        refine thenQ_x (thenQ_x (blockQ_x ?_))
        refine thenQ_n ?_
        refine VC.sub [(1, _), (5, _), (6, _), (7, _), (8, _)] (.cons rfl (.cons rfl (.cons rfl (.cons rfl (.cons rfl .nil))))) ?_
        refine VC.seq ?_
        refine VC.region ?_
        refine Ops.r (Run.asg rfl) rfl ?_
        refine Ops.nil ?_
        refine thenQ_n ?_
        refine VC.seq ?_
        refine VC.region ?_
        refine Ops.r (Run.mv rfl) rfl ?_
        refine Ops.r (Run.mv rfl) rfl ?_
        refine Ops.r (Run.mv rfl) rfl ?_
        refine Ops.r (Run.sliceS 0 _ rfl Try.underlying102 Try.sizeOf105 evB.none_ (evB.some_ rfl) (by omega) (by omega)) rfl ?_
        refine Ops.m (Does.app rfl rfl Try.underlying102 (info105) rfl (by decide) (Own.nil _ _ _) (Rd_sub (RC n) (RC_len n) hPx.1.rd 0 at0 (by omega) hat hqc) (flat_one (RC n) (RC_one n) _) (by omega) (by omega)) rfl ?_
        rintro _ w9 ⟨B9, c9, rfl, ho9, hf9, hob9⟩
        have hfx9 : Frm [] wx w9 := (Frm.refl [] wx).own hf9 (by simp [ob])
        have hu9 : ∀ x ∈ ob B9, wx.heap.size ≤ x := up_app up_nil hob9 (Nat.le_refl _)
        refine Ops.r (Run.asg rfl) rfl ?_
        refine Ops.nil ?_
        refine thenQ_n ?_
        refine VC.sub [(1, _), (5, _), (6, _), (7, _), (8, _), (9, _)] (.cons rfl (.cons rfl (.cons rfl (.cons rfl (.cons rfl (.cons rfl .nil)))))) ?_
        refine VC.seq ?_
        refine VC.region ?_
        refine Ops.r (Run.mv rfl) rfl ?_
        refine Ops.r (Run.loadA rfl Try.isAgg105 Try.sizeOf105 ((hbx.frm hfx9 (by simp)).cells) (by first | rfl | (simp; done))) rfl ?_
        refine Ops.m (Does.buildS1 rfl Try.underlying102 Try.sizeOf105 zero105 (by decide) (by decide) rfl rfl) rfl ?_
        rintro _ w10 ⟨rfl, hF10⟩
        have ho10 := ho9.frm hF10.frm (by simp)
        have hfx10 := hfx9.own hF10.frm (by simp)
        have hrd10 : Rd w10 2 (some ⟨w9.heap.size, 0, none⟩) 1 (RC n p) := Rd.of_blk (n := 1) (size := 2) hF10.blk rfl
        refine Ops.m (Does.app rfl rfl Try.underlying102 (info105) rfl (by decide) ho10 hrd10 (RC_one _ _) (by omega) (by omega)) rfl ?_
        rintro _ w11 ⟨B11, c11, rfl, ho11, hf11, hob11⟩
        have hfx11 := hfx10.own hf11 hu9
        have hu11 := up_app hu9 hob11 hfx10.size
        refine Ops.r (Run.asg rfl) rfl ?_
        refine Ops.nil ?_
        refine thenQ_n ?_
        refine VC.sub [(1, _), (5, _), (6, _), (8, _), (9, _)] (.cons rfl (.cons rfl (.cons rfl (.cons rfl (.cons rfl .nil))))) ?_
        refine VC.region ?_
        refine Ops.r (Run.mv rfl) rfl ?_
        refine Ops.r (Run.mv rfl) rfl ?_
        refine Ops.r (Run.mv rfl) rfl ?_
        refine Ops.r (Run.sliceS _ _ rfl Try.underlying102 Try.sizeOf105 (evB.some_ rfl) evB.none_ (by omega) (by omega)) rfl ?_
        refine Ops.m (Does.app rfl rfl Try.underlying102 (info105) rfl (by decide) ho11 ((Rd_sub (RC n) (RC_len n) hPx.1.rd at0 qs.length hat (Nat.le_refl _) hqc).frm hfx11 (by simp)) (flat_one (RC n) (RC_one n) _) (by omega) (by omega)) rfl ?_
        rintro _ w12 ⟨B12, c12, rfl, ho12, hf12, hob12⟩
        have hfx12 := hfx11.own hf12 hu11
        have hu12 := up_app hu11 hob12 hfx11.size
        have hlen12 : (qs.take at0 ++ p :: qs.drop at0).length = 0 + (at0 - 0) + 1 + (qs.length - at0) := by simp; omega
        refine Ops.r (Run.asg rfl) rfl ?_
        refine Ops.nil ?_
        refine blockQ_n (thenQ_n ?_)
        refine VC.sub [(1, _), (5, _), (6, _)] (.cons rfl (.cons rfl (.cons rfl .nil))) ?_
        refine VC.region ?_
        refine Ops.r (Run.mv rfl) rfl ?_
        refine Ops.r (Run.bin rfl rfl (Bin.add_i64 _ 2 (by omega))) rfl ?_
        refine Ops.r (Run.asg rfl) rfl ?_
        refine Ops.nil ?_
        refine thenQ_n ⟨(k + 1, B12, c12, qs.take at0 ++ p :: qs.drop at0), (.cons rfl (.cons (by rw [hlen12]; rfl) (.cons (congrArg (fun z : Nat => some (Value.int .i64 (z : Int))) (by omega)) .nil))), ?_, ?_⟩
        · skip
          have hmem : ∀ q ∈ qs.take at0 ++ p :: qs.drop at0, q ∈ qs ∨ q = p := by
            intro q hq
            rcases List.mem_append.1 hq with h5 | h5
            · exact .inl (List.mem_of_mem_take h5)
            · rcases List.mem_cons.1 h5 with h5 | h5
              · exact .inr h5
              · exact .inl (List.mem_of_mem_drop h5)
          refine ⟨by dsimp only; omega, ⟨?_, ?_⟩, ?_, hfx.own hfx12 (by simp), fun x hx => Nat.le_trans hszx (hu12 x hx), ?_⟩
          · dsimp only
            rw [hlen12]
            have e5 : (qs.take at0 ++ p :: qs.drop at0).flatMap (RC n) = [] ++ ((qs.drop 0).take (at0 - 0)).flatMap (RC n) ++ RC n p ++ ((qs.drop at0).take (qs.length - at0)).flatMap (RC n) := by
              rw [List.drop_zero, Nat.sub_zero, List.take_of_length_le (l := qs.drop at0) (by simp), List.flatMap_append, List.flatMap_cons]
              simp
            rw [e5]
            exact ho12
          · intro q hq
            rcases hmem q hq with h5 | rfl
            · exact (hPx.2 q h5).frm hfx12 (by simp)
            · exact hpx.frm hfx12 (by simp)
          · dsimp only
            rw [← hins, hq, show 2 * (k + 1) = 2 * k + 2 by omega, hpt, List.foldl_append, hpa]
            rfl
          · intro q hq x hx
            rcases hmem q hq with h5 | rfl
            · exact hqg q h5 x hx
            · exact hG x (hpG x hx)
        · skip
          first | omega | (dsimp only; omega)
  · skip
    have hqa : qs.map PkC.abs = (pairsP (ls.map PkC.abs)).foldl insP (ps.map PkC.abs) := by
      rw [hq]
      congr 1
      by_cases h5 : 2 * k ≤ ls.length
      · exact pairsP_all _ (2 * k) (by simp; omega) (by simp; omega) (by omega)
      · rw [List.take_of_length_le (by simp; omega)]
    refine VC.exit ?_
    refine thenQ_x (thenQ_x (blockQ_x ?_))
    refine thenQ_n ?_
    refine VC.sub [(5, _)] (.cons rfl .nil) ?_
    refine VC.seq ?_
    refine VC.region ?_
    refine Ops.r (Run.mv rfl) rfl ?_
    refine Ops.r (Run.asg rfl) rfl ?_
    refine Ops.nil ?_
    refine thenQ_n ?_
    refine VC.sub [(4, _)] (.cons rfl .nil) ?_
    refine VC.ret ?_
    refine end1 rfl ?_
    exact ⟨B, c, qs, rfl, hP, hqa, hfr, huB, hqg⟩

end Go.Proofs.Ytebaojedpnnliaa
