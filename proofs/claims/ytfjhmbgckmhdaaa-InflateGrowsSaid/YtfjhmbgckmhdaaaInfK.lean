/-
  The walks of inflate: tokens.
-/
import Derived.Test.YtfjhmbgckmhdaaaInfD
namespace Go.Proofs.Ytfjhmbgckmhdaaa
open Go.RowKit

theorem long_b : ∀ i, i < 29 → (longT.getD i (0, 0)).2 ≤ 5 ∧ (longT.getD i (0, 0)).1 ≤ 258 := by decide
theorem way_b : ∀ i, i < 30 → (wayT.getD i (0, 0)).2 ≤ 13 ∧ 1 ≤ (wayT.getD i (0, 0)).1 ∧ (wayT.getD i (0, 0)).1 ≤ 24577 := by decide
theorem nb_at {w : World} {A : Option Addr} {l : List Nat} {k : Nat} (h : Rd w 1 A l.length (NB l)) (hk : k < l.length) : ∃ ad, A = some ad ∧ w.cell? (ad.add k) = some (.int .u8 ((l.getD k 0 : Nat) : Int)) := by
  obtain ⟨ad, u, hA, hu, hc⟩ := h.at1 hk
  refine ⟨ad, hA, ?_⟩
  rw [hc]
  simp [NB, hk] at hu
  rw [← hu]
  simp [List.getD, List.getElem?_eq_getElem hk]
theorem copyF_len : ∀ (n d : Nat) (out : List Nat), (copyF n d out).length = out.length + n
  | 0, _, _ => rfl
  | n + 1, d, out => by rw [copyF, copyF_len n d]; simp; omega
theorem IsX.ob_ne {w : World} {gx gr : Nat} {Ar : Option Addr} {bs : List Nat} {p : Nat} {A : Option Addr} {c : Nat} {out : List Nat} {most g : Nat} (h : IsX w gx gr Ar bs p A c out most) (hg : w.heap.size ≤ g) : ∀ x ∈ gx :: gr :: (ob A ++ ob Ar), x ∉ [g] := fun x hx h5 => by
  have hl := h.lt
  simp at h5
  subst h5
  rcases List.mem_cons.1 hx with h6 | hx
  · have := hl.1; omega
  rcases List.mem_cons.1 hx with h6 | hx
  · have := hl.2.1; omega
  rcases List.mem_append.1 hx with hx | hx
  · have := hl.2.2.1 _ hx; omega
  · have := hl.2.2.2 _ hx; omega

set_option maxRecDepth 100000 in
theorem itoken_spec (gx gr p ga gb : Nat) (Ar A Ba Bb : Option Addr) (ca cb : Nat) (a b : List Int) (bs : List Nat) (c : Nat) (out : List Nat) (most : Nat) (w : World) (hna : newE a = 0) (hnb : newE b = 0) (hmo : most ≤ 1000000) (hbs : bs.length ≤ 1000000) (hB : ∀ b ∈ bs, b < 256) (hX : IsX w gx gr Ar bs p A c out most)
    (hDa : IsD w ga Ba ca (cn a) (fst' a) (order a) (mostC a)) (hDb : IsD w gb Bb cb (cn b) (fst' b) (order b) (mostC b)) :
    Calls Try.prog 49 #[.pointer (some ⟨gx, 0, none⟩), .pointer (some ⟨ga, 0, none⟩), .pointer (some ⟨gb, 0, none⟩)] w fun e w' => Frm (gx :: gr :: ob A) w w' ∧ match tokenF (ofB bs) a b most p out with
      | .error k => e = .panicked (Pan k)
      | .ok x => ∃ A' c', e = .returned (.bool x.1) ∧ IsX w' gx gr Ar bs x.2.1 A' c' x.2.2 most ∧ ∀ y ∈ ob A', y ∈ ob A ∨ w.heap.size ≤ y := by
  generalize hF : tokenF (ofB bs) a b most p out = F
  unfold tokenF at hF
  obtain ⟨hal, ham⟩ := newE_good hna
  obtain ⟨hbl, hbm⟩ := newE_good hnb
  have hom := hX.2.2.2.2.2.1
  have hgbr : ∀ x ∈ gb :: ob Bb, x ∉ [gr] := fun x hx h5 => by
    simp at h5
    rcases List.mem_cons.1 hx with h6 | hx
    · exact hDb.1.ne hX.2.1.choose_spec.1 (by decide) (by omega)
    · subst h5; exact hDb.2.ne_blk hX.2.1.choose_spec.1 (by decide) hx
  refine VC.calls (nt := 119) (res := #[.tmp 6]) Try.func49 rfl Try.ntmps49 Try.results49 rfl ?_
  refine VC.seq ?_
  refine VC.region ?_
  refine Ops.r (Run.asg rfl) rfl ?_
  refine Ops.nil ?_
  refine thenQ_n ?_
  refine VC.sub [(0, _), (1, _), (2, _)] (.cons rfl (.cons rfl (.cons rfl .nil))) ?_
  refine VC.seq ?_
  refine VC.region ?_
  refine Ops.r (Run.mv rfl) rfl ?_
  refine Ops.r (Run.mv rfl) rfl ?_
  refine Ops.clp (Enters.fn (evs.cons rfl (evs.cons rfl evs.nil)) Try.call57) (isym_spec gx gr p ga Ar A _ _ a bs c out most _ hal ham hbs hB hX hDa) rfl ?_
  rintro e w1 ⟨hf1, he⟩
  have hfr1 := hf1
  rcases hT1 : symF (ofB bs) a p with kk | ⟨v1, p1⟩
  · rw [hT1] at he
    simp only [hT1, bnd_e] at hF
    subst hF
    exact .inr ⟨_, he, thenQ_p (endQ_p ⟨hfr1.mono (by simp), rfl⟩)⟩
  rw [hT1] at he
  simp only [hT1, bnd_k] at hF
  obtain ⟨rfl, hX1⟩ := he
  obtain ⟨hp1, hpl1, hv1⟩ := symF_ok ham (by rw [ofB_len]; exact hX.2.2.2.2.1) hT1
  refine .inl ⟨_, rfl, ?_⟩
  have hDb1 := hDb.frm hf1 hgbr
  have hd1 := Drawn.drew w1
  refine Ops.r (Run.asg rfl) rfl ?_
  refine Ops.nil ?_
  refine thenQ_n ?_
  refine VC.sub [(0, _), (2, _), (7, _)] (.cons rfl (.cons rfl (.cons rfl .nil))) ?_
  refine VC.seq ?_
  refine VC.seq ?_
  refine VC.region ?_
  refine Ops.r (Run.mv rfl) rfl ?_
  refine Ops.r (Run.bin rfl rfl (Bin.lssN _ 256)) rfl ?_
  refine Ops.nil ?_
  refine thenQ_n ?_
  refine VC.sub [(0, _), (2, _), (7, _), (17, _)] (.cons rfl (.cons rfl (.cons rfl (.cons rfl .nil)))) ?_
  refine VC.condD rfl (fun hc1 => ?_) (fun hc1 => ?_)
  · skip
    rw [if_pos hc1] at hF
    have hXd := hX1.frm0 hd1.frm
    have hfrd := hfr1.drawn hd1
    refine VC.seq ?_
    refine VC.tail 10 (by kernel_rfl) (by kernel_rfl) ?_
    simp only [List.take_succ_cons, List.take_zero, List.drop_succ_cons, List.drop_zero]
    refine SOps.r (Run.mv rfl) rfl ?_
    refine SOps.r (Run.nilck rfl) rfl ?_
    refine SOps.r (Run.fieldAddr rfl Try.underlying50 rfl Try.sizeOf22 (by decide)) rfl ?_
    refine SOps.r (Run.load rfl Try.isAgg22 (hXd.1.cell 1)) rfl ?_
    refine SOps.r (Run.lenS rfl Try.underlying22) rfl ?_
    refine SOps.r (Run.mv rfl) rfl ?_
    refine SOps.r (Run.nilck rfl) rfl ?_
    refine SOps.r (Run.fieldAddr rfl Try.underlying50 rfl Try.sizeOf3 (by decide)) rfl ?_
    refine SOps.r (Run.load rfl Try.isAgg3 (hXd.1.cell 2)) rfl ?_
    refine SOps.r (Run.bin rfl rfl (Bin.lssN _ _)) rfl ?_
    refine SOps.nil ?_
    refine Ops.clp (Enters.fn (evs.cons rfl (evs.cons rfl evs.nil)) Try.call35) (need_spec (decide (out.length < most)) 13 _) rfl ?_
    rintro e _ ⟨rfl, rfl⟩
    by_cases hN1 : out.length < most
    rotate_left
    · refine .inr ⟨_, by rw [if_neg (by simpa using hN1)], thenQ_p (thenQ_p (endQ_p ?_))⟩
      rw [if_neg hN1] at hF
      subst hF
      exact ⟨hfrd.mono (by simp), rfl⟩
    refine .inl ⟨_, by rw [if_pos (by simpa using hN1)], ?_⟩
    rw [if_pos hN1] at hF
    refine Ops.nil ?_
    refine thenQ_n ?_
    refine VC.sub [(0, _), (7, _)] (.cons rfl (.cons rfl .nil)) ?_
    refine VC.seq ?_
    refine VC.region ?_
    refine Ops.r (Run.mv rfl) rfl ?_
    refine Ops.r (Run.mv rfl) rfl ?_
    refine Ops.r (Run.nilck rfl) rfl ?_
    refine Ops.r (Run.fieldAddr rfl Try.underlying50 rfl Try.sizeOf22 (by decide)) rfl ?_
    refine Ops.r (Run.load rfl Try.isAgg22 (hXd.1.cell 1)) rfl ?_
    refine Ops.r (Run.mv rfl) rfl ?_
    refine Ops.r (Run.conv8 _ rfl Try.underlying3 Try.underlying5) rfl ?_
    refine Ops.m (Does.buildS1 rfl Try.underlying22 Try.sizeOf5 zero5 (by decide) (by decide) rfl rfl) rfl ?_
    rintro _ w3 ⟨rfl, hF3⟩
    have hm : ((v1 % 256 : Nat) : Int) = ((v1 : Nat) : Int) := by rw [Nat.mod_eq_of_lt hc1]
    have hrd3 : Rd w3 1 (some ⟨w1.drew.heap.size, 0, none⟩) 1 (NB [v1]) := by
      have h5 : Rd w3 1 (some ⟨w1.drew.heap.size, 0, none⟩) 1 [.int .u8 ((v1 % 256 : Nat) : Int)] := Rd.of_blk (n := 1) (size := 1) hF3.blk rfl
      rw [hm] at h5
      exact h5
    have hX3 := hXd.frm0 hF3.frm
    have hfr3 := hfrd.trans hF3.frm (by simp)
    refine Ops.m (Does.app rfl rfl Try.underlying22 (info5) rfl (by decide) hX3.2.2.1 hrd3 (NB_one _) (by omega) (by omega)) rfl ?_
    rintro _ w4 ⟨B4, c4, rfl, ho4, hf4, hob4⟩
    have hb4 := hX3.1.frm hf4 hX3.gxA
    refine Ops.r (Run.nilck rfl) rfl ?_
    refine Ops.r (Run.fieldAddr rfl Try.underlying50 rfl Try.sizeOf22 (by decide)) rfl ?_
    refine Ops.st (Acts.store (i := 1) rfl rfl Try.sizeOf22 hb4 rfl rfl) ?_
    rintro w5 ⟨hb5, hf5, hs5⟩
    obtain ⟨hX5, hf35, hu5⟩ := hX3.app ho4 hf4 hob4 hb5 hf5 rfl (by omega) (fun x hx => by simp at hx; omega)
    have hsz3 := hfr3.size
    have hfr5 : Frm (gx :: gr :: ob A) w w5 := (hfr3.mono (T := gx :: gr :: ob A) (by simp)).trans hf35 (fun x hx => .inl (by rcases List.mem_cons.1 hx with rfl | hx <;> simp_all))
    refine Ops.nil ?_
    refine thenQ_n ?_
    refine VC.sub [] .nil ?_
    refine VC.seq ?_
    refine VC.region ?_
    refine Ops.r (Run.asg rfl) rfl ?_
    refine Ops.nil ?_
    refine thenQ_n ?_
    refine VC.ret ?_
    refine thenQ_r (end1 rfl ?_)
    subst hF
    exact ⟨hfr5, B4, c4, rfl, hX5, fun y hy => (hu5 y hy).imp id (fun h => Nat.le_trans hsz3 h)⟩
  · skip
    rw [if_neg hc1] at hF
    refine VC.skip ?_
    refine thenQ_n ?_
    refine VC.sub [(0, _), (2, _), (7, _)] (.cons rfl (.cons rfl (.cons rfl .nil))) ?_
    refine VC.seq ?_
    refine VC.seq ?_
    refine VC.region ?_
    refine Ops.r (Run.mv rfl) rfl ?_
    refine Ops.r (Run.bin rfl rfl (Bin.eqlN _ 256)) rfl ?_
    refine Ops.nil ?_
    refine thenQ_n ?_
    refine VC.sub [(0, _), (2, _), (7, _), (41, _)] (.cons rfl (.cons rfl (.cons rfl (.cons rfl .nil)))) ?_
    refine VC.condD rfl (fun hc2 => ?_) (fun hc2 => ?_)
    · skip
      rw [if_pos hc2] at hF
      refine VC.seq ?_
      refine VC.region ?_
      refine Ops.r (Run.asg rfl) rfl ?_
      refine Ops.nil ?_
      refine thenQ_n ?_
      refine VC.sub [(6, _)] (.cons rfl .nil) ?_
      refine VC.ret ?_
      refine thenQ_r (end1 rfl ?_)
      subst hF
      exact ⟨hfr1.mono (by simp), A, c, rfl, hX1, fun y hy => .inl hy⟩
    · skip
      rw [if_neg hc2] at hF
      refine VC.skip ?_
      refine thenQ_n ?_
      refine VC.sub [(0, _), (2, _), (7, _)] (.cons rfl (.cons rfl (.cons rfl .nil))) ?_
      refine VC.seq ?_
      refine VC.region ?_
      refine Ops.r (Run.mv rfl) rfl ?_
      refine Ops.r (Run.bin rfl rfl (Bin.leqN _ 285)) rfl ?_
      refine Ops.clp (Enters.fn (evs.cons rfl (evs.cons rfl evs.nil)) Try.call35) (need_spec (decide (v1 ≤ 285)) 11 _) rfl ?_
      rintro e _ ⟨rfl, rfl⟩
      by_cases hN2 : v1 ≤ 285
      rotate_left
      · refine .inr ⟨_, by rw [if_neg (by simpa using hN2)], thenQ_p (endQ_p ?_)⟩
        rw [if_pos (by omega)] at hF
        subst hF
        exact ⟨hfr1.mono (by simp), rfl⟩
      refine .inl ⟨_, by rw [if_pos (by simpa using hN2)], ?_⟩
      rw [if_neg (by omega)] at hF
      have hi29 : v1 - 257 < 29 := by omega
      obtain ⟨hlb, hll⟩ := long_b (v1 - 257) hi29
      have hlg : longT[v1 - 257]'(by have : longT.length = 29 := rfl; omega) = longT.getD (v1 - 257) (0, 0) := by simp [List.getD, List.getElem?_eq_getElem (show v1 - 257 < longT.length by have : longT.length = 29 := rfl; omega)]
      refine Ops.nil ?_
      refine thenQ_n ?_
      refine VC.sub [(0, _), (2, _), (7, _)] (.cons rfl (.cons rfl (.cons rfl .nil))) ?_
      refine VC.seq ?_
      refine VC.region ?_
      refine Ops.cl (Enters.fn evs.nil Try.call32) (ilengths_spec _) rfl ?_
      rintro e w2 ⟨rfl, hf2⟩
      refine ⟨_, rfl, ?_⟩
      have hX2 := hX1.frm0 hf2
      have hDb2 := hDb1.frm hf2 (by simp)
      have hfr2 := hfr1.trans hf2 (by simp)
      refine Ops.r (Run.mv rfl) rfl ?_
      refine Ops.r (Run.bin rfl rfl (Bin.sub_i64 _ 257 (by omega) (by omega))) rfl ?_
      refine Ops.r (Run.indexArrA LC (v1 - 257) rfl rfl Try.underlying61 Try.isAgg60 Try.sizeOf60 LC_len rfl (by have : longT.length = 29 := rfl; omega)) rfl ?_
      rw [hlg]
      generalize longT.getD (v1 - 257) (0, 0) = lg at *
      refine Ops.m (Does.alloc zero60) rfl ?_
      rintro _ w3 ⟨rfl, hF3⟩
      have hb3 := hF3.blk
      have hX3 := hX2.frm0 hF3.frm
      have hDb3 := hDb2.frm hF3.frm (by simp)
      have hfr3 := hfr2.trans hF3.frm (by simp)
      have hlt2 := hX2.lt
      have hs2 := hfr2.size
      refine Ops.st (Acts.storeA rfl rfl Try.sizeOf60 hb3 rfl (LC_one lg)) ?_
      rintro w4 ⟨hb4, hf4, hs4⟩
      have hb4 : Blk w4 w2.heap.size 60 (LC lg).toArray := hb4
      have hX4 := hX3.frm hf4 (hX2.ob_ne (Nat.le_refl _))
      have hDb4 := hDb3.frm hf4 (fun x hx h5 => by have := (hDb2.1.lt); have h7 := hDb2.2.lt; simp at h5; rcases List.mem_cons.1 hx with h6 | hx; omega; have := h7 x hx; omega)
      have hfr4 : Frm [gr] w w4 := hfr3.trans hf4 (fun x hx => .inr (by simp at hx; omega))
      generalize hg2 : w2.heap.size = g2 at *
      refine Ops.nil ?_
      refine thenQ_n ?_
      refine VC.sub [(0, _), (2, _), (8, _)] (.cons rfl (.cons rfl (.cons rfl .nil))) ?_
      refine VC.seq ?_
      refine VC.held (fun v => Blk v g2 60 (LC lg).toArray) (by kernel_rfl) ?_
      have hd4 := Drawn.drew w4
      have hX4d := hX4.frm0 hd4.frm
      have hfr4d := hfr4.drawn hd4
      have hDb4d := hDb4.frm hd4.frm (by simp)
      have hS : (fun v => Blk v g2 60 (LC lg).toArray) w4.drew := hb4.drawn hd4
      refine HOps.take 0 rfl (by kernel_rfl) (by kernel_rfl) (by kernel_rfl) hS (fun w0 hw0 => Run.fieldAddr rfl Try.underlying60 rfl Try.sizeOf3 (by decide)) trivial rfl rfl ?_
      refine HOps.take 1 rfl (by kernel_rfl) (by kernel_rfl) (by kernel_rfl) hS (fun w0 hw0 => Run.load rfl Try.isAgg3 (hw0.cell 0)) trivial rfl rfl ?_
      refine HOps.take 2 rfl (by kernel_rfl) (by kernel_rfl) (by kernel_rfl) hS (fun w0 hw0 => Run.mv rfl) trivial rfl rfl ?_
      refine HOps.take 3 rfl (by kernel_rfl) (by kernel_rfl) (by kernel_rfl) hS (fun w0 hw0 => Run.fieldAddr rfl Try.underlying60 rfl Try.sizeOf3 (by decide)) trivial rfl rfl ?_
      refine HOps.take 4 rfl (by kernel_rfl) (by kernel_rfl) (by kernel_rfl) hS (fun w0 hw0 => Run.load rfl Try.isAgg3 (hw0.cell 1)) trivial rfl rfl ?_
      refine HOps.clp 5 rfl (by kernel_rfl) (Enters.fn (evs.cons rfl (evs.cons rfl evs.nil)) Try.call34) (itake_spec gx gr lg.2 p1 Ar A bs c out most _ (by omega) hbs hB hX4d) trivial rfl rfl ?_
      rintro e w5 ⟨hf5, he⟩
      have hfr5 := hfr4d.trans hf5 (fun x hx => .inl hx)
      rcases hT5 : takeF (ofB bs) lg.2 p1 with kk | ⟨v5, p5⟩
      · rw [hT5] at he
        simp only [hT5, bnd_e] at hF
        subst hF
        exact .inr ⟨_, he, thenQ_p (endQ_p ⟨hfr5.mono (by simp), rfl⟩)⟩
      rw [hT5] at he
      simp only [hT5, bnd_k] at hF
      obtain ⟨rfl, hX5⟩ := he
      obtain ⟨hp5, hpl5, hv5, _⟩ := takeF_ok hT5
      have hS : (fun v => Blk v g2 60 (LC lg).toArray) w5 := (hb4.drawn hd4).frm hf5 (by simp; omega)
      have hv5b : 2 ^ lg.2 ≤ 2 ^ 5 := Nat.pow_le_pow_right (by omega) hlb
      have hDb5 := hDb4d.frm hf5 hgbr
      refine .inl ⟨_, rfl, hS, ?_⟩
      refine HOps.take 6 rfl (by kernel_rfl) (by kernel_rfl) (by kernel_rfl) hS (fun w0 hw0 => Run.bin rfl rfl (Bin.add_i64 _ _ (by omega))) trivial rfl rfl ?_
      refine HOps.take 7 rfl (by kernel_rfl) (by kernel_rfl) (by kernel_rfl) hS (fun w0 hw0 => Run.asg rfl) trivial rfl rfl ?_
      refine HOps.done (by kernel_rfl) ?_
      refine thenQ_n ?_
      refine VC.sub [(0, _), (2, _), (9, _)] (.cons rfl (.cons rfl (.cons rfl .nil))) ?_
      refine VC.seq ?_
      refine VC.region ?_
      refine Ops.r (Run.mv rfl) rfl ?_
      refine Ops.r (Run.mv rfl) rfl ?_
      refine Ops.clp (Enters.fn (evs.cons rfl (evs.cons rfl evs.nil)) Try.call57) (isym_spec gx gr p5 gb Ar A _ _ b bs c out most _ hbl hbm hbs hB hX5 hDb5) rfl ?_
      rintro e w6 ⟨hf6, he⟩
      have hfr6 := hfr5.trans hf6 (fun x hx => .inl hx)
      rcases hT6 : symF (ofB bs) b p5 with kk | ⟨v6, p6⟩
      · rw [hT6] at he
        simp only [hT6, bnd_e] at hF
        subst hF
        exact .inr ⟨_, he, thenQ_p (endQ_p ⟨hfr6.mono (by simp), rfl⟩)⟩
      rw [hT6] at he
      simp only [hT6, bnd_k] at hF
      obtain ⟨rfl, hX6⟩ := he
      obtain ⟨hp6, hpl6, hv6⟩ := symF_ok hbm (by rw [ofB_len]; exact hX5.2.2.2.2.1) hT6
      refine .inl ⟨_, rfl, ?_⟩
      refine Ops.r (Run.asg rfl) rfl ?_
      refine Ops.nil ?_
      refine thenQ_n ?_
      refine VC.sub [(0, _), (9, _), (10, _)] (.cons rfl (.cons rfl (.cons rfl .nil))) ?_
      refine VC.seq ?_
      refine VC.region ?_
      refine Ops.r (Run.mv rfl) rfl ?_
      refine Ops.r (Run.bin rfl rfl (Bin.lssN _ 30)) rfl ?_
      refine Ops.clp (Enters.fn (evs.cons rfl (evs.cons rfl evs.nil)) Try.call35) (need_spec (decide (v6 < 30)) 11 _) rfl ?_
      rintro e _ ⟨rfl, rfl⟩
      by_cases hN3 : v6 < 30
      rotate_left
      · refine .inr ⟨_, by rw [if_neg (by simpa using hN3)], thenQ_p (endQ_p ?_)⟩
        rw [if_pos (by omega)] at hF
        subst hF
        exact ⟨hfr6.mono (by simp), rfl⟩
      refine .inl ⟨_, by rw [if_pos (by simpa using hN3)], ?_⟩
      rw [if_neg (by omega)] at hF
      obtain ⟨hwb, hw1, hwl⟩ := way_b v6 hN3
      have hwg : wayT[v6]'(by have : wayT.length = 30 := rfl; omega) = wayT.getD v6 (0, 0) := by simp [List.getD, List.getElem?_eq_getElem (show v6 < wayT.length by have : wayT.length = 30 := rfl; omega)]
      refine Ops.nil ?_
      refine thenQ_n ?_
      refine VC.sub [(0, _), (9, _), (10, _)] (.cons rfl (.cons rfl (.cons rfl .nil))) ?_
      refine VC.seq ?_
      refine VC.region ?_
      refine Ops.cl (Enters.fn evs.nil Try.call33) (iways_spec _) rfl ?_
      rintro e w7 ⟨rfl, hf7⟩
      refine ⟨_, rfl, ?_⟩
      have hX7 := hX6.frm0 hf7
      have hfr7 := hfr6.trans hf7 (by simp)
      refine Ops.r (Run.mv rfl) rfl ?_
      refine Ops.r (Run.indexArrA LC v6 rfl rfl Try.underlying63 Try.isAgg60 Try.sizeOf60 LC_len rfl (by have : wayT.length = 30 := rfl; omega)) rfl ?_
      rw [hwg]
      generalize wayT.getD v6 (0, 0) = wg at *
      refine Ops.m (Does.alloc zero60) rfl ?_
      rintro _ w8 ⟨rfl, hF8⟩
      have hb8 := hF8.blk
      have hX8 := hX7.frm0 hF8.frm
      have hfr8 := hfr7.trans hF8.frm (by simp)
      have hlt7 := hX7.lt
      have hs7 := hfr7.size
      refine Ops.st (Acts.storeA rfl rfl Try.sizeOf60 hb8 rfl (LC_one wg)) ?_
      rintro w9 ⟨hb9, hf9, hs9⟩
      have hb9 : Blk w9 w7.heap.size 60 (LC wg).toArray := hb9
      have hX9 := hX8.frm hf9 (hX7.ob_ne (Nat.le_refl _))
      have hfr9 : Frm [gr] w w9 := hfr8.trans hf9 (fun x hx => .inr (by simp at hx; omega))
      generalize hg7 : w7.heap.size = g7 at *
      refine Ops.nil ?_
      refine thenQ_n ?_
      refine VC.sub [(0, _), (9, _), (11, _)] (.cons rfl (.cons rfl (.cons rfl .nil))) ?_
      refine VC.seq ?_
      refine VC.held (fun v => Blk v g7 60 (LC wg).toArray) (by kernel_rfl) ?_
      have hd9 := Drawn.drew w9
      have hX9d := hX9.frm0 hd9.frm
      have hfr9d := hfr9.drawn hd9
      have hS : (fun v => Blk v g7 60 (LC wg).toArray) w9.drew := hb9.drawn hd9
      refine HOps.take 0 rfl (by kernel_rfl) (by kernel_rfl) (by kernel_rfl) hS (fun w0 hw0 => Run.fieldAddr rfl Try.underlying60 rfl Try.sizeOf3 (by decide)) trivial rfl rfl ?_
      refine HOps.take 1 rfl (by kernel_rfl) (by kernel_rfl) (by kernel_rfl) hS (fun w0 hw0 => Run.load rfl Try.isAgg3 (hw0.cell 0)) trivial rfl rfl ?_
      refine HOps.take 2 rfl (by kernel_rfl) (by kernel_rfl) (by kernel_rfl) hS (fun w0 hw0 => Run.mv rfl) trivial rfl rfl ?_
      refine HOps.take 3 rfl (by kernel_rfl) (by kernel_rfl) (by kernel_rfl) hS (fun w0 hw0 => Run.fieldAddr rfl Try.underlying60 rfl Try.sizeOf3 (by decide)) trivial rfl rfl ?_
      refine HOps.take 4 rfl (by kernel_rfl) (by kernel_rfl) (by kernel_rfl) hS (fun w0 hw0 => Run.load rfl Try.isAgg3 (hw0.cell 1)) trivial rfl rfl ?_
      refine HOps.clp 5 rfl (by kernel_rfl) (Enters.fn (evs.cons rfl (evs.cons rfl evs.nil)) Try.call34) (itake_spec gx gr wg.2 p6 Ar A bs c out most _ (by omega) hbs hB hX9d) trivial rfl rfl ?_
      rintro e w10 ⟨hf10, he⟩
      have hfr10 := hfr9d.trans hf10 (fun x hx => .inl hx)
      rcases hT10 : takeF (ofB bs) wg.2 p6 with kk | ⟨v10, p10⟩
      · rw [hT10] at he
        simp only [hT10, bnd_e] at hF
        subst hF
        exact .inr ⟨_, he, thenQ_p (endQ_p ⟨hfr10.mono (by simp), rfl⟩)⟩
      rw [hT10] at he
      simp only [hT10, bnd_k] at hF
      obtain ⟨rfl, hX10⟩ := he
      obtain ⟨hp10, hpl10, hv10, _⟩ := takeF_ok hT10
      have hS : (fun v => Blk v g7 60 (LC wg).toArray) w10 := (hb9.drawn hd9).frm hf10 (by simp; omega)
      have hv10b : 2 ^ wg.2 ≤ 2 ^ 13 := Nat.pow_le_pow_right (by omega) hwb
      refine .inl ⟨_, rfl, hS, ?_⟩
      refine HOps.take 6 rfl (by kernel_rfl) (by kernel_rfl) (by kernel_rfl) hS (fun w0 hw0 => Run.bin rfl rfl (Bin.add_i64 _ _ (by omega))) trivial rfl rfl ?_
      refine HOps.take 7 rfl (by kernel_rfl) (by kernel_rfl) (by kernel_rfl) hS (fun w0 hw0 => Run.asg rfl) trivial rfl rfl ?_
      refine HOps.done (by kernel_rfl) ?_
      refine thenQ_n ?_
      refine VC.sub [(0, _), (9, _), (12, _)] (.cons rfl (.cons rfl (.cons rfl .nil))) ?_
      refine VC.seq ?_
      refine VC.region ?_
      refine Ops.r (Run.mv rfl) rfl ?_
      refine Ops.r (Run.mv rfl) rfl ?_
      refine Ops.r (Run.nilck rfl) rfl ?_
      refine Ops.r (Run.fieldAddr rfl Try.underlying50 rfl Try.sizeOf22 (by decide)) rfl ?_
      refine Ops.r (Run.load rfl Try.isAgg22 (hX10.1.cell 1)) rfl ?_
      refine Ops.r (Run.lenS rfl Try.underlying22) rfl ?_
      refine Ops.r (Run.bin rfl rfl (Bin.leqN _ _)) rfl ?_
      refine Ops.clp (Enters.fn (evs.cons rfl (evs.cons rfl evs.nil)) Try.call35) (need_spec (decide (wg.1 + v10 ≤ out.length)) 12 _) rfl ?_
      rintro e _ ⟨rfl, rfl⟩
      by_cases hN4 : wg.1 + v10 ≤ out.length
      rotate_left
      · refine .inr ⟨_, by rw [if_neg (by simpa using hN4)], thenQ_p (endQ_p ?_)⟩
        rw [if_pos (by omega)] at hF
        subst hF
        exact ⟨hfr10.mono (by simp), rfl⟩
      refine .inl ⟨_, by rw [if_pos (by simpa using hN4)], ?_⟩
      rw [if_neg (by omega)] at hF
      have hd10 := Drawn.drew w10
      have hX10d := hX10.frm0 hd10.frm
      have hfr10d := hfr10.drawn hd10
      refine Ops.nil ?_
      refine thenQ_n ?_
      refine VC.sub [(0, _), (9, _), (12, _)] (.cons rfl (.cons rfl (.cons rfl .nil))) ?_
      refine VC.seq ?_
      refine VC.tail 12 (by kernel_rfl) (by kernel_rfl) ?_
      simp only [List.take_succ_cons, List.take_zero, List.drop_succ_cons, List.drop_zero]
      refine SOps.r (Run.mv rfl) rfl ?_
      refine SOps.r (Run.mv rfl) rfl ?_
      refine SOps.r (Run.nilck rfl) rfl ?_
      refine SOps.r (Run.fieldAddr rfl Try.underlying50 rfl Try.sizeOf3 (by decide)) rfl ?_
      refine SOps.r (Run.load rfl Try.isAgg3 (hX10d.1.cell 2)) rfl ?_
      refine SOps.r (Run.mv rfl) rfl ?_
      refine SOps.r (Run.nilck rfl) rfl ?_
      refine SOps.r (Run.fieldAddr rfl Try.underlying50 rfl Try.sizeOf22 (by decide)) rfl ?_
      refine SOps.r (Run.load rfl Try.isAgg22 (hX10d.1.cell 1)) rfl ?_
      refine SOps.r (Run.lenS rfl Try.underlying22) rfl ?_
      refine SOps.r (Run.bin rfl rfl (Bin.sub_i64 _ _ (by omega) (by omega))) rfl ?_
      refine SOps.r (Run.bin rfl rfl (Bin.leqN _ _)) rfl ?_
      refine SOps.nil ?_
      refine Ops.clp (Enters.fn (evs.cons rfl (evs.cons rfl evs.nil)) Try.call35) (need_spec (decide (lg.1 + v5 ≤ most - out.length)) 13 _) rfl ?_
      rintro e _ ⟨rfl, rfl⟩
      by_cases hN5 : lg.1 + v5 ≤ most - out.length
      rotate_left
      · refine .inr ⟨_, by rw [if_neg (by simpa using hN5)], thenQ_p (endQ_p ?_)⟩
        rw [if_pos (by omega)] at hF
        subst hF
        exact ⟨hfr10d.mono (by simp), rfl⟩
      refine .inl ⟨_, by rw [if_pos (by simpa using hN5)], ?_⟩
      rw [if_neg (by omega)] at hF
      have hs10 := hfr10d.size
      have hfr11 : Frm (gx :: gr :: ob A) w w10.drew := hfr10d.mono (by simp)
      refine Ops.nil ?_
      refine thenQ_n ?_
      refine VC.sub [(0, _), (9, _), (12, _)] (.cons rfl (.cons rfl (.cons rfl .nil))) ?_
      refine VC.seq ?_
      refine VC.seq ?_
      refine VC.region ?_
      refine Ops.r (Run.mv rfl) rfl ?_
      refine Ops.r (v := .int .i64 ((0 : Nat) : Int)) (Run.mv rfl) rfl ?_
      refine Ops.nil ?_
      refine thenQ_n ?_
      refine VC.sub [(0, _), (12, _), (93, _), (94, _)] (.cons rfl (.cons rfl (.cons rfl (.cons rfl .nil)))) ?_
      refine VC.block ?_
      refine VC.loop (σ := Nat × List Nat × Option Addr × Nat) (fun s => [(0, .pointer (some ⟨gx, 0, none⟩)), (12, .int .i64 ((wg.1 + v10 : Nat) : Int)), (93, .int .i64 ((lg.1 + v5 : Nat) : Int)), (94, .int .i64 ((s.1 : Nat) : Int))]) (fun s wr => s.1 ≤ lg.1 + v5 ∧ copyF (lg.1 + v5 - s.1) (wg.1 + v10) s.2.1 = copyF (lg.1 + v5) (wg.1 + v10) out ∧ s.2.1.length = out.length + s.1 ∧ IsX wr gx gr Ar bs p10 s.2.2.1 s.2.2.2 s.2.1 most ∧ Frm (gx :: gr :: ob A) w wr ∧ ∀ y ∈ ob s.2.2.1, y ∈ ob A ∨ w.heap.size ≤ y) (fun s => lg.1 + v5 - s.1) (0, out, A, c) (.cons rfl (.cons rfl (.cons rfl (.cons rfl .nil)))) ⟨by omega, rfl, rfl, hX10d, hfr11, fun y hy => .inl hy⟩ ?_
      rintro ⟨i, o, A2, c2⟩ wr ⟨hi, hcp, hol, hXr, hfr, hu⟩
      dsimp only at hi hcp hol hXr hfr hu ⊢
      have hdr := Drawn.drew wr
      have hXs := hXr.frm0 hdr.frm
      have hfrs := hfr.drawn hdr
      refine VC.seq ?_
      refine VC.region ?_
      refine Ops.r (Run.bin rfl rfl (Bin.lssN _ _)) rfl ?_
      refine Ops.nil ?_
      refine thenQ_n ?_
      refine VC.seq ?_
      refine VC.condD rfl (fun hc3 => ?_) (fun hc3 => ?_)
      · skip
        obtain ⟨adk, hAk, hck⟩ := nb_at hXs.2.2.1.rd (k := o.length - (wg.1 + v10)) (by omega)
        subst hAk
        obtain ⟨k, hk⟩ : ∃ k, lg.1 + v5 - i = k + 1 := ⟨lg.1 + v5 - i - 1, by omega⟩
        have hlo : o.getD (o.length - (wg.1 + v10)) 0 < 256 := by
          have h5 : o.length - (wg.1 + v10) < o.length := by omega
          simp only [List.getD, List.getElem?_eq_getElem h5, Option.getD_some]
          exact hXs.2.2.2.2.2.2 _ (List.getElem_mem _)
        rw [hk, copyF] at hcp
        generalize o.getD (o.length - (wg.1 + v10)) 0 = xo at *
        refine VC.skip ?_
        refine thenQ_n ?_
        refine VC.sub [(0, _), (12, _), (93, _), (94, _)] (.cons rfl (.cons rfl (.cons rfl (.cons rfl .nil)))) ?_
        refine VC.seq ?_
        refine VC.block ?_
        refine VC.heldL 22 (fun v => Blk v gx 50 #[.pointer (some ⟨gr, 0, none⟩), .slice (some adk) o.length c2, .int .i64 ((most : Nat) : Int)]) (by kernel_rfl) ?_
        have hS : (fun v => Blk v gx 50 #[.pointer (some ⟨gr, 0, none⟩), .slice (some adk) o.length c2, .int .i64 ((most : Nat) : Int)]) wr.drew := hXs.1
        refine HOps.take 0 rfl (by kernel_rfl) (by kernel_rfl) (by kernel_rfl) hS (fun w0 hw0 => Run.mv rfl) trivial rfl rfl ?_
        refine HOps.take 1 rfl (by kernel_rfl) (by kernel_rfl) (by kernel_rfl) hS (fun w0 hw0 => Run.mv rfl) trivial rfl rfl ?_
        refine HOps.take 2 rfl (by kernel_rfl) (by kernel_rfl) (by kernel_rfl) hS (fun w0 hw0 => Run.nilck rfl) trivial rfl rfl ?_
        refine HOps.take 3 rfl (by kernel_rfl) (by kernel_rfl) (by kernel_rfl) hS (fun w0 hw0 => Run.fieldAddr rfl Try.underlying50 rfl Try.sizeOf22 (by decide)) trivial rfl rfl ?_
        refine HOps.take 4 rfl (by kernel_rfl) (by kernel_rfl) (by kernel_rfl) hS (fun w0 hw0 => Run.load rfl Try.isAgg22 (hw0.cell 1)) trivial rfl rfl ?_
        refine HOps.take 5 rfl (by kernel_rfl) (by kernel_rfl) (by kernel_rfl) hS (fun w0 hw0 => Run.mv rfl) trivial rfl rfl ?_
        refine HOps.take 6 rfl (by kernel_rfl) (by kernel_rfl) (by kernel_rfl) hS (fun w0 hw0 => Run.nilck rfl) trivial rfl rfl ?_
        refine HOps.take 7 rfl (by kernel_rfl) (by kernel_rfl) (by kernel_rfl) hS (fun w0 hw0 => Run.fieldAddr rfl Try.underlying50 rfl Try.sizeOf22 (by decide)) trivial rfl rfl ?_
        refine HOps.take 8 rfl (by kernel_rfl) (by kernel_rfl) (by kernel_rfl) hS (fun w0 hw0 => Run.load rfl Try.isAgg22 (hw0.cell 1)) trivial rfl rfl ?_
        refine HOps.take 9 rfl (by kernel_rfl) (by kernel_rfl) (by kernel_rfl) hS (fun w0 hw0 => Run.mv rfl) trivial rfl rfl ?_
        refine HOps.take 10 rfl (by kernel_rfl) (by kernel_rfl) (by kernel_rfl) hS (fun w0 hw0 => Run.nilck rfl) trivial rfl rfl ?_
        refine HOps.take 11 rfl (by kernel_rfl) (by kernel_rfl) (by kernel_rfl) hS (fun w0 hw0 => Run.fieldAddr rfl Try.underlying50 rfl Try.sizeOf22 (by decide)) trivial rfl rfl ?_
        refine HOps.take 12 rfl (by kernel_rfl) (by kernel_rfl) (by kernel_rfl) hS (fun w0 hw0 => Run.load rfl Try.isAgg22 (hw0.cell 1)) trivial rfl rfl ?_
        refine HOps.take 13 rfl (by kernel_rfl) (by kernel_rfl) (by kernel_rfl) hS (fun w0 hw0 => Run.lenS rfl Try.underlying22) trivial rfl rfl ?_
        refine HOps.r1 14 rfl (by kernel_rfl) hS (Run.mv rfl) trivial rfl rfl ?_
        refine HOps.r1 15 rfl (by kernel_rfl) hS (Run.bin rfl rfl (Bin.sub_i64 _ _ (by omega) (by omega))) trivial rfl rfl ?_
        refine HOps.r1 16 rfl (by kernel_rfl) hS (Run.index1 _ rfl rfl Try.underlying22 Try.sizeOf5 (by omega)) trivial rfl rfl ?_
        refine HOps.r1 17 rfl (by kernel_rfl) hS (Run.load rfl Try.isAgg5 hck) trivial rfl rfl ?_
        refine HOps.m 18 rfl (by kernel_rfl) (Does.buildS1 rfl Try.underlying22 Try.sizeOf5 zero5 (by decide) (by decide) rfl rfl) trivial rfl rfl ?_
        rintro _ w3 ⟨rfl, hF3⟩
        have hrd3 : Rd w3 1 (some ⟨wr.drew.heap.size, 0, none⟩) 1 (NB [xo]) := Rd.of_blk (n := 1) (size := 1) hF3.blk rfl
        have hX3 := hXs.frm0 hF3.frm
        have hfr3 := hfrs.trans hF3.frm (by simp)
        have hS : (fun v => Blk v gx 50 #[.pointer (some ⟨gr, 0, none⟩), .slice (some adk) o.length c2, .int .i64 ((most : Nat) : Int)]) w3 := hX3.1
        refine ⟨hS, ?_⟩
        refine HOps.m 19 rfl (by kernel_rfl) (Does.app rfl rfl Try.underlying22 (info5) rfl (by decide) hX3.2.2.1 hrd3 (NB_one _) (by omega) (by omega)) trivial rfl rfl ?_
        rintro _ w4 ⟨B4, c4, rfl, ho4, hf4, hob4⟩
        have hb4 := hX3.1.frm hf4 hX3.gxA
        have hS := hb4
        refine ⟨hS, ?_⟩
        refine HOps.r1 20 rfl (by kernel_rfl) hS (Run.nilck rfl) trivial rfl rfl ?_
        refine HOps.r1 21 rfl (by kernel_rfl) hS (Run.fieldAddr rfl Try.underlying50 rfl Try.sizeOf22 (by decide)) trivial rfl rfl ?_
        refine HOps.stL rfl (by kernel_rfl) (Acts.store (i := 1) rfl rfl Try.sizeOf22 hb4 rfl rfl) trivial rfl ?_
        rintro w5 ⟨hb5, hf5, hs5⟩
        obtain ⟨hX5, hf35, hu5⟩ := hX3.app ho4 hf4 hob4 hb5 hf5 rfl (by omega) (fun x hx => by simp at hx; omega)
        have hsz3 := hfr3.size
        have hfr5 : Frm (gx :: gr :: ob A) w w5 := hfr3.trans hf35 (fun x hx => by rcases List.mem_cons.1 hx with rfl | hx; exact .inl (by simp); rcases hu x hx with h6 | h6; exact .inl (by simp [h6]); exact .inr h6)
        refine HOps.done (by kernel_rfl) ?_
        refine blockQ_n (thenQ_n ?_)
        refine VC.sub [(0, _), (12, _), (93, _), (94, _)] (.cons rfl (.cons rfl (.cons rfl (.cons rfl .nil)))) ?_
        refine VC.region ?_
        refine Ops.r (Run.bin rfl rfl (Bin.add_i64 _ 1 (by omega))) rfl ?_
        refine Ops.r (Run.mv rfl) rfl ?_
        refine Ops.nil ?_
        refine thenQ_n ⟨(i + 1, o ++ [xo], B4, c4), (.cons rfl (.cons rfl (.cons rfl (.cons rfl .nil)))), ?_, ?_⟩
        · skip
          refine ⟨by dsimp only; omega, ?_, by dsimp only; rw [List.length_append]; simp; omega, hX5, hfr5, fun y hy => (hu5 y hy).elim (hu y) (fun h => .inr (Nat.le_trans hsz3 h))⟩
          dsimp only
          rw [← hcp, show lg.1 + v5 - (i + 1) = k by omega]
        · skip
          first | omega | (dsimp only; omega)
      · skip
        have hin : i = lg.1 + v5 := by omega
        subst hin
        rw [Nat.sub_self] at hcp
        simp only [copyF] at hcp
        refine VC.exit ?_
        refine thenQ_x (thenQ_x (blockQ_x ?_))
        refine thenQ_n ?_
        refine VC.sub [] .nil ?_
        refine VC.seq ?_
        refine VC.region ?_
        refine Ops.r (Run.asg rfl) rfl ?_
        refine Ops.nil ?_
        refine thenQ_n ?_
        refine VC.ret ?_
        refine end1 rfl ?_
        subst hF
        exact ⟨hfr, A2, c2, rfl, by rw [← hcp]; exact hXr, hu⟩

end Go.Proofs.Ytfjhmbgckmhdaaa
