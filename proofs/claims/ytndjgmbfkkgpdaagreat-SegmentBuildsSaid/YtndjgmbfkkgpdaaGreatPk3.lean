/-
  Lemmas on the way, joined: InfK, InfN, InfB, InfJ, InfI, InfG, InfQ, InfR, InfX, InfZ, InfE, InfLT, DefV, DefU, DefR, DefT, DefS, LimH, LimW, LimS, LimM, LimN, LimG, LimL.
-/
import Derived.Test.YtndjgmbfkkgpdaaGreatPk2
set_option maxRecDepth 100000
namespace Go.Proofs.YtndjgmbfkkgpdaaGreat
section
open Go.RowKit
theorem qBm : ∀ i, i < 29 → (longT.getD i (0, 0)).2 ≤ 5 ∧ (longT.getD i (0, 0)).1 ≤ 258 := jd
theorem qB5 : ∀ i, i < 30 → (wayT.getD i (0, 0)).2 ≤ 13 ∧ 1 ≤ (wayT.getD i (0, 0)).1 ∧ (wayT.getD i (0, 0)).1 ≤ 24577 := jd
theorem qB6 {w : World} {A : Option Addr} {l : List Nat} {k : Nat} (h : Rd w 1 A l.length (NB l)) (hk : k < l.length) : ∃ ad, A = some ad ∧ w.cell? (ad.add k) = some (.int .u8 ((l.getD k 0 : Nat) : Int)) := by
 obtain ⟨ad, u, hA, hu, hc⟩ := h.at1 hk
 refine ⟨ad, hA, ?_⟩
 rw [hc]
 simp [NB, hk] at hu
 rw [← hu]
 simp [List.getD, zb hk]
theorem vP : ∀ (n d : Nat) (out : List Nat), (dB n d out).length = out.length + n
 | 0, _, _ => rfl
 | n + 1, d, out => by rw [dB, vP n d]; simp; omega
theorem IsX.ob_ne {w : World} {gx gr : Nat} {Ar : Option Addr} {bs : List Nat} {p : Nat} {A : Option Addr} {c : Nat} {out : List Nat} {most g : Nat} (h : IsX w gx gr Ar bs p A c out most) (hg : w.heap.size ≤ g) : ∀ x ∈ gx :: gr :: (ob A ++ ob Ar), x ∉ [g] := fun x hx h5 => by
 have hl := h.lt
 simp at h5
 subst h5
 rcases zbv.1 hx with h6 | hx
 · have := hl.1; omega
 rcases zbv.1 hx with h6 | hx
 · have := hl.2.1; omega
 rcases List.mem_append.1 hx with hx | hx
 · have := hl.2.2.1 _ hx; omega
 have := hl.2.2.2 _ hx; omega
theorem qWl (gx gr p ga gb : Nat) (Ar A Ba Bb : Option Addr) (ca cb : Nat) (a b : List Int) (bs : List Nat) (c : Nat) (out : List Nat) (most : Nat) (w : World) (hna : newE a = 0) (hnb : newE b = 0) (hmo : most ≤ 1000000) (hbs : bs.length ≤ 1000000) (hB : ∀ b ∈ bs, b < 256) (hX : IsX w gx gr Ar bs p A c out most)
  (hDa : IsD w ga Ba ca (cn a) (bC a) (bG a) (bE a)) (hDb : IsD w gb Bb cb (cn b) (bC b) (bG b) (bE b)) :
  Calls Tryz.prog 135 #[.pointer (some ⟨gx, 0, none⟩), .pointer (some ⟨ga, 0, none⟩), .pointer (some ⟨gb, 0, none⟩)] w fun e w' => Frm (gx :: gr :: ob A) w w' ∧ match fF (ofB bs) a b most p out with
   | .error k => e = .panicked (Pan k)
   | .ok x => ∃ A' c', e = .returned (.bool x.1) ∧ IsX w' gx gr Ar bs x.2.1 A' c' x.2.2 most ∧ ∀ y ∈ ob A', y ∈ ob A ∨ w.heap.size ≤ y := by
 generalize hF : fF (ofB bs) a b most p out = F
 unfold fF at hF
 obtain ⟨hal, ham⟩ := gR hna
 obtain ⟨hbl, hbm⟩ := gR hnb
 have hom := hX.2.2.2.2.2.1
 have hgbr : ∀ x ∈ gb :: ob Bb, x ∉ [gr] := fun x hx h5 => by
  simp at h5
  rcases zbv.1 hx with h6 | hx
  · exact hDb.1.ne hX.2.1.choose_spec.1 jd jo
  subst h5; exact hDb.2.ne_blk hX.2.1.choose_spec.1 jd hx
 refine VC.calls (nt := 119) (res := #[.tmp 6]) Tryz.func135 rfl Tryz.ntmps135 Tryz.results135 rfl ?_
 refine jS (jR (ja rfl (jO (jN (jv3 0 1 2 ?_)))))
 refine jS (jR (jm rfl (jM ?_)))
 refine Ops.clp (jE2 Tryz.call144) (vY gx gr p ga Ar A _ _ a bs c out most _ hal ham hbs hB hX hDa) rfl ?_
 rintro e w1 ⟨hf1, he⟩
 have hfr1 := hf1
 rcases hT1 : jW (ofB bs) a p with kk | ⟨v1, p1⟩
 ·
  rw [hT1] at he
  simp only [hT1, dR] at hF
  subst hF
  exact .inr ⟨_, he, qD (bT ⟨hfr1.mono jp, rfl⟩)⟩
 rw [hT1] at he
 simp only [hT1, qB] at hF
 obtain ⟨rfl, hX1⟩ := he
 obtain ⟨hp1, hpl1, hv1⟩ := oL ham (by rw [bL]; exact hX.2.2.2.2.1) hT1
 refine .inl ⟨_, rfl, ?_⟩
 have hDb1 := hDb.frm hf1 hgbr
 have hd1 := qQ.drew w1
 refine ja rfl (jO (jN (jv3 0 2 7 ?_)))
 refine jS (jS (jR (jm rfl (jb rfl rfl (Bin.lssN _ 256) (jO (jN (jv4 0 2 7 17 ?_)))))))
 refine jD rfl (fun hc1 => ?_) fun hc1 => ?_
 ·
  rw [if_pos hc1] at hF
  have hXd := hX1.frm0 hd1.frm
  have hfrd := hfr1.drawn hd1
  refine jS ?_
  refine VC.tail 10 jK jK ?_
  simp only [zag, zdt, zdo, zby]
  refine qM ?_
  refine qE (Run.nilck rfl) ?_
  refine qE (Run.fieldAddr rfl zav rfl zo jd) ?_
  refine qE (Run.load rfl zx (hXd.1.cell 1)) ?_
  refine qE (Run.lenS rfl zf) ?_
  refine qM ?_
  refine qE (Run.nilck rfl) ?_
  refine qE (Run.fieldAddr rfl zav rfl zc jd) ?_
  refine qE (Run.load rfl zg (hXd.1.cell 2)) ?_
  refine qE (Run.bin rfl rfl (Bin.lssN _ _)) ?_
  refine qH.nil ?_
  refine Ops.clp (jE2 zec) (dS (decide (out.length < most)) 13 _) rfl ?_
  rintro e _ ⟨rfl, rfl⟩
  by_cases hN1 : out.length < most
  rotate_left
  ·
   refine .inr ⟨_, by rw [if_neg (by simpa using hN1)], qD (qD (bT ?_))⟩
   rw [if_neg hN1] at hF
   subst hF
   exact ⟨hfrd.mono jp, rfl⟩
  refine .inl ⟨_, by rw [if_pos (by simpa using hN1)], ?_⟩
  rw [if_pos hN1] at hF
  refine jO (jN (jv2 0 7 ?_))
  refine jS (jR (jm rfl (jm rfl (je (Run.nilck rfl) (jf rfl zav rfl zo (jl rfl zx (hXd.1.cell 1) (jm rfl (je (Run.conv8 _ rfl zaa zat) ?_))))))))
  refine Ops.m (qV.buildS1 rfl zf zad pO jd jd rfl rfl) rfl ?_
  rintro _ w3 ⟨rfl, hF3⟩
  have hm : ((v1 % 256 : Nat) : Int) = ((v1 : Nat) : Int) := by rw [zdz hc1]
  have hrd3 : Rd w3 1 (some ⟨w1.drew.heap.size, 0, none⟩) 1 (NB [v1]) := by
   have h5 : Rd w3 1 (some ⟨w1.drew.heap.size, 0, none⟩) 1 [.int .u8 ((v1 % 256 : Nat) : Int)] := Rd.of_blk (n := 1) (size := 1) hF3.blk rfl
   rw [hm] at h5
   exact h5
  have hX3 := hXd.frm0 hF3.frm
  have hfr3 := hfrd.trans hF3.frm jp
  refine Ops.m (qV.app rfl rfl zf (eA) rfl jd hX3.2.2.1 hrd3 (eP _) jo jo) rfl ?_
  rintro _ w4 ⟨B4, c4, rfl, ho4, hf4, hob4⟩
  have hb4 := hX3.1.frm hf4 hX3.gxA
  refine je (Run.nilck rfl) (jf rfl zav rfl zo ?_)
  refine Ops.st (qR.store (i := 1) rfl rfl zo hb4 rfl rfl) ?_
  rintro w5 ⟨hb5, hf5, hs5⟩
  obtain ⟨hX5, hf35, hu5⟩ := hX3.app ho4 hf4 hob4 hb5 hf5 rfl jo (fun x hx => by simp at hx; omega)
  have hsz3 := hfr3.size
  have hfr5 : Frm (gx :: gr :: ob A) w w5 := (hfr3.mono (T := gx :: gr :: ob A) jp).trans hf35 (fun x hx => .inl (by rcases zbv.1 hx with rfl | hx <;> simp_all))
  refine jO (jN ?_)
  refine VC.sub [] .nil ?_
  refine jS (jR (ja rfl (jO (jN (jT ?_)))))
  refine qP (qT rfl ?_)
  subst hF
  exact ⟨hfr5, B4, c4, rfl, hX5, fun y hy => (hu5 y hy).imp id (fun h => zn hsz3 h)⟩
 rw [if_neg hc1] at hF
 refine jQ (jN (jv3 0 2 7 ?_))
 refine jS (jS (jR (jm rfl (jb rfl rfl (Bin.eqlN _ 256) (jO (jN (jv4 0 2 7 41 ?_)))))))
 refine jD rfl (fun hc2 => ?_) fun hc2 => ?_
 ·
  rw [if_pos hc2] at hF
  refine jS (jR (ja rfl (jO (jN (jv1 6 ?_)))))
  refine jT ?_
  refine qP (qT rfl ?_)
  subst hF
  exact ⟨hfr1.mono jp, A, c, rfl, hX1, fun y hy => .inl hy⟩
 rw [if_neg hc2] at hF
 refine jQ (jN (jv3 0 2 7 ?_))
 refine jS (jR (jm rfl (jb rfl rfl (Bin.leqN _ 285) ?_)))
 refine Ops.clp (jE2 zec) (dS (decide (v1 ≤ 285)) 11 _) rfl ?_
 rintro e _ ⟨rfl, rfl⟩
 by_cases hN2 : v1 ≤ 285
 rotate_left
 ·
  refine .inr ⟨_, by rw [if_neg (by simpa using hN2)], qD (bT ?_)⟩
  rw [if_pos jo] at hF
  subst hF
  exact ⟨hfr1.mono jp, rfl⟩
 refine .inl ⟨_, by rw [if_pos (by simpa using hN2)], ?_⟩
 rw [if_neg jo] at hF
 have hi29 : v1 - 257 < 29 := jo
 obtain ⟨hlb, hll⟩ := qBm (v1 - 257) hi29
 have hlg : longT[v1 - 257]'(by have : longT.length = 29 := rfl; omega) = longT.getD (v1 - 257) (0, 0) := by simp [List.getD, zb (show v1 - 257 < longT.length by have : longT.length = 29 := rfl; omega)]
 refine jO (jN (jv3 0 2 7 ?_))
 refine jS (jR ?_)
 refine Ops.cl (jE0 Tryz.call123) (uM _) rfl ?_
 rintro e w2 ⟨rfl, hf2⟩
 refine ⟨_, rfl, ?_⟩
 have hX2 := hX1.frm0 hf2
 have hDb2 := hDb1.frm hf2 jp
 have hfr2 := hfr1.trans hf2 jp
 refine jm rfl (jb rfl rfl (Bin.sub_i64 _ 257 jo jo) (je (Run.indexArrA LC (v1 - 257) rfl rfl zfr Tryz.isAgg203 zcy vG rfl (by have : longT.length = 29 := rfl; omega)) ?_))
 rw [hlg]
 generalize longT.getD (v1 - 257) (0, 0) = lg at *
 refine Ops.m (qV.alloc sY) rfl ?_
 rintro _ w3 ⟨rfl, hF3⟩
 have hb3 := hF3.blk
 have hX3 := hX2.frm0 hF3.frm
 have hDb3 := hDb2.frm hF3.frm jp
 have hfr3 := hfr2.trans hF3.frm jp
 have hlt2 := hX2.lt
 have hs2 := hfr2.size
 refine Ops.st (qR.storeA rfl rfl zcy hb3 rfl (mB lg)) ?_
 rintro w4 ⟨hb4, hf4, hs4⟩
 have hb4 : Blk w4 w2.heap.size 203 (LC lg).toArray := hb4
 have hX4 := hX3.frm hf4 (hX2.ob_ne (zk _))
 have hDb4 := hDb3.frm hf4 (fun x hx h5 => by have := (hDb2.1.lt); have h7 := hDb2.2.lt; simp at h5; rcases zbv.1 hx with h6 | hx; omega; have := h7 x hx; omega)
 have hfr4 : Frm [gr] w w4 := hfr3.trans hf4 (fun x hx => .inr (by simp at hx; omega))
 generalize hg2 : w2.heap.size = g2 at *
 refine jO (jN (jv3 0 2 8 ?_))
 refine jS ?_
 refine VC.held (fun v => Blk v g2 203 (LC lg).toArray) jK ?_
 have hd4 := qQ.drew w4
 have hX4d := hX4.frm0 hd4.frm
 have hfr4d := hfr4.drawn hd4
 have hDb4d := hDb4.frm hd4.frm jp
 have hS : (fun v => Blk v g2 203 (LC lg).toArray) w4.drew := hb4.drawn hd4
 refine jH 0 rfl hS (fun w0 hw0 => Run.fieldAddr rfl zdj rfl zc jd) ?_
 refine jH 1 rfl hS (fun w0 hw0 => Run.load rfl zg (hw0.cell 0)) ?_
 refine jH 2 rfl hS (fun w0 hw0 => Run.mv rfl) ?_
 refine jH 3 rfl hS (fun w0 hw0 => Run.fieldAddr rfl zdj rfl zc jd) ?_
 refine jH 4 rfl hS (fun w0 hw0 => Run.load rfl zg (hw0.cell 1)) ?_
 refine qK.clp 5 rfl jK (jE2 zej) (dG gx gr lg.2 p1 Ar A bs c out most _ jo hbs hB hX4d) trivial rfl rfl ?_
 rintro e w5 ⟨hf5, he⟩
 have hfr5 := hfr4d.trans hf5 (fun x hx => .inl hx)
 rcases hT5 : bN (ofB bs) lg.2 p1 with kk | ⟨v5, p5⟩
 ·
  rw [hT5] at he
  simp only [hT5, dR] at hF
  subst hF
  exact .inr ⟨_, he, qD (bT ⟨hfr5.mono jp, rfl⟩)⟩
 rw [hT5] at he
 simp only [hT5, qB] at hF
 obtain ⟨rfl, hX5⟩ := he
 obtain ⟨hp5, hpl5, hv5, _⟩ := cK hT5
 have hS : (fun v => Blk v g2 203 (LC lg).toArray) w5 := (hb4.drawn hd4).frm hf5 (by simp; omega)
 have hv5b : 2 ^ lg.2 ≤ 2 ^ 5 := zz jo hlb
 have hDb5 := hDb4d.frm hf5 hgbr
 refine .inl ⟨_, rfl, hS, ?_⟩
 refine jH 6 rfl hS (fun w0 hw0 => Run.bin rfl rfl (Bin.add_i64 _ _ jo)) ?_
 refine jH 7 rfl hS (fun w0 hw0 => Run.asg rfl) ?_
 refine qK.done jK ?_
 refine jN (jv3 0 2 9 ?_)
 refine jS (jR (jm rfl (jM ?_)))
 refine Ops.clp (jE2 Tryz.call144) (vY gx gr p5 gb Ar A _ _ b bs c out most _ hbl hbm hbs hB hX5 hDb5) rfl ?_
 rintro e w6 ⟨hf6, he⟩
 have hfr6 := hfr5.trans hf6 (fun x hx => .inl hx)
 rcases hT6 : jW (ofB bs) b p5 with kk | ⟨v6, p6⟩
 ·
  rw [hT6] at he
  simp only [hT6, dR] at hF
  subst hF
  exact .inr ⟨_, he, qD (bT ⟨hfr6.mono jp, rfl⟩)⟩
 rw [hT6] at he
 simp only [hT6, qB] at hF
 obtain ⟨rfl, hX6⟩ := he
 obtain ⟨hp6, hpl6, hv6⟩ := oL hbm (by rw [bL]; exact hX5.2.2.2.2.1) hT6
 refine .inl ⟨_, rfl, ?_⟩
 refine ja rfl (jO (jN (jv3 0 9 10 ?_)))
 refine jS (jR (jm rfl (jb rfl rfl (Bin.lssN _ 30) ?_)))
 refine Ops.clp (jE2 zec) (dS (decide (v6 < 30)) 11 _) rfl ?_
 rintro e _ ⟨rfl, rfl⟩
 by_cases hN3 : v6 < 30
 rotate_left
 ·
  refine .inr ⟨_, by rw [if_neg (by simpa using hN3)], qD (bT ?_)⟩
  rw [if_pos jo] at hF
  subst hF
  exact ⟨hfr6.mono jp, rfl⟩
 refine .inl ⟨_, by rw [if_pos (by simpa using hN3)], ?_⟩
 rw [if_neg jo] at hF
 obtain ⟨hwb, hw1, hwl⟩ := qB5 v6 hN3
 have hwg : wayT[v6]'(by have : wayT.length = 30 := rfl; omega) = wayT.getD v6 (0, 0) := by simp [List.getD, zb (show v6 < wayT.length by have : wayT.length = 30 := rfl; omega)]
 refine jO (jN (jv3 0 9 10 ?_))
 refine jS (jR ?_)
 refine Ops.cl (jE0 Tryz.call124) (qQb _) rfl ?_
 rintro e w7 ⟨rfl, hf7⟩
 refine ⟨_, rfl, ?_⟩
 have hX7 := hX6.frm0 hf7
 have hfr7 := hfr6.trans hf7 jp
 refine jm rfl (je (Run.indexArrA LC v6 rfl rfl zgq Tryz.isAgg203 zcy vG rfl (by have : wayT.length = 30 := rfl; omega)) ?_)
 rw [hwg]
 generalize wayT.getD v6 (0, 0) = wg at *
 refine Ops.m (qV.alloc sY) rfl ?_
 rintro _ w8 ⟨rfl, hF8⟩
 have hb8 := hF8.blk
 have hX8 := hX7.frm0 hF8.frm
 have hfr8 := hfr7.trans hF8.frm jp
 have hlt7 := hX7.lt
 have hs7 := hfr7.size
 refine Ops.st (qR.storeA rfl rfl zcy hb8 rfl (mB wg)) ?_
 rintro w9 ⟨hb9, hf9, hs9⟩
 have hb9 : Blk w9 w7.heap.size 203 (LC wg).toArray := hb9
 have hX9 := hX8.frm hf9 (hX7.ob_ne (zk _))
 have hfr9 : Frm [gr] w w9 := hfr8.trans hf9 (fun x hx => .inr (by simp at hx; omega))
 generalize hg7 : w7.heap.size = g7 at *
 refine jO (jN (jv3 0 9 11 ?_))
 refine jS ?_
 refine VC.held (fun v => Blk v g7 203 (LC wg).toArray) jK ?_
 have hd9 := qQ.drew w9
 have hX9d := hX9.frm0 hd9.frm
 have hfr9d := hfr9.drawn hd9
 have hS : (fun v => Blk v g7 203 (LC wg).toArray) w9.drew := hb9.drawn hd9
 refine jH 0 rfl hS (fun w0 hw0 => Run.fieldAddr rfl zdj rfl zc jd) ?_
 refine jH 1 rfl hS (fun w0 hw0 => Run.load rfl zg (hw0.cell 0)) ?_
 refine jH 2 rfl hS (fun w0 hw0 => Run.mv rfl) ?_
 refine jH 3 rfl hS (fun w0 hw0 => Run.fieldAddr rfl zdj rfl zc jd) ?_
 refine jH 4 rfl hS (fun w0 hw0 => Run.load rfl zg (hw0.cell 1)) ?_
 refine qK.clp 5 rfl jK (jE2 zej) (dG gx gr wg.2 p6 Ar A bs c out most _ jo hbs hB hX9d) trivial rfl rfl ?_
 rintro e w10 ⟨hf10, he⟩
 have hfr10 := hfr9d.trans hf10 (fun x hx => .inl hx)
 rcases hT10 : bN (ofB bs) wg.2 p6 with kk | ⟨v10, p10⟩
 ·
  rw [hT10] at he
  simp only [hT10, dR] at hF
  subst hF
  exact .inr ⟨_, he, qD (bT ⟨hfr10.mono jp, rfl⟩)⟩
 rw [hT10] at he
 simp only [hT10, qB] at hF
 obtain ⟨rfl, hX10⟩ := he
 obtain ⟨hp10, hpl10, hv10, _⟩ := cK hT10
 have hS : (fun v => Blk v g7 203 (LC wg).toArray) w10 := (hb9.drawn hd9).frm hf10 (by simp; omega)
 have hv10b : 2 ^ wg.2 ≤ 2 ^ 13 := zz jo hwb
 refine .inl ⟨_, rfl, hS, ?_⟩
 refine jH 6 rfl hS (fun w0 hw0 => Run.bin rfl rfl (Bin.add_i64 _ _ jo)) ?_
 refine jH 7 rfl hS (fun w0 hw0 => Run.asg rfl) ?_
 refine qK.done jK ?_
 refine jN (jv3 0 9 12 ?_)
 refine jS (jR (jm rfl (jm rfl (je (Run.nilck rfl) (jf rfl zav rfl zo (jl rfl zx (hX10.1.cell 1) (je (Run.lenS rfl zf) (jb rfl rfl (Bin.leqN _ _) ?_))))))))
 refine Ops.clp (jE2 zec) (dS (decide (wg.1 + v10 ≤ out.length)) 12 _) rfl ?_
 rintro e _ ⟨rfl, rfl⟩
 by_cases hN4 : wg.1 + v10 ≤ out.length
 rotate_left
 ·
  refine .inr ⟨_, by rw [if_neg (by simpa using hN4)], qD (bT ?_)⟩
  rw [if_pos jo] at hF
  subst hF
  exact ⟨hfr10.mono jp, rfl⟩
 refine .inl ⟨_, by rw [if_pos (by simpa using hN4)], ?_⟩
 rw [if_neg jo] at hF
 have hd10 := qQ.drew w10
 have hX10d := hX10.frm0 hd10.frm
 have hfr10d := hfr10.drawn hd10
 refine jO (jN (jv3 0 9 12 ?_))
 refine jS ?_
 refine VC.tail 12 jK jK ?_
 simp only [zag, zdt, zdo, zby]
 refine qM ?_
 refine qM ?_
 refine qE (Run.nilck rfl) ?_
 refine qE (Run.fieldAddr rfl zav rfl zc jd) ?_
 refine qE (Run.load rfl zg (hX10d.1.cell 2)) ?_
 refine qM ?_
 refine qE (Run.nilck rfl) ?_
 refine qE (Run.fieldAddr rfl zav rfl zo jd) ?_
 refine qE (Run.load rfl zx (hX10d.1.cell 1)) ?_
 refine qE (Run.lenS rfl zf) ?_
 refine qE (Run.bin rfl rfl (Bin.sub_i64 _ _ jo jo)) ?_
 refine qE (Run.bin rfl rfl (Bin.leqN _ _)) ?_
 refine qH.nil ?_
 refine Ops.clp (jE2 zec) (dS (decide (lg.1 + v5 ≤ most - out.length)) 13 _) rfl ?_
 rintro e _ ⟨rfl, rfl⟩
 by_cases hN5 : lg.1 + v5 ≤ most - out.length
 rotate_left
 ·
  refine .inr ⟨_, by rw [if_neg (by simpa using hN5)], qD (bT ?_)⟩
  rw [if_pos jo] at hF
  subst hF
  exact ⟨hfr10d.mono jp, rfl⟩
 refine .inl ⟨_, by rw [if_pos (by simpa using hN5)], ?_⟩
 rw [if_neg jo] at hF
 have hs10 := hfr10d.size
 have hfr11 : Frm (gx :: gr :: ob A) w w10.drew := hfr10d.mono jp
 refine jO (jN (jv3 0 9 12 ?_))
 refine jS (jS (jR (jM ?_)))
 refine jx .i64 0 ?_
 refine jO (jN (jv4 0 12 93 94 ?_))
 refine jB ?_
 refine VC.loop (σ := Nat × List Nat × Option Addr × Nat) (fun s => [(0, .pointer (some ⟨gx, 0, none⟩)), (12, .int .i64 ((wg.1 + v10 : Nat) : Int)), (93, .int .i64 ((lg.1 + v5 : Nat) : Int)), (94, .int .i64 ((s.1 : Nat) : Int))]) (fun s wr => s.1 ≤ lg.1 + v5 ∧ dB (lg.1 + v5 - s.1) (wg.1 + v10) s.2.1 = dB (lg.1 + v5) (wg.1 + v10) out ∧ s.2.1.length = out.length + s.1 ∧ IsX wr gx gr Ar bs p10 s.2.2.1 s.2.2.2 s.2.1 most ∧ Frm (gx :: gr :: ob A) w wr ∧ ∀ y ∈ ob s.2.2.1, y ∈ ob A ∨ w.heap.size ≤ y) (fun s => lg.1 + v5 - s.1) (0, out, A, c) (js4 rfl rfl rfl rfl) ⟨jo, rfl, rfl, hX10d, hfr11, fun y hy => .inl hy⟩ ?_
 rintro ⟨i, o, A2, c2⟩ wr ⟨hi, hcp, hol, hXr, hfr, hu⟩
 dsimp only at hi hcp hol hXr hfr hu ⊢
 have hdr := qQ.drew wr
 have hXs := hXr.frm0 hdr.frm
 have hfrs := hfr.drawn hdr
 refine jS (jR (jb rfl rfl (Bin.lssN _ _) (jO (jN (jS ?_)))))
 refine jD rfl (fun hc3 => ?_) fun hc3 => ?_
 ·
  obtain ⟨adk, hAk, hck⟩ := qB6 hXs.2.2.1.rd (k := o.length - (wg.1 + v10)) jo
  subst hAk
  obtain ⟨k, hk⟩ : ∃ k, lg.1 + v5 - i = k + 1 := ⟨lg.1 + v5 - i - 1, jo⟩
  have hlo : o.getD (o.length - (wg.1 + v10)) 0 < 256 := by
   have h5 : o.length - (wg.1 + v10) < o.length := jo
   simp only [List.getD, zb h5, zba]
   exact hXs.2.2.2.2.2.2 _ (zt _)
  rw [hk, dB] at hcp
  generalize o.getD (o.length - (wg.1 + v10)) 0 = xo at *
  refine jQ (jN (jv4 0 12 93 94 ?_))
  refine jS (jB ?_)
  refine VC.heldL 22 (fun v => Blk v gx 150 #[.pointer (some ⟨gr, 0, none⟩), .slice (some adk) o.length c2, .int .i64 ((most : Nat) : Int)]) jK ?_
  have hS : (fun v => Blk v gx 150 #[.pointer (some ⟨gr, 0, none⟩), .slice (some adk) o.length c2, .int .i64 ((most : Nat) : Int)]) wr.drew := hXs.1
  refine jH 0 rfl hS (fun w0 hw0 => Run.mv rfl) ?_
  refine jH 1 rfl hS (fun w0 hw0 => Run.mv rfl) ?_
  refine jH 2 rfl hS (fun w0 hw0 => Run.nilck rfl) ?_
  refine jH 3 rfl hS (fun w0 hw0 => Run.fieldAddr rfl zav rfl zo jd) ?_
  refine jH 4 rfl hS (fun w0 hw0 => Run.load rfl zx (hw0.cell 1)) ?_
  refine jH 5 rfl hS (fun w0 hw0 => Run.mv rfl) ?_
  refine jH 6 rfl hS (fun w0 hw0 => Run.nilck rfl) ?_
  refine jH 7 rfl hS (fun w0 hw0 => Run.fieldAddr rfl zav rfl zo jd) ?_
  refine jH 8 rfl hS (fun w0 hw0 => Run.load rfl zx (hw0.cell 1)) ?_
  refine jH 9 rfl hS (fun w0 hw0 => Run.mv rfl) ?_
  refine jH 10 rfl hS (fun w0 hw0 => Run.nilck rfl) ?_
  refine jH 11 rfl hS (fun w0 hw0 => Run.fieldAddr rfl zav rfl zo jd) ?_
  refine jH 12 rfl hS (fun w0 hw0 => Run.load rfl zx (hw0.cell 1)) ?_
  refine jH 13 rfl hS (fun w0 hw0 => Run.lenS rfl zf) ?_
  refine qK.r1 14 rfl jK hS (Run.mv rfl) trivial rfl rfl ?_
  refine qK.r1 15 rfl jK hS (Run.bin rfl rfl (Bin.sub_i64 _ _ jo jo)) trivial rfl rfl ?_
  refine qK.r1 16 rfl jK hS (Run.index1 _ rfl rfl zf zad jo) trivial rfl rfl ?_
  refine qK.r1 17 rfl jK hS (Run.load rfl zdr hck) trivial rfl rfl ?_
  refine qK.m 18 rfl jK (qV.buildS1 rfl zf zad pO jd jd rfl rfl) trivial rfl rfl ?_
  rintro _ w3 ⟨rfl, hF3⟩
  have hrd3 : Rd w3 1 (some ⟨wr.drew.heap.size, 0, none⟩) 1 (NB [xo]) := Rd.of_blk (n := 1) (size := 1) hF3.blk rfl
  have hX3 := hXs.frm0 hF3.frm
  have hfr3 := hfrs.trans hF3.frm jp
  have hS : (fun v => Blk v gx 150 #[.pointer (some ⟨gr, 0, none⟩), .slice (some adk) o.length c2, .int .i64 ((most : Nat) : Int)]) w3 := hX3.1
  refine ⟨hS, ?_⟩
  refine qK.m 19 rfl jK (qV.app rfl rfl zf (eA) rfl jd hX3.2.2.1 hrd3 (eP _) jo jo) trivial rfl rfl ?_
  rintro _ w4 ⟨B4, c4, rfl, ho4, hf4, hob4⟩
  have hb4 := hX3.1.frm hf4 hX3.gxA
  have hS := hb4
  refine ⟨hS, ?_⟩
  refine qK.r1 20 rfl jK hS (Run.nilck rfl) trivial rfl rfl ?_
  refine qK.r1 21 rfl jK hS (Run.fieldAddr rfl zav rfl zo jd) trivial rfl rfl ?_
  refine qK.stL rfl jK (qR.store (i := 1) rfl rfl zo hb4 rfl rfl) trivial rfl ?_
  rintro w5 ⟨hb5, hf5, hs5⟩
  obtain ⟨hX5, hf35, hu5⟩ := hX3.app ho4 hf4 hob4 hb5 hf5 rfl jo (fun x hx => by simp at hx; omega)
  have hsz3 := hfr3.size
  have hfr5 : Frm (gx :: gr :: ob A) w w5 := hfr3.trans hf35 (fun x hx => by rcases zbv.1 hx with rfl | hx; exact .inl jp; rcases hu x hx with h6 | h6; exact .inl (by simp [h6]); exact .inr h6)
  refine qK.done jK ?_
  refine qJ (jN ?_)
  refine jv4 0 12 93 94 ?_
  refine jR (jb rfl rfl (Bin.add_i64 _ 1 jo) (jm rfl (jO ?_)))
  refine jN ⟨(i + 1, o ++ [xo], B4, c4), (js4 rfl rfl rfl rfl), ?_, ?_⟩
  ·
   refine ⟨by dsimp only; omega, ?_, by dsimp only; rw [za]; simp; omega, hX5, hfr5, fun y hy => (hu5 y hy).elim (hu y) (fun h => .inr (zn hsz3 h))⟩
   dsimp only
   rw [← hcp, show lg.1 + v5 - (i + 1) = k by omega]
  first | omega | (dsimp only; omega)
 have hin : i = lg.1 + v5 := jo
 subst hin
 rw [zgb] at hcp
 simp only [dB] at hcp
 refine jX ?_
 refine qZ (qZ (qW ?_))
 refine jN ?_
 refine VC.sub [] .nil ?_
 refine jS (jR (ja rfl (jO (jN (jT ?_)))))
 refine qT rfl ?_
 subst hF
 exact ⟨hfr, A2, c2, rfl, by rw [← hcp]; exact hXr, hu⟩
end
section
open Go.RowKit
theorem qZg {L : List Bool} {a b : List Int} {most p : Nat} {out : List Nat} {x : Bool × Nat × List Nat} (hm : bE a ≤ 15) (hm2 : bE b ≤ 15) (hp : p ≤ L.length) (h : fF L a b most p out = .ok x) : p < x.2.1 ∧ x.2.1 ≤ L.length := by
 unfold fF at h
 rcases hS : jW L a p with k | ⟨s, p1⟩
 · rw [hS] at h; cases h
 rw [hS, qB] at h
 obtain ⟨h1, h2, _⟩ := oL hm hp hS
 dsimp only at h
 split at h
 ·
  split at h
  · injection h with h; subst h; exact ⟨h1, h2⟩
  cases h
 split at h
 · injection h with h; subst h; exact ⟨h1, h2⟩
 split at h
 · cases h
 generalize longT.getD (s - 257) (0, 0) = lg at h
 rcases hT : bN L lg.2 p1 with k | ⟨v, p2⟩
 · rw [hT] at h; cases h
 rw [hT, qB] at h
 obtain ⟨h3, h4, _, _⟩ := cK hT
 dsimp only at h
 rcases hS2 : jW L b p2 with k | ⟨s2, p3⟩
 · rw [hS2] at h; cases h
 rw [hS2, qB] at h
 obtain ⟨h5, h6, _⟩ := oL hm2 jo hS2
 dsimp only at h
 split at h
 · cases h
 generalize wayT.getD s2 (0, 0) = wg at h
 rcases hT2 : bN L wg.2 p3 with k | ⟨v2, p4⟩
 · rw [hT2] at h; cases h
 rw [hT2, qB] at h
 obtain ⟨h7, h8, _, _⟩ := cK hT2
 dsimp only at h
 split at h
 · cases h
 split at h
 · cases h
 injection h with h; subst h
 show p < p4 ∧ p4 ≤ L.length
 omega
theorem IsX.ofD {w : World} {gx gr : Nat} {Ar : Option Addr} {bs : List Nat} {p : Nat} {A : Option Addr} {c : Nat} {out : List Nat} {most g : Nat} {B : Option Addr} {d : Nat} {f F : Nat → Nat} {sy : List Nat} {m : Nat} (h : IsX w gx gr Ar bs p A c out most) (hD : IsD w g B d f F sy m) : ∀ x ∈ g :: ob B, x ∉ gx :: gr :: ob A := fun x hx h5 => by
 rcases zbv.1 h5 with rfl | h5
 ·
  rcases zbv.1 hx with h6 | hx
  · exact hD.1.ne h.1 jd h6.symm
  exact hD.2.ne_blk h.1 jd hx
 rcases zbv.1 h5 with rfl | h5
 ·
  rcases zbv.1 hx with h6 | hx
  · exact hD.1.ne h.2.1.choose_spec.1 jd h6.symm
  exact hD.2.ne_blk h.2.1.choose_spec.1 jd hx
 rcases zbv.1 hx with h6 | hx
 · subst h6; exact h.2.2.1.ne_blk hD.1 jd h5
 exact hD.2.ne_own h.2.2.1 jd x hx h5
theorem vR (gx gr p ga gb f : Nat) (Ar A Ba Bb : Option Addr) (ca cb : Nat) (a b : List Int) (bs : List Nat) (c : Nat) (out : List Nat) (most : Nat) (w : World) (hna : newE a = 0) (hnb : newE b = 0) (hfp : 8 * bs.length < f + p) (hmo : most ≤ 1000000) (hbs : bs.length ≤ 1000000) (hB : ∀ b ∈ bs, b < 256) (hX : IsX w gx gr Ar bs p A c out most)
  (hDa : IsD w ga Ba ca (cn a) (bC a) (bG a) (bE a)) (hDb : IsD w gb Bb cb (cn b) (bC b) (bG b) (bE b)) :
  Calls Tryz.prog 116 #[.pointer (some ⟨gx, 0, none⟩), .pointer (some ⟨ga, 0, none⟩), .pointer (some ⟨gb, 0, none⟩)] w fun e w' => Frm (gx :: gr :: ob A) w w' ∧ match dL (ofB bs) a b most f p out with
   | .error k => e = .panicked (Pan k)
   | .ok x => ∃ A' c', e = .returned (.tuple #[]) ∧ IsX w' gx gr Ar bs x.1 A' c' x.2 most ∧ ∀ y ∈ ob A', y ∈ ob A ∨ w.heap.size ≤ y := by
 generalize hF : dL (ofB bs) a b most f p out = F
 obtain ⟨hal, ham⟩ := gR hna
 obtain ⟨hbl, hbm⟩ := gR hnb
 refine VC.calls (nt := 10) (res := #[]) Tryz.func116 rfl Tryz.ntmps116 Tryz.results116 rfl ?_
 refine jB ?_
 refine VC.loop (σ := Nat × Nat × List Nat × Option Addr × Nat) (fun s => [(0, .pointer (some ⟨gx, 0, none⟩)), (1, .pointer (some ⟨ga, 0, none⟩)), (2, .pointer (some ⟨gb, 0, none⟩))]) (fun s wr => dL (ofB bs) a b most s.1 s.2.1 s.2.2.1 = F ∧ 8 * bs.length < s.1 + s.2.1 ∧ IsX wr gx gr Ar bs s.2.1 s.2.2.2.1 s.2.2.2.2 s.2.2.1 most ∧ IsD wr ga Ba ca (cn a) (bC a) (bG a) (bE a) ∧ IsD wr gb Bb cb (cn b) (bC b) (bG b) (bE b) ∧ Frm (gx :: gr :: ob A) w wr ∧ ∀ y ∈ ob s.2.2.2.1, y ∈ ob A ∨ w.heap.size ≤ y) (fun s => 8 * bs.length + 1 - s.2.1) (f, p, out, A, c) (js3 rfl rfl rfl) ⟨hF, hfp, hX, hDa, hDb, Frm.refl _ _, fun y hy => .inl hy⟩ ?_
 clear hF hX hDa hDb
 rintro ⟨f, q, o, A2, c2⟩ wr ⟨hF, hfq, hX, hDa, hDb, hfr, hu⟩
 dsimp only at hF hfq hX hDa hDb hfr hu ⊢
 have hp := hX.2.2.2.2.1
 have hp2 : q ≤ (ofB bs).length := by rw [bL]; exact hp
 obtain ⟨f, rfl⟩ : ∃ f', f = f' + 1 := ⟨f - 1, jo⟩
 simp only [dL] at hF
 have hs := hfr.size
 refine jS (jS (jR (jm rfl (jm rfl (jM ?_)))))
 refine Ops.clp (jE3 Tryz.call135) (qWl gx gr q ga gb Ar A2 Ba Bb ca cb a b bs c2 o most _ hna hnb hmo hbs hB hX hDa hDb) rfl ?_
 rintro e w1 ⟨hf1, he⟩
 have hfr1 : Frm (gx :: gr :: ob A) w w1 := hfr.trans hf1 (fun x hx => by
  rcases zbv.1 hx with rfl | hx
  · exact .inl jp
  rcases zbv.1 hx with rfl | hx
  · exact .inl jp
  rcases hu x hx with h6 | h6
  · exact .inl (by simp [h6])
  exact .inr h6)
 rcases hT : fF (ofB bs) a b most q o with kk | ⟨go, q2, o2⟩
 ·
  rw [hT] at he hF
  simp only [dR] at hF
  subst hF
  exact .inr ⟨_, he, qD (qD (qD (eX (bT ⟨hfr1, rfl⟩))))⟩
 have hlt := (qZg ham hbm hp2 hT).1
 rw [hT] at he hF
 simp only [qB] at hF
 obtain ⟨A3, c3, rfl, hX1, hu1⟩ := he
 dsimp only at hX1 hu1 hF hlt
 have hDa1 := hDa.frm hf1 (hX.ofD hDa)
 have hDb1 := hDb.frm hf1 (hX.ofD hDb)
 have hp3 := hX1.2.2.2.2.1
 refine .inl ⟨_, rfl, ?_⟩
 refine jO (jN (jv4 0 1 2 9 ?_))
 refine VC.condB rfl (fun hc1 => ?_) (fun hc1 => ?_)
 ·
  refine jQ (jN (jv3 0 1 2 ?_))
  refine jB (jQ ?_)
  refine qJ (jN ⟨(f, q2, o2, A3, c3), (js3 rfl rfl rfl), ?_, ?_⟩)
  ·
   rw [if_pos hc1] at hF
   exact ⟨hF, by dsimp only; omega, hX1, hDa1, hDb1, hfr1, fun y hy => (hu1 y hy).elim (hu y) (fun h => .inr (zn hs h))⟩
  dsimp only; omega
 refine jX ?_
 refine qZ (qZ (qW ?_))
 refine eM ?_
 rw [if_neg (by simpa using hc1)] at hF
 subst hF
 exact ⟨hfr1, A3, c3, rfl, hX1, fun y hy => (hu1 y hy).elim (hu y) (fun h => .inr (zn hs h))⟩
end
section
open Go.RowKit
theorem qG4 {bs : List Nat} {most p : Nat} {out : List Nat} {x : Nat × List Nat} (h : mV bs most p out = .ok x) : p < x.1 := by
 unfold mV at h
 rcases hT : bN (ofB bs) 16 ((p + 7) / 8 * 8) with k | ⟨v, p2⟩
 · rw [hT] at h; cases h
 rw [hT, qB] at h
 obtain ⟨h3, h4, _, _⟩ := cK hT
 dsimp only at h
 rcases hT2 : bN (ofB bs) 16 p2 with k | ⟨v2, p3⟩
 · rw [hT2] at h; cases h
 rw [hT2, qB] at h
 obtain ⟨h7, h8, _, _⟩ := cK hT2
 dsimp only at h
 split at h
 · cases h
 split at h
 · cases h
 split at h
 · cases h
 simp only [Except.ok.injEq] at h
 subst h
 show p < p3 + 8 * v
 omega
theorem mE : cQ.length = 288 := by decide +kernel
theorem mF : cX.length = 32 := by decide +kernel
theorem qWm (gx gr p : Nat) (Ar A : Option Addr) (bs : List Nat) (c : Nat) (out : List Nat) (most : Nat) (w : World) (hmo : most ≤ 1000000) (hbs : bs.length ≤ 1000000) (hB : ∀ b ∈ bs, b < 256) (hX : IsX w gx gr Ar bs p A c out most) :
  Calls Tryz.prog 86 #[.pointer (some ⟨gx, 0, none⟩)] w fun e w' => Frm (gx :: gr :: ob A) w w' ∧ match kK bs most p out with
   | .error k => e = .panicked (Pan k)
   | .ok x => ∃ A' c', e = .returned (.bool x.1) ∧ IsX w' gx gr Ar bs x.2.1 A' c' x.2.2 most ∧ ∀ y ∈ ob A', y ∈ ob A ∨ w.heap.size ≤ y := by
 generalize hF : kK bs most p out = F
 unfold kK at hF
 refine VC.calls (nt := 43) (res := #[.tmp 2]) Tryz.func86 rfl Tryz.ntmps86 Tryz.results86 rfl ?_
 refine jS (jR (ja rfl (jO (jN (jv1 0 ?_)))))
 refine jS (jR (jM ?_))
 refine Ops.clp (jE2 zej) (dG gx gr 1 p Ar A bs c out most _ jo hbs hB hX) rfl ?_
 rintro e w1 ⟨hf1, he⟩
 have hfr1 := hf1
 rcases hT1 : bN (ofB bs) 1 p with kk | ⟨v1, p1⟩
 ·
  rw [hT1] at he
  simp only [hT1, dR] at hF
  subst hF
  exact .inr ⟨_, he, qD (bT ⟨hfr1.mono jp, rfl⟩)⟩
 rw [hT1] at he
 simp only [hT1, qB] at hF
 obtain ⟨rfl, hX1⟩ := he
 obtain ⟨hp1, hpl1, hv1, _⟩ := cK hT1
 refine .inl ⟨_, rfl, ?_⟩
 refine jM ?_
 refine Ops.clp (jE2 zej) (dG gx gr 2 p1 Ar A bs c out most _ jo hbs hB hX1) rfl ?_
 rintro e w2 ⟨hf2, he⟩
 have hfr2 := hfr1.trans hf2 (fun x hx => .inl hx)
 rcases hT2 : bN (ofB bs) 2 p1 with kk | ⟨v2, p2⟩
 ·
  rw [hT2] at he
  simp only [hT2, dR] at hF
  subst hF
  exact .inr ⟨_, he, qD (bT ⟨hfr2.mono jp, rfl⟩)⟩
 rw [hT2] at he
 simp only [hT2, qB] at hF
 obtain ⟨rfl, hX2⟩ := he
 obtain ⟨hp2, hpl2, hv2, _⟩ := cK hT2
 refine .inl ⟨_, rfl, ?_⟩
 rw [bL] at hpl1 hpl2
 have hs2 := hfr2.size
 refine ja rfl (ja rfl (jO (jN (jv3 0 3 4 ?_))))
 refine jS (jR (jm rfl (jb rfl rfl (Bin.lssN _ 3) ?_)))
 refine Ops.clp (jE2 zec) (dS (decide (v2 < 3)) 3 _) rfl ?_
 rintro e _ ⟨rfl, rfl⟩
 by_cases hN1 : v2 < 3
 rotate_left
 ·
  refine .inr ⟨_, by rw [if_neg (by simpa using hN1)], qD (bT ?_)⟩
  rw [if_pos hN1] at hF
  subst hF
  exact ⟨hfr2.mono jp, rfl⟩
 refine .inl ⟨_, by rw [if_pos (by simpa using hN1)], ?_⟩
 rw [if_neg (by simpa using hN1)] at hF
 refine jO (jN (jv3 0 3 4 ?_))
 refine jS (jS (jR (jm rfl (jO (jN (jv3 0 3 14 ?_))))))
 refine jB (jS (jR (jb rfl rfl (Bin.eqlN _ 0) (ja rfl (jO (jN (jv4 0 3 14 15 ?_)))))))
 refine jD rfl (fun hc1 => ?_) fun hc1 => ?_
 ·
  rw [if_pos hc1] at hF
  refine jS (jR (jM ?_))
  refine Ops.clp (jE1 Tryz.call115) (qKm gx gr p2 Ar A bs c out most _ hmo hbs hB hX2) rfl ?_
  rintro e w3 ⟨hf3, he⟩
  have hfr3 : Frm (gx :: gr :: ob A) w w3 := (hfr2.mono (T := gx :: gr :: ob A) jp).trans hf3 (fun x hx => .inl hx)
  rcases hT3 : mV bs most p2 out with kk | ⟨q3, o3⟩
  ·
   rw [hT3] at he hF
   simp only [dR] at hF
   subst hF
   exact .inr ⟨_, he, qD (eX (qD (bT ⟨hfr3, rfl⟩)))⟩
  rw [hT3] at he hF
  simp only [qB] at hF
  obtain ⟨A3, c3, rfl, hX3, hu3⟩ := he
  dsimp only at hX3 hu3 hF
  subst hF
  refine .inl ⟨_, rfl, ?_⟩
  refine jO (jN (jv1 3 ?_))
  refine jS (jR (jm rfl (jb rfl rfl (Bin.eqlN _ 0) (ja rfl (jO (jN (jv1 2 ?_)))))))
  refine jT ?_
  refine qO (qP (qT rfl ?_))
  exact ⟨hfr3, A3, c3, rfl, hX3, fun y hy => (hu3 y hy).imp id (fun h => zn hs2 h)⟩
 rw [if_neg hc1] at hF
 refine jS (jR (jb rfl rfl (Bin.eqlN _ 1) (ja rfl (jO (jN (jv4 0 3 14 21 ?_))))))
 refine jD rfl (fun hc2 => ?_) fun hc2 => ?_
 ·
  rw [if_pos hc2] at hF
  obtain ⟨hg1, hg2, _⟩ := qQc
  refine jS (jR ?_)
  refine Ops.cl (jE0 Tryz.call56) (xY _) rfl ?_
  rintro e w3 ⟨A3, c3, B3, d3, rfl, hO3, hQ3, hf3⟩
  refine ⟨_, rfl, ?_⟩
  have hX3 := hX2.frm0 hf3
  have hfr3 := hfr2.trans hf3 jp
  refine jm rfl (je (Run.extract rfl rfl) (je (Run.extract rfl rfl) (ja rfl (ja rfl (jO (jN (jv4 0 3 5 6 ?_)))))))
  refine jR (jm rfl (jM ?_))
  refine Ops.clp (jE1 Tryz.call117) (sS _ _ cQ 288 _ (by rw [mE]; omega) mE hO3.rd) rfl ?_
  rintro e w4 ⟨hf4, he⟩
  have hfr4 := (hfr3).trans hf4 jp
  rw [if_pos hg1] at he
  obtain ⟨gd4, Bd4, cd4, rfl, hD4, hgd4⟩ := he
  refine .inl ⟨_, rfl, ?_⟩
  have hX4 := hX3.frm0 hf4
  have hQ4 := hQ3.frm hf4 jp
  refine jM ?_
  refine Ops.clp (jE1 Tryz.call117) (sS _ _ cX 32 _ (by rw [mF]; omega) mF hQ4.rd) rfl ?_
  rintro e w5 ⟨hf5, he⟩
  have hfr5 := (hfr4).trans hf5 jp
  rw [if_pos hg2] at he
  obtain ⟨gd5, Bd5, cd5, rfl, hD5, hgd5⟩ := he
  refine .inl ⟨_, rfl, ?_⟩
  have hX5 := hX4.frm0 hf5
  have hD45 := hD4.frm hf5 jp
  refine Ops.clp (jE3 Tryz.call116) (vR gx gr p2 gd4 gd5 (8 * bs.length + 1) Ar A Bd4 Bd5 _ _ cQ cX bs c out most _ hg1 hg2 jo hmo hbs hB hX5 hD45 hD5) rfl ?_
  rintro e w6 ⟨hf6, he⟩
  have hfr6 : Frm (gx :: gr :: ob A) w w6 := (hfr5.mono (T := gx :: gr :: ob A) jp).trans hf6 (fun x hx => .inl hx)
  rcases hT6 : dL (ofB bs) cQ cX most (8 * bs.length + 1) p2 out with kk | ⟨q6, o6⟩
  ·
   rw [hT6] at he hF
   simp only [dR] at hF
   subst hF
   exact .inr ⟨_, he, eX (qD (bT ⟨hfr6, rfl⟩))⟩
  rw [hT6] at he hF
  simp only [qB] at hF
  obtain ⟨A6, c6, rfl, hX6, hu6⟩ := he
  dsimp only at hX6 hu6 hF
  subst hF
  refine .inl ⟨_, rfl, ?_⟩
  refine jO ?_
  refine qJ (jN ?_)
  refine jv1 3 ?_
  refine jS (jR (jm rfl (jb rfl rfl (Bin.eqlN _ 0) (ja rfl (jO (jN (jv1 2 ?_)))))))
  refine jT ?_
  refine qT rfl ?_
  exact ⟨hfr6, A6, c6, rfl, hX6, fun y hy => (hu6 y hy).imp id (fun h => zn hfr5.size h)⟩
 rw [if_neg hc2] at hF
 refine jS (jR (jb rfl rfl (Bin.eqlN _ 2) (ja rfl (jO (jN (jv3 0 3 33 ?_))))))
 refine jD rfl (fun hc3 => ?_) fun hc3 => ?_
 ·
  refine jR (jm rfl (jM ?_))
  refine Ops.clp (jE1 Tryz.call118) (qNf gx gr p2 Ar A bs c out most _ hbs hB hX2) rfl ?_
  rintro e w3 ⟨hf3, he⟩
  have hfr3 := hfr2.trans hf3 (fun x hx => .inl hx)
  rcases hT3 : rO (ofB bs) p2 with kk | ⟨q3, la, lb⟩
  ·
   rw [hT3] at he hF
   simp only [dR] at hF
   subst hF
   exact .inr ⟨_, he, eX (qD (bT ⟨hfr3.mono jp, rfl⟩))⟩
  rw [hT3] at he hF
  simp only [qB] at hF
  obtain ⟨ga, Ba, ca, gb, Bb, cb, rfl, hX3, hDa, hDb, hna, hnb⟩ := he
  dsimp only at hX3 hDa hDb hna hnb hF
  refine .inl ⟨_, rfl, ?_⟩
  refine je (Run.extract rfl rfl) (je (Run.extract rfl rfl) ?_)
  refine Ops.clp (jE3 Tryz.call116) (vR gx gr q3 ga gb (8 * bs.length + 1) Ar A Ba Bb _ _ la lb bs c out most _ hna hnb jo hmo hbs hB hX3 hDa hDb) rfl ?_
  rintro e w6 ⟨hf6, he⟩
  have hfr6 : Frm (gx :: gr :: ob A) w w6 := (hfr3.mono (T := gx :: gr :: ob A) jp).trans hf6 (fun x hx => .inl hx)
  rcases hT6 : dL (ofB bs) la lb most (8 * bs.length + 1) q3 out with kk | ⟨q6, o6⟩
  ·
   rw [hT6] at he hF
   simp only [dR] at hF
   subst hF
   exact .inr ⟨_, he, eX (qD (bT ⟨hfr6, rfl⟩))⟩
  rw [hT6] at he hF
  simp only [qB] at hF
  obtain ⟨A6, c6, rfl, hX6, hu6⟩ := he
  dsimp only at hX6 hu6 hF
  subst hF
  refine .inl ⟨_, rfl, ?_⟩
  refine jO ?_
  refine qJ (jN ?_)
  refine jv1 3 ?_
  refine jS (jR (jm rfl (jb rfl rfl (Bin.eqlN _ 0) (ja rfl (jO (jN (jv1 2 ?_)))))))
  refine jT ?_
  refine qT rfl ?_
  exact ⟨hfr6, A6, c6, rfl, hX6, fun y hy => (hu6 y hy).imp id (fun h => zn hfr3.size h)⟩
 omega
end
section
open Go.RowKit
theorem tH {L : List Bool} {a b : List Int} {most : Nat} (hm : bE a ≤ 15) (hm2 : bE b ≤ 15) : ∀ f p out x, p ≤ L.length → dL L a b most f p out = .ok x → p ≤ x.1 ∧ x.1 ≤ L.length
 | 0, _, _, _, _, h => by cases h
 | f + 1, p, out, x, hp, h => by
  unfold dL at h
  rcases hT : fF L a b most p out with k | y
  · rw [hT] at h; cases h
  rw [hT, qB] at h
  obtain ⟨h1, h2⟩ := qZg hm hm2 hp hT
  split at h
  ·
   obtain ⟨h3, h4⟩ := tH hm hm2 f _ _ x h2 h
   exact ⟨jo, h4⟩
  simp only [Except.ok.injEq] at h
  rw [← h]
  exact ⟨jo, h2⟩
theorem qZh {L : List Bool} : ∀ r p l x, p ≤ L.length → kJ L r p l = .ok x → p ≤ x.1 ∧ x.1 ≤ L.length
 | [], p, l, x, hp, h => by simp only [kJ, Except.ok.injEq] at h; rw [← h]; exact ⟨zk _, hp⟩
 | s :: r, p, l, x, hp, h => by
  unfold kJ at h
  rcases hT : bN L 3 p with k | ⟨v, q⟩
  · rw [hT] at h; cases h
  rw [hT, qB] at h
  obtain ⟨h1, h2, _, _⟩ := cK hT
  obtain ⟨h3, h4⟩ := qZh r q _ x jo h
  exact ⟨jo, h4⟩
theorem qZi {L : List Bool} {l : List Int} {most : Nat} (hm : bE l ≤ 15) : ∀ f p all x, p ≤ L.length → mU L l most f p all = .ok x → p ≤ x.1 ∧ x.1 ≤ L.length
 | 0, _, _, _, _, h => by cases h
 | f + 1, p, all, x, hp, h => by
  unfold mU at h
  split at h
  ·
   rcases hT : nE L l p all most with k | ⟨q, all2⟩
   · rw [hT] at h; cases h
   rw [hT, qB] at h
   obtain ⟨h1, h2, _, _⟩ := qKk hm hp hT
   obtain ⟨h3, h4⟩ := qZi hm f q _ x h2 h
   exact ⟨jo, h4⟩
  simp only [Except.ok.injEq] at h
  rw [← h]
  exact ⟨zk _, hp⟩
theorem qT4 {L : List Bool} {p : Nat} {x : Nat × List Int × List Int} (hp : p ≤ L.length) (h : rO L p = .ok x) : p ≤ x.1 ∧ x.1 ≤ L.length ∧ newE x.2.1 = 0 ∧ newE x.2.2 = 0 := by
 unfold rO at h
 rcases hT : bN L 5 p with k | ⟨v, q⟩
 · rw [hT] at h; cases h
 rw [hT, qB] at h
 obtain ⟨h1, h2, _, _⟩ := cK hT
 dsimp only at h
 rcases hT2 : bN L 5 q with k | ⟨v2, q2⟩
 · rw [hT2] at h; cases h
 rw [hT2, qB] at h
 obtain ⟨h3, h4, _, _⟩ := cK hT2
 dsimp only at h
 rcases hT3 : bN L 4 q2 with k | ⟨v3, q3⟩
 · rw [hT3] at h; cases h
 rw [hT3, qB] at h
 obtain ⟨h5, h6, _, _⟩ := cK hT3
 dsimp only at h
 split at h
 · cases h
 rcases hT4 : kJ L (bX.take (4 + v3)) q3 (List.replicate 19 0) with k | t
 · rw [hT4] at h; cases h
 rw [hT4, qB] at h
 obtain ⟨h7, h8⟩ := qZh _ _ _ _ jo hT4
 unfold qXe at h
 split at h
 · cases h
 rename_i hn
 rcases hT5 : mU L t.2 (257 + v + (1 + v2)) (L.length + 1) t.1 [] with k | u
 · rw [hT5] at h; cases h
 rw [hT5, qB] at h
 obtain ⟨h9, h10⟩ := qZi (gR (by simpa using hn)).2 _ _ _ _ h8 hT5
 unfold qXd at h
 split at h
 · cases h
 split at h
 · cases h
 split at h
 · cases h
 rename_i hn1 hn2
 simp only [Except.ok.injEq] at h
 rw [← h]
 exact ⟨by dsimp only; omega, h10, by simpa using hn1, by simpa using hn2⟩
theorem qNg {bs : List Nat} {most p : Nat} {out : List Nat} {x : Bool × Nat × List Nat} (h : kK bs most p out = .ok x) : p < x.2.1 := by
 unfold kK at h
 rcases hT : bN (ofB bs) 1 p with k | ⟨v, q⟩
 · rw [hT] at h; cases h
 rw [hT, qB] at h
 obtain ⟨h1, h2, _, _⟩ := cK hT
 dsimp only at h
 rcases hT2 : bN (ofB bs) 2 q with k | ⟨v2, q2⟩
 · rw [hT2] at h; cases h
 rw [hT2, qB] at h
 obtain ⟨h3, h4, _, _⟩ := cK hT2
 dsimp only at h
 split at h
 · cases h
 have key : ∀ E : Except Nat (Nat × List Nat), (∀ r, E = .ok r → q2 ≤ r.1) → (bnd E fun r => (.ok (decide (v = 0), r) : Except Nat (Bool × Nat × List Nat))) = .ok x → p < x.2.1 := by
  intro E hE h
  cases E with
  | error k => cases h
  | ok r =>
   rw [qB] at h
   simp only [Except.ok.injEq] at h
   have := hE r rfl
   rw [← h]
   dsimp only
   omega
 refine key _ ?_ h
 intro r hr
 split at hr
 · exact Nat.le_of_lt (qG4 hr)
 split at hr
 ·
  obtain ⟨_, _, h5, h6⟩ := qQc
  exact (tH jo jo _ _ _ _ jo hr).1
 rcases hT3 : rO (ofB bs) q2 with k | c
 · rw [hT3] at hr; cases hr
 rw [hT3, qB] at hr
 obtain ⟨h5, h6, h7, h8⟩ := qT4 jo hT3
 have := (tH (gR h7).2 (gR h8).2 _ _ _ _ h6 hr).1
 omega
end
section
open Go.RowKit
def IsO (w : World) (g4 g5 g6 : Nat) (v4 v5 v6 : Value) : Prop := Blk w g4 24 #[v4] ∧ Blk w g5 3 #[v5] ∧ Blk w g6 25 #[v6]
theorem IsO.frm {w w' : World} {g4 g5 g6 : Nat} {v4 v5 v6 : Value} {S : List Nat} (h : IsO w g4 g5 g6 v4 v5 v6) (hf : Frm S w w') (hS : ∀ x ∈ S, x ≠ g4 ∧ x ≠ g5 ∧ x ≠ g6) : IsO w' g4 g5 g6 v4 v5 v6 :=
 ⟨h.1.frm hf (fun h2 => (hS _ h2).1 rfl), h.2.1.frm hf (fun h2 => (hS _ h2).2.1 rfl), h.2.2.frm hf (fun h2 => (hS _ h2).2.2 rfl)⟩
theorem IsO.ne {w : World} {g4 g5 g6 : Nat} {v4 v5 v6 : Value} (h : IsO w g4 g5 g6 v4 v5 v6) : g4 ≠ g5 ∧ g4 ≠ g6 ∧ g5 ≠ g6 := ⟨h.1.ne h.2.1 jd, h.1.ne h.2.2 jd, h.2.1.ne h.2.2 jd⟩
theorem IsO.ofX {w : World} {g4 g5 g6 : Nat} {v4 v5 v6 : Value} {gx gr : Nat} {Ar : Option Addr} {bs : List Nat} {p : Nat} {A : Option Addr} {c : Nat} {out : List Nat} {most : Nat} (h : IsO w g4 g5 g6 v4 v5 v6) (hX : IsX w gx gr Ar bs p A c out most) : ∀ x ∈ gx :: gr :: ob A, x ≠ g4 ∧ x ≠ g5 ∧ x ≠ g6 := fun x hx => by
 rcases zbv.1 hx with rfl | hx
 · exact ⟨hX.1.ne h.1 jd, hX.1.ne h.2.1 jd, hX.1.ne h.2.2 jd⟩
 rcases zbv.1 hx with rfl | hx
 ·
  have hb := hX.2.1.choose_spec.1
  exact ⟨hb.ne h.1 jd, hb.ne h.2.1 jd, hb.ne h.2.2 jd⟩
 have hO := hX.2.2.1
 exact ⟨fun e => hO.ne_blk h.1 jd (e ▸ hx), fun e => hO.ne_blk h.2.1 jd (e ▸ hx), fun e => hO.ne_blk h.2.2 jd (e ▸ hx)⟩
theorem IsO.ofXx {w : World} {g4 g5 g6 : Nat} {v4 v5 v6 : Value} {gx gr : Nat} {Ar : Option Addr} {bs : List Nat} {p : Nat} {A : Option Addr} {c : Nat} {out : List Nat} {most : Nat} (h : IsO w g4 g5 g6 v4 v5 v6) (hX : IsX w gx gr Ar bs p A c out most) : ∀ x ∈ gx :: gr :: (ob A ++ ob Ar), x ≠ g4 ∧ x ≠ g5 ∧ x ≠ g6 := fun x hx => by
 have h0 := h.ofX hX
 rcases zbv.1 hx with rfl | hx
 · exact h0 _ jp
 rcases zbv.1 hx with rfl | hx
 · exact h0 _ jp
 rcases List.mem_append.1 hx with hx | hx
 · exact h0 _ (by simp [hx])
 have hO := hX.2.1.choose_spec.2
 exact ⟨fun e => hO.ne_blk h.1 jd (e ▸ hx), fun e => hO.ne_blk h.2.1 jd (e ▸ hx), fun e => hO.ne_blk h.2.2 jd (e ▸ hx)⟩
theorem qRx {Γ : Env} {w : World} {R : Ending → World → Prop} {g4 g5 g6 : Nat} {v4 v5 v6 : Value} (e4 : get? Γ 4 = some (.pointer (some ⟨g4, 0, none⟩))) (e5 : get? Γ 5 = some (.pointer (some ⟨g5, 0, none⟩))) (e6 : get? Γ 6 = some (.pointer (some ⟨g6, 0, none⟩)))
  (h : IsO w g4 g5 g6 v4 v5 v6) (k : R (.returned (.tuple #[v4, v5, v6])) w) : gT Tryz.prog #[.cell 4 24, .cell 5 3, .cell 6 25] R .ret Γ w :=
 mR (gB e4 zx (h.1.cell 0) (gB e5 zg (h.2.1.cell 0) (gB e6 zhb (h.2.2.cell 0) (eF k))))
theorem qG5 (g4 g5 g6 k : Nat) (v4 v5 v6 : Value) (w : World) (hO : IsO w g4 g5 g6 v4 v5 v6) :
  CallsD Tryz.prog 84 #[.pointer (some ⟨g4, 0, none⟩), .pointer (some ⟨g5, 0, none⟩), .pointer (some ⟨g6, 0, none⟩)] (.panicking (Pan k)) w fun e u w' => (∃ v, e = .returned v) ∧ settle u = .returning ∧ IsO w' g4 g5 g6 (.slice none 0 0) (.int .i64 ((0 : Nat) : Int)) (.int .i64 ((k : Nat) : Int)) ∧ Frm [g4, g5, g6] w w' := by
 obtain ⟨hn1, hn2, hn3⟩ := hO.ne
 obtain ⟨hb4, hb5, hb6⟩ := hO
 refine VC.recovered (nt := 9) (res := #[]) (u' := .panicking [{ v := .iface 25 (.int .i64 ((k : Nat) : Int)), recovered := true }]) (v := .iface 25 (.int .i64 ((k : Nat) : Int))) Tryz.func84 rfl Tryz.ntmps84 Tryz.results84 rfl (.inl ⟨[], rfl, rfl⟩) rfl rfl rfl rfl rfl rfl rfl rfl ?_
 refine jS (jR (jm rfl (je (Run.neqNilI rfl rfl Tryz.underlying20 rfl) (jO (jN (jv5 0 1 2 3 6 ?_))))))
 refine VC.condT rfl (rfl) ?_
 refine VC.held (fun _ => True) jK ?_
 refine jH 0 rfl trivial (fun w0 hw0 => Run.mv rfl) ?_
 refine jH 1 rfl trivial (fun w0 hw0 => Run.assertT rfl Tryz.underlying25 rfl) ?_
 have hd := qQ.drew w
 have hb4 := hb4.drawn hd
 have hb5 := hb5.drawn hd
 have hb6 := hb6.drawn hd
 refine qK.st 2 rfl jK (qR.store (i := 0) (v := .slice none 0 0) rfl rfl zo hb4 rfl rfl) trivial rfl ?_
 rintro w1 ⟨hb1, hf1, hs1⟩
 refine ⟨trivial, ?_⟩
 refine qK.st 3 rfl jK (qR.store (i := 0) (v := .int .i64 ((0 : Nat) : Int)) rfl rfl zc (hb5.frm hf1 (by simp; omega)) rfl rfl) trivial rfl ?_
 rintro w2 ⟨hb2, hf2, hs2⟩
 refine ⟨trivial, ?_⟩
 refine qK.st 4 rfl jK (qR.store (i := 0) (v := .int .i64 ((k : Nat) : Int)) rfl rfl zfb ((hb6.frm hf1 (by simp; omega)).frm hf2 (by simp; omega)) rfl rfl) trivial rfl ?_
 rintro w3 ⟨hb3, hf3, hs3⟩
 refine ⟨trivial, ?_⟩
 refine qK.done jK ?_
 refine eM ?_
 exact ⟨⟨_, rfl⟩, rfl, ⟨(hb1.frm hf2 (by simp; omega)).frm hf3 (by simp; omega), hb2.frm hf3 (by simp; omega), hb3⟩, (hd.frm.mono (T := [g4, g5, g6]) jp).trans ((hf1.mono (T := [g4, g5, g6]) jp).trans ((hf2.mono (T := [g4, g5, g6]) jp).trans (hf3.mono (T := [g4, g5, g6]) jp) (fun x hx => .inl hx)) (fun x hx => .inl hx)) (fun x hx => .inl hx)⟩
theorem qG6 (g4 g5 g6 : Nat) (w : World) :
  CallsD Tryz.prog 84 #[.pointer (some ⟨g4, 0, none⟩), .pointer (some ⟨g5, 0, none⟩), .pointer (some ⟨g6, 0, none⟩)] .returning w fun e u w' => (∃ v, e = .returned v) ∧ settle u = .returning ∧ w' = w := by
 refine VC.recovered (nt := 9) (res := #[]) (u' := .returning) (v := .nilIface) Tryz.func84 rfl Tryz.ntmps84 Tryz.results84 rfl (.inr ⟨rfl, rfl, rfl⟩) rfl rfl rfl rfl rfl rfl rfl rfl ?_
 refine jS (jR (jm rfl (je (Run.neqNil2 rfl Tryz.underlying20 rfl) (jO (jN (jv5 0 1 2 3 6 ?_))))))
 refine VC.condF rfl (rfl) ?_
 refine jQ ?_
 refine eM ?_
 exact ⟨⟨_, rfl⟩, rfl, rfl⟩
end
section
open Go.RowKit
theorem qNh (B : Option Addr) (c0 : Nat) (bs : List Nat) (most : Int) (w : World) (hmo : most ≤ 1000000) (hbs : bs.length ≤ 1000000) (hB : ∀ b ∈ bs, b < 256) (hr : Rd w 1 B bs.length (NB bs)) :
  Calls Tryz.prog 48 #[.slice B bs.length c0, .int .i64 most] w fun e w' => Frm [] w w' ∧ match jP bs most with
   | .error k => e = .returned (.tuple #[.slice none 0 0, .int .i64 ((0 : Nat) : Int), .int .i64 ((k : Nat) : Int)])
   | .ok x => ∃ A' c', e = .returned (.tuple #[.slice A' x.1.length c', .int .i64 ((x.2 : Nat) : Int), .int .i64 ((0 : Nat) : Int)]) ∧ Own w' 5 1 A' x.1.length c' (NB x.1) ∧ (∀ y ∈ ob A', w.heap.size ≤ y) ∧ (∀ y ∈ x.1, y < 256) ∧ (x.1.length : Int) ≤ most ∧ x.2 ≤ bs.length := by
 generalize hF : jP bs most = F
 unfold jP at hF
 refine LW.calls (nt := 29) Tryz.func48 rfl Tryz.ntmps48 rfl ?_
 refine LW.seq ?_
 refine jR ?_
 refine Ops.m (qV.alloc qJy) rfl ?_
 rintro _ w1 ⟨rfl, hF1⟩
 refine Ops.m (qV.alloc fS) rfl ?_
 rintro _ w2 ⟨rfl, hF2⟩
 refine Ops.m (qV.alloc qU7) rfl ?_
 rintro _ w3 ⟨rfl, hF3⟩
 have hO : IsO w3 w.heap.size w1.heap.size w2.heap.size (.slice none 0 0) (.int .i64 ((0 : Nat) : Int)) (.int .i64 ((0 : Nat) : Int)) := ⟨(hF1.blk.frm hF2.frm jp).frm hF3.frm jp, hF2.blk.frm hF3.frm jp, hF3.blk⟩
 have hfr3 : Frm [] w w3 := (hF1.frm.trans hF2.frm jp).trans hF3.frm jp
 have hge5 := hF1.frm.size
 have hge6 := zn hge5 hF2.frm.size
 have hr3 := ((hr.frm hF1.frm jp).frm hF2.frm jp).frm hF3.frm jp
 generalize hg5 : w1.heap.size = g5 at hO hge5 ⊢
 generalize hg6 : w2.heap.size = g6 at hO hge6 ⊢
 generalize hg4 : w.heap.size = g4 at hO ⊢
 have hge4 : w.heap.size ≤ g4 := jo
 obtain ⟨hn1, hn2, hn3⟩ := hO.ne
 refine jO (jN ?_)
 refine LW.seq ?_
 refine jS (jR (jm rfl (jb rfl rfl (Bin.lss _ 0) (jO (jN (jv6 0 1 4 5 6 9 ?_))))))
 refine jD rfl (fun hc1 => ?_) fun hc1 => ?_
 ·
  rw [if_pos hc1] at hF
  refine jS (jR ?_)
  refine Ops.st (qR.store (i := 0) (v := .slice none 0 0) rfl rfl zo hO.1 rfl rfl) ?_
  rintro w4 ⟨hb4, hf4, hs4⟩
  refine Ops.st (qR.store (i := 0) (v := .int .i64 ((0 : Nat) : Int)) rfl rfl zc (hO.2.1.frm hf4 (by simp; omega)) rfl rfl) ?_
  rintro w5 ⟨hb5, hf5, hs5⟩
  refine Ops.st (qR.store (i := 0) (v := .int .i64 ((1 : Nat) : Int)) rfl rfl zfb ((hO.2.2.frm hf4 (by simp; omega)).frm hf5 (by simp; omega)) rfl rfl) ?_
  rintro w6 ⟨hb6, hf6, hs6⟩
  refine jO (jN (jv3 4 5 6 ?_))
  refine jT ?_
  refine qP (qRa Tryz.results48 ?_)
  refine mR ?_
  refine gB rfl zx (((hb4.frm hf5 (by simp; omega)).frm hf6 (by simp; omega)).cell 0) ?_
  refine gB rfl zg ((hb5.frm hf6 (by simp; omega)).cell 0) ?_
  refine gB rfl zhb (hb6.cell 0) ?_
  refine eF ?_
  subst hF
  exact ⟨((hfr3.trans hf4 (fun x hx => .inr (by simp at hx; omega))).trans hf5 (fun x hx => .inr (by simp at hx; omega))).trans hf6 (fun x hx => .inr (by simp at hx; omega)), rfl⟩
 rw [if_neg hc1] at hF
 obtain ⟨m, rfl⟩ : ∃ m : Nat, most = m := ⟨most.toNat, jo⟩
 simp only [zac] at hF
 generalize hG : kT bs m (8 * bs.length + 1) 0 [] = G at hF
 refine jQ (jN ?_)
 refine LW.dfr (us := [_, _, _]) (Run.mkFunc evs.nil (evs.cons rfl (evs.cons rfl (evs.cons rfl evs.nil)))) rfl rfl rfl rfl rfl rfl rfl ?_
 refine LW.vc ?_
 refine jS (jR (jM ?_))
 refine Ops.cl (jE1 Tryz.call85) (qMf B c0 bs _ jo hr3) rfl ?_
 rintro e w4 ⟨gr, Ar, rfl, hR4, hf4, hA4⟩
 refine ⟨_, rfl, ?_⟩
 have hO4 := hO.frm hf4 jp
 have hfr4 := hfr3.trans hf4 jp
 have hs3 := hfr3.size
 have hs4 := hfr4.size
 refine jm rfl (je (Run.build (evs.cons rfl (evs.cons rfl evs.nil)) qTn (qX1).choose_spec.1 (qX1).choose_spec.2 rfl) ?_)
 refine Ops.m (qV.box rfl) rfl ?_
 rintro _ w5 ⟨rfl, hF5⟩
 have hb5 : Blk w5 w4.heap.size 150 #[.pointer (some ⟨gr, 0, none⟩), .slice none 0 0, .int .i64 ((m : Nat) : Int)] := hF5.blk
 have hO5 := hO4.frm hF5.frm jp
 have hfr5 := hfr4.trans hF5.frm jp
 generalize w4.heap.size = gx at hb5 hs4 ⊢
 have hX5 : IsX w5 gx gr Ar bs 0 none 0 [] m := ⟨hb5, hR4.frm hF5.frm jp, Own.nil _ _ _, by simp [ob], jo, jp, jp⟩
 have hgr : w.heap.size ≤ gr := zn hs3 (hA4 gr jp)
 refine ja rfl (jO (jN (jv4 4 5 6 7 ?_)))
 refine jS (jB ?_)
 refine VC.loop (σ := Nat × Nat × List Nat × Option Addr × Nat) (fun s => [(4, .pointer (some ⟨g4, 0, none⟩)), (5, .pointer (some ⟨g5, 0, none⟩)), (6, .pointer (some ⟨g6, 0, none⟩)), (7, .pointer (some ⟨gx, 0, none⟩))]) (fun s wr => kT bs m s.1 s.2.1 s.2.2.1 = G ∧ 8 * bs.length < s.1 + s.2.1 ∧ IsX wr gx gr Ar bs s.2.1 s.2.2.2.1 s.2.2.2.2 s.2.2.1 m ∧ IsO wr g4 g5 g6 (.slice none 0 0) (.int .i64 ((0 : Nat) : Int)) (.int .i64 ((0 : Nat) : Int)) ∧ Frm [] w wr ∧ ∀ y ∈ ob s.2.2.2.1, w.heap.size ≤ y) (fun s => 8 * bs.length + 1 - s.2.1) (8 * bs.length + 1, 0, [], none, 0) (js4 rfl rfl rfl rfl) ⟨hG, by dsimp only; omega, hX5, hO5, hfr5, by simp [ob]⟩ ?_
 clear hG hX5
 rintro ⟨f, q, o, A2, c2⟩ wr ⟨hG, hfq, hX, hOr, hfr, hu⟩
 dsimp only at hG hfq hX hOr hfr hu ⊢
 have hp := hX.2.2.2.2.1
 obtain ⟨f, rfl⟩ : ∃ f', f = f' + 1 := ⟨f - 1, jo⟩
 simp only [kT] at hG
 have hsr := hfr.size
 refine jS (jS (jR (jM ?_)))
 refine Ops.clp (jE1 Tryz.call86) (qWm gx gr q Ar A2 bs c2 o m _ jo hbs hB hX) rfl ?_
 rintro e w1 ⟨hf1, he⟩
 have hfr1 : Frm [] w w1 := hfr.trans hf1 (fun x hx => .inr (by
  rcases zbv.1 hx with h6 | hx
  · omega
  rcases zbv.1 hx with h6 | hx
  · omega
  exact hu x hx))
 have hO1 := hOr.frm hf1 (hOr.ofX hX)
 rcases hT : kK bs m q o with kk | ⟨go, q2, o2⟩
 ·
  rw [hT] at he hG
  simp only [dR] at hG
  subst hG
  simp only [dR] at hF
  subst hF
  refine .inr ⟨_, he, qD (qD (qD (eX (qD (qRc Tryz.results48 Tryz.call84 ?_)))))⟩
  refine (qG5 g4 g5 g6 kk _ _ _ _ hO1).mono ?_
  rintro e u w' ⟨hv, hu2, hO', hf'⟩
  exact ⟨hv, hu2, qRx rfl rfl rfl hO' ⟨hfr1.trans hf' (fun x hx => .inr (by simp at hx; omega)), rfl⟩⟩
 have hlt := qNg hT
 rw [hT] at he hG
 simp only [qB] at hG
 obtain ⟨A3, c3, rfl, hX1, hu1⟩ := he
 dsimp only at hX1 hu1 hG hlt
 have hu3 : ∀ y ∈ ob A3, w.heap.size ≤ y := fun y hy => (hu1 y hy).elim (hu y) (fun h => zn hsr h)
 have hp3 := hX1.2.2.2.2.1
 refine .inl ⟨_, rfl, ?_⟩
 refine jO (jN (jv5 4 5 6 7 17 ?_))
 refine VC.condB rfl (fun hc2 => ?_) (fun hc2 => ?_)
 ·
  refine jQ (jN (jv4 4 5 6 7 ?_))
  refine jB (jQ ?_)
  refine qJ (jN ⟨(f, q2, o2, A3, c3), (js4 rfl rfl rfl rfl), ?_, ?_⟩)
  ·
   rw [if_pos hc2] at hG
   exact ⟨hG, by dsimp only; omega, hX1, hO1, hfr1, hu3⟩
  dsimp only; omega
 rw [if_neg (by simpa using hc2)] at hG
 subst hG
 simp only [qB] at hF
 subst hF
 have hd1 := qQ.drew w1
 have hX6 := hX1.frm0 hd1.frm
 have hO6 := hO1.frm hd1.frm jp
 have hfr6 := hfr1.drawn hd1
 generalize hw6 : w1.drew = w6 at *
 obtain ⟨hx4, hx5, hx6⟩ := hO6.ofX hX6 gx jp
 refine jX ?_
 refine qZ (qZ (qW ?_))
 refine jN (jv4 4 5 6 7 ?_)
 refine jS ?_
 refine VC.held (fun v => Blk v gx 150 #[.pointer (some ⟨gr, 0, none⟩), .slice A3 o2.length c3, .int .i64 ((m : Nat) : Int)]) jK ?_
 rw [hw6]
 have hS : (fun v => Blk v gx 150 #[.pointer (some ⟨gr, 0, none⟩), .slice A3 o2.length c3, .int .i64 ((m : Nat) : Int)]) w6 := hX6.1
 refine jH 0 rfl hS (fun w0 hw0 => Run.mv rfl) ?_
 refine jH 1 rfl hS (fun w0 hw0 => Run.nilck rfl) ?_
 refine jH 2 rfl hS (fun w0 hw0 => Run.fieldAddr rfl zav rfl zo jd) ?_
 refine jH 3 rfl hS (fun w0 hw0 => Run.load rfl zx (hw0.cell 1)) ?_
 refine jH 4 rfl hS (fun w0 hw0 => Run.mv rfl) ?_
 refine jH 5 rfl hS (fun w0 hw0 => Run.nilck rfl) ?_
 refine jH 6 rfl hS (fun w0 hw0 => Run.fieldAddr rfl zav rfl zhd jd) ?_
 refine jH 7 rfl hS (fun w0 hw0 => Run.load rfl Tryz.isAgg147 (hw0.cell 0)) ?_
 refine qK.cl 8 rfl jK (jE1 Tryz.call87) (qTx gr q2 Ar bs _ hX6.2.1) trivial rfl rfl ?_
 rintro e _ ⟨rfl, rfl⟩
 refine ⟨_, rfl, hS, ?_⟩
 refine jH 9 rfl hS (fun w0 hw0 => Run.bin rfl rfl (Bin.add_i64 _ 7 jo)) ?_
 refine jH 10 rfl hS (fun w0 hw0 => Run.bin rfl rfl (Bin.quo_i64 _ 8 jo jo)) ?_
 refine qK.st 11 rfl jK (qR.store (i := 0) (v := .slice A3 o2.length c3) rfl rfl zo hO6.1 rfl rfl) trivial rfl ?_
 rintro w7 ⟨hb7, hf7, hs7⟩
 have hS := Blk.frm hS hf7 (by simp; omega)
 refine ⟨hS, ?_⟩
 refine qK.st 12 rfl jK (qR.store (i := 0) (v := .int .i64 (((q2 + 7) / 8 : Nat) : Int)) rfl rfl zc (hO6.2.1.frm hf7 (by simp; omega)) rfl rfl) trivial rfl ?_
 rintro w8 ⟨hb8, hf8, hs8⟩
 have hS := Blk.frm hS hf8 (by simp; omega)
 refine ⟨hS, ?_⟩
 refine qK.st 13 rfl jK (qR.store (i := 0) (v := .int .i64 ((0 : Nat) : Int)) rfl rfl zfb ((hO6.2.2.frm hf7 (by simp; omega)).frm hf8 (by simp; omega)) rfl rfl) trivial rfl ?_
 rintro w9 ⟨hb9, hf9, hs9⟩
 have hS := Blk.frm hS hf9 (by simp; omega)
 refine ⟨hS, ?_⟩
 have hf79 : Frm [g4, g5, g6] w6 w9 := ((hf7.mono (T := [g4, g5, g6]) jp).trans (hf8.mono (T := [g4, g5, g6]) jp) (fun x hx => .inl hx)).trans (hf9.mono (T := [g4, g5, g6]) jp) (fun x hx => .inl hx)
 have hX9 := hX6.frm hf79 (fun x hx h5 => by have := hO6.ofXx hX6 x hx; simp at h5; omega)
 have hfr9 := hfr6.trans hf79 (fun x hx => .inr (by simp at hx; omega))
 refine qK.done jK ?_
 refine jN (jv3 4 5 6 ?_)
 refine jT ?_
 refine qRb Tryz.results48 Tryz.call84 ?_
 refine (qG6 g4 g5 g6 _).mono ?_
 rintro e u _ ⟨hv, hu2, rfl⟩
 refine ⟨hv, hu2, ?_⟩
 refine mR ?_
 refine gB rfl zx (((hb7.frm hf8 (by simp; omega)).frm hf9 (by simp; omega)).cell 0) ?_
 refine gB rfl zg ((hb8.frm hf9 (by simp; omega)).cell 0) ?_
 refine gB rfl zhb (hb9.cell 0) ?_
 refine eF ?_
 exact ⟨hfr9, A3, c3, rfl, hX9.2.2.1, fun y hy => hg4 ▸ hu3 y hy, hX9.2.2.2.2.2.2, by have := hX9.2.2.2.2.2.1; dsimp only; omega, by have := hX9.2.2.2.2.1; dsimp only; omega⟩
end
section
open Go.RowKit
section
variable {w w' : World} {gx : Nat} {Ab : Option Addr} {cb : Nat} {L : List Bool} {p : Nat} {A : Option Addr} {c : Nat} {out : List Nat} {most e : Nat} {S : List Nat}
end
def oU : List Nat := longT.map (·.1)
def tM : List Nat := wayT.map (·.1)
theorem oG (w : World) : Calls Tryz.prog 75 #[] w fun e w' => ∃ A c, e = .returned (.slice A 29 c) ∧ Own w' 3 1 A 29 c (NI oU) ∧ Frm [] w w' ∧ ∀ x ∈ ob A, w.heap.size ≤ x := by
 refine VC.calls (nt := 2) (res := #[.tmp 0]) Tryz.func75 rfl Tryz.ntmps75 Tryz.results75 rfl ?_
 refine jS (jR (ja rfl (jO (jN ?_))))
 refine VC.sub [] .nil ?_
 refine jS (jR ?_)
 refine Ops.m (qV.buildN (cells := (NI oU).toArray) (evs.cons rfl (evs.cons rfl (evs.cons rfl (evs.cons rfl (evs.cons rfl (evs.cons rfl (evs.cons rfl (evs.cons rfl (evs.cons rfl (evs.cons rfl (evs.cons rfl (evs.cons rfl (evs.cons rfl (evs.cons rfl (evs.cons rfl (evs.cons rfl (evs.cons rfl (evs.cons rfl (evs.cons rfl (evs.cons rfl (evs.cons rfl (evs.cons rfl (evs.cons rfl (evs.cons rfl (evs.cons rfl (evs.cons rfl (evs.cons rfl (evs.cons rfl (evs.cons rfl evs.nil))))))))))))))))))))))))))))) zd zc fS rfl rfl jK) rfl ?_
 rintro _ w1 ⟨rfl, hF1⟩
 have ho1 : Own w1 3 1 (some ⟨w.heap.size, 0, none⟩) 29 29 (NI oU) := Own.of_blk (n := 29) hF1.blk rfl jd
 refine ja rfl (jO (jN (jv1 0 ?_)))
 refine jT ?_
 refine qT rfl ?_
 exact ⟨_, _, rfl, ho1, hF1.frm, by simp [ob]⟩
theorem tN (w : World) : Calls Tryz.prog 76 #[] w fun e w' => ∃ A c, e = .returned (.slice A 30 c) ∧ Own w' 3 1 A 30 c (NI tM) ∧ Frm [] w w' ∧ ∀ x ∈ ob A, w.heap.size ≤ x := by
 refine VC.calls (nt := 2) (res := #[.tmp 0]) Tryz.func76 rfl Tryz.ntmps76 Tryz.results76 rfl ?_
 refine jS (jR (ja rfl (jO (jN ?_))))
 refine VC.sub [] .nil ?_
 refine jS (jR ?_)
 refine Ops.m (qV.buildN (cells := (NI tM).toArray) (evs.cons rfl (evs.cons rfl (evs.cons rfl (evs.cons rfl (evs.cons rfl (evs.cons rfl (evs.cons rfl (evs.cons rfl (evs.cons rfl (evs.cons rfl (evs.cons rfl (evs.cons rfl (evs.cons rfl (evs.cons rfl (evs.cons rfl (evs.cons rfl (evs.cons rfl (evs.cons rfl (evs.cons rfl (evs.cons rfl (evs.cons rfl (evs.cons rfl (evs.cons rfl (evs.cons rfl (evs.cons rfl (evs.cons rfl (evs.cons rfl (evs.cons rfl (evs.cons rfl (evs.cons rfl evs.nil)))))))))))))))))))))))))))))) zd zc fS rfl rfl jK) rfl ?_
 rintro _ w1 ⟨rfl, hF1⟩
 have ho1 : Own w1 3 1 (some ⟨w.heap.size, 0, none⟩) 30 30 (NI tM) := Own.of_blk (n := 30) hF1.blk rfl jd
 refine ja rfl (jO (jN (jv1 0 ?_)))
 refine jT ?_
 refine qT rfl ?_
 exact ⟨_, _, rfl, ho1, hF1.frm, by simp [ob]⟩
theorem qXg (i : Nat) (w : World) (hi : i < 29) : Calls Tryz.prog 105 #[.int .i64 ((i : Nat) : Int)] w fun e w' => e = .returned (.int .i64 (((longT.getD i (0, 0)).2 : Nat) : Int)) ∧ w = w' := by
 have hb : ∀ i, i < 29 → (longT.getD i (0, 0)).2 = if i < 8 ∨ i = 28 then 0 else (i - 4) / 4 := by decide +kernel
 rw [hb i hi]
 refine VC.calls (nt := 12) (res := #[.tmp 2]) Tryz.func105 rfl Tryz.ntmps105 Tryz.results105 rfl ?_
 refine jS (jR (jz 0 (jO (jN (jv1 0 ?_)))))
 refine jS (jS ?_)
 refine VC.split1 [(0, _)] (js1 rfl) 8 (.bool (decide ((i < 8) ∨ (i = 28)))) ?_ ?_
 ·
  by_cases hs0 : i < 8
  ·
   refine jR (jm rfl (jb rfl rfl (Bin.lssN _ 8) (jM ?_)))
   refine jU ?_
   refine jU ?_
   refine je (Run.pickT rfl rfl au) (jO ?_)
   refine jN ⟨(js2 (by rw [xI hs0]; rfl) rfl), rfl⟩
  refine jR (jm rfl (jb rfl rfl (Bin.lssN _ 8) (jM ?_)))
  refine jG ?_
  refine jk (Run.bin rfl rfl (Bin.eqlN _ 28)) ?_
  refine je (Run.pickF rfl rfl au) (jO ?_)
  refine jN ⟨(js2 (by rw [xL hs0]; rfl) rfl), rfl⟩
 intro Γ hΓ
 refine jN (VC.sub _ hΓ ?_)
 refine jD rfl (fun hc1 => ?_) fun hc1 => ?_
 ·
  refine jS (jR (jz 0 (jO (jN (jv1 2 ?_)))))
  refine jT ?_
  refine qP (qT rfl ?_)
  exact ⟨by rw [if_pos hc1], rfl⟩
 have h8 : 8 ≤ i := jo
 refine jQ (jN (jv1 0 ?_))
 refine jS (jR (jm rfl (jb rfl rfl (Bin.sub_i64 _ 4 jo jo) (jb rfl rfl (Bin.quo_i64 _ 4 jo jo) (ja rfl (jO (jN (jv1 2 ?_))))))))
 refine jT ?_
 refine qT rfl ?_
 exact ⟨by rw [if_neg hc1], rfl⟩
theorem qJp (i : Nat) (w : World) (hi : i < 30) : Calls Tryz.prog 106 #[.int .i64 ((i : Nat) : Int)] w fun e w' => e = .returned (.int .i64 (((wayT.getD i (0, 0)).2 : Nat) : Int)) ∧ w = w' := by
 have hb : ∀ i, i < 30 → (wayT.getD i (0, 0)).2 = if i < 4 then 0 else (i - 2) / 2 := by decide +kernel
 rw [hb i hi]
 refine VC.calls (nt := 8) (res := #[.tmp 2]) Tryz.func106 rfl Tryz.ntmps106 Tryz.results106 rfl ?_
 refine jS (jR (jz 0 (jO (jN (jv1 0 ?_)))))
 refine jS (jS (jR (jm rfl (jb rfl rfl (Bin.lssN _ 4) (jO (jN (jv2 0 4 ?_)))))))
 refine jD rfl (fun hc1 => ?_) fun hc1 => ?_
 ·
  refine jS (jR (jz 0 (jO (jN (jv1 2 ?_)))))
  refine jT ?_
  refine qP (qT rfl ?_)
  exact ⟨by rw [if_pos hc1], rfl⟩
 refine jQ (jN (jv1 0 ?_))
 refine jS (jR (jm rfl (jb rfl rfl (Bin.sub_i64 _ 2 jo jo) (jb rfl rfl (Bin.quo_i64 _ 2 jo jo) (ja rfl (jO (jN (jv1 2 ?_))))))))
 refine jT ?_
 refine qT rfl ?_
 exact ⟨by rw [if_neg hc1], rfl⟩
def qRy (L : List Bool) (n p e v p' e' : Nat) : Prop := (e ≠ 0 ∧ v = 0 ∧ p' = p ∧ e' = e) ∨ (e = 0 ∧ bN L n p = .ok (v, p') ∧ e' = 0) ∨ (e = 0 ∧ bN L n p = .error 2 ∧ v = 0 ∧ p' = p ∧ e' = 2)
theorem qRy.lt {L : List Bool} {n p e v p' e' : Nat} (h : qRy L n p e v p' e') : v < 2 ^ n ∧ p ≤ p' := by
 rcases h with ⟨_, rfl, rfl, _⟩ | ⟨_, h, _⟩ | ⟨_, _, rfl, rfl, _⟩
 · exact ⟨zft n, zk _⟩
 ·
  obtain ⟨h1, h2, h3, _⟩ := cK h
  exact ⟨h3, jo⟩
 exact ⟨zft n, zk _⟩
end
section
open Go.RowKit
def upI (t : List Int) (n i : Nat) : List Int := (List.range n).map fun k => if k < i then t.getD k 0 else 0
theorem wC (t : List Int) (n i : Nat) (v : Int) (h : i < n) (hv : t.getD i 0 = v) : (upI t n i).set i v = upI t n (i + 1) := by
 subst hv
 apply zao
 intro j
 by_cases hj : j = i
 ·
  subst hj
  rw [zdk (by simp [upI, h])]
  simp [upI, h]
 rw [zef (Ne.symm hj)]
 by_cases hn : j < n
 · simp [upI, hn, show j < i + 1 ↔ j < i by omega]
 simp [upI, hn]
theorem qKn (t : List Int) (n : Nat) : upI t n 0 = List.replicate n 0 := by
 unfold upI
 simp only [Nat.not_lt_zero, if_false]
 rw [List.map_const', zfi]
theorem qYi (n : Nat) : (List.replicate n (Value.int .i64 0).cells.toList).flatten = IB (List.replicate n 0) := by
 induction n with
 | zero => rfl
 | succ n ih => rw [zfk, zgy, ih, zfk]; rfl
theorem qWn (w : World) : Calls Tryz.prog 71 #[] w fun e w' => ∃ A c B d, e = .returned (.tuple #[.slice A 288 c, .slice B 32 d]) ∧ Own w' 3 1 A 288 c (IB cQ) ∧ Own w' 3 1 B 32 d (IB cX) ∧ Frm [] w w' := by
 refine VC.calls (nt := 42) (res := #[.tmp 0, .tmp 1]) Tryz.func71 rfl Tryz.ntmps71 Tryz.results71 rfl ?_
 refine jS (jR (ja rfl (ja rfl (jO (jN ?_)))))
 refine VC.sub [] .nil ?_
 refine jS ?_
 refine VC.meet (σ := Nat × Nat) (fun s => [(2, .slice (some ⟨s.1, 0, none⟩) 288 288), (3, .slice (some ⟨s.2, 0, none⟩) 32 32)]) (fun s wr => Own wr 3 1 (some ⟨s.1, 0, none⟩) 288 288 (IB (List.replicate 288 0)) ∧ Own wr 3 1 (some ⟨s.2, 0, none⟩) 32 32 (IB (List.replicate 32 0)) ∧ Frm [] w wr ∧ w.heap.size ≤ s.1 ∧ w.heap.size ≤ s.2 ∧ s.1 ≠ s.2) ?_ ?_
 ·
  refine VC.held (fun _ => True) jK ?_
  have hS : True := trivial
  have hd := (qQ.drew w).frm
  have hds := hd.size
  refine qK.or2 0 1 jK ?_ ?_
  ·
   refine jV.m rfl (qV.makeS (n := 288) rfl rfl zd (dX) rfl jo jo) trivial rfl rfl ?_
   rintro _ w1 ⟨rfl, ho1, hf1, hs1⟩
   refine ⟨trivial, ?_⟩
   refine jH 2 rfl hS (fun w0 hw0 => Run.asg rfl) ?_
   refine qK.m 1 rfl jK (qV.makeS (n := 32) rfl rfl zd (dX) rfl jo jo) trivial rfl rfl ?_
   rintro _ w2 ⟨rfl, ho2, hf2, hs2⟩
   refine ⟨trivial, ?_⟩
   refine jH 3 rfl hS (fun w0 hw0 => Run.asg rfl) ?_
   refine qK.done jK ?_
   refine jN ⟨(w.drew.heap.size, w1.heap.size), (js2 rfl rfl), ?_⟩
   rw [qYi] at ho1 ho2
   have := qQ.drew w
   exact ⟨ho1.frm hf2 jp, ho2, (hd.trans hf1 jp).trans hf2 jp, hd.size, by dsimp only; omega, by dsimp only; omega⟩
  refine jV.m rfl (qV.makeS (n := 32) rfl rfl zd (dX) rfl jo jo) trivial rfl rfl ?_
  rintro _ w1 ⟨rfl, ho1, hf1, hs1⟩
  refine ⟨trivial, ?_⟩
  refine qK.m 0 rfl jK (qV.makeS (n := 288) rfl rfl zd (dX) rfl jo jo) trivial rfl rfl ?_
  rintro _ w2 ⟨rfl, ho2, hf2, hs2⟩
  refine ⟨trivial, ?_⟩
  refine jH 2 rfl hS (fun w0 hw0 => Run.asg rfl) ?_
  refine jH 3 rfl hS (fun w0 hw0 => Run.asg rfl) ?_
  refine qK.done jK ?_
  refine jN ⟨(w1.heap.size, w.drew.heap.size), (js2 rfl rfl), ?_⟩
  rw [qYi] at ho1 ho2
  exact ⟨ho2, ho1.frm hf2 jp, (hd.trans hf1 jp).trans hf2 jp, by dsimp only; omega, hd.size, by dsimp only; omega⟩
 rintro ⟨ga, gb⟩ w0 ⟨ho, hob, hfr, hga, hgb, hgab⟩ Γ hΓ
 dsimp only at ho hob hfr hga hgb hgab hΓ
 rw [← qKn cQ] at ho
 rw [← qKn cX] at hob
 refine jN (VC.sub _ hΓ (jS (jS (jR (jz 0 (jO (jN (jB ?_))))))))
 refine VC.loop (σ := Nat) (fun s => [(2, .slice (some ⟨ga, 0, none⟩) 288 288), (3, .slice (some ⟨gb, 0, none⟩) 32 32), (4, .int .i64 ((s : Nat) : Int))]) (fun s wr => s ≤ 288 ∧ Own wr 3 1 (some ⟨ga, 0, none⟩) 288 288 (IB (upI cQ 288 s)) ∧ Own wr 3 1 (some ⟨gb, 0, none⟩) 32 32 (IB (upI cX 32 0)) ∧ Frm [] w wr) (fun s => 288 - s) 0 (js3 rfl rfl rfl) ⟨jo, ho, hob, hfr⟩ ?_
 clear ho hob hfr
 rintro i wr ⟨hi, ho, hob, hfr⟩
 refine jS (jS (jR (jm rfl (jb rfl rfl (Bin.lssN _ 288) (jO (jN (jv4 2 3 4 9 ?_)))))))
 refine jD rfl (fun hc1 => ?_) fun hc1 => ?_
 ·
  refine jQ (jN (jv3 2 3 4 ?_))
  refine jS (jB (jS (jR (jm rfl (jm rfl (je (Run.index1 _ rfl rfl zd zc jo) ?_))))))
  refine Ops.st (qR.storeOwn i rfl rfl zc ho rfl jo rfl) ?_
  rintro w3 ⟨ho, hf3, hs3⟩
  rw [sR] at ho
  have hob := hob.frm hf3 (by simp [ob]; omega)
  have hfr := hfr.own hf3 (fun x hx => by simp [ob] at hx; omega)
  refine jO (jN (jv3 2 3 4 ?_))
  refine jS (jS ?_)
  refine VC.split1 [(2, _), (3, _), (4, _)] (js3 rfl rfl rfl) 20 (.bool (decide ((144 ≤ i) ∧ (i ≤ 255)))) ?_ ?_
  ·
   by_cases hs0 : 144 ≤ i
   ·
    refine jR (jm rfl (jb rfl rfl (Bin.leqN 144 _) (jM ?_)))
    refine jG ?_
    refine jk (Run.bin rfl rfl (Bin.leqN _ 255)) ?_
    refine je (Run.pickT rfl rfl au) (jO ?_)
    refine jN ⟨(js4 (by rw [sE hs0]; rfl) rfl rfl rfl), rfl⟩
   refine jR (jm rfl (jb rfl rfl (Bin.leqN 144 _) (jM ?_)))
   refine jU ?_
   refine jU ?_
   refine je (Run.pickF rfl rfl au) (jO ?_)
   refine jN ⟨(js4 (by rw [sF hs0]; rfl) rfl rfl rfl), rfl⟩
  intro Γ hΓ
  refine jN (VC.sub _ hΓ ?_)
  refine jD rfl (fun hc2 => ?_) fun hc2 => ?_
  ·
   refine jR (jm rfl (jm rfl (je (Run.index1 _ rfl rfl zd zc jo) ?_)))
   refine Ops.st (qR.storeOwn i rfl rfl zc ho rfl jo rfl) ?_
   rintro w3 ⟨ho, hf3, hs3⟩
   rw [sR] at ho
   have hob := hob.frm hf3 (by simp [ob]; omega)
   have hfr := hfr.own hf3 (fun x hx => by simp [ob] at hx; omega)
   refine jO (jN (jv3 2 3 4 ?_))
   refine jS ?_
   refine VC.split1 [(2, _), (3, _), (4, _)] (js3 rfl rfl rfl) 29 (.bool (decide ((256 ≤ i) ∧ (i ≤ 279)))) ?_ ?_
   ·
    by_cases hs0 : 256 ≤ i
    ·
     refine jR (jm rfl (jb rfl rfl (Bin.leqN 256 _) (jM ?_)))
     refine jG ?_
     refine jk (Run.bin rfl rfl (Bin.leqN _ 279)) ?_
     refine je (Run.pickT rfl rfl au) (jO ?_)
     refine jN ⟨(js4 (by rw [sE hs0]; rfl) rfl rfl rfl), rfl⟩
    refine jR (jm rfl (jb rfl rfl (Bin.leqN 256 _) (jM ?_)))
    refine jU ?_
    refine jU ?_
    refine je (Run.pickF rfl rfl au) (jO ?_)
    refine jN ⟨(js4 (by rw [sF hs0]; rfl) rfl rfl rfl), rfl⟩
   intro Γ hΓ
   refine jN (VC.sub _ hΓ ?_)
   refine jD rfl (fun hc3 => ?_) fun hc3 => ?_
   ·
    refine jR (jm rfl (jm rfl (je (Run.index1 _ rfl rfl zd zc jo) ?_)))
    refine Ops.st (qR.storeOwn i rfl rfl zc ho rfl jo rfl) ?_
    rintro w3 ⟨ho, hf3, hs3⟩
    rw [sR] at ho
    have hob := hob.frm hf3 (by simp [ob]; omega)
    have hfr := hfr.own hf3 (fun x hx => by simp [ob] at hx; omega)
    refine jO ?_
    refine qJ (jN ?_)
    refine jv3 2 3 4 ?_
    refine jR (jm rfl (jb rfl rfl (Bin.add_i64 _ 1 jo) (ja rfl (jO ?_))))
    refine jN ⟨(i + 1), (js3 rfl rfl rfl), ?_, ?_⟩
    · exfalso; omega
    exfalso; omega
   refine jQ ?_
   refine qJ (jN ?_)
   refine jv3 2 3 4 ?_
   refine jR (jm rfl (jb rfl rfl (Bin.add_i64 _ 1 jo) (ja rfl (jO ?_))))
   refine jN ⟨(i + 1), (js3 rfl rfl rfl), ?_, ?_⟩
   ·
    rw [List.set_set, wC _ _ _ _ hc1 (by rw [tW i hc1, if_pos ⟨hc2.1, jo⟩])] at ho
    exact ⟨hc1, ho, hob, hfr⟩
   omega
  refine jQ (jN (jv3 2 3 4 ?_))
  refine jS ?_
  refine VC.split1 [(2, _), (3, _), (4, _)] (js3 rfl rfl rfl) 29 (.bool (decide ((256 ≤ i) ∧ (i ≤ 279)))) ?_ ?_
  ·
   by_cases hs0 : 256 ≤ i
   ·
    refine jR (jm rfl (jb rfl rfl (Bin.leqN 256 _) (jM ?_)))
    refine jG ?_
    refine jk (Run.bin rfl rfl (Bin.leqN _ 279)) ?_
    refine je (Run.pickT rfl rfl au) (jO ?_)
    refine jN ⟨(js4 (by rw [sE hs0]; rfl) rfl rfl rfl), rfl⟩
   refine jR (jm rfl (jb rfl rfl (Bin.leqN 256 _) (jM ?_)))
   refine jU ?_
   refine jU ?_
   refine je (Run.pickF rfl rfl au) (jO ?_)
   refine jN ⟨(js4 (by rw [sF hs0]; rfl) rfl rfl rfl), rfl⟩
  intro Γ hΓ
  refine jN (VC.sub _ hΓ ?_)
  refine jD rfl (fun hc3 => ?_) fun hc3 => ?_
  ·
   refine jR (jm rfl (jm rfl (je (Run.index1 _ rfl rfl zd zc jo) ?_)))
   refine Ops.st (qR.storeOwn i rfl rfl zc ho rfl jo rfl) ?_
   rintro w3 ⟨ho, hf3, hs3⟩
   rw [sR] at ho
   have hob := hob.frm hf3 (by simp [ob]; omega)
   have hfr := hfr.own hf3 (fun x hx => by simp [ob] at hx; omega)
   refine jO ?_
   refine qJ (jN ?_)
   refine jv3 2 3 4 ?_
   refine jR (jm rfl (jb rfl rfl (Bin.add_i64 _ 1 jo) (ja rfl (jO ?_))))
   refine jN ⟨(i + 1), (js3 rfl rfl rfl), ?_, ?_⟩
   ·
    rw [List.set_set, wC _ _ _ _ hc1 (by rw [tW i hc1, if_neg jo, if_pos ⟨hc3.1, jo⟩])] at ho
    exact ⟨hc1, ho, hob, hfr⟩
   omega
  refine jQ ?_
  refine qJ (jN ?_)
  refine jv3 2 3 4 ?_
  refine jR (jm rfl (jb rfl rfl (Bin.add_i64 _ 1 jo) (ja rfl (jO ?_))))
  refine jN ⟨(i + 1), (js3 rfl rfl rfl), ?_, ?_⟩
  ·
   rw [wC _ _ _ _ hc1 (by rw [tW i hc1, if_neg jo, if_neg jo])] at ho
   exact ⟨hc1, ho, hob, hfr⟩
  omega
 have hin : i = 288 := jo
 subst hin
 rw [show upI cQ 288 288 = cQ by decide +kernel] at ho
 refine jX ?_
 refine qZ (qZ (qW ?_))
 refine jN (jv2 2 3 ?_)
 refine jS (jS (jR (jz 0 (jO (jN (jB ?_))))))
 refine VC.loop (σ := Nat) (fun s => [(2, .slice (some ⟨ga, 0, none⟩) 288 288), (3, .slice (some ⟨gb, 0, none⟩) 32 32), (5, .int .i64 ((s : Nat) : Int))]) (fun s wr => s ≤ 32 ∧ Own wr 3 1 (some ⟨ga, 0, none⟩) 288 288 (IB cQ) ∧ Own wr 3 1 (some ⟨gb, 0, none⟩) 32 32 (IB (upI cX 32 s)) ∧ Frm [] w wr) (fun s => 32 - s) 0 (js3 rfl rfl rfl) ⟨jo, ho, hob, hfr⟩ ?_
 clear ho hob hfr
 rintro i wr ⟨hi, hoa, hq, hfr⟩
 refine jS (jS (jR (jm rfl (jb rfl rfl (Bin.lssN _ 32) (jO (jN (jv4 2 3 5 34 ?_)))))))
 refine jD rfl (fun hc4 => ?_) fun hc4 => ?_
 ·
  refine jQ (jN (jv3 2 3 5 ?_))
  refine jS (jB (jR (jm rfl (jm rfl (je (Run.index1 _ rfl rfl zd zc jo) ?_)))))
  refine Ops.st (qR.storeOwn i rfl rfl zc hq rfl jo rfl) ?_
  rintro w3 ⟨hq, hf3, hs3⟩
  rw [sR] at hq
  have hoa := hoa.frm hf3 (by simp [ob]; omega)
  have hfr := hfr.own hf3 (fun x hx => by simp [ob] at hx; omega)
  refine jO ?_
  refine qJ (jN ?_)
  refine jv3 2 3 5 ?_
  refine jR (jm rfl (jb rfl rfl (Bin.add_i64 _ 1 jo) (ja rfl (jO ?_))))
  refine jN ⟨(i + 1), (js3 rfl rfl rfl), ?_, ?_⟩
  ·
   have h5 : ∀ i, i < 32 → cX.getD i 0 = 5 := by decide +kernel
   rw [wC _ _ _ _ hc4 (h5 i hc4)] at hq
   exact ⟨hc4, hoa, hq, hfr⟩
  omega
 refine jX ?_
 refine qZ (qZ (qW ?_))
 refine jN (jv2 2 3 ?_)
 refine jS (jR (jm rfl (jm rfl (ja rfl (ja rfl (jO (jN (jv2 0 1 ?_))))))))
 refine jT ?_
 refine cY rfl rfl ?_
 have hin : i = 32 := jo
 subst hin
 rw [show upI cX 32 32 = cX by decide +kernel] at hq
 exact ⟨_, _, _, _, rfl, hoa, hq, hfr⟩
end
section
open Go.RowKit
theorem qT5 {a b : Nat} (ha : a < 2 ^ 16) (hb : b < 2 ^ 16) : a ^^^ b = 65535 ↔ a + b = 65535 := by
 have h1 : ∀ a, a < 2 ^ 16 → a ^^^ 65535 = 65535 - a := fun a ha => by
  have h := congrArg BitVec.toNat (BitVec.xor_allOnes (x := BitVec.ofNat 16 a))
  rw [BitVec.toNat_xor, BitVec.toNat_not, BitVec.toNat_ofNat, BitVec.toNat_allOnes, zdz ha] at h
  have e : (2 ^ 16 - 1 : Nat) = 65535 := jd
  rw [show (2 ^ 16 - 1 - a : Nat) = 65535 - a by omega, e] at h
  exact h
 constructor
 ·
  intro h
  have h2 : b = a ^^^ 65535 := by rw [← h, ← zfx, Nat.xor_self, Nat.zero_xor]
  rw [h1 a ha] at h2
  omega
 intro h
 have h2 : b = a ^^^ 65535 := by rw [h1 a ha]; omega
 rw [h2, ← zfx, Nat.xor_self, Nat.zero_xor]
def ResR (F : Except Nat (Nat × List Nat)) (p' : Nat) (out' : List Nat) (e' : Nat) : Prop := match F with
 | .ok x => e' = 0 ∧ p' = x.1 ∧ out' = x.2
 | .error k => e' = k ∧ k ≠ 0
end
section
open Go.RowKit
def Stg {α : Type} (F : Except Nat α) (e : Nat) (G : Except Nat α) : Prop := (e ≠ 0 ∧ F = .error e) ∨ (e = 0 ∧ F = G)
theorem Stg.left {α : Type} {F G G' : Except Nat α} {e : Nat} (h : Stg F e G) (he : e ≠ 0) : Stg F e G' := h.elim .inl (fun h => absurd h.1 he)
theorem Stg.right {α : Type} {F G : Except Nat α} (h : Stg F 0 G) : F = G := h.elim (fun h => absurd rfl h.1) (·.2)
theorem Stg.mk0 {α : Type} {F G : Except Nat α} (h : F = G) : Stg F 0 G := .inr ⟨rfl, h⟩
theorem Stg.num {α : Type} {F : Except Nat α} {L : List Bool} {n p e v p' e' : Nat} {f : Nat × Nat → Except Nat α} (h : Stg F e (bnd (bN L n p) f)) (hN : qRy L n p e v p' e') : Stg F e' (f (v, p')) := by
 rcases hN with ⟨h1, rfl, rfl, rfl⟩ | ⟨rfl, h1, rfl⟩ | ⟨rfl, h1, _, _, rfl⟩
 · exact h.left h1
 · have := h.right; rw [h1, qB] at this; exact .mk0 this
 have := h.right; rw [h1, dR] at this; exact .inl ⟨jd, this⟩
theorem Stg.res {α : Type} {F : Except Nat α} {G : Except Nat (Nat × List Nat)} {K : Nat × List Nat → Except Nat α} {p' e' : Nat} {out' : List Nat} (h : Stg F 0 (bnd G K)) (hR : ResR G p' out' e') : Stg F e' (K (p', out')) := by
 have h := h.right
 cases G with
 | error k => obtain ⟨rfl, hk⟩ := hR; exact .inl ⟨hk, h⟩
 | ok x => obtain ⟨rfl, rfl, rfl⟩ := hR; exact .mk0 h
theorem qZj {α β γ : Type} (x : Except Nat α) (f : α → Except Nat β) (g : β → Except Nat γ) : bnd (bnd x f) g = bnd x fun y => bnd (f y) g := by cases x <;> rfl
theorem qQe : ∀ (n d : Nat) (out : List Nat), dB (n + 1) d out = dB n d out ++ [(dB n d out).getD ((dB n d out).length - d) 0]
 | 0, _, _ => rfl
 | n + 1, d, out => by rw [dB, qQe n d]; rfl
theorem qQf : ∀ (n d : Nat) (out : List Nat), dB n d out = out ++ (dB n d out).drop out.length
 | 0, _, out => by simp [dB]
 | n + 1, d, out => by
  rw [qQe]
  have ih := qQf n d out
  have hl := vP n d out
  rw [zcv jo, ← zj, ← ih]
theorem qRz : ∀ k, k < 29 → oU.getD k 0 = (longT.getD k (0, 0)).1 := jd
theorem qT6 : ∀ k, k < 30 → tM.getD k 0 = (wayT.getD k (0, 0)).1 := jd
def tokD (most : Nat) (out : List Nat) (n d0 : Nat) (u : Nat × Nat) : Except Nat (Bool × Nat × List Nat) :=
 if out.length < d0 + u.1 then .error 12 else if most < out.length + n then .error 13 else .ok (true, u.2, dB n (d0 + u.1) out)
def tokW (L : List Bool) (most : Nat) (out : List Nat) (n : Nat) (y : Nat × Nat) : Except Nat (Bool × Nat × List Nat) :=
 if 30 ≤ y.1 then .error 11 else bnd (bN L (wayT.getD y.1 (0, 0)).2 y.2) (tokD most out n (wayT.getD y.1 (0, 0)).1)
def tokR (L : List Bool) (b : List Int) (most : Nat) (out : List Nat) (x : Nat × Nat) : Except Nat (Bool × Nat × List Nat) :=
 if x.1 < 256 then (if out.length < most then .ok (true, x.2, out ++ [x.1]) else .error 13)
 else if x.1 = 256 then .ok (false, x.2, out)
 else if 285 < x.1 then .error 11
 else bnd (bN L (longT.getD (x.1 - 257) (0, 0)).2 x.2) fun v => bnd (jW L b v.2) (tokW L most out ((longT.getD (x.1 - 257) (0, 0)).1 + v.1))
def qR0 {α : Type} (L : List Bool) (a b : List Int) (most f : Nat) (K : Nat × List Nat → Except Nat α) (x : Bool × Nat × List Nat) : Except Nat α := bnd (if x.1 then dL L a b most f x.2.1 x.2.2 else .ok x.2) K
section
variable {α : Type} {F : Except Nat α} {K : Nat × List Nat → Except Nat α} {L : List Bool} {a b : List Int} {most f : Nat} {o : List Nat}
theorem Stg.len {s p : Nat} (h : Stg F 0 (bnd (tokR L b most o (s, p)) (qR0 L a b most f K))) (h1 : ¬ s < 256) (h2 : s ≠ 256) (h3 : ¬ 285 < s) :
  Stg F 0 (bnd (bN L (longT.getD (s - 257) (0, 0)).2 p) fun v => bnd (jW L b v.2) fun y => bnd (tokW L most o ((longT.getD (s - 257) (0, 0)).1 + v.1) y) (qR0 L a b most f K)) := by
 have h := h.right
 unfold tokR at h
 rw [if_neg h1, if_neg h2, if_neg h3, qZj] at h
 refine .mk0 (h.trans ?_)
 congr 1
 funext v
 rw [qZj]
theorem Stg.come {n d p e' : Nat} {o' : List Nat} (h : Stg F 0 (bnd (if most < o.length + n then .error 13 else .ok (true, p, dB n d o)) (qR0 L a b most f K))) (hp : (0 ≠ 0 ∧ e' = 0) ∨ (0 = 0 ∧ most < o.length + ((dB n d o).drop o.length).length ∧ e' = 13) ∨ (0 = 0 ∧ ¬ most < o.length + ((dB n d o).drop o.length).length ∧ e' = 0 ∧ o' = o ++ (dB n d o).drop o.length)) : Stg F e' (bnd (dL L a b most f p o') K) := by
 have h := h.right
 rw [zr, vP, zds, ← qQf] at hp
 rcases hp with ⟨h0, _⟩ | ⟨_, hm, rfl⟩ | ⟨_, hm, rfl, rfl⟩
 · exact absurd rfl h0
 ·
  rw [if_pos hm] at h
  exact .inl ⟨jd, h⟩
 rw [if_neg hm] at h
 exact .mk0 h
end
end
section
open Go.RowKit
section
variable {α : Type} {F : Except Nat α} {bs : List Nat} {m f q v e : Nat} {o : List Nat} {K : Nat × List Nat → Except Nat α}
theorem Stg.dir {G : Except Nat (Nat × List Nat)} {x : Nat × List Nat} (h : Stg F 0 (bnd G K)) (hG : Stg G e (.ok x)) : Stg F e (K x) := by
 have h := h.right
 rcases hG with ⟨he, rfl⟩ | ⟨rfl, rfl⟩
 · exact .inl ⟨he, h⟩
 exact .mk0 h
theorem Stg.own (G : Except Nat (Nat × List Nat)) : Stg G 0 (bnd G .ok) := .mk0 (by cases G <;> rfl)
end
end
section
open Go.RowKit
theorem qT7 : ∀ i, i < 29 → 3 ≤ (longT.getD i (0, 0)).1 ∧ (longT.getD i (0, 0)).1 ≤ 258 ∧ (longT.getD i (0, 0)).2 ≤ 5 := by decide +kernel
theorem qBn : ∀ i, i < 30 → 1 ≤ (wayT.getD i (0, 0)).1 ∧ (wayT.getD i (0, 0)).1 ≤ 24577 ∧ (wayT.getD i (0, 0)).2 ≤ 13 := by decide +kernel
theorem qB7 (t : List (Nat × Nat)) : ∀ i, i < t.length → (t.flatMap LC)[i * 2]? = some (.int .i64 (((t.getD i (0, 0)).1 : Nat) : Int)) ∧ (t.flatMap LC)[i * 2 + 1]? = some (.int .i64 (((t.getD i (0, 0)).2 : Nat) : Int)) := by
 induction t with
 | nil => intro i h; cases h
 | cons a r ih =>
  intro i h
  cases i with
  | zero => simp [LC]
  | succ i =>
   have := ih i (by simpa using h)
   rw [zq]
   have e1 : (i + 1) * 2 = 2 + i * 2 := jo
   have e2 : (i + 1) * 2 + 1 = 2 + (i * 2 + 1) := jo
   rw [e1, show 2 + i * 2 + 1 = 2 + (i * 2 + 1) by omega]
   rw [zan (by simp [LC]), zan (by simp [LC])]
   simpa [LC] using this
theorem qKo {w : World} {g : Nat} {t : TypeId} {l : List (Nat × Nat)} (h : Blk w g t (l.flatMap LC).toArray) {i : Nat} (hi : i < l.length) :
  w.cell? ((⟨g, 0, none⟩ : Addr).add (i * 2)) = some (.int .i64 (((l.getD i (0, 0)).1 : Nat) : Int)) ∧ w.cell? (((⟨g, 0, none⟩ : Addr).add (i * 2)).add 1) = some (.int .i64 (((l.getD i (0, 0)).2 : Nat) : Int)) := by
 obtain ⟨h1, h2⟩ := qB7 l i hi
 have e1 := h.cells (i * 2) _ (by simpa using h1)
 have e2 := h.cells (i * 2 + 1) _ (by simpa using h2)
 refine ⟨e1, ?_⟩
 have : ((⟨g, 0, none⟩ : Addr).add (i * 2)).add 1 = (⟨g, 0, none⟩ : Addr).add (i * 2 + 1) := by unfold Addr.add; by_cases h : i * 2 = 0 <;> simp [h]
 rw [this]
 exact e2
theorem qT8 (n : Nat) (w : World) (h1 : 3 ≤ n) (h2 : n ≤ 258) : Calls Tryz.prog 93 #[.int .i64 ((n : Nat) : Int)] w fun e w' => (∃ i, i < 29 ∧ (longT.getD i (0, 0)).1 ≤ n ∧ (∀ j, i < j → j < 29 → n < (longT.getD j (0, 0)).1) ∧ e = .returned (.tuple #[.int .i64 ((257 + i : Nat) : Int), .int .i64 (((longT.getD i (0, 0)).2 : Nat) : Int), .int .i64 ((n - (longT.getD i (0, 0)).1 : Nat) : Int)])) ∧ Frm [] w w' := by
 refine VC.calls (nt := 34) (res := #[.tmp 2, .tmp 3, .tmp 4]) Tryz.func93 rfl Tryz.ntmps93 Tryz.results93 rfl ?_
 refine jS (jR (jz 0 (jz 0 (jz 0 (jO (jN (jv1 0 ?_)))))))
 refine jS (jS (jR (jm rfl (jb rfl rfl (Bin.lssN _ 3) (jM ?_)))))
 refine jG ?_
 refine jk (Run.bin rfl rfl (Bin.gtrN _ 258)) ?_
 refine je (Run.pickF rfl rfl (by first | rfl | assumption | (simp; done) | (simp [*]; done) | (simp; omega))) (jO (jN (jv2 0 12 ?_)))
 refine VC.condF rfl (by first | rfl | assumption | (simp; done) | (simp [*]; done) | (simp; omega)) ?_
 refine jQ (jN (jv1 0 ?_))
 refine jS (jR ?_)
 refine Ops.cl (jE0 Tryz.call123) (uM _) rfl ?_
 rintro e w1 ⟨rfl, hf1⟩
 refine ⟨_, rfl, ?_⟩
 refine Ops.m (qV.alloc qQ8) rfl ?_
 rintro _ w2 ⟨rfl, hF2⟩
 refine Ops.st (qR.storeA rfl rfl Tryz.sizeOf204 hF2.blk rfl (lY LC mB longT)) ?_
 rintro w3 ⟨hb3, hf3, hs3⟩
 have hfr3 : Frm [] w w3 := (hf1.trans hF2.frm jp).trans hf3 (fun x hx => .inr (by have := hf1.size; simp at hx; omega))
 have hb3 : Blk w3 w1.heap.size 204 (longT.flatMap LC).toArray := hb3
 generalize w1.heap.size = g at *
 refine jO (jN (jv2 0 5 ?_))
 refine jS (jR (jz 28 (jO (jN (jB ?_)))))
 refine VC.loop (σ := Nat) (fun s => [(0, _), (5, _), (6, .int .i64 ((s : Nat) : Int))]) (fun s wr => s < 29 ∧ (∀ j, s < j → j < 29 → n < (longT.getD j (0, 0)).1) ∧ wr = w3) (fun s => s) 28 (js3 rfl rfl rfl) ⟨jo, fun j h1 h2 => jo, rfl⟩ ?_
 rintro i wr ⟨hi, hlast, rfl⟩
 obtain ⟨hc0, hc1⟩ := qKo hb3 (i := i) hi
 obtain ⟨hl1, hl2, hl3⟩ := qT7 i hi
 refine jS (jB (jS (jR (jm rfl (je (Run.indexA i rfl rfl zfr zcy jo) (jf rfl zdj rfl zc (jl rfl zg hc0 (jm rfl (jb rfl rfl (Bin.leqN _ _) (jO (jN (jv4 0 5 6 21 ?_))))))))))))
 refine jD rfl (fun hc2 => ?_) fun hc2 => ?_
 ·
  refine jS ?_
  refine VC.still jK jK ?_
  refine qM ?_
  refine qE (Run.bin rfl rfl (Bin.add_i64 257 _ jo)) ?_
  refine qM ?_
  refine qE (Run.indexA i rfl rfl zfr zcy jo) ?_
  refine qE (Run.fieldAddr rfl zdj rfl zc jd) ?_
  refine qE (Run.load rfl zg hc1) ?_
  refine qM ?_
  refine qM ?_
  refine qE (Run.indexA i rfl rfl zfr zcy jo) ?_
  refine qE (Run.fieldAddr rfl zdj rfl zc jd) ?_
  refine qE (Run.load rfl zg hc0) ?_
  refine qE (Run.bin rfl rfl (Bin.sub_i64 _ _ jo jo)) ?_
  refine qA ?_
  refine qA ?_
  refine qA ?_
  refine qH.nil ?_
  refine jN (jv3 2 3 4 ?_)
  refine jT ?_
  refine qO (qP (qP (qO (qY7 rfl rfl rfl ?_))))
  exact ⟨⟨i, hi, hc2, hlast, rfl⟩, hfr3.drawn (qQ.drew _)⟩
 have hi1 : 1 ≤ i := by rcases zda i with h | h; (subst h; exact absurd (show (longT.getD 0 (0, 0)).1 ≤ n from h1) hc2); exact h
 refine jQ ?_
 refine qJ (jN ?_)
 refine jv3 0 5 6 ?_
 refine jR (jm rfl (jb rfl rfl (Bin.sub_i64 _ 1 jo jo) (ja rfl (jO ?_))))
 refine jN ⟨(i - 1), (js3 rfl rfl rfl), ?_, ?_⟩
 ·
  refine ⟨jo, fun j h3 h4 => ?_, rfl⟩
  by_cases hj : j = i
  · subst hj; omega
  exact hlast j jo h4
 first | omega | (dsimp only; omega)
theorem qT9 (n : Nat) (w : World) (h1 : 1 ≤ n) (h2 : n ≤ 32768) : Calls Tryz.prog 94 #[.int .i64 ((n : Nat) : Int)] w fun e w' => (∃ i, i < 30 ∧ (wayT.getD i (0, 0)).1 ≤ n ∧ (∀ j, i < j → j < 30 → n < (wayT.getD j (0, 0)).1) ∧ e = .returned (.tuple #[.int .i64 ((i : Nat) : Int), .int .i64 (((wayT.getD i (0, 0)).2 : Nat) : Int), .int .i64 ((n - (wayT.getD i (0, 0)).1 : Nat) : Int)])) ∧ Frm [] w w' := by
 refine VC.calls (nt := 33) (res := #[.tmp 2, .tmp 3, .tmp 4]) Tryz.func94 rfl Tryz.ntmps94 Tryz.results94 rfl ?_
 refine jS (jR (jz 0 (jz 0 (jz 0 (jO (jN (jv1 0 ?_)))))))
 refine jS (jS (jR (jm rfl (jb rfl rfl (Bin.lssN _ 1) (jM ?_)))))
 refine jG ?_
 refine jk (Run.bin rfl rfl (Bin.gtrN _ 32768)) ?_
 refine je (Run.pickF rfl rfl (by first | rfl | assumption | (simp; done) | (simp [*]; done) | (simp; omega))) (jO (jN (jv2 0 12 ?_)))
 refine VC.condF rfl (by first | rfl | assumption | (simp; done) | (simp [*]; done) | (simp; omega)) ?_
 refine jQ (jN (jv1 0 ?_))
 refine jS (jR ?_)
 refine Ops.cl (jE0 Tryz.call124) (qQb _) rfl ?_
 rintro e w1 ⟨rfl, hf1⟩
 refine ⟨_, rfl, ?_⟩
 refine Ops.m (qV.alloc qQ9) rfl ?_
 rintro _ w2 ⟨rfl, hF2⟩
 refine Ops.st (qR.storeA rfl rfl Tryz.sizeOf206 hF2.blk rfl (lY LC mB wayT)) ?_
 rintro w3 ⟨hb3, hf3, hs3⟩
 have hfr3 : Frm [] w w3 := (hf1.trans hF2.frm jp).trans hf3 (fun x hx => .inr (by have := hf1.size; simp at hx; omega))
 have hb3 : Blk w3 w1.heap.size 206 (wayT.flatMap LC).toArray := hb3
 generalize w1.heap.size = g at *
 refine jO (jN (jv2 0 5 ?_))
 refine jS (jR (jz 29 (jO (jN (jB ?_)))))
 refine VC.loop (σ := Nat) (fun s => [(0, _), (5, _), (6, .int .i64 ((s : Nat) : Int))]) (fun s wr => s < 30 ∧ (∀ j, s < j → j < 30 → n < (wayT.getD j (0, 0)).1) ∧ wr = w3) (fun s => s) 29 (js3 rfl rfl rfl) ⟨jo, fun j h1 h2 => jo, rfl⟩ ?_
 rintro i wr ⟨hi, hlast, rfl⟩
 obtain ⟨hc0, hc1⟩ := qKo hb3 (i := i) hi
 obtain ⟨hl1, hl2, hl3⟩ := qBn i hi
 refine jS (jB (jS (jR (jm rfl (je (Run.indexA i rfl rfl zgq zcy jo) (jf rfl zdj rfl zc (jl rfl zg hc0 (jm rfl (jb rfl rfl (Bin.leqN _ _) (jO (jN (jv4 0 5 6 21 ?_))))))))))))
 refine jD rfl (fun hc2 => ?_) fun hc2 => ?_
 ·
  refine jS ?_
  refine VC.still jK jK ?_
  refine qM ?_
  refine qM ?_
  refine qE (Run.indexA i rfl rfl zgq zcy jo) ?_
  refine qE (Run.fieldAddr rfl zdj rfl zc jd) ?_
  refine qE (Run.load rfl zg hc1) ?_
  refine qM ?_
  refine qM ?_
  refine qE (Run.indexA i rfl rfl zgq zcy jo) ?_
  refine qE (Run.fieldAddr rfl zdj rfl zc jd) ?_
  refine qE (Run.load rfl zg hc0) ?_
  refine qE (Run.bin rfl rfl (Bin.sub_i64 _ _ jo jo)) ?_
  refine qA ?_
  refine qA ?_
  refine qA ?_
  refine qH.nil ?_
  refine jN (jv3 2 3 4 ?_)
  refine jT ?_
  refine qO (qP (qP (qO (qY7 rfl rfl rfl ?_))))
  exact ⟨⟨i, hi, hc2, hlast, rfl⟩, hfr3.drawn (qQ.drew _)⟩
 have hi1 : 1 ≤ i := by rcases zda i with h | h; (subst h; exact absurd (show (wayT.getD 0 (0, 0)).1 ≤ n from h1) hc2); exact h
 refine jQ ?_
 refine qJ (jN ?_)
 refine jv3 0 5 6 ?_
 refine jR (jm rfl (jb rfl rfl (Bin.sub_i64 _ 1 jo jo) (ja rfl (jO ?_))))
 refine jN ⟨(i - 1), (js3 rfl rfl rfl), ?_, ?_⟩
 ·
  refine ⟨jo, fun j h3 h4 => ?_, rfl⟩
  by_cases hj : j = i
  · subst hj; omega
  exact hlast j jo h4
 first | omega | (dsimp only; omega)
end
section
open Go.RowKit
theorem qKp (n : Nat) (w : World) (h1 : 3 ≤ n) (h2 : n ≤ 258) : Calls Tryz.prog 93 #[.int .i64 ((n : Nat) : Int)] w fun e w' => e = .returned (.tuple #[.int .i64 ((257 + lenS n : Nat) : Int), .int .i64 (((longT.getD (lenS n) (0, 0)).2 : Nat) : Int), .int .i64 ((n - (longT.getD (lenS n) (0, 0)).1 : Nat) : Int)]) ∧ Frm [] w w' := by
 refine (qT8 n w h1 h2).mono ?_
 rintro e w' ⟨⟨i, hi, h3, h4, rfl⟩, hf⟩
 have e1 : lenS n = i := qXf h3 29 hi h4
 rw [e1]
 exact ⟨rfl, hf⟩
theorem qKq (n : Nat) (w : World) (h1 : 1 ≤ n) (h2 : n ≤ 32768) : Calls Tryz.prog 94 #[.int .i64 ((n : Nat) : Int)] w fun e w' => e = .returned (.tuple #[.int .i64 ((wayS n : Nat) : Int), .int .i64 (((wayT.getD (wayS n) (0, 0)).2 : Nat) : Int), .int .i64 ((n - (wayT.getD (wayS n) (0, 0)).1 : Nat) : Int)]) ∧ Frm [] w w' := by
 refine (qT9 n w h1 h2).mono ?_
 rintro e w' ⟨⟨i, hi, h3, h4, rfl⟩, hf⟩
 have e1 : wayS n = i := qXf h3 30 hi h4
 rw [e1]
 exact ⟨rfl, hf⟩
theorem qQg : ∀ (L : List Tk) (s : Nat) (_ : s < L.length), ((TC L).drop (s * 3)).take 3 = gF (L.getD s (0, 0, 0))
 | a :: L, 0, _ => rfl
 | a :: L, s + 1, h => by
  have := qQg L s (by simpa using h)
  rw [show TC (a :: L) = gF a ++ TC L from rfl, show (s + 1) * 3 = (gF a).length + s * 3 by simp [gF]; omega, zco, zey]
  exact this
theorem pN {L : List Tk} {i : Nat} (h : i < L.length) : L.take (i + 1) = L.take i ++ [L.getD i (0, 0, 0)] := by
 rw [zah, zb h, ze, zb h]
 rfl
theorem yC (A : Option Addr) (c0 : Nat) (l : List Int) (w : World) (h : LOk l) (hr : Rd w 1 A l.length (IB l)) :
  Calls Tryz.prog 66 #[.slice A l.length c0] w fun e w' => Frm [] w w' ∧ ∃ B c, e = .returned (.tuple #[.slice B l.length c, .int .i64 ((0 : Nat) : Int)]) ∧ Own w' 179 2 B l.length c ((cW l).flatMap CB) := by
 have h1 : ¬ (chk l = 1 ∨ chk l = 8) := by
  unfold chk
  rw [if_neg (fun hn => hn h.1), if_neg (by have := h.2; omega)]
  split <;> omega
 refine (qGp A c0 l w (by have := h.1.1; omega) hr).mono ?_
 rintro e w' ⟨hf, h2⟩
 rw [if_neg h1] at h2
 obtain ⟨B, c, h3, h4, _⟩ := h2
 exact ⟨hf, B, c, h3, h4⟩
theorem IsW.new {w w' : World} {g : Nat} {A : Option Addr} {l : List Bool} (h : IsW w g A l) (f : Frm [] w w') : IsW w' g A l := h.frm f jp
theorem tP (v : Value) (k : Value) (w : World) : Calls Tryz.prog 59 #[v, k] w fun e w' => e = .returned v ∧ w = w' := by
 refine VC.calls (nt := 6) (res := #[.tmp 4]) Tryz.func59 rfl Tryz.ntmps59 Tryz.results59 rfl ?_
 refine jS (jR (ja rfl (jO (jN (jv1 0 ?_)))))
 refine jS (jR (jm rfl (ja rfl (jO (jN (jv1 4 ?_))))))
 refine jT ?_
 refine qT rfl ?_
 exact ⟨rfl, rfl⟩
theorem tR (v : Value) (k : Value) (w : World) : Calls Tryz.prog 65 #[v, k] w fun e w' => e = .returned v ∧ w = w' := by
 refine VC.calls (nt := 6) (res := #[.tmp 4]) Tryz.func65 rfl Tryz.ntmps65 Tryz.results65 rfl ?_
 refine jS (jR (ja rfl (jO (jN (jv1 0 ?_)))))
 refine jS (jR (jm rfl (ja rfl (jO (jN (jv1 4 ?_))))))
 refine jT ?_
 refine qT rfl ?_
 exact ⟨rfl, rfl⟩
theorem vS {w w1 : World} {g : Nat} {A A1 : Option Addr} (hA : ∀ x ∈ ob A1, x ∈ ob A ∨ w.heap.size ≤ x) (_ : w.heap.size ≤ w1.heap.size) : ∀ x ∈ g :: ob A1, x ∈ g :: ob A ∨ w.heap.size ≤ x := fun x hx => by
 rcases zbv.1 hx with rfl | hx
 · exact .inl jp
 rcases hA x hx with h | h
 · exact .inl (by simp [h])
 exact .inr h
theorem vT {w w1 : World} {A A1 A2 : Option Addr} (hA : ∀ x ∈ ob A1, x ∈ ob A ∨ w.heap.size ≤ x) (hs : w.heap.size ≤ w1.heap.size) (h2 : ∀ x ∈ ob A2, x ∈ ob A1 ∨ w1.heap.size ≤ x) : ∀ x ∈ ob A2, x ∈ ob A ∨ w.heap.size ≤ x := fun x hx => by
 rcases h2 x hx with h | h
 · exact hA x h
 exact .inr (zn hs h)
theorem xG (g ct c1 c2 : Nat) (A Bt La Lb : Option Addr) (l : List Bool) (lt : List Tk) (a b : List Int) (w : World) (ha : LOk a) (hb : LOk b) (hna : 286 ≤ a.length) (hnb : 30 ≤ b.length) (hlt : ∀ t ∈ lt, pM t) (hll : lt.length ≤ 1000000) (hl : l.length ≤ 100000000) (hW : IsW w g A l) (hot : Own w 132 3 Bt lt.length ct (TC lt)) (hra : Rd w 1 La a.length (IB a)) (hrb : Rd w 1 Lb b.length (IB b)) :
  Calls Tryz.prog 57 #[.pointer (some ⟨g, 0, none⟩), .slice Bt lt.length ct, .slice La a.length c1, .slice Lb b.length c2] w fun e w' => e = .returned (.tuple #[]) ∧ WR w w' g A (l ++ cT a b lt) := by
 have hfl := mW ha hb hna hnb
 refine VC.calls (nt := 61) (res := #[]) Tryz.func57 rfl Tryz.ntmps57 Tryz.results57 rfl ?_
 refine jS (jR (jM ?_))
 refine Ops.cl (jE1 Tryz.call66) (yC La c1 a w ha hra) rfl ?_
 rintro e w1 ⟨hf1, Ba, ca, rfl, hoa⟩
 refine ⟨_, rfl, ?_⟩
 refine je (Run.extract rfl rfl) (je (Run.extract rfl rfl) ?_)
 refine Ops.cl (jE2 Tryz.call65) (tR _ _ _) rfl ?_
 rintro e _ ⟨rfl, rfl⟩
 refine ⟨_, rfl, ?_⟩
 refine jM ?_
 refine Ops.cl (jE1 Tryz.call66) (yC Lb c2 b w1 hb (hrb.frm hf1 jp)) rfl ?_
 rintro e w2 ⟨hf2, Bb, cb, rfl, hob⟩
 refine ⟨_, rfl, ?_⟩
 refine je (Run.extract rfl rfl) (je (Run.extract rfl rfl) ?_)
 refine Ops.cl (jE2 Tryz.call65) (tR _ _ _) rfl ?_
 rintro e _ ⟨rfl, rfl⟩
 refine ⟨_, rfl, ?_⟩
 have hoa := hoa.frm hf2 jp
 have hf0 := hf1.trans hf2 jp
 have hW0 := hW.new hf0
 have hot := hot.frm hf0 jp
 refine ja rfl (ja rfl (jO (jN (jv4 0 1 8 9 ?_))))
 refine jS (jS (jR (jm rfl (je (Run.lenS rfl zbp) ?_))))
 refine jx .i64 0 ?_
 refine jO (jN (jv6 0 8 9 22 23 24 ?_))
 refine jB ?_
 refine VC.loop (σ := Nat × Option Addr) (fun s => [(0, .pointer (some ⟨g, 0, none⟩)), (8, .slice Ba a.length ca), (9, .slice Bb b.length cb), (22, .slice Bt lt.length ct), (23, .int .i64 ((lt.length : Nat) : Int)), (24, .int .i64 ((s.1 : Nat) : Int))]) (fun s wr => s.1 ≤ lt.length ∧ IsW wr g s.2 (l ++ (lt.take s.1).flatMap (fM a b)) ∧ Own wr 179 2 Ba a.length ca ((cW a).flatMap CB) ∧ Own wr 179 2 Bb b.length cb ((cW b).flatMap CB) ∧ Own wr 132 3 Bt lt.length ct (TC lt) ∧ Frm (g :: ob A) w wr ∧ ∀ x ∈ ob s.2, x ∈ ob A ∨ w.heap.size ≤ x) (fun s => lt.length - s.1) (0, A) (js6 rfl rfl rfl rfl rfl rfl) ⟨zak _, by simpa using hW0, hoa, hob, hot, hf0.mono jp, fun x hx => .inl hx⟩ ?_
 rintro ⟨i, A1⟩ wr ⟨hi, hW, hoa, hob, hot, hfr, hA1⟩
 dsimp only at hi hW hA1 ⊢
 have hfi := hfl (lt.take i) (fun t ht => hlt t (zaf ht))
 rw [zi, zal hi] at hfi
 refine jS (jR (jb rfl rfl (Bin.lssN _ _) (jO (jN (jS ?_)))))
 refine jD rfl (fun hc1 => ?_) fun hc1 => ?_
 ·
  obtain ⟨ad, rfl, hel⟩ := hot.rd.elem hc1
  rw [qQg lt i hc1] at hel
  have hsn := pN hc1
  have hqok := hlt (lt.getD i (0, 0, 0)) (by rw [ze, zb hc1]; exact zt hc1)
  generalize lt.getD i (0, 0, 0) = q at hel hsn hqok
  refine jQ (jN (jv6 0 8 9 22 23 24 ?_))
  refine jS (jB (jS (jR (je (Run.indexS _ rfl rfl zbp zcs jo) (je (Run.loadA rfl Tryz.isAgg132 zcs hel (by first | rfl | (simp; done))) ?_)))))
  refine Ops.m (qV.alloc gW) rfl ?_
  rintro _ w1 ⟨rfl, hF1⟩
  refine Ops.st (qR.storeA rfl rfl zcs hF1.blk rfl (by intro v hv; exact TC_one [q] v (by simpa [TC] using hv))) ?_
  rintro w2 ⟨hb11, hf12, hs12⟩
  have hf2 : Frm [] wr w2 := hF1.frm.own hf12 jp
  have hW := hW.new hf2
  have hoa := hoa.frm hf2 jp
  have hob := hob.frm hf2 jp
  have hot := hot.frm hf2 jp
  have hfr0 := hfr
  have hfr := hfr.trans hf2 jp
  refine jO (jN (jv7 0 8 9 11 22 23 24 ?_))
  refine jS (jS (jR (jf rfl zbg rfl zc (jl rfl zg (hb11.cell 1) (jb rfl rfl (Bin.eqlN _ 0) (jO (jN (jv8 0 8 9 11 22 23 24 30 ?_))))))))
  refine jD rfl (fun hc2 => ?_) fun hc2 => ?_
  ·
   have hq8 : q.1 < 256 := by rcases hqok with ⟨_, _, h⟩ | ⟨_, h, _⟩ <;> omega
   have etok : fM a b q = bH a q.1 := by unfold fM; rw [if_pos hc2]
   refine jS (jR (jm rfl (jm rfl (jf rfl zbg rfl zad (jl rfl zdr (hb11.cell 0) (je (Run.convN _ rfl zat zaa (by simp only [bmax]; omega)) ?_))))))
   refine Ops.cl (jE3 Tryz.call92) (vM g q.1 ca A1 Ba _ a w2 ha.1 ha.2 jo (by rw [za]; omega) hW hoa.rd) rfl ?_
   rintro e w3 ⟨⟨k, rfl⟩, A2, hW3, hf7, hA3⟩
   refine ⟨_, rfl, ?_⟩
   have hoa := hW.keepO hf7 hoa jd jd
   have hob := hW.keepO hf7 hob jd jd
   have hot := hW.keepO hf7 hot jd jd
   have hfr' := hfr.trans hf7 (fun x hx => vS hA1 hfr.size x hx)
   have hA1 := vT hA1 hfr.size hA3
   refine jO (jN (jv6 0 8 9 22 23 24 ?_))
   refine jX ?_
   refine qZ (qW ?_)
   refine jN (jR (jb rfl rfl (Bin.add_i64 _ 1 jo) (jm rfl (jO ?_))))
   refine jN ⟨(i + 1, A2), (js6 rfl rfl rfl rfl rfl rfl), ?_, ?_⟩
   · exact ⟨hc1, by rw [hsn, zw, zcp, etok, ← zj]; exact hW3, hoa, hob, hot, hfr', hA1⟩
   first | omega | (dsimp only; omega)
  obtain ⟨q1, q3, q4, q5, q6⟩ : q.1 = 0 ∧ 3 ≤ q.2.1 ∧ q.2.1 ≤ 258 ∧ 1 ≤ q.2.2 ∧ q.2.2 ≤ 32768 := by
   rcases hqok with ⟨h, _⟩ | h
   · exact absurd h hc2
   exact h
  have etok : fM a b q = lT a q.2.1 ++ mD b q.2.2 := by unfold fM; rw [if_neg hc2]
  have hlf := fA q3 q4
  have hwf := fI q5 q6
  have hc11 := eY ha.1 ha.2 (jo : 257 + lenS q.2.1 < a.length)
  refine jQ (jN (jv7 0 8 9 11 22 23 24 ?_))
  refine jS ?_
  refine VC.held (fun v => Blk v wr.heap.size 132 (gF q).toArray) jK ?_
  have hS : (fun v => Blk v wr.heap.size 132 (gF q).toArray) w2.drew := hb11.drawn (qQ.drew _)
  have hW := hW.new (qQ.drew w2).frm
  have hoa := hoa.frm (qQ.drew w2).frm jp
  have hob := hob.frm (qQ.drew w2).frm jp
  have hot := hot.frm (qQ.drew w2).frm jp
  have hfr := hfr.drawn (qQ.drew w2)
  refine jH 0 rfl hS (fun w0 hw0 => Run.mv rfl) ?_
  refine jH 1 rfl hS (fun w0 hw0 => Run.mv rfl) ?_
  refine jH 3 rfl hS (fun w0 hw0 => Run.fieldAddr rfl zbg rfl zc jd) ?_
  refine jH 4 rfl hS (fun w0 hw0 => Run.load rfl zg (hw0.cell 1)) ?_
  refine qK.cl 2 rfl jK (jE2 Tryz.call64) (vN (.pointer (some ⟨g, 0, none⟩)) (.slice Ba a.length ca) rfl rfl _) trivial rfl rfl ?_
  rintro e w5 ⟨g2, g3, rfl, hg2, hg3, hf5⟩
  have hS := hS.frm hf5 jp
  have hW := hW.new hf5
  have hoa := hoa.frm hf5 jp
  have hob := hob.frm hf5 jp
  have hot := hot.frm hf5 jp
  have hfr := hfr.trans hf5 jp
  refine ⟨_, rfl, hS, ?_⟩
  refine qK.cl 5 rfl jK (jE1 Tryz.call93) (qKp _ _ q3 q4) trivial rfl rfl ?_
  rintro e w6 ⟨rfl, hf6⟩
  have hS := hS.frm hf6 jp
  have hW := hW.new hf6
  have hoa := hoa.frm hf6 jp
  have hob := hob.frm hf6 jp
  have hot := hot.frm hf6 jp
  have hfr := hfr.trans hf6 jp
  have hg2 := hg2.frm hf6 jp
  have hg3 := hg3.frm hf6 jp
  refine ⟨_, rfl, hS, ?_⟩
  refine jH 6 rfl hS (fun w0 hw0 => Run.extract rfl rfl) ?_
  refine jH 7 rfl hS (fun w0 hw0 => Run.extract rfl rfl) ?_
  refine jH 8 rfl hS (fun w0 hw0 => Run.extract rfl rfl) ?_
  refine qK.cl 9 rfl jK (bP.dyn rfl (evs.cons rfl (evs.cons rfl (evs.cons rfl evs.nil))) Tryz.call99) (tG g g2 g3 (257 + lenS q.2.1) (longT.getD (lenS q.2.1) (0, 0)).2 (q.2.1 - (longT.getD (lenS q.2.1) (0, 0)).1) ca A1 Ba _ a w6 ha.1 ha.2 jo hlf.2.2.1 jo (by rw [za]; omega) hW hoa hg2 hg3) trivial rfl rfl ?_
  rintro e w7 ⟨rfl, A2, hW3, hf7, hA3⟩
  have hS := hW.keepB hf7 hS jd jd
  have hoa := hW.keepO hf7 hoa jd jd
  have hob := hW.keepO hf7 hob jd jd
  have hot := hW.keepO hf7 hot jd jd
  have hA1n := vT hA1 hfr.size hA3
  have hfr := hfr.trans hf7 (fun x hx => vS hA1 hfr.size x hx)
  have hA1 := hA1n
  have hW := hW3
  refine ⟨_, rfl, hS, ?_⟩
  refine qK.done jK ?_
  refine jN (jv7 0 8 9 11 22 23 24 ?_)
  refine VC.held (fun v => Blk v wr.heap.size 132 (gF q).toArray) jK ?_
  have hS : (fun v => Blk v wr.heap.size 132 (gF q).toArray) w7.drew := hS.drawn (qQ.drew _)
  have hW := hW.new (qQ.drew w7).frm
  have hoa := hoa.frm (qQ.drew w7).frm jp
  have hob := hob.frm (qQ.drew w7).frm jp
  have hot := hot.frm (qQ.drew w7).frm jp
  have hfr := hfr.drawn (qQ.drew w7)
  refine jH 0 rfl hS (fun w0 hw0 => Run.mv rfl) ?_
  refine jH 1 rfl hS (fun w0 hw0 => Run.mv rfl) ?_
  refine jH 3 rfl hS (fun w0 hw0 => Run.fieldAddr rfl zbg rfl zc jd) ?_
  refine jH 4 rfl hS (fun w0 hw0 => Run.load rfl zg (hw0.cell 2)) ?_
  refine qK.cl 2 rfl jK (jE2 Tryz.call64) (vN (.pointer (some ⟨g, 0, none⟩)) (.slice Bb b.length cb) rfl rfl _) trivial rfl rfl ?_
  rintro e w8 ⟨g2, g3, rfl, hg2, hg3, hf5⟩
  have hS := hS.frm hf5 jp
  have hW := hW.new hf5
  have hoa := hoa.frm hf5 jp
  have hob := hob.frm hf5 jp
  have hot := hot.frm hf5 jp
  have hfr := hfr.trans hf5 jp
  refine ⟨_, rfl, hS, ?_⟩
  refine qK.cl 5 rfl jK (jE1 Tryz.call94) (qKq _ _ q5 q6) trivial rfl rfl ?_
  rintro e w9 ⟨rfl, hf6⟩
  have hS := hS.frm hf6 jp
  have hW := hW.new hf6
  have hoa := hoa.frm hf6 jp
  have hob := hob.frm hf6 jp
  have hot := hot.frm hf6 jp
  have hfr := hfr.trans hf6 jp
  have hg2 := hg2.frm hf6 jp
  have hg3 := hg3.frm hf6 jp
  refine ⟨_, rfl, hS, ?_⟩
  refine jH 6 rfl hS (fun w0 hw0 => Run.extract rfl rfl) ?_
  refine jH 7 rfl hS (fun w0 hw0 => Run.extract rfl rfl) ?_
  refine jH 8 rfl hS (fun w0 hw0 => Run.extract rfl rfl) ?_
  refine qK.cl 9 rfl jK (bP.dyn rfl (evs.cons rfl (evs.cons rfl (evs.cons rfl evs.nil))) Tryz.call99) (tG g g2 g3 (wayS q.2.2) (wayT.getD (wayS q.2.2) (0, 0)).2 (q.2.2 - (wayT.getD (wayS q.2.2) (0, 0)).1) cb A2 Bb _ b w9 hb.1 hb.2 jo hwf.2.2.1 jo (by simp only [za, qN]; omega) hW hob hg2 hg3) trivial rfl rfl ?_
  rintro e w10 ⟨rfl, A3, hW3, hf7, hA3⟩
  have hS := hW.keepB hf7 hS jd jd
  have hoa := hW.keepO hf7 hoa jd jd
  have hob := hW.keepO hf7 hob jd jd
  have hot := hW.keepO hf7 hot jd jd
  have hA1n := vT hA1 hfr.size hA3
  have hfr := hfr.trans hf7 (fun x hx => vS hA1 hfr.size x hx)
  have hA1 := hA1n
  have hW := hW3
  refine ⟨_, rfl, hS, ?_⟩
  refine qK.done jK ?_
  refine qJ (jN ?_)
  refine jv6 0 8 9 22 23 24 ?_
  refine jR (jb rfl rfl (Bin.add_i64 _ 1 jo) (jm rfl (jO ?_)))
  refine jN ⟨(i + 1, A3), (js6 rfl rfl rfl rfl rfl rfl), ?_, ?_⟩
  · exact ⟨hc1, by rw [hsn, zw, zcp, etok]; unfold lT mD; simpa [zj] using hW, hoa, hob, hot, hfr, hA1⟩
  first | omega | (dsimp only; omega)
 refine jX ?_
 refine qZ (qZ (qW ?_))
 refine jN (jv2 0 8 ?_)
 refine jR (jm rfl (jM ?_))
 refine Ops.cl (jE3 Tryz.call92) (vM g 256 ca A1 Ba _ a wr ha.1 ha.2 jo (by rw [za]; omega) hW hoa.rd) rfl ?_
 rintro e w3 ⟨⟨k, rfl⟩, h60⟩
 refine ⟨_, rfl, ?_⟩
 refine jO ?_
 refine eM ?_
 have ei : i = lt.length := jo
 subst ei
 rw [zas, zj] at h60
 exact ⟨rfl, WR.trans hfr hA1 h60⟩
end
section
open Go.RowKit
theorem yD (bs : List Nat) (hl : bs.length ≤ 32768) (hB : ∀ b ∈ bs, b < 256) : ∀ m a, ∀ t ∈ gE bs m a, pM t
 | 0, a, t, h => by simp [gE] at h
 | m + 1, a, t, h => by
  unfold gE at h
  split at h
  · cases h
  rename_i h1
  split at h
  ·
   rcases zbv.1 h with rfl | h
   · exact .inl ⟨rfl, rfl, mK hB a⟩
   exact yD bs hl hB m _ t h
  rename_i h2
  rcases zbv.1 h with rfl | h
  ·
   rcases lX bs a jo with h3 | ⟨h3, h4, h5, h6, _⟩
   · rw [h3] at h2; exact absurd rfl h2
   exact .inr ⟨rfl, h3, h4, h5, by dsimp only; omega⟩
  exact yD bs hl hB m _ t h
theorem nM (bs : List Nat) (a : Nat) (hl : bs.length ≤ 32768) (hB : ∀ b ∈ bs, b < 256) : ∀ t ∈ qS bs a, pM t := yD bs hl hB _ a
theorem oZ (bs : List Nat) : (qS bs 0).length ≤ bs.length := tK bs bs.length 0
theorem mY : LOk cQ := by
 refine ⟨⟨by decide +kernel, by decide +kernel⟩, by decide +kernel⟩
theorem rY : LOk cX := by
 refine ⟨⟨by decide +kernel, by decide +kernel⟩, by decide +kernel⟩
theorem qUa (w : World) : Calls Tryz.prog 56 #[] w fun e w' => ∃ A c B d, e = .returned (.tuple #[.slice A cQ.length c, .slice B cX.length d]) ∧ Own w' 3 1 A cQ.length c (IB cQ) ∧ Own w' 3 1 B cX.length d (IB cX) ∧ Frm [] w w' := by
 rw [mE, mF]
 exact xY w
def eQ (bs : List Nat) : List Bool := bitsL 1 1 ++ bitsL 1 2 ++ cT cQ cX (qS bs 0)
theorem qKr (bs : List Nat) (hl : bs.length ≤ 32768) (hB : ∀ b ∈ bs, b < 256) : (eQ bs).length ≤ 2000000 := by
 have h1 := mW mY rY (by decide +kernel) (by decide +kernel) _ (nM bs 0 hl hB)
 have h2 := oZ bs
 have h3 := eY mY.1 mY.2 (show 256 < cQ.length by decide +kernel)
 unfold eQ cT
 simp only [za, qN]
 omega
theorem qNi (A : Option Addr) (c : Nat) (bs : List Nat) (w : World) (hl : bs.length ≤ 32768) (hc : bs.length ≤ c) (hB : ∀ b ∈ bs, b < 256) (hr : Rd w 1 A bs.length (NB bs)) :
  Calls Tryz.prog 33 #[.slice A bs.length c] w fun e w' => ∃ B d, e = .returned (.tuple #[.slice B (qC (eQ bs)).length d, .int .i64 ((0 : Nat) : Int)]) ∧ Own w' 5 1 B (qC (eQ bs)).length d (NB (qC (eQ bs))) ∧ Frm [] w w' ∧ ∀ x ∈ ob B, w.heap.size ≤ x := by
 have htl := oZ bs
 have hfl := qKr bs hl hB
 refine VC.calls (nt := 33) (res := #[.tmp 2, .tmp 3]) Tryz.func33 rfl Tryz.ntmps33 Tryz.results33 rfl ?_
 refine jS (jR (ja rfl (jz 0 (jO (jN (jv1 0 ?_))))))
 refine jS (jR (jM ?_))
 refine Ops.cl (jE1 Tryz.call55) (qQa A c bs w hl hc hB hr) rfl ?_
 rintro e w1 ⟨Bt, dt, rfl, hot, hf1, _⟩
 refine ⟨_, rfl, ?_⟩
 refine jm rfl (je (Run.extract rfl rfl) (je (Run.extract rfl rfl) (ja rfl (ja rfl (jO (jN (jv2 4 5 ?_)))))))
 refine jS (jS (jR (jm rfl (jb rfl rfl (Bin.neqN _ 0) (jO (jN (jv3 4 5 15 ?_)))))))
 refine VC.condF rfl jd ?_
 refine jQ (jN (jv1 4 ?_))
 refine jS (jR ?_)
 refine Ops.cl (jE0 Tryz.call50) (yJ _) rfl ?_
 rintro e w2 ⟨rfl, hW, hf2, _⟩
 refine ⟨_, rfl, ?_⟩
 have hot := hot.frm hf2 jp
 have K := hf1.trans hf2 jp
 have hgg : w.heap.size ≤ w1.heap.size := hf1.size
 generalize w1.heap.size = g at hW hgg ⊢
 refine ja rfl (jO (jN (jv2 4 6 ?_)))
 refine jS (jR (jM ?_))
 refine Ops.cl (jE3 zez) (gL g 1 1 none [] w2 jd jo jp hW) rfl ?_
 rintro e w3 ⟨rfl, A1, hW1, hf3, hA1⟩
 refine ⟨_, rfl, ?_⟩
 have hot := hW.keepO hf3 hot jd jd
 have K := K.own hf3 (by simp [ob]; exact hgg)
 have hA1 : ∀ x ∈ ob A1, w.heap.size ≤ x := fun x hx => by rcases hA1 x hx with h | h; cases h; have := hf1.size; have := hf2.size; omega
 refine jO (jN (jv2 4 6 ?_))
 refine jS (jR (jM ?_))
 refine Ops.cl (jE3 zez) (gL g 1 2 A1 _ w3 jd jo (by simp [qN]) hW1) rfl ?_
 rintro e w4 ⟨rfl, A2, hW2, hf4, hA2⟩
 refine ⟨_, rfl, ?_⟩
 have hot := hW1.keepO hf4 hot jd jd
 have hA2 : ∀ x ∈ ob A2, w.heap.size ≤ x := fun x hx => by rcases hA2 x hx with h | h; exact hA1 x h; have := K.size; omega
 have K := K.own hf4 (fun x hx => by rcases zbv.1 hx with rfl | hx; exact hgg; exact hA1 x hx)
 refine jO (jN (jv2 4 6 ?_))
 refine jS (jR ?_)
 refine Ops.cl (jE0 Tryz.call56) (qUa _) rfl ?_
 rintro e w5 ⟨La, c1, Lb, c2, rfl, hoa, hob, hf5⟩
 refine ⟨_, rfl, ?_⟩
 have hot := hot.frm hf5 jp
 have hW2 := hW2.new hf5
 have K := K.trans hf5 jp
 refine jm rfl (je (Run.extract rfl rfl) (je (Run.extract rfl rfl) (ja rfl (ja rfl (jO (jN (jv4 4 6 7 8 ?_)))))))
 refine jS (jR (jm rfl (jm rfl (jm rfl (jM ?_)))))
 refine Ops.cl (jE4 Tryz.call57) (xG g dt c1 c2 A2 Bt La Lb _ (qS bs 0) cQ cX w5 mY rY (by rw [mE]; omega) (by rw [mF]; omega) (nM bs 0 hl hB) jo (by simp [qN]) hW2 hot hoa.rd hob.rd) rfl ?_
 rintro e w6 ⟨rfl, A3, hW3, hf6, hA3⟩
 refine ⟨_, rfl, ?_⟩
 have K := K.own hf6 (fun x hx => by rcases zbv.1 hx with rfl | hx; exact hgg; exact hA2 x hx)
 have hW3 : IsW w6 g A3 (eQ bs) := hW3
 refine jO (jN (jv1 6 ?_))
 refine jS (jR (jM ?_))
 refine Ops.cl (jE1 Tryz.call54) (tQ g A3 (eQ bs) w6 jo hW3) rfl ?_
 rintro e w7 ⟨B, d, rfl, hB7, hf7, hu7⟩
 refine ⟨_, rfl, ?_⟩
 refine ja rfl (jz 0 (jO (jN (jv2 2 3 ?_))))
 refine jT ?_
 refine cY rfl rfl ?_
 exact ⟨B, d, rfl, hB7, K.trans hf7 jp, fun x hx => zn K.size (hu7 x hx)⟩
end
section
open Go.RowKit
def fN (l : List Nat) (least : Nat) : Nat → Nat
 | 0 => 0
 | n + 1 => if least < n + 1 ∧ l.getD n 0 = 0 then fN l least n else n + 1
theorem mG (l : List Nat) (least : Nat) : ∀ n, fN l least n ≤ n
 | 0 => zk _
 | n + 1 => by
  unfold fN
  split
  · have := mG l least n; omega
  exact zk _
theorem qYj (l : List Nat) (least : Nat) : ∀ n, least ≤ n → least ≤ fN l least n
 | 0, h => h
 | n + 1, h => by
  unfold fN
  split
  · rename_i h1; exact qYj l least n jo
  exact h
theorem qNj {l : List Nat} {least n : Nat} (h : ¬ (least < n ∧ l.getD (n - 1) 0 = 0)) : fN l least n = n := by
 cases n with
 | zero => rfl
 | succ n => rw [fN, if_neg (by simpa using h)]
theorem qUb {l : List Nat} {least n : Nat} (h1 : least < n) (h2 : l.getD (n - 1) 0 = 0) : fN l least n = fN l least (n - 1) := by
 cases n with
 | zero => omega
 | succ n => rw [fN, if_pos ⟨h1, by simpa using h2⟩]; rfl
def cN (l : List Nat) (least : Nat) : List Nat := l.take (fN l least l.length)
theorem gJ (l : List Nat) (least : Nat) : (cN l least).length = fN l least l.length := by
 unfold cN
 rw [zi, zal (mG l least _)]
def nN (l : List Nat) (v : Nat) : Nat → Nat → Nat
 | 0, _ => 0
 | m + 1, n => if n < l.length ∧ l.getD n 0 = v then nN l v m (n + 1) + 1 else 0
def runN (l : List Nat) (a : Nat) : Nat := nN l (l.getD a 0) (l.length - a) a
theorem qYk (l : List Nat) (v : Nat) : ∀ m n, nN l v m n ≤ m
 | 0, _ => zk _
 | m + 1, n => by
  unfold nN
  split
  · have := qYk l v m (n + 1); omega
  omega
theorem vU {l : List Nat} {v m n : Nat} (h : ¬ (n < l.length ∧ l.getD n 0 = v)) : nN l v m n = 0 := by
 cases m with
 | zero => rfl
 | succ m => rw [nN, if_neg h]
theorem sT {l : List Nat} {v m n : Nat} (h1 : n < l.length) (h2 : l.getD n 0 = v) (hm : 0 < m) : nN l v m n = nN l v (m - 1) (n + 1) + 1 := by
 obtain ⟨k, rfl⟩ : ∃ k, m = k + 1 := ⟨m - 1, jo⟩
 rw [nN, if_pos ⟨h1, h2⟩]
 rfl
theorem yE {l : List Nat} {a : Nat} (h : a < l.length) : 1 ≤ runN l a := by
 unfold runN
 rw [sT h rfl jo]
 omega
theorem qXh {l : List Nat} {a : Nat} : runN l a ≤ l.length - a := qYk l _ _ _
abbrev Sd := Nat × Nat × Nat
def bB (l : List Nat) (a : Nat) : Sd × Nat :=
 if l.getD a 0 = 0 ∧ 11 ≤ runN l a then ((18, 7, min (runN l a) 138 - 11), min (runN l a) 138)
 else if l.getD a 0 = 0 ∧ 3 ≤ runN l a then ((17, 3, min (runN l a) 10 - 3), min (runN l a) 10)
 else if 0 < a ∧ l.getD (a - 1) 0 = l.getD a 0 ∧ 3 ≤ runN l a then ((16, 2, min (runN l a) 6 - 3), min (runN l a) 6)
 else ((l.getD a 0, 0, 0), 1)
theorem vB {l : List Nat} {a : Nat} : 1 ≤ (bB l a).2 := by
 unfold bB
 split
 · dsimp only; omega
 split
 · dsimp only; omega
 split
 · dsimp only; omega
 exact zk _
theorem qKs {l : List Nat} {a : Nat} (h : a < l.length) : a + (bB l a).2 ≤ l.length := by
 have := qXh (l := l) (a := a)
 unfold bB
 split
 · dsimp only; omega
 split
 · dsimp only; omega
 split
 · dsimp only; omega
 dsimp only; omega
def nP (l : List Nat) : Nat → Nat → List Sd
 | 0, _ => []
 | m + 1, a => if l.length ≤ a then [] else (bB l a).1 :: nP l m (a + (bB l a).2)
theorem yF (l : List Nat) (m a : Nat) (h : l.length ≤ a) : nP l m a = [] := by
 cases m with
 | zero => rfl
 | succ m => rw [nP, if_pos h]
theorem qZk (l : List Nat) : ∀ m n a, l.length ≤ a + m → l.length ≤ a + n → nP l m a = nP l n a
 | 0, n, a, h1, _ => by rw [yF l n a jo]; rfl
 | m + 1, 0, a, h1, h2 => by rw [yF l (m + 1) a jo]; rfl
 | m + 1, n + 1, a, h1, h2 => by
  have hp := vB (l := l) (a := a)
  unfold nP
  split
  · rfl
  rw [qZk l m n _ jo jo]
def dK (l : List Nat) (a : Nat) : List Sd := nP l (l.length - a) a
theorem yA {l : List Nat} {a : Nat} (h : l.length ≤ a) : dK l a = [] := yF l _ a h
theorem fL {l : List Nat} {a : Nat} (h : a < l.length) : dK l a = (bB l a).1 :: dK l (a + (bB l a).2) := by
 have hp := vB (l := l) (a := a)
 unfold dK
 rw [show l.length - a = (l.length - a - 1) + 1 by omega, nP, if_neg jo, qZk l (l.length - a - 1) (l.length - (a + (bB l a).2)) _ jo jo]
theorem qKt (l : List Nat) : ∀ m a, (nP l m a).length ≤ m
 | 0, a => zk _
 | m + 1, a => by
  unfold nP
  split
  · simp
  have := qKt l m (a + (bB l a).2); simp; omega
def cU (l : List Nat) : List Nat := bX.map fun s => l.getD s 0
end
section
open Go.RowKit
theorem qNk (A : Option Addr) (c least : Nat) (l : List Nat) (w : World) (hl : l.length ≤ 1000000) (hc : l.length ≤ c) (hr : Rd w 1 A l.length (NI l)) :
  Calls Tryz.prog 61 #[.slice A l.length c, .int .i64 ((least : Nat) : Int)] w fun e w' => (∃ B d, e = .returned (.slice B (cN l least).length d) ∧ Rd w 1 B (cN l least).length (NI (cN l least)) ∧ (cN l least).length ≤ d) ∧ w = w' := by
 refine VC.calls (nt := 24) (res := #[.tmp 4]) Tryz.func61 rfl Tryz.ntmps61 Tryz.results61 rfl ?_
 refine jS (jR (ja rfl (jO (jN (jv2 0 1 ?_)))))
 refine jS (jR (jm rfl (je (Run.lenS rfl zd) (ja rfl (jO (jN (jv3 0 1 5 ?_)))))))
 refine jS (jB ?_)
 refine VC.loop (σ := Nat) (fun s => [(0, .slice A l.length c), (1, .int .i64 ((least : Nat) : Int)), (5, .int .i64 ((s : Nat) : Int))]) (fun s wr => s ≤ l.length ∧ fN l least l.length = fN l least s ∧ w = wr) (fun s => s) l.length (js3 rfl rfl rfl) ⟨zk _, rfl, rfl⟩ ?_
 rintro n wr ⟨hn, hcn, rfl⟩
 refine jS (jS ?_)
 refine VC.split1 [(0, _), (1, _), (5, _)] (js3 rfl rfl rfl) 18 (.bool (decide (least < n ∧ l.getD (n - 1) 0 = 0))) ?_ ?_
 ·
  refine jR ?_
  refine jm rfl (jm rfl (jb rfl rfl (Bin.gtrN _ _) ?_))
  by_cases hs10 : least < n
  ·
   obtain ⟨ad, hA, _, hadc⟩ := hr.2 jo
   subst hA
   have hcell := hadc (n - 1) _ (eZ l (n - 1) jo)
   refine jM ?_
   refine jG ?_
   refine jG ?_
   refine jk (Run.bin rfl rfl (Bin.sub_i64 _ 1 jo jo)) ?_
   refine jk (Run.index1 _ rfl rfl zd zc jo) ?_
   refine jk (Run.load rfl zg hcell) ?_
   refine jk (Run.bin rfl rfl (Bin.eqlN _ 0)) ?_
   by_cases hs17 : l.getD (n - 1) 0 = 0
   ·
    refine je (Run.pickT rfl rfl au) (jO ?_)
    refine jN ⟨(js4 (jC (by simp [*])) rfl rfl rfl), rfl⟩
   refine je (Run.pickT rfl rfl au) (jO ?_)
   refine jN ⟨(js4 (jC (by simp [*])) rfl rfl rfl), rfl⟩
  refine jM ?_
  refine jU ?_
  refine jU ?_
  refine jU ?_
  refine jU ?_
  refine jU ?_
  refine jU ?_
  refine je (Run.pickF rfl rfl au) (jO ?_)
  refine jN ⟨(js4 (jC (by simp [*])) rfl rfl rfl), rfl⟩
 intro Γ hΓ
 refine jN (VC.sub _ hΓ ?_)
 refine jD rfl (fun hc1 => ?_) fun hc1 => ?_
 ·
  refine jQ (jN (jv3 0 1 5 ?_))
  refine jB (jR (jm rfl (jb rfl rfl (Bin.sub_i64 _ 1 jo jo) (ja rfl (jO ?_)))))
  refine qJ (jN ⟨n - 1, (js3 rfl rfl rfl), ?_, ?_⟩)
  · exact ⟨jo, hcn.trans (qUb hc1.1 hc1.2), rfl⟩
  first | omega | (dsimp only; omega)
 refine jX ?_
 refine qZ (qZ (qW ?_))
 refine jN (jv2 0 5 ?_)
 refine jS (jR (jm rfl (jm rfl (je (Run.sliceS 0 n rfl zd zc evB.none_ (evB.some_ rfl) jo jo) (ja rfl (jO (jN (jv1 4 ?_))))))))
 refine jT ?_
 refine qT rfl ?_
 have e1 : fN l least l.length = n := hcn.trans (qNj hc1)
 have e2 : cN l least = l.take n := by unfold cN; rw [e1]
 have e3 : (l.take n).length = n := by rw [zi, zal hn]
 rw [e2, e3]
 refine ⟨⟨_, _, rfl, ?_, jo⟩, rfl⟩
 have := hr.cut (l := 0) (r := n) (cap := c) jo hn hc
 simpa [NI, zdf] using this
theorem qBo (A : Option Addr) (c a : Nat) (l : List Nat) (w : World) (hl : l.length ≤ 1000000) (ha : a < l.length) (hr : Rd w 1 A l.length (NI l)) :
  Calls Tryz.prog 98 #[.slice A l.length c, .int .i64 ((a : Nat) : Int)] w fun e w' => e = .returned (.int .i64 ((runN l a : Nat) : Int)) ∧ qQ w w' := by
 obtain ⟨ad, hA, _, hadc⟩ := hr.2 jo
 subst hA
 refine VC.calls (nt := 27) (res := #[.tmp 4]) Tryz.func98 rfl Tryz.ntmps98 Tryz.results98 rfl ?_
 refine jS (jR (jz 0 (jO (jN (jv2 0 1 ?_)))))
 refine jS (jR (jm rfl (ja rfl (jO (jN (jv3 0 1 5 ?_))))))
 refine jS (jB ?_)
 refine VC.loop (σ := Nat) (fun s => [(0, .slice (some ad) l.length c), (1, .int .i64 ((a : Nat) : Int)), (5, .int .i64 ((s : Nat) : Int))]) (fun s wr => a ≤ s ∧ s ≤ l.length ∧ runN l a = (s - a) + nN l (l.getD a 0) (l.length - s) s ∧ qQ w wr) (fun s => l.length - s) a (js3 rfl rfl rfl) ⟨zk _, jo, by simp [runN], qQ.refl w⟩ ?_
 rintro n wr ⟨hna, hn, hcn, hd⟩
 have hcell : ∀ j, j < l.length → wr.cell? (ad.add j) = some (.int .i64 ((l.getD j 0 : Nat) : Int)) := fun j hj => by
  obtain ⟨m, rfl⟩ := hd
  exact hadc j _ (eZ l j hj)
 refine jS (jS ?_)
 refine VC.splitR [(0, .slice (some ad) l.length c), (1, .int .i64 ((a : Nat) : Int)), (5, .int .i64 ((n : Nat) : Int))] (qQ w) 21 (.bool (decide (n < l.length ∧ l.getD n 0 = l.getD a 0))) ?_ ?_
 ·
  refine VC.still jK jK ?_
  refine qM ?_
  refine qM ?_
  refine qE (Run.lenS rfl zd) ?_
  refine qE (Run.bin rfl rfl (Bin.lssN _ _)) ?_
  by_cases hs10 : n < l.length
  ·
   refine qM ?_
   refine qG (Run.mv rfl) ?_
   refine qG (Run.mv rfl) ?_
   refine qG (Run.index1 _ rfl rfl zd zc jo) ?_
   refine qG (Run.load rfl zg (hcell _ jo)) ?_
   refine qG (Run.mv rfl) ?_
   refine qG (Run.mv rfl) ?_
   refine qG (Run.index1 _ rfl rfl zd zc jo) ?_
   refine qG (Run.load rfl zg (hcell _ jo)) ?_
   refine qG (Run.bin rfl rfl (Bin.eqlN _ _)) ?_
   by_cases hs20 : l.getD n 0 = l.getD a 0
   ·
    refine qE (Run.pickT rfl rfl au) ?_
    refine qH.nil ?_
    refine jN ⟨(js4 (jC (by simp [*])) rfl rfl rfl), (hd.trans (qQ.drew _))⟩
   refine qE (Run.pickT rfl rfl au) ?_
   refine qH.nil ?_
   refine jN ⟨(js4 (jC (by simp [*])) rfl rfl rfl), (hd.trans (qQ.drew _))⟩
  refine qM ?_
  refine qU ?_
  refine qU ?_
  refine qU ?_
  refine qU ?_
  refine qU ?_
  refine qU ?_
  refine qU ?_
  refine qU ?_
  refine qU ?_
  refine qE (Run.pickF rfl rfl au) ?_
  refine qH.nil ?_
  refine jN ⟨(js4 (jC (by simp [*])) rfl rfl rfl), (hd.trans (qQ.drew _))⟩
 intro Γ wr2 hΓ hd2
 refine jN (VC.sub _ hΓ ?_)
 refine jD rfl (fun hc1 => ?_) fun hc1 => ?_
 ·
  refine jQ (jN (jv3 0 1 5 ?_))
  refine jB (jR (jm rfl (jb rfl rfl (Bin.add_i64 _ 1 jo) (ja rfl (jO ?_)))))
  refine qJ (jN ⟨n + 1, (js3 rfl rfl rfl), ?_, ?_⟩)
  ·
   refine ⟨jo, jo, ?_, hd2⟩
   rw [hcn, sT hc1.1 hc1.2 jo, show l.length - (n + 1) = l.length - n - 1 by omega]
   omega
  first | omega | (dsimp only; omega)
 refine jX ?_
 refine qZ (qZ (qW ?_))
 refine jN (jv2 1 5 ?_)
 refine jS (jR (jm rfl (jm rfl (jb rfl rfl (Bin.sub_i64 _ _ jo jo) (ja rfl (jO (jN (jv1 4 ?_))))))))
 refine jT ?_
 refine qT rfl ?_
 refine ⟨?_, hd2⟩
 rw [hcn, vU hc1]
 simp
theorem qR1 (A : Option Addr) (c : Nat) (l : List Nat) (w : World) (hl : l.length = 19) (hr : Rd w 1 A l.length (NI l)) :
  Calls Tryz.prog 63 #[.slice A l.length c] w fun e w' => ∃ B d, e = .returned (.slice B (cU l).length d) ∧ Own w' 3 1 B (cU l).length d (NI (cU l)) ∧ Frm [] w w' ∧ ∀ x ∈ ob B, w.heap.size ≤ x := by
 obtain ⟨ad, hA, _, hadc⟩ := hr.2 jo
 subst hA
 refine VC.calls (nt := 19) (res := #[.tmp 2]) Tryz.func63 rfl Tryz.ntmps63 Tryz.results63 rfl ?_
 refine jS (jR (ja rfl (jO (jN (jv1 0 ?_)))))
 refine jS (jR (ja rfl (jO (jN (jS (jS (jR (je (Run.buildA (evs.cons rfl (evs.cons rfl (evs.cons rfl (evs.cons rfl (evs.cons rfl (evs.cons rfl (evs.cons rfl (evs.cons rfl (evs.cons rfl (evs.cons rfl (evs.cons rfl (evs.cons rfl (evs.cons rfl (evs.cons rfl (evs.cons rfl (evs.cons rfl (evs.cons rfl (evs.cons rfl (evs.cons rfl evs.nil))))))))))))))))))) sJ zfg zc (cells := (NI bX).toArray) jK) ?_))))))))
 refine jx .i64 0 ?_
 refine jO (jN (jB ?_))
 refine VC.loop (σ := Nat × Option Addr × Nat) (fun s => [(0, .slice (some ad) l.length c), (3, .slice s.2.1 s.1 s.2.2), (6, .agg (NI bX).toArray), (7, .int .i64 ((s.1 : Nat) : Int))]) (fun s wr => s.1 ≤ 19 ∧ Own wr 3 1 s.2.1 s.1 s.2.2 (NI ((cU l).take s.1)) ∧ Frm [] w wr ∧ ∀ x ∈ ob s.2.1, w.heap.size ≤ x) (fun s => 19 - s.1) (0, none, 0) (js4 rfl rfl rfl rfl) ⟨zak _, Own.nil _ _ _, Frm.refl _ _, by simp [ob]⟩ ?_
 rintro ⟨i, B, d⟩ wr ⟨hi, hO, K, hup⟩
 dsimp only at hi hO hup ⊢
 refine jS (jR (jb rfl rfl (Bin.lssN _ 19) (jO (jN (jS ?_)))))
 refine jD rfl (fun hc1 => ?_) fun hc1 => ?_
 ·
  have hcell : ∀ j, j < l.length → wr.cell? (ad.add j) = some (.int .i64 ((l.getD j 0 : Nat) : Int)) := fun j hj => by
   exact (K.cell (hadc j _ (eZ l j hj)) jp)
  have hs19 : bX.getD i 0 < 19 := by
   have h : ∀ i, i < 19 → bX.getD i 0 < 19 := jd
   exact h i hc1
  have hot : (NI bX).toArray[i]? = some (.int .i64 ((bX.getD i 0 : Nat) : Int)) := by
   rw [zdp]
   exact eZ bX i (by have e : bX.length = 19 := rfl; omega)
  have hsn : (cU l).take (i + 1) = (cU l).take i ++ [l.getD (bX.getD i 0) 0] := by
   have hlen : (cU l).length = 19 := by simp [cU, bX]
   rw [zah, zb jo]
   congr 1
   have e : bX.length = 19 := rfl
   simp [cU, ze, zb (jo : i < bX.length)]
  refine jQ (jN (jv4 0 3 6 7 ?_))
  refine jS (jB (jS (jR (je (Run.indexArr1 i rfl rfl zfg zg zc rfl hot) (ja rfl (jO (jN (jv5 0 3 5 6 7 ?_))))))))
  refine jR (jm rfl (jm rfl (jm rfl (je (Run.index1 _ rfl rfl zd zc jo) (jl rfl zg (hcell _ jo) ?_)))))
  refine Ops.m (qV.buildS1 rfl zd zc fS jd jd rfl rfl) rfl ?_
  rintro _ w1 ⟨rfl, hF1⟩
  have hO1 := hO.frm hF1.frm jp
  have hrd1 : Rd w1 1 (some ⟨wr.heap.size, 0, none⟩) 1 (NI [l.getD (bX.getD i 0) 0]) := Rd.of_blk hF1.blk rfl
  refine Ops.m (qV.app rfl rfl zd (dX) rfl jd hO1 hrd1 (fH _) jo jo) rfl ?_
  rintro _ w2 ⟨B2, d2, rfl, hO2, hf2, hob2⟩
  rw [← nO, ← hsn] at hO2
  refine ja rfl (jO ?_)
  refine qJ (jN ?_)
  refine jv4 0 3 6 7 ?_
  refine jR (jb rfl rfl (Bin.add_i64 _ 1 jo) (jm rfl (jO ?_)))
  refine jN ⟨(i + 1, B2, d2), (js4 rfl rfl rfl rfl), ?_, ?_⟩
  · exact ⟨hc1, hO2, (K.trans hF1.frm jp).own hf2 hup, cG hup hob2 (by have := K.size; have := hF1.size; omega)⟩
  first | omega | (dsimp only; omega)
 refine jX ?_
 refine qZ (qZ (qW ?_))
 refine jN (jv1 3 ?_)
 refine jS (jR (jm rfl (ja rfl (jO (jN (jv1 2 ?_))))))
 refine jT ?_
 refine qT rfl ?_
 have ei : i = 19 := jo
 have hlen : (cU l).length = 19 := by simp [cU, bX]
 rw [ei, zm jo] at hO
 rw [hlen]
 exact ⟨B, d, by rw [ei], hO, K, hup⟩
theorem qKu {l : List Nat} {a r : Nat} (h : runN l a = r) : bB l a = if l.getD a 0 = 0 ∧ 11 ≤ r then ((18, 7, min r 138 - 11), min r 138)
  else if l.getD a 0 = 0 ∧ 3 ≤ r then ((17, 3, min r 10 - 3), min r 10)
  else if 0 < a ∧ l.getD (a - 1) 0 = l.getD a 0 ∧ 3 ≤ r then ((16, 2, min r 6 - 3), min r 6)
  else ((l.getD a 0, 0, 0), 1) := by
 unfold bB
 rw [h]
def sdC (t : Sd) : List Value := [.int .i64 ((t.1 : Nat) : Int), .int .i64 ((t.2.1 : Nat) : Int), .int .i64 ((t.2.2 : Nat) : Int)]
def SDC (l : List Sd) : List Value := l.flatMap sdC
theorem fO (a b : List Sd) : SDC (a ++ b) = SDC a ++ SDC b := by simp [SDC]
theorem SDC_one (l : List Sd) : ∀ u ∈ SDC l, u.oneCell' = true := by
 intro u hu
 obtain ⟨t, _, ht⟩ := List.mem_flatMap.1 hu
 simp only [sdC, zbv, zbm, or_false] at ht
 rcases ht with rfl | rfl | rfl <;> rfl
theorem qBp (A : Option Addr) (c : Nat) (l : List Nat) (w : World) (hl : l.length ≤ 100000) (hr : Rd w 1 A l.length (NI l)) :
  Calls Tryz.prog 62 #[.slice A l.length c] w fun e w' => ∃ B d, e = .returned (.slice B (dK l 0).length d) ∧ Own w' 113 3 B (dK l 0).length d (SDC (dK l 0)) ∧ Frm [] w w' ∧ ∀ x ∈ ob B, w.heap.size ≤ x := by
 refine VC.calls (nt := 88) (res := #[.tmp 2]) Tryz.func62 rfl Tryz.ntmps62 Tryz.results62 rfl ?_
 refine jS (jR (ja rfl (jO (jN (jv1 0 ?_)))))
 refine jS (jR (ja rfl (jO (jN (jS (jS (jR (jz 0 (jO (jN (jB ?_)))))))))))
 refine VC.loop (σ := Nat × List Sd × Option Addr × Nat) (fun s => [(0, .slice A l.length c), (3, .slice s.2.2.1 s.2.1.length s.2.2.2), (4, .int .i64 ((s.1 : Nat) : Int))]) (fun s wr => s.1 ≤ l.length ∧ dK l 0 = s.2.1 ++ dK l s.1 ∧ s.2.1.length ≤ s.1 ∧ Own wr 113 3 s.2.2.1 s.2.1.length s.2.2.2 (SDC s.2.1) ∧ Frm [] w wr ∧ ∀ x ∈ ob s.2.2.1, w.heap.size ≤ x) (fun s => l.length - s.1) (0, [], none, 0) (js3 rfl rfl rfl) ⟨zak _, rfl, zk _, Own.nil _ _ _, Frm.refl _ _, by simp [ob]⟩ ?_
 rintro ⟨a, pre, B, d⟩ wr ⟨ha, hsp, hpl, hO, K, hup⟩
 dsimp only at ha hsp hpl hO hup ⊢
 refine jS (jS (jR (jm rfl (jm rfl (je (Run.lenS rfl zd) (jb rfl rfl (Bin.lssN _ _) (jO (jN (jv4 0 3 4 9 ?_)))))))))
 refine jD rfl (fun hc1 => ?_) fun hc1 => ?_
 ·
  refine jQ (jN (jv3 0 3 4 ?_))
  refine jB (jS (jR (jm rfl (jM ?_))))
  refine Ops.cl (jE2 Tryz.call98) (qBo A c a l wr jo hc1 (hr.frm K jp)) rfl ?_
  rintro e w1 ⟨rfl, hd1⟩
  refine ⟨_, rfl, ?_⟩
  have hO := hO.drawn hd1
  have K := K.drawn hd1
  have hrn := qXh (l := l) (a := a)
  have hrp := yE hc1
  generalize hrv : runN l a = r at hrn hrp ⊢
  have hat := qKu hrv
  obtain ⟨ad, hA, _, hadc⟩ := (hr.frm K jp).2 jo
  subst hA
  have hcell : ∀ j, j < l.length → w1.cell? (ad.add j) = some (.int .i64 ((l.getD j 0 : Nat) : Int)) := fun j hj => hadc j _ (eZ l j hj)
  refine ja rfl (jO (jN (jv4 0 3 4 5 ?_)))
  refine jS (jB (jS ?_))
  refine VC.split1 [(0, _), (3, _), (4, _), (5, _)] (js4 rfl rfl rfl rfl) 21 (.bool (decide (l.getD a 0 = 0 ∧ 11 ≤ r))) ?_ ?_
  ·
   refine jR ?_
   refine jm rfl (jm rfl (je (Run.index1 _ rfl rfl zd zc jo) (jl rfl zg (hcell _ hc1) (jb rfl rfl (Bin.eqlN _ 0) ?_))))
   by_cases hs26 : l.getD a 0 = 0
   ·
    refine jM ?_
    refine jG ?_
    refine jk (Run.bin rfl rfl (Bin.geqN _ 11)) ?_
    by_cases hs29 : 11 ≤ r
    ·
     refine je (Run.pickT rfl rfl au) (ja rfl (jO ?_))
     refine jN ⟨(js5 (jC (by first | exact decide_eq_decide.2 ⟨fun h => ⟨by assumption, h⟩, fun h => h.2⟩ | exact (decide_eq_false (fun h => absurd h.1 (by assumption))).symm)) rfl rfl rfl rfl), rfl⟩
    refine je (Run.pickT rfl rfl au) (ja rfl (jO ?_))
    refine jN ⟨(js5 (jC (by first | exact decide_eq_decide.2 ⟨fun h => ⟨by assumption, h⟩, fun h => h.2⟩ | exact (decide_eq_false (fun h => absurd h.1 (by assumption))).symm)) rfl rfl rfl rfl), rfl⟩
   refine jM ?_
   refine jU ?_
   refine jU ?_
   refine je (Run.pickF rfl rfl au) (ja rfl (jO ?_))
   refine jN ⟨(js5 (jC (by first | exact decide_eq_decide.2 ⟨fun h => ⟨by assumption, h⟩, fun h => h.2⟩ | exact (decide_eq_false (fun h => absurd h.1 (by assumption))).symm)) rfl rfl rfl rfl), rfl⟩
  intro Γ hΓ
  refine jN (VC.sub _ hΓ ?_)
  refine jD rfl (fun hc2 => ?_) fun hc2 => ?_
  ·
   have hs : bB l a = ((18, 7, min r 138 - 11), min r 138) := by rw [hat, if_pos hc2]
   refine jS (jR (jm rfl (je (Run.minI rfl rfl) ?_)))
   have em : (if (138 : Int) < ((r : Nat) : Int) then (138 : Int) else ((r : Nat) : Int)) = ((min r 138 : Nat) : Int) := by split <;> omega
   rw [em]
   refine ja rfl (jO (jN (jv4 0 3 4 5 ?_)))
   refine jR (jm rfl (jm rfl (jb rfl rfl (Bin.subZ _ 11 jo jo) ?_)))
   have es : (((min r 138 : Nat) : Int) - 11) = ((min r 138 - 11 : Nat) : Int) := jo
   rw [es]
   refine je (Run.build (evs.cons rfl (evs.cons rfl (evs.cons rfl evs.nil))) jZ (gG).choose_spec.1 (gG).choose_spec.2 rfl) ?_
   refine Ops.m (qV.buildS1 rfl zdc zev jZ jd jd rfl rfl) rfl ?_
   rintro _ w2 ⟨rfl, hF2⟩
   have hO2 := hO.frm hF2.frm jp
   have hrd2 : Rd w2 3 (some ⟨_, 0, none⟩) 1 (SDC [(18, 7, min r 138 - 11)]) := Rd.of_blk (n := 1) (size := 3) hF2.blk rfl
   refine Ops.m (qV.app rfl rfl zdc (wP) rfl jd hO2 hrd2 (SDC_one _) jo jo) rfl ?_
   rintro _ w3 ⟨B3, d3, rfl, hO3, hf3, hob3⟩
   rw [← fO] at hO3
   have K3 := (K.trans hF2.frm jp).own hf3 hup
   have hup3 := cG hup hob3 (by have := K.size; have := hF2.size; omega)
   refine ja rfl (jO ?_)
   refine qJ (jN ?_)
   refine jv4 0 3 4 5 ?_
   refine jR (jm rfl (jm rfl (jb rfl rfl (Bin.addZ _ _ jo jo) (ja rfl (jO ?_)))))
   refine qJ (jN ⟨(a + min r 138, pre ++ [(18, 7, min r 138 - 11)], B3, d3), (js3 rfl (by rw [za]; rfl) rfl), ?_, ?_⟩)
   ·
    refine ⟨by dsimp only; omega, ?_, by rw [za]; simp only [zp, zbx]; omega, by rw [za]; exact hO3, K3, hup3⟩
    rw [hsp, fL hc1, hs]
    simp
   first | omega | (dsimp only; omega)
  refine jS ?_
  refine VC.split1 [(0, _), (3, _), (4, _), (5, _)] (js4 rfl rfl rfl rfl) 39 (.bool (decide (l.getD a 0 = 0 ∧ 3 ≤ r))) ?_ ?_
  ·
   refine jR ?_
   refine jm rfl (jm rfl (je (Run.index1 _ rfl rfl zd zc jo) (jl rfl zg (hcell _ hc1) (jb rfl rfl (Bin.eqlN _ 0) ?_))))
   by_cases hs44 : l.getD a 0 = 0
   ·
    refine jM ?_
    refine jG ?_
    refine jk (Run.bin rfl rfl (Bin.geqN _ 3)) ?_
    by_cases hs47 : 3 ≤ r
    ·
     refine je (Run.pickT rfl rfl au) (ja rfl (jO ?_))
     refine jN ⟨(js5 (jC (by first | exact decide_eq_decide.2 ⟨fun h => ⟨by assumption, h⟩, fun h => h.2⟩ | exact (decide_eq_false (fun h => absurd h.1 (by assumption))).symm)) rfl rfl rfl rfl), rfl⟩
    refine je (Run.pickT rfl rfl au) (ja rfl (jO ?_))
    refine jN ⟨(js5 (jC (by first | exact decide_eq_decide.2 ⟨fun h => ⟨by assumption, h⟩, fun h => h.2⟩ | exact (decide_eq_false (fun h => absurd h.1 (by assumption))).symm)) rfl rfl rfl rfl), rfl⟩
   refine jM ?_
   refine jU ?_
   refine jU ?_
   refine je (Run.pickF rfl rfl au) (ja rfl (jO ?_))
   refine jN ⟨(js5 (jC (by first | exact decide_eq_decide.2 ⟨fun h => ⟨by assumption, h⟩, fun h => h.2⟩ | exact (decide_eq_false (fun h => absurd h.1 (by assumption))).symm)) rfl rfl rfl rfl), rfl⟩
  intro Γ hΓ
  refine jN (VC.sub _ hΓ ?_)
  refine jD rfl (fun hc3 => ?_) fun hc3 => ?_
  ·
   have hs : bB l a = ((17, 3, min r 10 - 3), min r 10) := by rw [hat, if_neg hc2, if_pos hc3]
   refine jS (jR (jm rfl (je (Run.minI rfl rfl) ?_)))
   have em : (if (10 : Int) < ((r : Nat) : Int) then (10 : Int) else ((r : Nat) : Int)) = ((min r 10 : Nat) : Int) := by split <;> omega
   rw [em]
   refine ja rfl (jO (jN (jv4 0 3 4 5 ?_)))
   refine jR (jm rfl (jm rfl (jb rfl rfl (Bin.subZ _ 3 jo jo) ?_)))
   have es : (((min r 10 : Nat) : Int) - 3) = ((min r 10 - 3 : Nat) : Int) := jo
   rw [es]
   refine je (Run.build (evs.cons rfl (evs.cons rfl (evs.cons rfl evs.nil))) jZ (gG).choose_spec.1 (gG).choose_spec.2 rfl) ?_
   refine Ops.m (qV.buildS1 rfl zdc zev jZ jd jd rfl rfl) rfl ?_
   rintro _ w2 ⟨rfl, hF2⟩
   have hO2 := hO.frm hF2.frm jp
   have hrd2 : Rd w2 3 (some ⟨_, 0, none⟩) 1 (SDC [(17, 3, min r 10 - 3)]) := Rd.of_blk (n := 1) (size := 3) hF2.blk rfl
   refine Ops.m (qV.app rfl rfl zdc (wP) rfl jd hO2 hrd2 (SDC_one _) jo jo) rfl ?_
   rintro _ w3 ⟨B3, d3, rfl, hO3, hf3, hob3⟩
   rw [← fO] at hO3
   have K3 := (K.trans hF2.frm jp).own hf3 hup
   have hup3 := cG hup hob3 (by have := K.size; have := hF2.size; omega)
   refine ja rfl (jO ?_)
   refine qJ (jN ?_)
   refine jv4 0 3 4 5 ?_
   refine jR (jm rfl (jm rfl (jb rfl rfl (Bin.addZ _ _ jo jo) (ja rfl (jO ?_)))))
   refine qJ (jN ⟨(a + min r 10, pre ++ [(17, 3, min r 10 - 3)], B3, d3), (js3 rfl (by rw [za]; rfl) rfl), ?_, ?_⟩)
   ·
    refine ⟨by dsimp only; omega, ?_, by rw [za]; simp only [zp, zbx]; omega, by rw [za]; exact hO3, K3, hup3⟩
    rw [hsp, fL hc1, hs]
    simp
   first | omega | (dsimp only; omega)
  refine jS ?_
  refine VC.splitR [(0, .slice (some ad) l.length c), (3, .slice B pre.length d), (4, .int .i64 ((a : Nat) : Int)), (5, .int .i64 ((r : Nat) : Int))] (qQ w1) 57 (.bool (decide (0 < a ∧ l.getD (a - 1) 0 = l.getD a 0 ∧ 3 ≤ r))) ?_ ?_
  ·
   refine VC.still jK jK ?_
   refine qM ?_
   refine qE (Run.bin rfl rfl (Bin.gtrN _ 0)) ?_
   by_cases hs59 : 0 < a
   ·
    refine qM ?_
    refine qG (Run.mv rfl) ?_
    refine qG (Run.mv rfl) ?_
    refine qG (Run.bin rfl rfl (Bin.sub_i64 _ 1 jo jo)) ?_
    refine qG (Run.index1 _ rfl rfl zd zc jo) ?_
    refine qG (Run.load rfl zg (hcell _ jo)) ?_
    refine qG (Run.mv rfl) ?_
    refine qG (Run.mv rfl) ?_
    refine qG (Run.index1 _ rfl rfl zd zc jo) ?_
    refine qG (Run.load rfl zg (hcell _ hc1)) ?_
    refine qG (Run.bin rfl rfl (Bin.eqlN _ _)) ?_
    by_cases hs70 : l.getD (a - 1) 0 = l.getD a 0
    ·
     refine qE (Run.pickT rfl rfl au) ?_
     refine qM ?_
     refine qG (Run.mv rfl) ?_
     refine qG (Run.bin rfl rfl (Bin.geqN _ 3)) ?_
     by_cases hs74 : 3 ≤ r
     ·
      refine qE (Run.pickT rfl rfl au) ?_
      refine qA ?_
      refine qH.nil ?_
      refine jN ⟨(js5 (jC (by first | exact decide_eq_decide.2 ⟨fun h => ⟨by assumption, by assumption, h⟩, fun h => h.2.2⟩ | exact (decide_eq_false (fun h => absurd h.1 (by assumption))).symm | exact (decide_eq_false (fun h => absurd h.2.1 (by assumption))).symm)) rfl rfl rfl rfl), (qQ.drew _)⟩
     refine qE (Run.pickT rfl rfl au) ?_
     refine qA ?_
     refine qH.nil ?_
     refine jN ⟨(js5 (jC (by first | exact decide_eq_decide.2 ⟨fun h => ⟨by assumption, by assumption, h⟩, fun h => h.2.2⟩ | exact (decide_eq_false (fun h => absurd h.1 (by assumption))).symm | exact (decide_eq_false (fun h => absurd h.2.1 (by assumption))).symm)) rfl rfl rfl rfl), (qQ.drew _)⟩
    refine qE (Run.pickT rfl rfl au) ?_
    refine qM ?_
    refine qU ?_
    refine qU ?_
    refine qE (Run.pickF rfl rfl au) ?_
    refine qA ?_
    refine qH.nil ?_
    refine jN ⟨(js5 (jC (by first | exact decide_eq_decide.2 ⟨fun h => ⟨by assumption, by assumption, h⟩, fun h => h.2.2⟩ | exact (decide_eq_false (fun h => absurd h.1 (by assumption))).symm | exact (decide_eq_false (fun h => absurd h.2.1 (by assumption))).symm)) rfl rfl rfl rfl), (qQ.drew _)⟩
   refine qM ?_
   refine qU ?_
   refine qU ?_
   refine qU ?_
   refine qU ?_
   refine qU ?_
   refine qU ?_
   refine qU ?_
   refine qU ?_
   refine qU ?_
   refine qU ?_
   refine qE (Run.pickF rfl rfl au) ?_
   refine qM ?_
   refine qU ?_
   refine qU ?_
   refine qE (Run.pickF rfl rfl au) ?_
   refine qA ?_
   refine qH.nil ?_
   refine jN ⟨(js5 (jC (by first | exact decide_eq_decide.2 ⟨fun h => ⟨by assumption, by assumption, h⟩, fun h => h.2.2⟩ | exact (decide_eq_false (fun h => absurd h.1 (by assumption))).symm | exact (decide_eq_false (fun h => absurd h.2.1 (by assumption))).symm)) rfl rfl rfl rfl), (qQ.drew _)⟩
  intro Γ w9 hΓ hd9
  refine jN (VC.sub _ hΓ ?_)
  refine jD rfl (fun hc4 => ?_) fun hc4 => ?_
  ·
   have hs : bB l a = ((16, 2, min r 6 - 3), min r 6) := by rw [hat, if_neg hc2, if_neg hc3, if_pos hc4]
   have hO := hO.drawn hd9
   have K := K.drawn hd9
   refine jS (jR (jm rfl (je (Run.minI rfl rfl) ?_)))
   have em : (if (6 : Int) < ((r : Nat) : Int) then (6 : Int) else ((r : Nat) : Int)) = ((min r 6 : Nat) : Int) := by split <;> omega
   rw [em]
   refine ja rfl (jO (jN (jv4 0 3 4 5 ?_)))
   refine jR (jm rfl (jm rfl (jb rfl rfl (Bin.subZ _ 3 jo jo) ?_)))
   have es : (((min r 6 : Nat) : Int) - 3) = ((min r 6 - 3 : Nat) : Int) := jo
   rw [es]
   refine je (Run.build (evs.cons rfl (evs.cons rfl (evs.cons rfl evs.nil))) jZ (gG).choose_spec.1 (gG).choose_spec.2 rfl) ?_
   refine Ops.m (qV.buildS1 rfl zdc zev jZ jd jd rfl rfl) rfl ?_
   rintro _ w2 ⟨rfl, hF2⟩
   have hO2 := hO.frm hF2.frm jp
   have hrd2 : Rd w2 3 (some ⟨_, 0, none⟩) 1 (SDC [(16, 2, min r 6 - 3)]) := Rd.of_blk (n := 1) (size := 3) hF2.blk rfl
   refine Ops.m (qV.app rfl rfl zdc (wP) rfl jd hO2 hrd2 (SDC_one _) jo jo) rfl ?_
   rintro _ w3 ⟨B3, d3, rfl, hO3, hf3, hob3⟩
   rw [← fO] at hO3
   have K3 := (K.trans hF2.frm jp).own hf3 hup
   have hup3 := cG hup hob3 (by have := K.size; have := hF2.size; omega)
   refine ja rfl (jO ?_)
   refine qJ (jN ?_)
   refine jv4 0 3 4 5 ?_
   refine jR (jm rfl (jm rfl (jb rfl rfl (Bin.addZ _ _ jo jo) (ja rfl (jO ?_)))))
   refine qJ (jN ⟨(a + min r 6, pre ++ [(16, 2, min r 6 - 3)], B3, d3), (js3 rfl (by rw [za]; rfl) rfl), ?_, ?_⟩)
   ·
    refine ⟨by dsimp only; omega, ?_, by rw [za]; simp only [zp, zbx]; omega, by rw [za]; exact hO3, K3, hup3⟩
    rw [hsp, fL hc1, hs]
    simp
   first | omega | (dsimp only; omega)
  have hs : bB l a = ((l.getD a 0, 0, 0), 1) := by rw [hat, if_neg hc2, if_neg hc3, if_neg hc4]
  have hO := hO.drawn hd9
  have K := K.drawn hd9
  have hcell2 : ∀ j, j < l.length → w9.cell? (ad.add j) = some (.int .i64 ((l.getD j 0 : Nat) : Int)) := fun j hj => by
   obtain ⟨m, rfl⟩ := hd9
   exact hcell j hj
  refine jS (jR (jz 1 (jO (jN (jv4 0 3 4 5 ?_)))))
  refine jR (jm rfl (jm rfl (jm rfl (je (Run.index1 _ rfl rfl zd zc jo) (jl rfl zg ((hcell2 _ hc1)) (je (Run.build (evs.cons rfl (evs.cons rfl (evs.cons rfl evs.nil))) jZ (gG).choose_spec.1 (gG).choose_spec.2 rfl) ?_))))))
  refine Ops.m (qV.buildS1 rfl zdc zev jZ jd jd rfl rfl) rfl ?_
  rintro _ w2 ⟨rfl, hF2⟩
  have hO2 := hO.frm hF2.frm jp
  have hrd2 : Rd w2 3 (some ⟨_, 0, none⟩) 1 (SDC [(l.getD a 0, 0, 0)]) := Rd.of_blk (n := 1) (size := 3) hF2.blk rfl
  refine Ops.m (qV.app rfl rfl zdc (wP) rfl jd hO2 hrd2 (SDC_one _) jo jo) rfl ?_
  rintro _ w3 ⟨B3, d3, rfl, hO3, hf3, hob3⟩
  rw [← fO] at hO3
  have K3 := (K.trans hF2.frm jp).own hf3 hup
  have hup3 := cG hup hob3 (by have := K.size; have := hF2.size; omega)
  refine ja rfl (jO ?_)
  refine qJ (jN ?_)
  refine jv4 0 3 4 5 ?_
  refine jR (jm rfl (jm rfl (jb rfl rfl (Bin.add_i64 _ _ jo) (ja rfl (jO ?_)))))
  refine qJ (jN ⟨(a + 1, pre ++ [(l.getD a 0, 0, 0)], B3, d3), (js3 rfl (by rw [za]; rfl) rfl), ?_, ?_⟩)
  ·
   refine ⟨by dsimp only; omega, ?_, by rw [za]; simp only [zp, zbx]; omega, by rw [za]; exact hO3, K3, hup3⟩
   rw [hsp, fL hc1, hs]
   simp
  first | omega | (dsimp only; omega)
 refine jX ?_
 refine qZ (qZ (qW ?_))
 refine jN (jv1 3 ?_)
 refine jS (jR (jm rfl (ja rfl (jO (jN (jv1 2 ?_))))))
 refine jT ?_
 refine qT rfl ?_
 have ea : a = l.length := jo
 have et : dK l 0 = pre := by rw [hsp, yA jo, zdd]
 rw [et]
 exact ⟨B, d, rfl, hO, K, hup⟩
end
section
open Go.RowKit
def eW (c : List Nat) (t : Tk) : List Nat := if t.2.1 = 0 then c.set t.1 (c.getD t.1 0 + 1) else c.set (257 + lenS t.2.1) (c.getD (257 + lenS t.2.1) 0 + 1)
def eB (c : List Nat) (t : Tk) : List Nat := if t.2.1 = 0 then c else c.set (wayS t.2.2) (c.getD (wayS t.2.2) 0 + 1)
def tS : List Nat := (List.replicate 286 0).set 256 1
def dQ (l : List Tk) : List Nat := l.foldl eW tS
def eJ (l : List Tk) : List Nat := l.foldl eB (List.replicate 30 0)
theorem qZl (l : List Tk) (t : Tk) : dQ (l ++ [t]) = eW (dQ l) t := by unfold dQ; rw [zgx]; rfl
theorem qZm (l : List Tk) (t : Tk) : eJ (l ++ [t]) = eB (eJ l) t := by unfold eJ; rw [zgx]; rfl
theorem litStep_len (c : List Nat) (t : Tk) : (eW c t).length = c.length := by unfold eW; split <;> rw [zdw]
theorem wayStep_len (c : List Nat) (t : Tk) : (eB c t).length = c.length := by
 unfold eB
 split
 · rfl
 rw [zdw]
theorem qR2 (l : List Tk) : ∀ c : List Nat, (l.foldl eW c).length = c.length := by
 induction l with
 | nil => exact fun _ => rfl
 | cons t l ih => intro c; rw [zdn, ih, litStep_len]
theorem qR3 (l : List Tk) : ∀ c : List Nat, (l.foldl eB c).length = c.length := by
 induction l with
 | nil => exact fun _ => rfl
 | cons t l ih => intro c; rw [zdn, ih, wayStep_len]
theorem dV (l : List Tk) : (dQ l).length = 286 := by unfold dQ tS; rw [qR2, zdw, zbn]
theorem dD (l : List Tk) : (eJ l).length = 30 := by unfold eJ; rw [qR3, zbn]
theorem qQh {c : List Nat} {i n : Nat} (h : ∀ x ∈ c, x ≤ n) : ∀ x ∈ c.set i (c.getD i 0 + 1), x ≤ n + 1 := by
 intro x hx
 rcases List.mem_or_eq_of_mem_set hx with h1 | h1
 · have := h x h1; omega
 subst h1
 have : c.getD i 0 ≤ n := by
  rw [ze]
  cases hc : c[i]? with
  | none => exact zak _
  | some y => exact h y (zdh hc)
 omega
theorem qBq (l : List Tk) : ∀ (c : List Nat) (n : Nat), (∀ x ∈ c, x ≤ n) → ∀ x ∈ l.foldl eW c, x ≤ n + l.length := by
 induction l with
 | nil => exact fun _ _ h => h
 | cons t l ih =>
  intro c n h x hx
  have h2 : ∀ x ∈ eW c t, x ≤ n + 1 := by
   unfold eW
   split
   · exact qQh h
   exact qQh h
  have := ih _ (n + 1) h2 x hx
  rw [zp]
  omega
theorem qBr (l : List Tk) : ∀ (c : List Nat) (n : Nat), (∀ x ∈ c, x ≤ n) → ∀ x ∈ l.foldl eB c, x ≤ n + l.length := by
 induction l with
 | nil => exact fun _ _ h => h
 | cons t l ih =>
  intro c n h x hx
  have h2 : ∀ x ∈ eB c t, x ≤ n + 1 := by
   unfold eB
   split
   · exact fun x hx => Nat.le_succ_of_le (h x hx)
   exact qQh h
  have := ih _ (n + 1) h2 x hx
  rw [zp]
  omega
theorem wD (l : List Tk) : ∀ x ∈ dQ l, x ≤ 1 + l.length := qBq l tS 1 (fun x hx => by
 rcases List.mem_or_eq_of_mem_set hx with h1 | h1
 · rw [zgc h1]; omega
 omega)
theorem wE (l : List Tk) : ∀ x ∈ eJ l, x ≤ 0 + l.length := qBr l _ 0 (fun x hx => by rw [zgc hx]; omega)
def SyC (a b : List Nat) : Array Value := (NI a ++ NI b).toArray
theorem qKv (a : List Nat) (i x : Nat) : NI (a.set i x) = (NI a).set i (.int .i64 ((x : Nat) : Int)) := by simp [NI, List.map_set]
theorem eL (a b : List Nat) : (SyC a b).size = a.length + b.length := by simp [SyC, NI]
theorem qXi {a b : List Nat} {i : Nat} (h : i < a.length) (x : Nat) : (SyC a b).setIfInBounds i (.int .i64 ((x : Nat) : Int)) = SyC (a.set i x) b := by
 unfold SyC
 rw [qKv, List.setIfInBounds_toArray, List.set_append_left _ _ (by simpa [NI] using h)]
theorem qUc {a b : List Nat} {i : Nat} (x : Nat) : (SyC a b).setIfInBounds (a.length + i) (.int .i64 ((x : Nat) : Int)) = SyC a (b.set i x) := by
 unfold SyC
 have e : (NI a).length = a.length := by simp [NI]
 rw [qKv, List.setIfInBounds_toArray, List.set_append_right _ _ (by rw [e]; omega), e, zds]
theorem qZn {a b : List Nat} {i : Nat} (h : i < a.length) : (SyC a b)[i]? = some (.int .i64 ((a.getD i 0 : Nat) : Int)) := by
 unfold SyC
 rw [zdp, zaj (by simpa [NI] using h)]
 exact eZ a i h
theorem qNl {a b : List Nat} {i : Nat} (h : i < b.length) : (SyC a b)[a.length + i]? = some (.int .i64 ((b.getD i 0 : Nat) : Int)) := by
 unfold SyC
 have e : (NI a).length = a.length := by simp [NI]
 rw [zdp, zan (by rw [e]; omega), e, zds]
 exact eZ b i h
theorem mH {c : List Nat} {n : Nat} (h : ∀ x ∈ c, x ≤ n) (i : Nat) : c.getD i 0 ≤ n := by
 rw [ze]
 cases hc : c[i]? with
 | none => exact zak _
 | some y => exact h y (zdh hc)
def rep (n : Nat) : List Nat := List.replicate n 0
theorem qKw (w : World) : (zeroValue 103).run Tryz.prog w = .ok (.agg (SyC (rep 286) (rep 30))) w := by
 simp only [zeroValue, Sem.run_bind, Tryz.typeInfo103, Result.andThen_ok]; rfl
theorem qYl (a b : List Nat) : ∀ v ∈ (SyC a b).toList, v.oneCell' = true := by
 intro v hv
 rcases List.mem_append.1 (show v ∈ NI a ++ NI b by simpa [SyC] using hv) with h | h
 · exact fH a v h
 exact fH b v h
theorem qR4 (Bt : Option Addr) (ct : Nat) (lt : List Tk) (w : World) (hlt : ∀ t ∈ lt, pM t) (hll : lt.length ≤ 1000000) (hot : Own w 132 3 Bt lt.length ct (TC lt)) :
  Calls Tryz.prog 58 #[.slice Bt lt.length ct] w fun e w' => e = .returned (.agg (SyC (dQ lt) (eJ lt))) ∧ Frm [] w w' := by
 refine VC.calls (nt := 61) (res := #[.cell 2 103]) Tryz.func58 rfl Tryz.ntmps58 Tryz.results58 rfl ?_
 refine jS (jR ?_)
 refine Ops.m (qV.alloc qKw) rfl ?_
 rintro _ w1 ⟨rfl, hF1⟩
 have hb2 : Blk w1 w.heap.size 103 (SyC (rep 286) (rep 30)) := hF1.blk
 have hgs := hF1.size
 refine jO (jN (jS (jR ?_)))
 refine Ops.m (qV.alloc qKw) rfl ?_
 rintro _ w2 ⟨rfl, hF2⟩
 have hb2 := hb2.frm hF2.frm jp
 have hb3 : Blk w2 w1.heap.size 103 (SyC (rep 286) (rep 30)) := hF2.blk
 have K := hF1.frm.trans hF2.frm jp
 have hot := (hot.frm hF1.frm jp).frm hF2.frm jp
 generalize hg2 : w.heap.size = g2 at *
 generalize hg3 : w1.heap.size = g3 at *
 refine jO (jN (jS (jR (jf rfl zee rfl zhe (je (Run.indexA1 256 rfl rfl zfs zc jo) ?_)))))
 refine Ops.st (qR.store rfl rfl zc hb3 (by rw [zep, eL]; simp [rep]) rfl) ?_
 rintro w3 ⟨hb3n, hf3, hs3⟩
 have hb3 : Blk w3 g3 103 (SyC (dQ (lt.take 0)) (eJ (lt.take 0))) := by
  have e := qXi (a := rep 286) (b := rep 30) (i := 256) (by simp [rep]) 1
  have e2 : (SyC (rep 286) (rep 30)).setIfInBounds 256 (.int .i64 ((1 : Nat) : Int)) = SyC (dQ (lt.take 0)) (eJ (lt.take 0)) := e
  rw [← e2]
  exact hb3n
 have hb2 := hb2.frm hf3 (by simp; omega)
 have K := K.own hf3 (by simp; omega)
 have hot := hot.frm hf3 (fun x hx hx2 => by rw [zh] at hx2; subst hx2; exact hot.ne_blk hF2.blk jd (hg3 ▸ hx))
 refine jO (jN (jv3 0 2 3 ?_))
 refine jS (jS (jR (jm rfl (je (Run.lenS rfl zbp) ?_))))
 refine jx .i64 0 ?_
 refine jO (jN (jv5 2 3 14 15 16 ?_))
 refine jB ?_
 refine VC.loop (σ := Nat) (fun s => [(2, .pointer (some ⟨g2, 0, none⟩)), (3, .pointer (some ⟨g3, 0, none⟩)), (14, .slice Bt lt.length ct), (15, .int .i64 ((lt.length : Nat) : Int)), (16, .int .i64 ((s : Nat) : Int))]) (fun s wr => s ≤ lt.length ∧ Blk wr g3 103 (SyC (dQ (lt.take s)) (eJ (lt.take s))) ∧ Blk wr g2 103 (SyC (rep 286) (rep 30)) ∧ Own wr 132 3 Bt lt.length ct (TC lt) ∧ Frm [] w wr) (fun s => lt.length - s) 0 (js5 rfl rfl rfl rfl rfl) ⟨zak _, hb3, hb2, hot, K⟩ ?_
 rintro i wr ⟨hi, hb3, hb2, hot, K⟩
 refine jS (jR (jb rfl rfl (Bin.lssN _ _) (jO (jN (jS ?_)))))
 refine jD rfl (fun hc1 => ?_) fun hc1 => ?_
 ·
  obtain ⟨ad, rfl, hel⟩ := hot.rd.elem hc1
  rw [qQg lt i hc1] at hel
  have hsn := pN hc1
  have hqok := hlt (lt.getD i (0, 0, 0)) (by rw [ze, zb hc1]; exact zt hc1)
  generalize lt.getD i (0, 0, 0) = q at hel hsn hqok
  have hll1 := dV (lt.take i)
  have hwl1 := dD (lt.take i)
  have hle1 := wD (lt.take i)
  have hle2 := wE (lt.take i)
  rw [zi, zal hi] at hle1 hle2
  have hl1 := qZl (lt.take i) q
  have hl2 := qZm (lt.take i) q
  rw [← hsn] at hl1 hl2
  generalize dQ (lt.take i) = cl at *
  generalize eJ (lt.take i) = cw at *
  refine jQ (jN (jv5 2 3 14 15 16 ?_))
  refine jS (jB (jS (jR (je (Run.indexS _ rfl rfl zbp zcs jo) (je (Run.loadA rfl Tryz.isAgg132 zcs hel (by first | rfl | (simp; done))) ?_)))))
  refine Ops.m (qV.alloc gW) rfl ?_
  rintro _ w4 ⟨rfl, hF4⟩
  have hgl3 := hb3.lt
  have hgl2 := hb2.lt
  refine Ops.st (qR.storeA rfl rfl zcs hF4.blk rfl (by intro v hv; exact TC_one [q] v (by simpa [TC] using hv))) ?_
  rintro w5 ⟨hb11, hf5, hs5⟩
  have hf45 : Frm [] wr w5 := hF4.frm.own hf5 jp
  have hb3 := hb3.frm hf45 jp
  have hb2 := hb2.frm hf45 jp
  have hot := hot.frm hf45 jp
  have K := K.trans hf45 jp
  refine jO (jN (jv6 2 3 5 14 15 16 ?_))
  refine jS (jS (jR (jf rfl zbg rfl zc (jl rfl zg (hb11.cell 1) (jb rfl rfl (Bin.eqlN _ 0) (jO (jN (jv7 2 3 5 14 15 16 22 ?_))))))))
  refine jD rfl (fun hc2 => ?_) fun hc2 => ?_
  ·
   have hq8 : q.1 < 256 := by rcases hqok with ⟨_, _, h⟩ | ⟨_, h, _⟩ <;> omega
   have hv1 := mH hle1 q.1
   unfold eW at hl1
   rw [if_pos hc2] at hl1
   unfold eB at hl2
   rw [if_pos hc2] at hl2
   refine jS (jR (jf rfl zbg rfl zad (jl rfl zdr (hb11.cell 0) (jf rfl zee rfl zhe (je (Run.indexA1 _ rfl rfl zfs zc jo) (jl rfl zg ((hb3.cell _).trans (by rw [zap]; exact qZn jo)) (jb rfl rfl (Bin.add_i64 _ 1 jo) (jf rfl zee rfl zhe (je (Run.indexA1 _ rfl rfl zfs zc jo) ?_)))))))))
   refine Ops.st (qR.store rfl rfl zc hb3 (by rw [zep, eL]; omega) rfl) ?_
   rintro w6 ⟨hb3n, hf6, hs6⟩
   rw [zap, qXi jo, ← hl1, ← hl2] at hb3n
   refine jO (jN (jv5 2 3 14 15 16 ?_))
   refine jX ?_
   refine qZ (qW ?_)
   refine jN (jR (jb rfl rfl (Bin.add_i64 _ 1 jo) (jm rfl (jO ?_))))
   refine jN ⟨i + 1, (js5 rfl rfl rfl rfl rfl), ?_, ?_⟩
   · exact ⟨hc1, hb3n, hb2.frm hf6 (by simp; omega), hot.frm hf6 (fun x hx hx2 => by rw [zh] at hx2; subst hx2; exact hot.ne_blk hb3 jd hx), K.own hf6 (by simp; omega)⟩
   first | omega | (dsimp only; omega)
  obtain ⟨q1, q3, q4, q5, q6⟩ : q.1 = 0 ∧ 3 ≤ q.2.1 ∧ q.2.1 ≤ 258 ∧ 1 ≤ q.2.2 ∧ q.2.2 ≤ 32768 := by
   rcases hqok with ⟨h, _⟩ | h
   · exact absurd h hc2
   exact h
  have hlf := fA q3 q4
  have hwf := fI q5 q6
  have hv1 := mH hle1 (257 + lenS q.2.1)
  have hv2 := mH hle2 (wayS q.2.2)
  unfold eW at hl1
  rw [if_neg hc2] at hl1
  unfold eB at hl2
  rw [if_neg hc2] at hl2
  refine jQ (jN (jv6 2 3 5 14 15 16 ?_))
  refine jS (jR (jf rfl zbg rfl zc (jl rfl zg (hb11.cell 1) ?_)))
  refine Ops.cl (jE1 Tryz.call93) (qKp _ _ q3 q4) rfl ?_
  rintro e w6 ⟨rfl, hf6⟩
  refine ⟨_, rfl, ?_⟩
  have hb3 := hb3.frm hf6 jp
  have hb2 := hb2.frm hf6 jp
  have hb11 := hb11.frm hf6 jp
  have hot := hot.frm hf6 jp
  have K := K.trans hf6 jp
  refine jm rfl (je (Run.extract rfl rfl) (je (Run.extract rfl rfl) (je (Run.extract rfl rfl) (ja rfl (ja rfl (ja rfl (jO (jN (jv7 2 3 5 6 14 15 16 ?_)))))))))
  refine jS (jR (jf rfl zbg rfl zc (jl rfl zg (hb11.cell 2) ?_)))
  refine Ops.cl (jE1 Tryz.call94) (qKq _ _ q5 q6) rfl ?_
  rintro e w7 ⟨rfl, hf7⟩
  refine ⟨_, rfl, ?_⟩
  have hb3 := hb3.frm hf7 jp
  have hb2 := hb2.frm hf7 jp
  have hot := hot.frm hf7 jp
  have K := K.trans hf7 jp
  refine jm rfl (je (Run.extract rfl rfl) (je (Run.extract rfl rfl) (je (Run.extract rfl rfl) (ja rfl (ja rfl (ja rfl (jO (jN (jv7 2 3 6 9 14 15 16 ?_)))))))))
  refine jS (jR (jm rfl (jf rfl zee rfl zhe (je (Run.indexA1 _ rfl rfl zfs zc jo) (jl rfl zg ((hb3.cell _).trans (by rw [zap]; exact qZn jo)) (jb rfl rfl (Bin.add_i64 _ 1 jo) (jf rfl zee rfl zhe (je (Run.indexA1 _ rfl rfl zfs zc jo) ?_))))))))
  refine Ops.st (qR.store rfl rfl zc hb3 (by rw [zep, eL]; omega) rfl) ?_
  rintro w8 ⟨hb3n, hf8, hs8⟩
  rw [zap, qXi jo, ← hl1] at hb3n
  have hll3 : (dQ (lt.take (i + 1))).length = 286 := dV _
  refine jO (jN (jv6 2 3 9 14 15 16 ?_))
  refine jR (jm rfl (jf rfl zee rfl Tryz.sizeOf101 (je (Run.indexA1 _ rfl rfl Tryz.underlying101 zc jo) (jl rfl zg ((hb3n.cell (286 + wayS q.2.2)).trans (by rw [show 286 + wayS q.2.2 = (dQ (lt.take (i + 1))).length + wayS q.2.2 by rw [hll3]]; exact qNl jo)) (jb rfl rfl (Bin.add_i64 _ 1 jo) (jf rfl zee rfl Tryz.sizeOf101 (je (Run.indexA1 _ rfl rfl Tryz.underlying101 zc jo) ?_)))))))
  refine Ops.st (qR.store (i := 286 + wayS q.2.2) rfl rfl zc hb3n (by rw [zep, eL]; omega) rfl) ?_
  rintro w9 ⟨hb3m, hf9, hs9⟩
  rw [show 286 + wayS q.2.2 = (dQ (lt.take (i + 1))).length + wayS q.2.2 by rw [hll3], qUc, ← hl2] at hb3m
  refine jO ?_
  refine qJ (jN ?_)
  refine jv5 2 3 14 15 16 ?_
  refine jR (jb rfl rfl (Bin.add_i64 _ 1 jo) (jm rfl (jO ?_)))
  refine jN ⟨i + 1, (js5 rfl rfl rfl rfl rfl), ?_, ?_⟩
  ·
   have hot8 := hot.frm hf8 (fun x hx hx2 => by rw [zh] at hx2; subst hx2; exact hot.ne_blk hb3 jd hx)
   exact ⟨hc1, hb3m, (hb2.frm hf8 (by simp; omega)).frm hf9 (by simp; omega), hot8.frm hf9 (fun x hx hx2 => by rw [zh] at hx2; subst hx2; exact hot8.ne_blk hb3n jd hx), (K.own hf8 (by simp; omega)).own hf9 (by simp; omega)⟩
  first | omega | (dsimp only; omega)
 refine jX ?_
 refine qZ (qZ (qW ?_))
 refine jN (jv2 2 3 ?_)
 refine jS (jR (je (Run.loadB rfl Tryz.isAgg103 Tryz.sizeOf103 hb3 (by rw [eL, dV, dD])) ?_))
 refine Ops.st (qR.storeA rfl rfl (fun w => by rw [eL, dV, dD]; exact Tryz.sizeOf103 w) hb2 (by rw [eL, eL, dV, dD]; simp [rep]) (qYl _ _)) ?_
 rintro w10 ⟨hb2n, hf10, hs10⟩
 have ei : i = lt.length := jo
 subst ei
 rw [zas] at hb2n
 refine jO (jN (jv1 2 ?_))
 refine jT ?_
 refine mR ?_
 refine fC rfl Tryz.isAgg103 Tryz.sizeOf103 hb2n (by rw [eL, dV, dD]) ?_
 refine eF ?_
 exact ⟨rfl, K.own hf10 (by simp; omega)⟩
end
section
def sw (k : Nat → Nat) (i j : Nat) : Nat → Nat := fun x => if x = i then k j else if x = j then k i else k x
def fX (k : Nat → Nat) (n : Nat) : Prop := ∀ i, 0 < i → i < n → k ((i - 1) / 2) ≤ k i
def tT (k : Nat → Nat) (j n : Nat) : Prop :=
 (∀ i, 0 < i → i < n → i ≠ j → k ((i - 1) / 2) ≤ k i) ∧ ∀ i, 0 < i → i < n → (i - 1) / 2 = j → 0 < j → k ((j - 1) / 2) ≤ k i
def nR (k : Nat → Nat) (j n : Nat) : Prop :=
 (∀ i, 0 < i → i < n → (i - 1) / 2 ≠ j → k ((i - 1) / 2) ≤ k i) ∧ ∀ i, 0 < i → i < n → (i - 1) / 2 = j → 0 < j → k ((j - 1) / 2) ≤ k i
theorem qKx {k : Nat → Nat} {n : Nat} (h : fX k n) : tT k n (n + 1) :=
 ⟨fun i h0 hi hij => h i h0 jo, fun i h0 hi hp _ => jo⟩
theorem qNm {k : Nat → Nat} {j n : Nat} (h : tT k j n) (hj : 0 < j) (hjn : j < n) (hlt : k j < k ((j - 1) / 2)) : tT (sw k ((j - 1) / 2) j) ((j - 1) / 2) n := by
 obtain ⟨h1, h2⟩ := h
 have hpj : (j - 1) / 2 < j := jo
 generalize hp : (j - 1) / 2 = p at *
 have hjp : ¬ j = p := jo
 constructor
 ·
  intro i h0 hi hip
  by_cases hij : i = j
  ·
   subst hij
   unfold sw
   rw [hp, if_pos rfl, if_neg hjp, if_pos rfl]
   omega
  by_cases hq : (i - 1) / 2 = p
  ·
   have := h1 i h0 hi hij
   unfold sw
   rw [hq] at this ⊢
   rw [if_pos rfl, if_neg hip, if_neg hij]
   omega
  by_cases hq2 : (i - 1) / 2 = j
  ·
   have := h2 i h0 hi hq2 hj
   unfold sw
   rw [hq2, if_neg hjp, if_pos rfl, if_neg hip, if_neg hij]
   omega
  have := h1 i h0 hi hij
  unfold sw
  rw [if_neg hq, if_neg hq2, if_neg hip, if_neg hij]
  omega
 intro i h0 hi hip hp0
 have hqp : (p - 1) / 2 < p := jo
 have hpp := h1 p hp0 jo jo
 by_cases hij : i = j
 ·
  subst hij
  unfold sw
  rw [if_neg jo, if_neg jo, if_neg hjp, if_pos rfl]
  exact hpp
 have h3 := h1 i h0 hi hij
 rw [hip] at h3
 unfold sw
 rw [if_neg jo, if_neg jo, if_neg jo, if_neg hij]
 omega
theorem qR5 {k : Nat → Nat} {j n : Nat} (h : tT k j n) (hj : j = 0 ∨ ¬ k j < k ((j - 1) / 2)) : fX k n := by
 intro i h0 hi
 by_cases hij : i = j
 ·
  subst hij
  rcases hj with h3 | h3
  · omega
  omega
 exact h.1 i h0 hi hij
theorem qKy {k : Nat → Nat} {n : Nat} (h : fX k (n + 1)) : nR (sw k 0 n) 0 n := by
 constructor
 ·
  intro i h0 hi hp
  have := h i h0 jo
  unfold sw
  rw [if_neg hp, if_neg jo, if_neg jo, if_neg jo]
  exact this
 intro i _ _ _ h0
 omega
theorem qNn {k : Nat → Nat} {i j n : Nat} (h : nR k i n) (hj : (j - 1) / 2 = i) (hj0 : 0 < j) (hjn : j < n) (hlt : k j < k i) (hmin : ∀ c, 0 < c → c < n → (c - 1) / 2 = i → k j ≤ k c) : nR (sw k i j) j n := by
 obtain ⟨h1, h2⟩ := h
 have hij : i < j := jo
 constructor
 ·
  intro c h0 hc hp
  by_cases hci : c = i
  ·
   subst hci
   have h3 := h2 j hj0 hjn hj h0
   unfold sw
   rw [if_neg jo, if_neg hp, if_pos rfl]
   omega
  by_cases hcj : c = j
  ·
   subst hcj
   unfold sw
   rw [hj, if_pos rfl, if_neg jo, if_pos rfl]
   omega
  by_cases hpi : (c - 1) / 2 = i
  ·
   have := hmin c h0 hc hpi
   unfold sw
   rw [hpi, if_pos rfl, if_neg hci, if_neg hcj]
   omega
  have := h1 c h0 hc hpi
  unfold sw
  rw [if_neg hpi, if_neg hp, if_neg hci, if_neg hcj]
  exact this
 intro c h0 hc hp hj1
 have h3 := h1 c h0 hc jo
 unfold sw
 rw [hj, if_pos rfl, if_neg jo, if_neg jo]
 rw [hp] at h3
 exact h3
theorem qKz {k : Nat → Nat} {i n : Nat} (h : nR k i n) (hd : ∀ c, 0 < c → c < n → (c - 1) / 2 = i → k i ≤ k c) : fX k n := by
 intro c h0 hc
 by_cases hp : (c - 1) / 2 = i
 · rw [hp]; exact hd c h0 hc hp
 exact h.1 c h0 hc hp
theorem qR6 {k : Nat → Nat} {n : Nat} (h : fX k n) : ∀ i, i < n → k 0 ≤ k i := by
 intro i
 induction i using Nat.strongRecOn with
 | _ i ih =>
  intro hi
  by_cases h0 : i = 0
  · subst h0; exact zk _
  have h1 := h i jo hi
  have h2 := ih ((i - 1) / 2) jo jo
  omega
end
section
open Go.RowKit
structure PkC where
 count : Nat
 A : Option Addr
 c : Nat
 sy : List Nat
def PkC.cells (p : PkC) : List Value := [.int .i64 ((p.count : Nat) : Int), .slice p.A p.sy.length p.c]
theorem PkC.cells_len (p : PkC) : p.cells.length = 2 := rfl
theorem PkC.one (p : PkC) : ∀ v ∈ p.cells, v.oneCell' = true := by
 intro v hv
 simp only [PkC.cells, zbv, zbm, or_false] at hv
 rcases hv with rfl | rfl <;> rfl
def PkC.zero : PkC := ⟨0, none, 0, []⟩
def PkC.key (p : PkC) : Nat := p.count * 1024 + p.sy.headD 0
def fP (w : World) (p : PkC) : Prop := Own w 3 1 p.A p.sy.length p.c (NI p.sy)
theorem fP.frm {w w' : World} {p : PkC} {S : List Nat} (h : fP w p) (k : Frm S w w') (hS : ∀ x ∈ ob p.A, x ∉ S) : fP w' p := Own.frm h k hS
def Pks (w : World) (A : Option Addr) (c : Nat) (ps : List PkC) : Prop := Own w 169 2 A ps.length c (ps.flatMap PkC.cells) ∧ ∀ p ∈ ps, fP w p
theorem Pks.frm {w w' : World} {A : Option Addr} {c : Nat} {ps : List PkC} {S : List Nat} (h : Pks w A c ps) (k : Frm S w w') (hA : ∀ x ∈ ob A, x ∉ S) (hS : ∀ p ∈ ps, ∀ x ∈ ob p.A, x ∉ S) : Pks w' A c ps :=
 ⟨h.1.frm k hA, fun p hp => (h.2 p hp).frm k (hS p hp)⟩
def kk (ps : List PkC) (x : Nat) : Nat := (ps.getD x PkC.zero).key
theorem qG7 (ps : List PkC) (x : Nat) (h : x < ps.length) : kk ps x = ps[x].key := by simp [kk, List.getD, zb h]
def gQ (ps : List PkC) (i j : Nat) : List PkC := (ps.set i (ps.getD j PkC.zero)).set j (ps.getD i PkC.zero)
theorem oJ (ps : List PkC) (i j : Nat) : (gQ ps i j).length = ps.length := by simp [gQ]
theorem yI (ps : List PkC) (i j : Nat) (hi : i < ps.length) (hj : j < ps.length) : kk (gQ ps i j) = sw (kk ps) i j := by
 funext x
 unfold kk gQ sw
 simp only [List.getD, zew, zdw]
 by_cases h1 : j = x
 ·
  subst h1
  by_cases h2 : j = i
  · subst h2; simp [hj, kk]
  simp [hj, h2, kk]
 have h1' : ¬ x = j := fun e => h1 e.symm
 by_cases h2 : i = x
 · subst h2; simp [hi, h1, kk]
 have h2' : ¬ x = i := fun e => h2 e.symm
 simp [h1, h2, h1', h2', kk]
open Classical in
theorem oB (ps : List PkC) (i j : Nat) (hi : i < ps.length) (hj : j < ps.length) : (gQ ps i j).Perm ps := by
 rw [List.perm_iff_count]
 intro a
 unfold gQ
 have e1 : ps.getD i PkC.zero = ps[i] := by simp [List.getD, zb hi]
 have e2 : ps.getD j PkC.zero = ps[j] := by simp [List.getD, zb hj]
 rw [e1, e2, List.count_set (by simpa using hj), List.count_set hi]
 have h1 : (if ps[i] == a then 1 else 0) ≤ ps.count a := by
  split
  ·
   rename_i h
   have := beq_iff_eq.1 h
   subst this
   exact List.count_pos_iff.2 (zt hi)
  exact zak _
 have h2 : ((ps.set i ps[j])[j]'(by simpa using hj)) = if i = j then ps[j] else ps[j] := by
  rw [List.getElem_set]
 rw [h2]
 simp only [ite_self]
 all_goals omega
theorem qBs (v : Value) (w : World) (args : Array Value) : (callMethod (.iface 208 v) "Push" args).run Tryz.prog w = .ok (.enter 167 (#[v] ++ args)) w := by kernel_rfl
theorem qTc (v : Value) (w : World) (args : Array Value) : (callMethod (.iface 208 v) "Len" args).run Tryz.prog w = .ok (.enter 126 (#[v] ++ args)) w := by kernel_rfl
theorem qB8 (v : Value) (w : World) (args : Array Value) : (callMethod (.iface 208 v) "Pop" args).run Tryz.prog w = .ok (.enter 166 (#[v] ++ args)) w := by kernel_rfl
theorem qK0 {a : Addr} {v : Value} {w : World} (hc : w.cell? a = some v) (args : Array Value) : (callMethod (.iface 208 (.pointer (some a))) "Less" args).run Tryz.prog w = .ok (.enter 165 (#[v] ++ args)) w :=
 qJx (m := ((Tryz.prog.info? 208).bind fun i => i.methods.find? (·.name == "Less")).get jK) (i := (Tryz.prog.info? 208).get jK) jK jK jK jK zhx (uT zho hc) Tryz.call165 args
theorem qK1 {a : Addr} {v : Value} {w : World} (hc : w.cell? a = some v) (args : Array Value) : (callMethod (.iface 208 (.pointer (some a))) "Swap" args).run Tryz.prog w = .ok (.enter 168 (#[v] ++ args)) w :=
 qJx (m := ((Tryz.prog.info? 208).bind fun i => i.methods.find? (·.name == "Swap")).get jK) (i := (Tryz.prog.info? 208).get jK) jK jK jK jK zhx (uT zho hc) Tryz.call168 args
def IsC (w : World) (g : Nat) (A : Option Addr) (c : Nat) (ps : List PkC) : Prop := Blk w g 209 #[.slice A ps.length c] ∧ Pks w A c ps
theorem vC (g c : Nat) (A : Option Addr) (ps : List PkC) (w : World) (h : IsC w g A c ps) :
  Calls Tryz.prog 126 #[.pointer (some ⟨g, 0, none⟩)] w fun e w' => e = .returned (.int .i64 ((ps.length : Nat) : Int)) ∧ w = w' := by
 refine VC.calls (nt := 7) (res := #[.tmp 2]) Tryz.func126 rfl Tryz.ntmps126 Tryz.results126 rfl ?_
 refine jS (jR (jz 0 (jO (jN (jv1 0 ?_)))))
 refine jS (jR (jm rfl (je (Run.nilck rfl) (jl rfl zho (h.1.cell 0) (je (Run.lenS rfl zbi) (ja rfl (jO (jN (jv1 2 ?_)))))))))
 refine jT ?_
 refine qT rfl ?_
 exact ⟨rfl, rfl⟩
theorem tU (A : Option Addr) (c i j : Nat) (ps : List PkC) (w : World) (h : Pks w A c ps) (hi : i < ps.length) (hj : j < ps.length) (hs : ∀ p ∈ ps, ∃ s, p.sy = [s] ∧ s < 1024) :
  Calls Tryz.prog 165 #[.slice A ps.length c, .int .i64 ((i : Nat) : Int), .int .i64 ((j : Nat) : Int)] w fun e w' => e = .returned (.bool (decide (kk ps i < kk ps j))) ∧ qQ w w' := by
 rw [qG7 ps i hi, qG7 ps j hj]
 obtain ⟨ad, rfl, heli⟩ := h.1.rd.elem hi
 obtain ⟨ad2, had, helj⟩ := h.1.rd.elem hj
 obtain rfl : ad = ad2 := by injection had
 rw [cI PkC.cells 2 PkC.cells_len ps i hi] at heli
 rw [cI PkC.cells 2 PkC.cells_len ps j hj] at helj
 have hoi := h.2 _ (zt hi)
 have hoj := h.2 _ (zt hj)
 obtain ⟨si, hsi, hsil⟩ := hs _ (zt hi)
 obtain ⟨sj, hsj, hsjl⟩ := hs _ (zt hj)
 generalize ps[i] = pi at *
 generalize ps[j] = pj at *
 have hki : pi.key = pi.count * 1024 + si := by unfold PkC.key; rw [hsi]; rfl
 have hkj : pj.key = pj.count * 1024 + sj := by unfold PkC.key; rw [hsj]; rfl
 unfold fP at hoi hoj
 obtain ⟨ai, hai, hci⟩ := rV hoi.rd (k := 0) (by rw [hsi]; simp)
 obtain ⟨aj, haj, hcj⟩ := rV hoj.rd (k := 0) (by rw [hsj]; simp)
 have hci' : w.cell? (ai.add 0) = some (.int .i64 ((si : Nat) : Int)) := by rw [hci]; simp [hsi]
 have hcj' : w.cell? (aj.add 0) = some (.int .i64 ((sj : Nat) : Int)) := by rw [hcj]; simp [hsj]
 have hli : pi.sy.length = 1 := by rw [hsi]; rfl
 have hlj : pj.sy.length = 1 := by rw [hsj]; rfl
 have h1i : (PkC.cells pi)[1]? = some (.slice (some ai) 1 pi.c) := by simp [PkC.cells, hai, hli]
 have h1j : (PkC.cells pj)[1]? = some (.slice (some aj) 1 pj.c) := by simp [PkC.cells, haj, hlj]
 refine VC.calls (nt := 44) (res := #[.tmp 6]) Tryz.func165 rfl Tryz.ntmps165 Tryz.results165 rfl ?_
 refine jS (jR (ja rfl (jO (jN (jv3 0 1 2 ?_)))))
 refine jS (jS ?_)
 refine VC.still jK jK ?_
 refine qM ?_
 refine qM ?_
 refine qE (Run.indexS _ rfl rfl zbi zy jo) ?_
 refine qE (Run.fieldAddr rfl zbh rfl zc jd) ?_
 refine qE (Run.load rfl zg (heli 0 _ rfl)) ?_
 refine qM ?_
 refine qM ?_
 refine qE (Run.indexS _ rfl rfl zbi zy jo) ?_
 refine qE (Run.fieldAddr rfl zbh rfl zc jd) ?_
 refine qE (Run.load rfl zg (helj 0 _ rfl)) ?_
 refine qE (Run.bin rfl rfl (Bin.neqN _ _)) ?_
 refine qH.nil ?_
 refine jN (jv4 0 1 2 17 ?_)
 refine jD rfl (fun hc1 => ?_) fun hc1 => ?_
 ·
  refine jS ?_
  refine VC.still jK jK ?_
  refine qM ?_
  refine qM ?_
  refine qE (Run.indexS _ rfl rfl zbi zy jo) ?_
  refine qE (Run.fieldAddr rfl zbh rfl zc jd) ?_
  refine qE (Run.load rfl zg (heli 0 _ rfl)) ?_
  refine qM ?_
  refine qM ?_
  refine qE (Run.indexS _ rfl rfl zbi zy jo) ?_
  refine qE (Run.fieldAddr rfl zbh rfl zc jd) ?_
  refine qE (Run.load rfl zg (helj 0 _ rfl)) ?_
  refine qE (Run.bin rfl rfl (Bin.lssN _ _)) ?_
  refine qA ?_
  refine qH.nil ?_
  refine jN (jv1 6 ?_)
  refine jT ?_
  refine qP (qT rfl ?_)
  refine ⟨?_, (qQ.drew _).trans (qQ.drew _)⟩
  rw [hki, hkj]
  congr 2
  rw [decide_eq_decide]
  omega
 refine jQ (jN (jv3 0 1 2 ?_))
 refine jS ?_
 refine VC.still jK jK ?_
 refine qM ?_
 refine qM ?_
 refine qE (Run.indexS _ rfl rfl zbi zy jo) ?_
 refine qE (Run.fieldAddr rfl zbh rfl zar jd) ?_
 refine qE (Run.load rfl zbq (heli 1 _ h1i)) ?_
 refine qE (Run.index1 0 rfl rfl zd zc jo) ?_
 refine qE (Run.load rfl zg hci') ?_
 refine qM ?_
 refine qM ?_
 refine qE (Run.indexS _ rfl rfl zbi zy jo) ?_
 refine qE (Run.fieldAddr rfl zbh rfl zar jd) ?_
 refine qE (Run.load rfl zbq (helj 1 _ h1j)) ?_
 refine qE (Run.index1 0 rfl rfl zd zc jo) ?_
 refine qE (Run.load rfl zg hcj') ?_
 refine qE (Run.bin rfl rfl (Bin.lssN _ _)) ?_
 refine qA ?_
 refine qH.nil ?_
 refine jN (jv1 6 ?_)
 refine jT ?_
 refine qT rfl ?_
 refine ⟨?_, (qQ.drew _).trans (qQ.drew _)⟩
 rw [hki, hkj]
 congr 2
 rw [decide_eq_decide]
 omega
theorem qK2 (ps : List PkC) (i : Nat) (h : i < ps.length) : ps.getD i PkC.zero = ps[i] := by simp [List.getD, zb h]
theorem Pks.ne {w : World} {A : Option Addr} {c : Nat} {ps : List PkC} (h : Pks w A c ps) : ∀ p ∈ ps, ∀ x ∈ ob p.A, x ∉ ob A := fun p hp => (h.2 p hp).ne_own h.1 jd
theorem IsC.lt {w : World} {g c : Nat} {A : Option Addr} {ps : List PkC} (h : IsC w g A c ps) : g < w.heap.size := h.1.lt
theorem IsC.neA {w : World} {g c : Nat} {A : Option Addr} {ps : List PkC} (h : IsC w g A c ps) : g ∉ ob A := h.2.1.ne_blk h.1 jd
theorem IsC.neP {w : World} {g c : Nat} {A : Option Addr} {ps : List PkC} (h : IsC w g A c ps) : ∀ p ∈ ps, g ∉ ob p.A := fun p hp => (h.2.2 p hp).ne_blk h.1 jd
theorem tB (A : Option Addr) (c i j : Nat) (ps : List PkC) (w : World) (h : Pks w A c ps) (hi : i < ps.length) (hj : j < ps.length) :
  Calls Tryz.prog 168 #[.slice A ps.length c, .int .i64 ((i : Nat) : Int), .int .i64 ((j : Nat) : Int)] w fun e w' => e = .returned (.tuple #[]) ∧ Pks w' A c (gQ ps i j) ∧ Frm (ob A) w w' := by
 have hpm := oB ps i j hi hj
 have hsl := oJ ps i j
 unfold gQ at hpm hsl ⊢
 rw [qK2 ps i hi, qK2 ps j hj] at hpm hsl ⊢
 obtain ⟨ad, rfl, heli⟩ := h.1.rd.elem hi
 obtain ⟨ad2, had, helj⟩ := h.1.rd.elem hj
 obtain rfl : ad = ad2 := by injection had
 rw [cI PkC.cells 2 PkC.cells_len ps i hi] at heli
 rw [cI PkC.cells 2 PkC.cells_len ps j hj] at helj
 generalize ps[i] = pi at *
 generalize ps[j] = pj at *
 refine VC.calls (nt := 20) (res := #[]) Tryz.func168 rfl Tryz.ntmps168 Tryz.results168 rfl ?_
 refine VC.held (fun _ => True) jK ?_
 refine jH 0 rfl trivial (fun w0 hw0 => Run.mv rfl) ?_
 refine jH 1 rfl trivial (fun w0 hw0 => Run.mv rfl) ?_
 refine jH 2 rfl trivial (fun w0 hw0 => Run.mv rfl) ?_
 refine jH 3 rfl trivial (fun w0 hw0 => Run.mv rfl) ?_
 refine jH 4 rfl trivial (fun w0 hw0 => Run.mv rfl) ?_
 refine jH 5 rfl trivial (fun w0 hw0 => Run.mv rfl) ?_
 refine jH 6 rfl trivial (fun w0 hw0 => Run.indexS _ rfl rfl zbi zy jo) ?_
 refine jH 8 rfl trivial (fun w0 hw0 => Run.mv rfl) ?_
 refine jH 9 rfl trivial (fun w0 hw0 => Run.mv rfl) ?_
 refine jH 10 rfl trivial (fun w0 hw0 => Run.indexS _ rfl rfl zbi zy jo) ?_
 refine qK.r2 7 11 rfl rfl jK jK jK jK trivial rfl rfl (Run.loadA rfl zel zy helj (by first | rfl | (simp; done))) (Run.loadA rfl zel zy heli (by first | rfl | (simp; done))) (Run.loadA rfl zel zy heli (by first | rfl | (simp; done))) (Run.loadA rfl zel zy helj (by first | rfl | (simp; done))) rfl rfl rfl rfl rfl ?_
 refine jH 12 rfl trivial (fun w0 hw0 => Run.indexS _ rfl rfl zbi zy jo) ?_
 refine qK.st 13 rfl jK (qR.storeOwnA PkC.cells pj i rfl rfl zy PkC.cells_len rfl (h.1.drawn (qQ.drew _)) rfl hi (PkC.one _)) trivial rfl ?_
 rintro w3 ⟨ho3, hf3, hs3⟩
 refine ⟨trivial, ?_⟩
 refine jH 14 rfl trivial (fun w0 hw0 => Run.indexS _ rfl rfl zbi zy jo) ?_
 refine qK.st 15 rfl jK (qR.storeOwnA PkC.cells pi j rfl rfl zy PkC.cells_len jp ho3 rfl hj (PkC.one _)) trivial rfl ?_
 rintro w4 ⟨ho4, hf4, hs4⟩
 refine ⟨trivial, ?_⟩
 refine qK.done jK ?_
 refine eM ?_
 have hf := ((qQ.drew w).frm.mono (T := ob (some ad)) jp).trans (hf3.trans hf4 (fun x hx => .inl hx)) (fun x hx => .inl hx)
 refine ⟨rfl, ⟨?_, fun p hp => ?_⟩, hf⟩
 · rw [hsl]; exact ho4
 have hp2 := hpm.mem_iff.1 hp
 exact (h.2 p hp2).frm hf (h.ne p hp2)
theorem qG8 (g c : Nat) (A : Option Addr) (ps : List PkC) (p : PkC) (w : World) (h : IsC w g A c ps) (hp : fP w p) (hl : ps.length ≤ 1000000) :
  Calls Tryz.prog 167 #[.pointer (some ⟨g, 0, none⟩), .iface 169 (.agg p.cells.toArray)] w fun e w' => e = .returned (.tuple #[]) ∧ ∃ A' c', IsC w' g A' c' (ps ++ [p]) ∧ Frm (g :: ob A) w w' ∧ ∀ x ∈ ob A', x ∈ ob A ∨ w.heap.size ≤ x := by
 refine VC.calls (nt := 13) (res := #[]) Tryz.func167 rfl Tryz.ntmps167 Tryz.results167 rfl ?_
 refine VC.held (fun _ => True) jK ?_
 refine jH 0 rfl trivial (fun w0 hw0 => Run.mv rfl) ?_
 refine jH 1 rfl trivial (fun w0 hw0 => Run.mv rfl) ?_
 refine jH 2 rfl trivial (fun w0 hw0 => Run.nilck rfl) ?_
 refine jH 4 rfl trivial (fun w0 hw0 => Run.mv rfl) ?_
 refine jH 5 rfl trivial (fun w0 hw0 => Run.assertT rfl zbh rfl) ?_
 refine qK.rm 3 6 (l2 := [3, 6]) rfl rfl jK jp jp jK jK jK trivial rfl rfl (Run.load rfl zho (h.1.cell 0)) (qV.buildS1 rfl zbi zy gY jd jd rfl rfl) (qV.buildS1 rfl zbi zy gY jd jd rfl rfl) (fun v w2 hR => ⟨trivial, Run.load rfl zho (((h.1.drawn (qQ.drew _)).frm hR.2.frm jp).cell 0)⟩) rfl rfl rfl rfl rfl ?_
 rintro _ w1 ⟨rfl, hF1⟩
 have hd := qQ.drew w
 have hb1 := (h.1.drawn hd).frm hF1.frm jp
 have ho1 := (h.2.1.drawn hd).frm hF1.frm jp
 have hrd : Rd w1 2 (some ⟨w.drew.heap.size, 0, none⟩) 1 p.cells := Rd.of_blk (n := 1) (size := 2) hF1.blk rfl
 refine qK.m 7 rfl jK (qV.app rfl rfl zbi (sK) rfl jd ho1 hrd p.one jo jo) trivial rfl rfl ?_
 rintro _ w2 ⟨A2, c2, rfl, ho2, hf2, hob2⟩
 refine ⟨trivial, ?_⟩
 have hb2 := hb1.frm hf2 h.neA
 refine jH 8 rfl trivial (fun w0 hw0 => Run.nilck rfl) ?_
 refine qK.st 9 rfl jK (qR.store rfl rfl Tryz.sizeOf209 hb2 rfl rfl) trivial rfl ?_
 rintro w3 ⟨hb3, hf3, hs3⟩
 refine ⟨trivial, ?_⟩
 refine qK.done jK ?_
 refine eM ?_
 have hsz : w.heap.size ≤ w.drew.heap.size := zk _
 have h1s := hF1.frm.size
 have F1 : Frm [] w w1 := hd.frm.own hF1.frm jp
 have hf : Frm (g :: ob A) w w3 := ((F1.mono (T := g :: ob A) jp).trans hf2 (fun x hx => .inl (by simp [hx]))).trans hf3 (fun x hx => .inl (by simp at hx; simp [hx]))
 have hl2 : (ps ++ [p]).length = ps.length + 1 := za
 have hg2 : g ∉ ob A2 := ho2.ne_blk hb2 jd
 refine ⟨rfl, A2, c2, ⟨?_, ?_, ?_⟩, hf, ?_⟩
 · rw [hl2]; exact hb3
 ·
  rw [hl2, zw]
  have := ho2.frm hf3 (fun x hx hx2 => by simp at hx2; subst hx2; exact hg2 hx)
  simpa using this
 ·
  intro q hq
  rcases List.mem_append.1 hq with hq | hq
  ·
   refine (h.2.2 q hq).frm hf (fun x hx hx2 => ?_)
   rcases zbv.1 hx2 with h5 | h5
   · subst h5; exact h.neP q hq hx
   exact h.2.ne q hq x hx h5
  simp at hq
  subst hq
  refine hp.frm hf (fun x hx hx2 => ?_)
  rcases zbv.1 hx2 with h5 | h5
  · subst h5; exact hp.ne_blk h.1 jd hx
  exact hp.ne_own h.2.1 jd x hx h5
 intro x hx
 rcases hob2 with h5 | h5 <;> rw [h5] at hx
 · exact .inl hx
 simp at hx; subst hx; exact .inr (zn hsz h1s)
theorem qNo (ps : List PkC) (p : PkC) (i : Nat) (h : i < ps.length) : kk (ps ++ [p]) i = kk ps i := by simp [kk, List.getD, zaj h]
theorem qZo (A : Option Addr) (c sz : Nat) : cC A c 0 sz = A := by
 unfold cC
 split
 · rfl
 cases A with
 | none => rfl
 | some a => simp [add_zero']
theorem Own.shrink {w : World} {e size n cap m : Nat} {A : Option Addr} {xs : List Value} (h : Own w e size A n cap xs) (hm : m ≤ n) : Own w e size A m cap (xs.take (m * size)) := by
 have hmn : m * size ≤ n * size := zdg _ hm
 rcases h.cases with ⟨rfl, rfl, rfl, rfl⟩ | ⟨g, cur, rfl, hb, h1, h2, h3, h4⟩
 ·
  have : m = 0 := jo
  subst this
  simpa using Own.nil w e size
 refine ⟨?_, .inr ⟨g, cap, cur, rfl, zak _, hb, jo, h2, h3, ?_⟩⟩
 · rw [zi, h.1]; omega
 rw [← h4, zhc, zal hmn]
theorem qR7 (j : Nat) (hj : j ≤ 9223372036854775807) : Bin .quo .i64 ((j : Int) - 1) .i64 2 (.int .i64 (((j - 1) / 2 : Nat) : Int)) := by
 rcases zda j with h | h
 ·
  subst h
  intro P T w
  rfl
 have e : (j : Int) - 1 = ((j - 1 : Nat) : Int) := jo
 rw [e]
 exact Bin.quo_i64 (j - 1) 2 jo jo
def One (ps : List PkC) : Prop := ∀ p ∈ ps, ∃ s, p.sy = [s] ∧ s < 1024
theorem One.perm {ps qs : List PkC} (h : One ps) (hp : qs.Perm ps) : One qs := fun p hq => h p (hp.mem_iff.1 hq)
theorem IsC.drawn {w w' : World} {g c : Nat} {A : Option Addr} {ps : List PkC} (h : IsC w g A c ps) (k : qQ w w') : IsC w' g A c ps := ⟨h.1.drawn k, h.2.frm k.frm jp (fun _ _ _ _ => jp)⟩
theorem qNp (g c : Nat) (A : Option Addr) (qs : List PkC) (p : PkC) (w : World) (h : IsC w g A c (qs ++ [p])) (hl : qs.length ≤ 1000000) :
  Calls Tryz.prog 166 #[.pointer (some ⟨g, 0, none⟩)] w fun e w' => e = .returned (.iface 169 (.agg p.cells.toArray)) ∧ IsC w' g A c qs ∧ fP w' p ∧ Frm [g] w w' := by
 have hle : (qs ++ [p]).length = qs.length + 1 := za
 obtain ⟨ad, rfl, hel⟩ := h.2.1.rd.elem (k := qs.length) jo
 rw [cI PkC.cells 2 PkC.cells_len (qs ++ [p]) qs.length jo] at hel
 have hget : (qs ++ [p])[qs.length]'jo = p := jp
 rw [hget] at hel
 have h1 := h.1
 rw [hle] at h1
 have hcap := h.2.1.le
 rw [hle] at hcap
 refine VC.calls (nt := 23) (res := #[.tmp 2]) Tryz.func166 rfl Tryz.ntmps166 Tryz.results166 rfl ?_
 refine jS (jR (ja rfl (jO (jN (jv1 0 ?_)))))
 refine jS (jR (jm rfl (je (Run.nilck rfl) (jl rfl zho (h1.cell 0) (ja rfl (jO (jN (jv2 0 3 ?_))))))))
 refine jS (jR (jm rfl (jm rfl (je (Run.lenS rfl zbi) (jb rfl rfl (Bin.sub_i64 _ 1 jo jo) (je (Run.indexS _ rfl rfl zbi zy jo) (je (Run.loadA rfl zel zy hel (by first | rfl | (simp; done))) ?_)))))))
 refine Ops.m (qV.alloc gY) rfl ?_
 rintro _ w1 ⟨rfl, hF1⟩
 have hb1 := hF1.blk
 refine Ops.st (qR.storeA rfl rfl zy hb1 rfl p.one) ?_
 rintro w2 ⟨hb2, hf2, hs2⟩
 have hg1 := (h1.frm hF1.frm jp).frm hf2 (by have := h1.lt; simp; omega)
 refine jO (jN (jv3 0 3 4 ?_))
 refine jS (jR (jm rfl (jm rfl (jm rfl (je (Run.lenS rfl zbi) (jb rfl rfl (Bin.sub_i64 _ 1 jo jo) (je (Run.sliceS 0 _ rfl zbi zy evB.none_ (evB.some_ rfl) jo jo) ?_)))))))
 rw [qZo, zcf, zcf]
 refine je (Run.nilck rfl) ?_
 refine Ops.st (qR.store rfl rfl Tryz.sizeOf209 hg1 rfl rfl) ?_
 rintro w3 ⟨hb3, hf3, hs3⟩
 have hb23 := hb2.frm hf3 (by have := h1.lt; simp; omega)
 refine jO (jN (jv1 4 ?_))
 refine jS (jR (je (Run.loadA rfl zel zy hb23.cells (by first | rfl | (simp; done))) (je (Run.mkIface rfl zbh rfl) (ja rfl (jO (jN (jv1 2 ?_)))))))
 refine jT ?_
 refine qT rfl ?_
 have hlt := h1.lt
 have hf : Frm [g] w w3 := ((hF1.frm.mono (T := [g]) jp).trans hf2 (fun x hx => .inr (by simp at hx; omega))).trans hf3 (fun x hx => .inl hx)
 have hno : ∀ q ∈ qs ++ [p], ∀ x ∈ ob q.A, x ∉ [g] := fun q hq x hx hx2 => by simp at hx2; subst hx2; exact h.neP q hq hx
 refine ⟨rfl, ⟨by simpa using hb3, ?_, fun q hq => (h.2.2 q (by simp [hq])).frm hf (hno q (by simp [hq]))⟩, (h.2.2 p jp).frm hf (hno p jp), hf⟩
 have ho := (h.2.1.frm hf (fun x hx hx2 => by simp at hx2; subst hx2; exact h.neA hx)).shrink (m := qs.length) jo
 have e : ((qs ++ [p]).flatMap PkC.cells).take (qs.length * 2) = qs.flatMap PkC.cells := by
  rw [zw, zcg (by rw [sA PkC.cells 2 PkC.cells_len]; exact zk _), zm (by rw [sA PkC.cells 2 PkC.cells_len]; exact zk _)]
 rw [e] at ho
 exact ho
theorem qR8 (g c j : Nat) (A : Option Addr) (ps : List PkC) (w : World) (h : IsC w g A c ps) (hl : ps.length ≤ 1000000) (hj : j < ps.length) (hu : tT (kk ps) j ps.length) (h1 : One ps) :
  Calls Tryz.prog 141 #[.iface 208 (.pointer (some ⟨g, 0, none⟩)), .int .i64 ((j : Nat) : Int)] w fun e w' => e = .returned (.tuple #[]) ∧ ∃ qs, qs.Perm ps ∧ fX (kk qs) ps.length ∧ IsC w' g A c qs ∧ Frm (ob A) w w' := by
 refine VC.calls (nt := 23) (res := #[]) Tryz.func141 rfl Tryz.ntmps141 Tryz.results141 rfl ?_
 refine jB ?_
 refine VC.loop (σ := Nat × List PkC) (fun s => [(0, .iface 208 (.pointer (some ⟨g, 0, none⟩))), (1, .int .i64 ((s.1 : Nat) : Int))]) (fun s wr => s.1 < ps.length ∧ s.2.Perm ps ∧ tT (kk s.2) s.1 ps.length ∧ IsC wr g A c s.2 ∧ Frm (ob A) w wr) (fun s => s.1) (j, ps) (js2 rfl rfl) ⟨hj, List.Perm.refl _, hu, h, Frm.refl _ _⟩ ?_
 clear hu h hj
 rintro ⟨j, qs⟩ wr ⟨hj, hp, hu, h, hfr⟩
 dsimp only at hj hp hu h hfr ⊢
 have h1q := h1.perm hp
 have hlq := hp.length_eq
 refine jB (jS (jR (jm rfl (jb rfl rfl (Bin.subZ _ 1 jo jo) (jb rfl rfl (qR7 j jo) (ja rfl (jO (jN (jv3 0 1 4 ?_)))))))))
 refine jS (jS ?_)
 refine VC.splitR [(0, .iface 208 (.pointer (some ⟨g, 0, none⟩))), (1, .int .i64 ((j : Nat) : Int)), (4, .int .i64 (((j - 1) / 2 : Nat) : Int))] (fun w1 => qQ wr w1) 17 (.bool (decide ((j - 1) / 2 = j ∨ ¬ kk qs j < kk qs ((j - 1) / 2)))) ?_ ?_
 ·
  refine jR ?_
  refine jm rfl (jm rfl (jb rfl rfl (Bin.eql _ _) ?_))
  by_cases hs10 : (j - 1) / 2 = j
  ·
   refine jM ?_
   refine jU ?_
   refine jU ?_
   refine jU ?_
   refine jU ?_
   refine jU ?_
   refine je (Run.pickT rfl rfl au) (jO ?_)
   refine jN ⟨(js4 (jC (by simp [*])) rfl rfl rfl), (by first | assumption | exact qQ.refl _)⟩
  refine jM ?_
  refine jG ?_
  refine jG ?_
  refine jG ?_
  refine Ops.clg rfl au (bP.inv rfl (evs.cons rfl (evs.cons rfl evs.nil)) (qK0 (h.1.cell 0))) (tU A c j ((j - 1) / 2) qs _ h.2 jo jo h1q) rfl ?_
  rintro e w4 ⟨rfl, hd4⟩
  refine ⟨_, rfl, ?_⟩
  by_cases hs15 : kk qs j < kk qs ((j - 1) / 2)
  ·
   refine jk (Run.not rfl) ?_
   refine je (Run.pickF rfl rfl au) (jO ?_)
   refine jN ⟨(js4 (jC (by simp [*])) rfl rfl rfl), (by first | assumption | exact qQ.refl _)⟩
  refine jk (Run.not rfl) ?_
  refine je (Run.pickF rfl rfl au) (jO ?_)
  refine jN ⟨(js4 (jC (by simp [*])) rfl rfl rfl), (by first | assumption | exact qQ.refl _)⟩
 intro Γ w5 hΓ hd5
 refine jN (VC.sub _ hΓ ?_)
 refine jD rfl (fun hc1 => ?_) fun hc1 => ?_
 ·
  have hheap := qR5 hu (by rcases hc1 with h5 | h5; exact .inl jo; exact .inr h5)
  refine jX ?_
  refine qZ (sD rfl (qZ (qW ?_)))
  refine eM ?_
  exact ⟨rfl, qs, hp, hheap, h.drawn hd5, hfr.drawn hd5⟩
 have hj0 : 0 < j := by
  rcases zda j with h5 | h5
  · exact absurd (.inl jo) hc1
  exact h5
 have hlt : kk qs j < kk qs ((j - 1) / 2) := by
  rcases zha (kk qs j) (kk qs ((j - 1) / 2)) with h5 | h5
  · exact h5
  exact absurd (.inr jo) hc1
 have h5 := h.drawn hd5
 refine jQ (jN (jv3 0 1 4 ?_))
 refine jS (jR (jm rfl (jm rfl (jM ?_))))
 refine Ops.cl (bP.inv rfl (evs.cons rfl (evs.cons rfl evs.nil)) (qK1 (h5.1.cell 0))) (tB A c ((j - 1) / 2) j qs _ h5.2 jo jo) rfl ?_
 rintro e w6 ⟨rfl, hP6, hf6⟩
 refine ⟨_, rfl, ?_⟩
 have hb6 := h5.1.frm hf6 h5.neA
 refine jO (jN (jv2 0 4 ?_))
 refine jR (jm rfl (ja rfl (jO ?_)))
 refine qJ (jN ⟨((j - 1) / 2, gQ qs ((j - 1) / 2) j), (js2 rfl rfl), ?_, ?_⟩)
 ·
  refine ⟨by dsimp only; omega, (oB qs _ _ jo jo).trans hp, ?_, ⟨by rw [oJ]; exact hb6, hP6⟩, (hfr.drawn hd5).trans hf6 (fun x hx => .inl hx)⟩
  dsimp only
  rw [yI qs _ _ jo jo]
  exact qNm hu hj0 hj hlt
 first | omega | (dsimp only; omega)
theorem qG9 (ps : List PkC) (i j n : Nat) (hi : i < n) (hj : j < n) : (gQ ps i j).drop n = ps.drop n := by
 unfold gQ
 rw [List.drop_set_of_lt hj, List.drop_set_of_lt hi]
theorem qHa (g c n : Nat) (A : Option Addr) (ps : List PkC) (w : World) (h : IsC w g A c ps) (hl : ps.length ≤ 1000000) (hn : n ≤ ps.length) (hu : nR (kk ps) 0 n) (h1 : One ps) :
  Calls Tryz.prog 142 #[.iface 208 (.pointer (some ⟨g, 0, none⟩)), .int .i64 ((0 : Nat) : Int), .int .i64 ((n : Nat) : Int)] w fun e w' => (∃ b, e = .returned (.bool b)) ∧ ∃ qs, qs.Perm ps ∧ fX (kk qs) n ∧ qs.drop n = ps.drop n ∧ IsC w' g A c qs ∧ Frm (ob A) w w' := by
 refine VC.calls (nt := 48) (res := #[.tmp 6]) Tryz.func142 rfl Tryz.ntmps142 Tryz.results142 rfl ?_
 refine jS (jR (ja rfl (jO (jN (jv3 0 1 2 ?_)))))
 refine jS (jR (jm rfl (ja rfl (jO (jN (jv4 0 1 2 7 ?_))))))
 refine jS (jB ?_)
 refine VC.loop (σ := Nat × List PkC) (fun s => [(0, .iface 208 (.pointer (some ⟨g, 0, none⟩))), (1, .int .i64 ((0 : Nat) : Int)), (2, .int .i64 ((n : Nat) : Int)), (7, .int .i64 ((s.1 : Nat) : Int))]) (fun s wr => s.1 ≤ n ∧ s.2.Perm ps ∧ nR (kk s.2) s.1 n ∧ s.2.drop n = ps.drop n ∧ IsC wr g A c s.2 ∧ Frm (ob A) w wr) (fun s => n - s.1) (0, ps) (js4 rfl rfl rfl rfl) ⟨by dsimp only; omega, List.Perm.refl _, hu, rfl, h, Frm.refl _ _⟩ ?_
 clear hu h
 rintro ⟨i, qs⟩ wr ⟨hi, hp, hu, hdr, h, hfr⟩
 dsimp only at hi hp hu hdr h hfr ⊢
 have h1q := h1.perm hp
 have hlq := hp.length_eq
 refine jB (jS (jR (jm rfl (jb rfl rfl (Bin.mul_i64 2 _ jo) (jb rfl rfl (Bin.add_i64 _ 1 jo) (ja rfl (jO (jN (jv5 0 1 2 7 8 ?_)))))))))
 refine jS (jS ?_)
 refine VC.split1 [(0, _), (1, _), (2, _), (7, _), (8, _)] (js5 rfl rfl rfl rfl rfl) 21 (.bool (decide ((n ≤ 2 * i + 1) ∨ (2 * i + 1 < 0)))) ?_ ?_
 ·
  by_cases hs0 : n ≤ 2 * i + 1
  ·
   refine jR (jm rfl (jm rfl (jb rfl rfl (Bin.geqN _ _) (jM ?_))))
   refine jU ?_
   refine jU ?_
   refine je (Run.pickT rfl rfl au) (jO ?_)
   refine jN ⟨(js6 (by rw [xI hs0]; rfl) rfl rfl rfl rfl rfl), rfl⟩
  refine jR (jm rfl (jm rfl (jb rfl rfl (Bin.geqN _ _) (jM ?_))))
  refine jG ?_
  refine jk (Run.bin rfl rfl (Bin.lssN _ 0)) ?_
  refine je (Run.pickF rfl rfl au) (jO ?_)
  refine jN ⟨(js6 (by rw [xL hs0]; rfl) rfl rfl rfl rfl rfl), rfl⟩
 intro Γ hΓ
 refine jN (VC.sub _ hΓ ?_)
 refine jD rfl (fun hc1 => ?_) fun hc1 => ?_
 ·
  have hheap : fX (kk qs) n := qKz hu (fun c h0 hc hpc => jo)
  refine jX ?_
  refine qZ (sD rfl (qZ (qW ?_)))
  refine jN (jv2 1 7 ?_)
  refine jS (jR (jm rfl (jm rfl (jb rfl rfl (Bin.gtrN _ _) (ja rfl (jO (jN (jv1 6 ?_))))))))
  refine jT ?_
  refine qT rfl ?_
  exact ⟨⟨_, rfl⟩, qs, hp, hheap, hdr, h, hfr⟩
 refine jQ (jN (jv5 0 1 2 7 8 ?_))
 refine jS (jR (jm rfl (ja rfl (jO (jN (jv6 0 1 2 7 8 9 ?_))))))
 refine jS (jS (jR (jm rfl (jb rfl rfl (Bin.add_i64 _ 1 jo) (ja rfl (jO (jN (jv7 0 1 2 7 8 9 10 ?_))))))))
 refine jS ?_
 refine VC.splitR [(0, .iface 208 (.pointer (some ⟨g, 0, none⟩))), (1, .int .i64 ((0 : Nat) : Int)), (2, .int .i64 ((n : Nat) : Int)), (7, .int .i64 ((i : Nat) : Int)), (9, .int .i64 ((2 * i + 1 : Nat) : Int)), (10, .int .i64 ((2 * i + 1 + 1 : Nat) : Int))] (fun w1 => qQ wr w1) 33 (.bool (decide (2 * i + 1 + 1 < n ∧ kk qs (2 * i + 1 + 1) < kk qs (2 * i + 1)))) ?_ ?_
 ·
  refine jR ?_
  refine jm rfl (jm rfl (jb rfl rfl (Bin.lssN _ _) ?_))
  by_cases hs27 : 2 * i + 1 + 1 < n
  ·
   refine jM ?_
   refine jG ?_
   refine jG ?_
   refine jG ?_
   refine Ops.clg rfl au (bP.inv rfl (evs.cons rfl (evs.cons rfl evs.nil)) (qK0 (h.1.cell 0))) (tU A c (2 * i + 1 + 1) (2 * i + 1) qs _ h.2 jo jo h1q) rfl ?_
   rintro e w4 ⟨rfl, hd4⟩
   refine ⟨_, rfl, ?_⟩
   by_cases hs32 : kk qs (2 * i + 1 + 1) < kk qs (2 * i + 1)
   ·
    refine je (Run.pickT rfl rfl au) (jO ?_)
    refine jN ⟨(js7 (jC (by simp [*])) rfl rfl rfl rfl rfl rfl), (by first | assumption | exact qQ.refl _)⟩
   refine je (Run.pickT rfl rfl au) (jO ?_)
   refine jN ⟨(js7 (jC (by simp [*])) rfl rfl rfl rfl rfl rfl), (by first | assumption | exact qQ.refl _)⟩
  refine jM ?_
  refine jU ?_
  refine jU ?_
  refine jU ?_
  refine jU ?_
  refine je (Run.pickF rfl rfl au) (jO ?_)
  refine jN ⟨(js7 (jC (by simp [*])) rfl rfl rfl rfl rfl rfl), (by first | assumption | exact qQ.refl _)⟩
 intro Γ w5 hΓ hd5
 refine jN (VC.sub _ hΓ ?_)
 refine VC.meet (σ := Nat) (fun s => [(0, .iface 208 (.pointer (some ⟨g, 0, none⟩))), (1, .int .i64 ((0 : Nat) : Int)), (2, .int .i64 ((n : Nat) : Int)), (7, .int .i64 ((i : Nat) : Int)), (9, .int .i64 ((s : Nat) : Int))]) (fun s w9 => (s - 1) / 2 = i ∧ 0 < s ∧ s < n ∧ (∀ c, 0 < c → c < n → (c - 1) / 2 = i → kk qs s ≤ kk qs c) ∧ w5 = w9) ?_ ?_
 ·
  refine jD rfl (fun hc2 => ?_) fun hc2 => ?_
  ·
   refine jR (jm rfl (ja rfl (jO ?_)))
   refine jN ⟨(2 * i + 1 + 1), (js5 rfl rfl rfl rfl rfl), ?_⟩
   refine ⟨jo, jo, hc2.1, fun c h0 hc hpc => ?_, rfl⟩
   have : c = 2 * i + 1 ∨ c = 2 * i + 1 + 1 := jo
   rcases this with h6 | h6 <;> subst h6
   · exact Nat.le_of_lt hc2.2
   exact zk _
  refine jQ ?_
  refine jN ⟨(2 * i + 1), (js5 rfl rfl rfl rfl rfl), ?_⟩
  refine ⟨jo, jo, jo, fun c h0 hc hpc => ?_, rfl⟩
  have : c = 2 * i + 1 ∨ c = 2 * i + 1 + 1 := jo
  rcases this with h6 | h6 <;> subst h6
  · exact zk _
  rcases zha (kk qs (2 * i + 1 + 1)) (kk qs (2 * i + 1)) with h7 | h7
  · exact absurd ⟨hc, h7⟩ hc2
  exact h7
 rintro j _ ⟨hj2, hj0, hjn, hmin, rfl⟩ Γ hΓ
 have h5 := h.drawn hd5
 refine jN (VC.sub _ hΓ (jS (jS (jR (jm rfl (jm rfl (jM ?_)))))))
 refine Ops.cl (bP.inv rfl (evs.cons rfl (evs.cons rfl evs.nil)) (qK0 (h5.1.cell 0))) (tU A c j i qs _ h5.2 jo jo h1q) rfl ?_
 rintro e w6 ⟨rfl, hd6⟩
 refine ⟨_, rfl, ?_⟩
 have h6 := h5.drawn hd6
 refine je (Run.not rfl) (jO (jN (jv6 0 1 2 7 9 39 ?_)))
 refine VC.condB rfl (fun hc3 => ?_) (fun hc3 => ?_)
 ·
  have hnl : ¬ kk qs j < kk qs i := by simpa using hc3
  have hheap : fX (kk qs) n := qKz hu (fun c h0 hc hpc => zn jo (hmin c h0 hc hpc))
  refine jX ?_
  refine qZ (sD rfl (qZ (qW ?_)))
  refine jN (jv2 1 7 ?_)
  refine jS (jR (jm rfl (jm rfl (jb rfl rfl (Bin.gtrN _ _) (ja rfl (jO (jN (jv1 6 ?_))))))))
  refine jT ?_
  refine qT rfl ?_
  exact ⟨⟨_, rfl⟩, qs, hp, hheap, hdr, h6, (hfr.drawn hd5).drawn hd6⟩
 have hlt : kk qs j < kk qs i := by simpa using hc3
 refine jQ (jN (jv5 0 1 2 7 9 ?_))
 refine jS (jR (jm rfl (jm rfl (jM ?_))))
 refine Ops.cl (bP.inv rfl (evs.cons rfl (evs.cons rfl evs.nil)) (qK1 (h6.1.cell 0))) (tB A c i j qs _ h6.2 jo jo) rfl ?_
 rintro e w7 ⟨rfl, hP7, hf7⟩
 refine ⟨_, rfl, ?_⟩
 have hb7 := h6.1.frm hf7 h6.neA
 refine jO (jN (jv4 0 1 2 9 ?_))
 refine jR (jm rfl (ja rfl (jO ?_)))
 refine qJ (jN ⟨(j, gQ qs i j), (js4 rfl rfl rfl rfl), ?_, ?_⟩)
 ·
  refine ⟨by dsimp only; omega, (oB qs _ _ jo jo).trans hp, ?_, ?_, ⟨by rw [oJ]; exact hb7, hP7⟩, ((hfr.drawn hd5).drawn hd6).trans hf7 (fun x hx => .inl hx)⟩
  ·
   dsimp only
   rw [yI qs _ _ jo jo]
   exact qNn hu hj2 hj0 hjn hlt hmin
  dsimp only
  rw [qG9 qs i j n jo hjn]
  exact hdr
 first | omega | (dsimp only; omega)
theorem qHb (g c : Nat) (A : Option Addr) (ps : List PkC) (p : PkC) (w : World) (h : IsC w g A c ps) (hl : ps.length ≤ 100000) (hp : fP w p) (hu : fX (kk ps) ps.length) (h1 : One ps) (hp1 : ∃ s, p.sy = [s] ∧ s < 1024) :
  Calls Tryz.prog 125 #[.iface 208 (.pointer (some ⟨g, 0, none⟩)), .iface 169 (.agg p.cells.toArray)] w fun e w' => e = .returned (.tuple #[]) ∧ ∃ A' c' qs, qs.Perm (p :: ps) ∧ fX (kk qs) qs.length ∧ IsC w' g A' c' qs ∧ Frm (g :: ob A) w w' ∧ ∀ x ∈ ob A', x ∈ ob A ∨ w.heap.size ≤ x := by
 refine VC.calls (nt := 12) (res := #[]) Tryz.func125 rfl Tryz.ntmps125 Tryz.results125 rfl ?_
 refine jS (jR (jm rfl (jM ?_)))
 refine Ops.cl (bP.inv rfl (evs.cons rfl evs.nil) (qBs _ _)) (qG8 g c A ps p _ h hp jo) rfl ?_
 rintro e w1 ⟨rfl, A1, c1, hC1, hf1, hA1⟩
 refine ⟨_, rfl, ?_⟩
 have hl1 : (ps ++ [p]).length = ps.length + 1 := za
 refine jO (jN (jv1 0 ?_))
 refine jR (jm rfl (jM ?_))
 refine Ops.cl (bP.inv rfl evs.nil (qTc _ _)) (vC g c1 A1 _ _ hC1) rfl ?_
 rintro e _ ⟨rfl, rfl⟩
 refine ⟨_, rfl, ?_⟩
 have hone : One (ps ++ [p]) := fun q hq => by
  rcases List.mem_append.1 hq with h5 | h5
  · exact h1 q h5
  simp at h5; subst h5; exact hp1
 have hup : tT (kk (ps ++ [p])) ps.length (ps ++ [p]).length := by
  rw [hl1]
  refine qKx (fun i h0 hi => ?_)
  have := hu i h0 hi
  rw [qNo ps p _ jo, qNo ps p _ hi]
  exact this
 refine jb rfl rfl (Bin.sub_i64 _ 1 jo jo) ?_
 refine Ops.cl (jE2 Tryz.call141) ((by have h5 := qR8 g c1 ps.length A1 (ps ++ [p]) w1 hC1 jo jo hup hone; rw [show ((ps.length : Nat) : Int) = (((ps ++ [p]).length - 1 : Nat) : Int) by omega] at h5; exact h5)) rfl ?_
 rintro e w2 ⟨rfl, qs, hq, hh, hC2, hf2⟩
 refine ⟨_, rfl, ?_⟩
 refine jO ?_
 refine eM ?_
 refine ⟨rfl, A1, c1, qs, hq.trans (List.perm_append_singleton p ps), by rw [hq.length_eq]; exact hh, hC2, hf1.trans hf2 (fun x hx => ?_), hA1⟩
 rcases hA1 x hx with h5 | h5
 · exact .inl (by simp [h5])
 exact .inr h5
theorem qNq (g c : Nat) (A : Option Addr) (ps : List PkC) (w : World) (h : IsC w g A c ps) (hl : ps.length ≤ 100000) (h0 : 0 < ps.length) (hu : fX (kk ps) ps.length) (h1 : One ps) :
  Calls Tryz.prog 127 #[.iface 208 (.pointer (some ⟨g, 0, none⟩))] w fun e w' => ∃ p qs, e = .returned (.iface 169 (.agg p.cells.toArray)) ∧ (qs ++ [p]).Perm ps ∧ (∀ q ∈ ps, p.key ≤ q.key) ∧ fX (kk qs) qs.length ∧ IsC w' g A c qs ∧ fP w' p ∧ Frm (g :: ob A) w w' := by
 obtain ⟨n, hn⟩ : ∃ n, ps.length = n + 1 := ⟨ps.length - 1, jo⟩
 refine VC.calls (nt := 15) (res := #[.tmp 2]) Tryz.func127 rfl Tryz.ntmps127 Tryz.results127 rfl ?_
 refine jS (jR (ja rfl (jO (jN (jv1 0 ?_)))))
 refine jS (jR (jM ?_))
 refine Ops.cl (bP.inv rfl evs.nil (qTc _ _)) (vC g c A _ _ h) rfl ?_
 rintro e _ ⟨rfl, rfl⟩
 refine ⟨_, rfl, ?_⟩
 rw [hn]
 refine jb rfl rfl (Bin.sub_i64 _ 1 jo jo) (ja rfl (jO (jN (jv2 0 3 ?_))))
 refine jS (jR (jm rfl (jM ?_)))
 refine Ops.cl (bP.inv rfl (evs.cons rfl (evs.cons rfl evs.nil)) (qK1 (h.1.cell 0))) (tB A c 0 (n + 1 - 1) ps _ h.2 jo jo) rfl ?_
 rintro e w2 ⟨rfl, hP2, hf2⟩
 refine ⟨_, rfl, ?_⟩
 have hC2 : IsC w2 g A c (gQ ps 0 n) := ⟨by rw [oJ]; exact h.1.frm hf2 h.neA, hP2⟩
 have hpm := oB ps 0 n jo jo
 have hdi : nR (kk (gQ ps 0 n)) 0 n := by
  rw [yI ps 0 n jo jo]
  exact qKy (by rw [hn] at hu; exact hu)
 have hsl := oJ ps 0 n
 refine jO (jN (jv2 0 3 ?_))
 refine jS (jR (jm rfl (jM ?_)))
 refine Ops.cl (jE3 Tryz.call142) (qHa g c (n + 1 - 1) A (gQ ps 0 n) _ hC2 jo jo hdi (h1.perm hpm)) rfl ?_
 rintro e w3 ⟨⟨b, rfl⟩, rs, hr, hh, hdr, hC3, hf3⟩
 refine ⟨_, rfl, ?_⟩
 have hrl := hr.length_eq
 have hps0 : (gQ ps 0 n).drop n = [ps.getD 0 PkC.zero] := by
  apply zao
  intro i
  rw [zes]
  unfold gQ
  rcases zda i with h5 | h5
  ·
   subst h5
   rw [zdu, zdk (by simp; omega)]
   rfl
  rw [zu (by simp; omega), zu (by simp; omega)]
 have hrs : rs = rs.take n ++ [ps.getD 0 PkC.zero] := by
  have h5 : rs.drop n = [ps.getD 0 PkC.zero] := by rw [← hps0]; exact hdr
  rw [← h5, zcm]
 have hqk : ∀ i, i < n → kk (rs.take n) i = kk rs i := fun i hi => by simp [kk, List.getD, zaq hi]
 have hql : (rs.take n).length = n := by simp; omega
 have hheap : fX (kk (rs.take n)) (rs.take n).length := by
  rw [hql]
  intro i h5 h6
  rw [hqk i h6, hqk _ jo]
  exact hh i h5 h6
 have hmin : ∀ q ∈ ps, (ps.getD 0 PkC.zero).key ≤ q.key := by
  intro q hq
  obtain ⟨i, hi, rfl⟩ := zbe hq
  have h5 := qR6 hu i hi
  rw [qG7 ps i hi] at h5
  exact h5
 have hperm : (rs.take n ++ [ps.getD 0 PkC.zero]).Perm ps := by rw [← hrs]; exact hr.trans hpm
 rw [hrs] at hC3
 generalize ps.getD 0 PkC.zero = p at *
 generalize rs.take n = qs at *
 refine jO (jN (jv1 0 ?_))
 refine jS (jR (jM ?_))
 refine Ops.cl (bP.inv rfl evs.nil (qB8 _ _)) (qNp g c A qs p _ hC3 jo) rfl ?_
 rintro e w4 ⟨rfl, hC4, hp4, hf4⟩
 refine ⟨_, rfl, ?_⟩
 refine ja rfl (jO (jN (jv1 2 ?_)))
 refine jT ?_
 refine qT rfl ?_
 exact ⟨p, qs, rfl, hperm, hmin, hheap, hC4, hp4, ((hf2.trans hf3 (fun x hx => .inl hx)).mono (T := g :: ob A) (fun x hx => .inl (by simp [hx]))).trans hf4 (fun x hx => .inl (by simp at hx; simp [hx]))⟩
end
section
open Go.RowKit
def PkC.abs (p : PkC) : Nat × List Nat := (p.count, p.sy)
def eE (x : Nat × List Nat) : Nat := x.1 * 1024 + x.2.headD 0
def cP (cs : List Nat) (n : Nat) : List (Nat × List Nat) := ((List.range n).filter fun k => 0 < cs.getD k 0).map fun k => (cs.getD k 0, [k])
theorem pP (cs : List Nat) (n : Nat) : cP cs (n + 1) = cP cs n ++ if 0 < cs.getD n 0 then [(cs.getD n 0, [n])] else [] := by
 unfold cP
 rw [zex, zff, zbt]
 congr 1
 by_cases h : 0 < cs.getD n 0
 · rw [if_pos h, zgi (by simpa using h)]; rfl
 rw [if_neg h, zgj (by simpa using h)]; rfl
theorem uN (cs : List Nat) (n : Nat) (hn : n ≤ 1024) : ((cP cs n).map eE).Nodup := by
 unfold cP
 rw [zeh]
 refine List.Pairwise.of_map (S := (· ≠ ·)) (fun x => x % 1024) (fun a b h e => h (by rw [e])) ?_
 rw [zeh]
 have e : ((List.range n).filter fun k => decide (0 < cs.getD k 0)).map ((fun x => x % 1024) ∘ (eE ∘ fun k => (cs.getD k 0, [k]))) = ((List.range n).filter fun k => decide (0 < cs.getD k 0)).map id := by
  apply zde
  intro k hk
  have hk2 := (List.mem_filter.1 hk).1
  simp at hk2
  simp [eE]
  omega
 rw [e, List.map_id]
 exact List.Pairwise.filter _ List.nodup_range
theorem fK {cs : List Nat} {n : Nat} {x : Nat × List Nat} (h : x ∈ cP cs n) : ∃ k, k < n ∧ 0 < cs.getD k 0 ∧ x = (cs.getD k 0, [k]) := by
 obtain ⟨k, hk, rfl⟩ := List.mem_map.1 h
 obtain ⟨h1, h2⟩ := List.mem_filter.1 hk
 exact ⟨k, by simpa using h1, by simpa using h2, rfl⟩
theorem qNr {cs : List Nat} {n : Nat} {ps : List PkC} (h : (ps.map PkC.abs).Perm (cP cs n)) (hn : n ≤ 1000) : One ps := by
 intro p hp
 have : p.abs ∈ cP cs n := h.mem_iff.1 (zeo hp)
 obtain ⟨k, h1, _, h2⟩ := fK this
 have h3 : p.sy = [k] := congrArg Prod.snd h2
 exact ⟨k, h3, jo⟩
def dH (cs : List Nat) (l : List (Nat × List Nat)) : Prop := l.Perm (cP cs cs.length) ∧ l.Pairwise fun a b => eE a < eE b
def UpP (B : Nat) (A : Option Addr) (ps : List PkC) : Prop := (∀ x ∈ ob A, B ≤ x) ∧ ∀ p ∈ ps, ∀ x ∈ ob p.A, B ≤ x
theorem qWo (A0 : Option Addr) (c0 : Nat) (cs : List Nat) (w : World) (hl : cs.length ≤ 320) (hcs : ∀ x ∈ cs, x ≤ 2147483647) (hr : Rd w 1 A0 cs.length (NI cs)) :
  Calls Tryz.prog 96 #[.slice A0 cs.length c0] w fun e w' => ∃ B c ps, e = .returned (.slice B ps.length c) ∧ Pks w' B c ps ∧ dH cs (ps.map PkC.abs) ∧ Frm [] w w' ∧ UpP w.heap.size B ps := by
 refine VC.calls (nt := 41) (res := #[.tmp 2]) Tryz.func96 rfl Tryz.ntmps96 Tryz.results96 rfl ?_
 refine jS (jR (ja rfl (jO (jN (jv1 0 ?_)))))
 refine jS (jR ?_)
 refine Ops.m (qV.buildS0 zbi zy) rfl ?_
 rintro _ w1 ⟨rfl, hF1⟩
 have ho1 : Own w1 169 2 (some ⟨w.heap.size, 0, none⟩) 0 0 [] := Own.of_blk hF1.blk rfl (by simp [maxLen])
 have hs1 := hF1.size
 refine Ops.m (qV.box rfl) rfl ?_
 rintro _ w2 ⟨rfl, hF2⟩
 have hb2 : Blk w2 w1.heap.size 209 #[.slice (some ⟨w.heap.size, 0, none⟩) 0 0] := hF2.blk
 have hfr2 := hF1.frm.own hF2.frm jp
 have hC2 : IsC w2 w1.heap.size (some ⟨w.heap.size, 0, none⟩) 0 [] := ⟨hb2, ho1.frm hF2.frm jp, jp⟩
 have hg1 := hF1.frm.size
 generalize hg : w1.heap.size = g at *
 refine ja rfl (jO (jN (jv2 0 3 ?_)))
 refine jS (jS (jR (jm rfl (je (Run.lenS rfl zd) ?_))))
 refine jx .i64 0 ?_
 refine jO (jN (jv4 3 10 11 12 ?_))
 refine jB ?_
 refine VC.loop (σ := Nat × Option Addr × Nat × List PkC) (fun s => [(3, .pointer (some ⟨g, 0, none⟩)), (10, .slice A0 cs.length c0), (11, .int .i64 ((cs.length : Nat) : Int)), (12, .int .i64 ((s.1 : Nat) : Int))]) (fun s wr => s.1 ≤ cs.length ∧ (s.2.2.2.map PkC.abs).Perm (cP cs s.1) ∧ fX (kk s.2.2.2) s.2.2.2.length ∧ IsC wr g s.2.1 s.2.2.1 s.2.2.2 ∧ Frm [] w wr ∧ UpP w.heap.size s.2.1 s.2.2.2) (fun s => cs.length - s.1) (0, some ⟨w.heap.size, 0, none⟩, 0, []) (js4 (by rw [← hg]; rfl) rfl rfl rfl) ⟨jo, by simp [cP], fun i _ h => by simp at h, hC2, hfr2, by simp [ob], jp⟩ ?_
 rintro ⟨i, A, c, hs⟩ wr ⟨hi, hpm, hh, hC, hfr, huA, hup⟩
 dsimp only at hi hpm hh hC hfr huA hup ⊢
 have hlen : hs.length ≤ i := by
  have h5 := hpm.length_eq
  rw [zl] at h5
  rw [h5]
  unfold cP
  rw [zl]
  exact zn (zfw _ _) jp
 refine jS (jR (jb rfl rfl (Bin.lssN _ _) (jO (jN (jS ?_)))))
 refine jD rfl (fun hc1 => ?_) fun hc1 => ?_
 ·
  obtain ⟨ad, rfl, hcell⟩ := rV (hr.belowW hfr.below) hc1
  have hgt : cs.getD i 0 = cs[i] := by simp [List.getD, zb hc1]
  have hx := hcs _ (zt hc1)
  have hct := pP cs i
  rw [hgt] at hct
  generalize cs[i] = x at *
  refine jQ (jN (jv4 3 10 11 12 ?_))
  refine jS (jB (jS (jR (jm rfl (je (Run.index1 _ rfl rfl zd zc jo) (jl rfl zg hcell (ja rfl (ja rfl (jO (jN (jv6 3 4 5 10 11 12 ?_)))))))))))
  refine jS (jR (jm rfl (jb rfl rfl (Bin.gtrN _ 0) (jO (jN (jv7 3 4 5 10 11 12 18 ?_))))))
  refine jD rfl (fun hc2 => ?_) fun hc2 => ?_
  ·
   refine jR (jm rfl (je (Run.mkIface rfl zhx rfl) (jm rfl (jM ?_))))
   refine Ops.m (qV.buildS1 rfl zd zc fS jd jd rfl rfl) rfl ?_
   rintro _ w3 ⟨rfl, hF3⟩
   have hp3 : fP w3 ⟨x, some ⟨wr.heap.size, 0, none⟩, 1, [i]⟩ := Own.of_blk hF3.blk rfl (by simp [maxLen])
   have hC3 : IsC w3 g A c hs := ⟨hC.1.frm hF3.frm jp, hC.2.frm hF3.frm jp (fun _ _ _ _ => jp)⟩
   have hfr3 := hfr.own hF3.frm jp
   have hsz := hfr.size
   refine je (Run.build (evs.cons rfl (evs.cons rfl evs.nil)) gY (rQ).choose_spec.1 (rQ).choose_spec.2 rfl) (je (Run.mkIface rfl zbh rfl) ?_)
   refine Ops.cl (jE2 Tryz.call125) (qHb g c A hs ⟨x, some ⟨wr.heap.size, 0, none⟩, 1, [i]⟩ _ hC3 jo hp3 hh (qNr hpm jo) ⟨i, rfl, jo⟩) rfl ?_
   rintro e w4 ⟨rfl, A4, c4, qs, hq, hh4, hC4, hf4, hA4⟩
   refine ⟨_, rfl, ?_⟩
   have hfr4 := hfr3.own hf4 (wN hg1 huA)
   refine jO ?_
   refine qJ (jN ?_)
   refine jv4 3 10 11 12 ?_
   refine jR (jb rfl rfl (Bin.add_i64 _ 1 jo) (jm rfl (jO ?_)))
   refine jN ⟨(i + 1, A4, c4, qs), (js4 rfl rfl rfl rfl), ?_, ?_⟩
   ·
    refine ⟨by dsimp only; omega, ?_, hh4, hC4, hfr4, qTj huA hA4 hfr3.size, ?_⟩
    ·
     dsimp only
     rw [hct, if_pos jo]
     refine (hq.map PkC.abs).trans ?_
     rw [zai]
     exact ((List.Perm.cons _ hpm).trans (List.perm_append_singleton _ _).symm)
    intro p hp y hy
    rcases zbv.1 (hq.mem_iff.1 hp) with h5 | h5
    · subst h5; simp [ob] at hy; omega
    exact hup p h5 y hy
   first | omega | (dsimp only; omega)
  refine jQ ?_
  refine qJ (jN ?_)
  refine jv4 3 10 11 12 ?_
  refine jR (jb rfl rfl (Bin.add_i64 _ 1 jo) (jm rfl (jO ?_)))
  refine jN ⟨(i + 1, A, c, hs), (js4 rfl rfl rfl rfl), ?_, ?_⟩
  ·
   refine ⟨by dsimp only; omega, ?_, hh, hC, hfr, huA, hup⟩
   dsimp only
   rw [hct, if_neg jo, zdd]
   exact hpm
  first | omega | (dsimp only; omega)
 have hin : i = cs.length := jo
 subst hin
 refine jX ?_
 refine qZ (qZ (qW ?_))
 refine jN (jv1 3 ?_)
 refine jS (jR (ja rfl (jO (jN (jS (jS (jR (jm rfl (je (Run.mkFunc (evs.cons rfl evs.nil) evs.nil) (ja rfl (jO (jN (jv3 3 6 7 ?_)))))))))))))
 refine jB ?_
 refine VC.loop (σ := List PkC × List PkC × Option Addr × Nat × Option Addr × Nat) (fun s => [(3, .pointer (some ⟨g, 0, none⟩)), (6, .slice s.2.2.1 s.1.length s.2.2.2.1), (7, .func (.func 126) #[.pointer (some ⟨g, 0, none⟩)] #[])]) (fun s wr => ((s.1 ++ s.2.1).map PkC.abs).Perm (cP cs cs.length) ∧ fX (kk s.2.1) s.2.1.length ∧ s.1.Pairwise (fun a b => a.key < b.key) ∧ (∀ p ∈ s.1, ∀ q ∈ s.2.1, p.key < q.key) ∧ IsC wr g s.2.2.2.2.1 s.2.2.2.2.2 s.2.1 ∧ Pks wr s.2.2.1 s.2.2.2.1 s.1 ∧ Frm [] w wr ∧ (∀ x ∈ ob s.2.2.2.2.1, w.heap.size ≤ x) ∧ UpP w.heap.size s.2.2.1 (s.1 ++ s.2.1) ∧ (∀ x ∈ ob s.2.2.1, x ∉ ob s.2.2.2.2.1)) (fun s => s.2.1.length) ([], hs, none, 0, A, c) (js3 rfl rfl rfl) ⟨by simpa using hpm, hh, .nil, jp, hC, ⟨Own.nil _ _ _, jp⟩, hfr, huA, ⟨jF, by simpa using hup⟩, by simp [ob]⟩ ?_
 clear hpm hh hC hfr huA hup hlen
 rintro ⟨ps, hs, B, cb, A, c⟩ wr ⟨hpm, hh, hpw, hlt, hC, hP, hfr, huA, ⟨huB, hup⟩, hAB⟩
 dsimp only at hpm hh hpw hlt hC hP hfr huA huB hup hAB ⊢
 have hlen : ps.length + hs.length ≤ cs.length := by
  have h5 := hpm.length_eq
  rw [zl, za] at h5
  rw [h5]
  unfold cP
  rw [zl]
  exact zn (zfw _ _) jp
 refine jS (jS (jR (jM ?_)))
 refine Ops.cl (bP.dyn rfl evs.nil Tryz.call126) (vC g c A _ _ hC) rfl ?_
 rintro e _ ⟨rfl, rfl⟩
 refine ⟨_, rfl, ?_⟩
 refine jb rfl rfl (Bin.gtrN _ 0) (jO (jN (jv4 3 6 7 32 ?_)))
 refine jD rfl (fun hc3 => ?_) fun hc3 => ?_
 ·
  refine jQ (jN (jv3 3 6 7 ?_))
  refine jB (jR (jm rfl (jm rfl (je (Run.mkIface rfl zhx rfl) ?_))))
  refine Ops.cl (jE1 Tryz.call127) (qNq g c A hs _ hC jo hc3 hh (fun p hp => qNr hpm jo p (by simp [hp]))) rfl ?_
  rintro e w3 ⟨p, qs, rfl, hq, hmin, hh3, hC3, hp3, hf3⟩
  refine ⟨_, rfl, ?_⟩
  have hfr3 := hfr.own hf3 (wN hg1 huA)
  have hgB : g ∉ ob B := hP.1.ne_blk hC.1 jd
  have hP3 : Pks w3 B cb ps := hP.frm hf3 (fun x hx hx2 => by
    rcases zbv.1 hx2 with h5 | h5
    · subst h5; exact hgB hx
    · exact hAB x hx h5) (fun q hq x hx hx2 => by
    rcases zbv.1 hx2 with h5 | h5
    · subst h5; exact (hP.2 q hq).ne_blk hC.1 jd hx
    exact (hP.2 q hq).ne_own hC.2.1 jd x hx h5)
  refine je (Run.assertT rfl zbh rfl) ?_
  refine Ops.m (qV.buildS1 rfl zae zy gY jd jd rfl rfl) rfl ?_
  rintro _ w5 ⟨rfl, hF5⟩
  have hrd5 : Rd w5 2 (some ⟨w3.heap.size, 0, none⟩) 1 p.cells := Rd.of_blk (n := 1) (size := 2) hF5.blk rfl
  have ho5 := hP3.1.frm hF5.frm jp
  have hfr5 := hfr3.own hF5.frm jp
  refine Ops.m (qV.app rfl rfl zae (sK) rfl jd ho5 hrd5 p.one jo jo) rfl ?_
  rintro _ w6 ⟨B6, c6, rfl, ho6, hf6, hob6⟩
  have hfr6 := hfr5.own hf6 huB
  have hf36 : Frm (ob B) w3 w6 := (hF5.frm.mono (T := ob B) jp).trans hf6 (fun x hx => .inl hx)
  refine ja rfl (jO ?_)
  have hl1 : (ps ++ [p]).length = ps.length + 1 := za
  refine qJ (jN ⟨(ps ++ [p], qs, B6, c6, A, c), (js3 rfl (by rw [hl1]; rfl) rfl), ?_, ?_⟩)
  ·
   have hnd : ((ps ++ hs).map PkC.key).Nodup := by
    have h5 := (hpm.map eE).nodup_iff.2 (uN cs cs.length jo)
    rw [zeh] at h5
    exact h5
   have hpin : p ∈ hs := hq.mem_iff.1 jp
   have hne : ∀ q ∈ qs, p.key ≠ q.key := by
    intro q hqq
    rw [zbt] at hnd
    have h5 := (List.nodup_append.1 hnd).2.1
    have h6 := ((hq.map PkC.key).nodup_iff).2 h5
    rw [zbt] at h6
    have h7 := (List.nodup_append.1 h6).2.2 q.key (zeo hqq) p.key jp
    exact fun e => h7 e.symm
   have hgA := hC3.neA
   have hC6 : IsC w6 g A c qs := ⟨hC3.1.frm hf36 hgB, hC3.2.frm hf36 (fun x hx hx2 => hAB x hx2 hx) (fun q hqq => (hC3.2.2 q hqq).ne_own hP3.1 jd)⟩
   have hp6 : fP w6 p := hp3.frm hf36 (hp3.ne_own hP3.1 jd)
   refine ⟨?_, hh3, ?_, ?_, hC6, ⟨?_, ?_⟩, hfr6, huA, ⟨cG huB hob6 hfr5.size, ?_⟩, ?_⟩
   ·
    dsimp only
    refine List.Perm.trans (List.Perm.map _ ?_) hpm
    rw [zj]
    exact List.Perm.append_left ps ((List.perm_append_comm).trans hq)
   ·
    dsimp only
    rw [List.pairwise_append]
    exact ⟨hpw, jp, fun a ha b hb => by simp at hb; subst hb; exact hlt a ha _ hpin⟩
   ·
    intro a ha q hqq
    rcases List.mem_append.1 ha with h5 | h5
    · exact hlt a h5 q (hq.mem_iff.1 (by simp [hqq]))
    simp at h5
    subst h5
    have h6 := hmin q (hq.mem_iff.1 (by simp [hqq]))
    have h7 := hne q hqq
    omega
   ·
    dsimp only
    rw [hl1, zw]
    simpa using ho6
   ·
    intro a ha
    rcases List.mem_append.1 ha with h5 | h5
    · exact (hP3.2 a h5).frm hf36 ((hP3.2 a h5).ne_own hP3.1 jd)
    simp at h5; subst h5; exact hp6
   ·
    intro a ha
    rcases List.mem_append.1 ha with h5 | h5
    ·
     rcases List.mem_append.1 h5 with h6 | h6
     · exact hup a (by simp [h6])
     simp at h6; subst h6; exact hup _ (by simp [hpin])
    exact hup a (by simp; exact .inr (hq.mem_iff.1 (by simp [h5])))
   intro x hx hx2
   rcases hob6 with h5 | h5 <;> rw [h5] at hx
   · exact hAB x hx hx2
   simp at hx
   have h6 := hC3.2.1.lt x hx2
   have h7 := hF5.frm.size
   omega
  have h5 := hq.length_eq
  simp at h5
  dsimp only
  omega
 have hnil : hs = [] := zab jo
 subst hnil
 rw [zdd] at hpm hup
 refine jX ?_
 refine qZ (qZ (qW ?_))
 refine jN (jv1 6 ?_)
 refine jS (jR (jm rfl (ja rfl (jO (jN (jv1 2 ?_))))))
 refine jT ?_
 refine qT rfl ?_
 exact ⟨B, cb, ps, rfl, hP, ⟨hpm, by rw [List.pairwise_map]; exact hpw⟩, hfr, huB, hup⟩
end
section
open Go.RowKit
def mA (l : List Int) : Prop := l.length ≤ 320 ∧ ∀ x ∈ l, 0 ≤ x ∧ x ≤ 2147483647
instance (l : List Int) : Decidable (mA l) := inferInstanceAs (Decidable (_ ∧ _))
theorem qR9 (A : Option Addr) (c0 : Nat) (l : List Int) (w : World) (hl : l.length ≤ 1000000000) (hr : Rd w 1 A l.length (IB l)) :
  Calls Tryz.prog 95 #[.slice A l.length c0] w fun e w' => e = .returned (.bool (decide (mA l))) ∧ w = w' := by
 refine VC.calls (nt := 21) (res := #[.tmp 2]) Tryz.func95 rfl Tryz.ntmps95 Tryz.results95 rfl ?_
 refine jS (jR (ja rfl (jO (jN (jv1 0 ?_)))))
 refine jS (jS (jR (jm rfl (je (Run.lenS rfl zd) ?_))))
 refine jx .i64 0 ?_
 refine jO (jN (jB ?_))
 refine VC.loop (σ := Nat) (fun s => [(0, .slice A l.length c0), (5, .slice A l.length c0), (6, .int .i64 ((l.length : Nat) : Int)), (7, .int .i64 s)]) (fun s wr => s ≤ l.length ∧ (∀ x ∈ l.take s, 0 ≤ x ∧ x ≤ 2147483647) ∧ w = wr) (fun s => l.length - s) 0 (js4 rfl rfl rfl rfl) ⟨jo, jp, rfl⟩ ?_
 rintro i _ ⟨hi, hpre, rfl⟩
 refine jS (jR (jb rfl rfl (Bin.lssN _ _) (jO (jN (jS ?_)))))
 refine jD rfl (fun hc1 => ?_) fun hc1 => ?_
 ·
  obtain ⟨ad, rfl, hcell⟩ := oR hr hc1
  have htk : l.take (i + 1) = l.take i ++ [l[i]] := by rw [zah, zb hc1]; rfl
  generalize hx : l[i] = x at *
  refine jQ (jN (jv4 0 5 6 7 ?_))
  refine jS (jB (jS (jR (je (Run.index1 _ rfl rfl zd zc jo) (jl rfl zg hcell (ja rfl (jO (jN (jv5 0 4 5 6 7 ?_)))))))))
  refine jS ?_
  refine VC.split1 [(0, _), (5, _), (6, _), (7, _)] (js4 rfl rfl rfl rfl) 16 (.bool (decide ((x < 0) ∨ (2147483647 < x)))) ?_ ?_
  ·
   by_cases hs0 : x < 0
   ·
    refine jR (jm rfl (jb rfl rfl (Bin.lss _ 0) (jM ?_)))
    refine jU ?_
    refine jU ?_
    refine je (Run.pickT rfl rfl au) (jO ?_)
    refine jN ⟨(js5 (by rw [xI hs0]; rfl) rfl rfl rfl rfl), rfl⟩
   refine jR (jm rfl (jb rfl rfl (Bin.lss _ 0) (jM ?_)))
   refine jG ?_
   refine jk (Run.bin rfl rfl (Bin.gtr _ 2147483647)) ?_
   refine je (Run.pickF rfl rfl au) (jO ?_)
   refine jN ⟨(js5 (by rw [xL hs0]; rfl) rfl rfl rfl rfl), rfl⟩
  intro Γ hΓ
  refine jN (VC.sub _ hΓ ?_)
  refine jD rfl (fun hc2 => ?_) fun hc2 => ?_
  ·
   refine jS (jR (ja rfl (jO (jN (jv1 2 ?_)))))
   refine jT ?_
   refine qO (qP (qP (qO (qP (qT rfl ?_)))))
   refine ⟨?_, rfl⟩
   rw [decide_eq_false]
   intro h
   have := h.2 x (by rw [← hx]; exact zt hc1)
   omega
  refine jQ ?_
  refine qJ (jN ?_)
  refine jv4 0 5 6 7 ?_
  refine jR (jb rfl rfl (Bin.add_i64 _ 1 jo) (jm rfl (jO ?_)))
  refine jN ⟨(i + 1), (js4 rfl rfl rfl rfl), ?_, ?_⟩
  ·
   refine ⟨hc1, ?_, rfl⟩
   rw [htk]
   intro y hy
   rcases List.mem_append.1 hy with h | h
   · exact hpre y h
   simp at h; subst h; omega
  first | omega | (dsimp only; omega)
 have hil : i = l.length := jo
 subst hil
 rw [zas] at hpre
 refine jX ?_
 refine qZ (qZ (qW ?_))
 refine jN (jv1 0 ?_)
 refine jS (jR (jm rfl (je (Run.lenS rfl zd) (jb rfl rfl (Bin.leqN _ 320) (ja rfl (jO (jN (jv1 2 ?_))))))))
 refine jT ?_
 refine qT rfl ?_
 refine ⟨?_, rfl⟩
 congr 2
 rw [decide_eq_decide]
 exact ⟨fun h => ⟨h, hpre⟩, fun h => h.1⟩
theorem qWp (A : Option Addr) (c0 : Nat) (l : List Int) (w : World) (hl : l.length ≤ 1000000000) (hr : Rd w 1 A l.length (IB l)) :
  Calls Tryz.prog 108 #[.slice A l.length c0] w fun e w' => e = .returned (.bool (decide (mA l))) ∧ w = w' := by
 refine VC.calls (nt := 25) (res := #[.tmp 2]) Tryz.func108 rfl Tryz.ntmps108 Tryz.results108 rfl ?_
 refine jS (jR (ja rfl (jO (jN (jv1 0 ?_)))))
 refine jS (jS (jR (jz 0 (jO (jN (jB ?_))))))
 refine VC.loop (σ := Nat) (fun s => [(0, .slice A l.length c0), (3, .int .i64 s)]) (fun s wr => s ≤ l.length ∧ (∀ x ∈ l.take s, 0 ≤ x ∧ x ≤ 2147483647) ∧ w = wr) (fun s => l.length - s) 0 (js2 rfl rfl) ⟨jo, jp, rfl⟩ ?_
 rintro i _ ⟨hi, hpre, rfl⟩
 refine jS (jS (jR (jm rfl (jm rfl (je (Run.lenS rfl zd) (jb rfl rfl (Bin.lssN _ _) (jO (jN (jv3 0 3 7 ?_)))))))))
 refine jD rfl (fun hc1 => ?_) fun hc1 => ?_
 ·
  obtain ⟨ad, rfl, hcell⟩ := oR hr hc1
  have htk : l.take (i + 1) = l.take i ++ [l[i]] := by rw [zah, zb hc1]; rfl
  generalize hx : l[i] = x at *
  refine jQ (jN (jv2 0 3 ?_))
  refine jS (jB (jS ?_))
  refine VC.split1 [(0, _), (3, _)] (js2 rfl rfl) 21 (.bool (decide ((x < 0) ∨ (2147483647 < x)))) ?_ ?_
  ·
   by_cases hs0 : x < 0
   ·
    refine jR (jm rfl (jm rfl (je (Run.index1 _ rfl rfl zd zc jo) (jl rfl zg hcell (jb rfl rfl (Bin.lss _ 0) (jM ?_))))))
    refine jU ?_
    refine jU ?_
    refine jU ?_
    refine jU ?_
    refine jU ?_
    refine je (Run.pickT rfl rfl au) (jO ?_)
    refine jN ⟨(js3 (by rw [xI hs0]; rfl) rfl rfl), rfl⟩
   refine jR (jm rfl (jm rfl (je (Run.index1 _ rfl rfl zd zc jo) (jl rfl zg hcell (jb rfl rfl (Bin.lss _ 0) (jM ?_))))))
   refine jG ?_
   refine jG ?_
   refine jk (Run.index1 _ rfl rfl zd zc jo) ?_
   refine jk (Run.load rfl zg hcell) ?_
   refine jk (Run.bin rfl rfl (Bin.gtr _ 2147483647)) ?_
   refine je (Run.pickF rfl rfl au) (jO ?_)
   refine jN ⟨(js3 (by rw [xL hs0]; rfl) rfl rfl), rfl⟩
  intro Γ hΓ
  refine jN (VC.sub _ hΓ ?_)
  refine jD rfl (fun hc2 => ?_) fun hc2 => ?_
  ·
   refine jS (jR (ja rfl (jO (jN (jv1 2 ?_)))))
   refine jT ?_
   refine qO (qP (qP (qO (qP (qT rfl ?_)))))
   refine ⟨?_, rfl⟩
   rw [decide_eq_false]
   intro h
   have := h.2 x (by rw [← hx]; exact zt hc1)
   omega
  refine jQ ?_
  refine qJ (jN ?_)
  refine jv2 0 3 ?_
  refine jR (jm rfl (jb rfl rfl (Bin.add_i64 _ 1 jo) (ja rfl (jO ?_))))
  refine jN ⟨(i + 1), (js2 rfl rfl), ?_, ?_⟩
  ·
   refine ⟨hc1, ?_, rfl⟩
   rw [htk]
   intro y hy
   rcases List.mem_append.1 hy with h | h
   · exact hpre y h
   simp at h; subst h; omega
  first | omega | (dsimp only; omega)
 have hil : i = l.length := jo
 subst hil
 rw [zas] at hpre
 refine jX ?_
 refine qZ (qZ (qW ?_))
 refine jN (jv1 0 ?_)
 refine jS (jR (jm rfl (je (Run.lenS rfl zd) (jb rfl rfl (Bin.leqN _ 320) (ja rfl (jO (jN (jv1 2 ?_))))))))
 refine jT ?_
 refine qT rfl ?_
 refine ⟨?_, rfl⟩
 congr 2
 rw [decide_eq_decide]
 exact ⟨fun h => ⟨h, hpre⟩, fun h => h.1⟩
theorem qNs (a b : PkC) (w : World) (ha : fP w a) (hb : fP w b) (hc : a.count + b.count ≤ 9223372036854775807) (hl : a.sy.length + b.sy.length ≤ 1000000) :
  Calls Tryz.prog 128 #[.agg a.cells.toArray, .agg b.cells.toArray] w fun e w' => ∃ A c, e = .returned (.agg (PkC.cells ⟨a.count + b.count, A, c, a.sy ++ b.sy⟩).toArray) ∧ fP w' ⟨a.count + b.count, A, c, a.sy ++ b.sy⟩ ∧ Frm [] w w' ∧ ∀ x ∈ ob A, w.heap.size ≤ x := by
 refine VC.calls (nt := 17) (res := #[.cell 4 169]) Tryz.func128 rfl Tryz.ntmps128 Tryz.results128 rfl ?_
 refine jS (jR ?_)
 refine Ops.m (qV.box rfl) rfl ?_
 rintro _ w1 ⟨rfl, hF1⟩
 have hb1 : Blk w1 w.heap.size 169 a.cells.toArray := hF1.blk
 refine Ops.m (qV.box rfl) rfl ?_
 rintro _ w2 ⟨rfl, hF2⟩
 have hb2 : Blk w2 w1.heap.size 169 b.cells.toArray := hF2.blk
 have hb12 := hb1.frm hF2.frm jp
 refine Ops.m (qV.alloc gY) rfl ?_
 rintro _ w3 ⟨rfl, hF3⟩
 have hb3 : Blk w3 w2.heap.size 169 PkC.zero.cells.toArray := hF3.blk
 have hb13 := hb12.frm hF3.frm jp
 have hb23 := hb2.frm hF3.frm jp
 have hfr3 := (hF1.frm.own hF2.frm jp).own hF3.frm jp
 have l1 := hb1.lt
 have l2 := hb2.lt
 have l3 := hF1.frm.size
 generalize hg1 : w.heap.size = g1 at hb13 l1 l3 ⊢
 generalize hg2 : w1.heap.size = g2 at *
 generalize hg3 : w2.heap.size = g3 at *
 refine jO (jN (jv3 2 3 4 ?_))
 refine jS ?_
 refine VC.held (fun v => Blk v g1 169 a.cells.toArray ∧ Blk v g2 169 b.cells.toArray) jK ?_
 have hS : (fun v => Blk v g1 169 a.cells.toArray ∧ Blk v g2 169 b.cells.toArray) w3.drew := ⟨hb13.drawn (qQ.drew _), hb23.drawn (qQ.drew _)⟩
 have hb3 := hb3.drawn (qQ.drew _)
 have hfr3 := hfr3.drawn (qQ.drew _)
 have ha3 := ha.frm hfr3 jp
 have hbb3 := hb.frm hfr3 jp
 refine jH 0 rfl hS (fun w0 hw0 => Run.fieldAddr rfl zbh rfl zc jd) ?_
 refine jH 1 rfl hS (fun w0 hw0 => Run.load rfl zg (hw0.1.cell 0)) ?_
 refine jH 2 rfl hS (fun w0 hw0 => Run.fieldAddr rfl zbh rfl zc jd) ?_
 refine jH 3 rfl hS (fun w0 hw0 => Run.load rfl zg (hw0.2.cell 0)) ?_
 refine jH 4 rfl hS (fun w0 hw0 => Run.bin rfl rfl (Bin.add_i64 _ _ jo)) ?_
 refine jH 5 rfl hS (fun w0 hw0 => Run.fieldAddr rfl zbh rfl zar jd) ?_
 refine jH 6 rfl hS (fun w0 hw0 => Run.load rfl zbq (hw0.1.cell 1)) ?_
 refine jH 8 rfl hS (fun w0 hw0 => Run.fieldAddr rfl zbh rfl zar jd) ?_
 refine jH 9 rfl hS (fun w0 hw0 => Run.load rfl zbq (hw0.2.cell 1)) ?_
 refine qK.m 7 rfl jK (qV.app rfl rfl zd (dX) rfl jd (Own.nil _ _ _) ha3.rd (fH _) jo jo) trivial rfl rfl ?_
 rintro _ w4 ⟨A4, c4, rfl, ho4, hf4, hob4⟩
 have hS : (fun v => Blk v g1 169 a.cells.toArray ∧ Blk v g2 169 b.cells.toArray) w4 := ⟨hS.1.frm hf4 (by simp [ob]), hS.2.frm hf4 (by simp [ob])⟩
 refine ⟨hS, ?_⟩
 have hb4 := hb3.frm hf4 (by simp [ob])
 have hbb4 : Own w4 3 1 b.A b.sy.length b.c (NI b.sy) := hbb3.frm hf4 (by simp [ob])
 have hfr4 := hfr3.own hf4 (by simp [ob])
 have hu4 : ∀ x ∈ ob A4, w.heap.size ≤ x := cG jF hob4 hfr3.size
 refine qK.m 10 rfl jK (qV.app rfl rfl zd (dX) rfl jd ho4 hbb4.rd (fH _) jo jo) trivial rfl rfl ?_
 rintro _ w5 ⟨A5, c5, rfl, ho5, hf5, hob5⟩
 have hS : (fun v => Blk v g1 169 a.cells.toArray ∧ Blk v g2 169 b.cells.toArray) w5 := ⟨hS.1.frm hf5 (ho4.ne_blk hS.1 jd), hS.2.frm hf5 (ho4.ne_blk hS.2 jd)⟩
 refine ⟨hS, ?_⟩
 have hb5 := hb4.frm hf5 (ho4.ne_blk hb4 jd)
 have hfr5 := hfr4.own hf5 hu4
 have hu5 := cG hu4 hob5 hfr4.size
 have hl5 : 0 + a.sy.length + b.sy.length = (a.sy ++ b.sy).length := by rw [za]; omega
 rw [hl5] at ho5 ⊢
 rw [zbf, ← nO] at ho5
 refine jH 11 rfl hS (fun w0 hw0 => Run.build (evs.cons rfl (evs.cons rfl evs.nil)) gY (rQ).choose_spec.1 (rQ).choose_spec.2 (cells := (PkC.cells ⟨a.count + b.count, A5, c5, a.sy ++ b.sy⟩).toArray) rfl) ?_
 refine qK.st 12 rfl jK (qR.storeA rfl rfl zy hb5 rfl (PkC.one _)) trivial rfl ?_
 rintro w6 ⟨hb6, hf6, hs6⟩
 refine ⟨⟨hS.1.frm hf6 (by simp; omega), hS.2.frm hf6 (by simp; omega)⟩, ?_⟩
 refine qK.done jK ?_
 refine jN (jv1 4 ?_)
 refine jT ?_
 refine mR ?_
 refine uR rfl zel zy (hb6.cells) (by first | rfl | (simp; done)) ?_
 refine eF ?_
 exact ⟨A5, c5, rfl, fP.frm (p := ⟨a.count + b.count, A5, c5, a.sy ++ b.sy⟩) ho5 hf6 (fun x hx hx2 => by simp at hx2; subst hx2; exact ho5.ne_blk hb5 jd hx), by subst hg1; exact hfr5.own hf6 (by simp; omega), by rw [← hg1]; exact hu5⟩
end
section
open Go.RowKit
def lK (a b : Nat × List Nat) : Nat × List Nat := (a.1 + b.1, a.2 ++ b.2)
def bZ : List (Nat × List Nat) → List (Nat × List Nat)
 | a :: b :: r => lK a b :: bZ r
 | _ => []
def bK : List (Nat × List Nat) → List (Nat × List Nat) → List (Nat × List Nat)
 | [], ps => ps
 | c :: cs, [] => c :: cs
 | c :: cs, p :: ps => if c.1 ≤ p.1 then c :: bK cs (p :: ps) else p :: bK (c :: cs) ps
 termination_by cs ps => cs.length + ps.length
theorem xH (l : List (Nat × List Nat)) : ∀ k, (h : 2 * k + 1 < l.length) → bZ (l.take (2 * k + 2)) = bZ (l.take (2 * k)) ++ [lK l[2 * k] l[2 * k + 1]] := by
 intro k
 induction k generalizing l with
 | zero =>
  intro h
  match l, h with
  | a :: b :: r, _ => simp [bZ]
 | succ k ih =>
  intro h
  match l, h with
  | a :: b :: r, h =>
   have h2 : 2 * k + 1 < r.length := by simp at h; omega
   have e1 : 2 * (k + 1) + 2 = (2 * k + 2) + 1 + 1 := jo
   have e2 : 2 * (k + 1) = (2 * k) + 1 + 1 := jo
   have e3 : (a :: b :: r)[2 * (k + 1)] = r[2 * k]'jo := by simp [e2]
   have e4 : (a :: b :: r)[2 * (k + 1) + 1] = r[2 * k + 1]'h2 := by simp [e2]
   rw [e3, e4, e1, zag, zag, bZ, ih r h2, e2, zag, zag, bZ]
   rfl
theorem tC (l : List (Nat × List Nat)) : ∀ k, k ≤ l.length → l.length ≤ k + 1 → k % 2 = 0 → bZ (l.take k) = bZ l := by
  match l with
  | [] => intro k _ _ _; simp
  | [a] => intro k h1 h2 h3
           have : k = 0 := by simp at h1 h2; omega
           subst this; rfl
  | a :: b :: r =>
    intro k h1 h2 h3
    simp at h1 h2
    obtain ⟨j, rfl⟩ : ∃ j, k = j + 1 + 1 := ⟨k - 2, jo⟩
    rw [zag, zag, bZ, bZ, tC r j jo jo jo]
end
section
open Go.RowKit
theorem qYm {w : World} {A : Option Addr} {p : PkC} {l : List PkC} {c : Nat} (h : Rd w 2 A (l.length + 1) ((p :: l).flatMap PkC.cells)) (hc : l.length + 1 ≤ c) : Rd w 2 (cC A c 1 2) l.length (l.flatMap PkC.cells) := by
 have e := h.cut (l := 1) (r := l.length + 1) (cap := c) jo (zk _) hc
 have e2 : ((((p :: l).flatMap PkC.cells).drop (1 * 2)).take ((l.length + 1 - 1) * 2)) = l.flatMap PkC.cells := by
  rw [zq]
  show ((l.flatMap PkC.cells).take ((l.length + 1 - 1) * 2)) = _
  rw [zm (by rw [sA PkC.cells 2 PkC.cells_len]; omega)]
 rw [e2, zgp] at e
 exact e
theorem oC (l : List (Nat × List Nat)) : (bZ l).length = l.length / 2 := by
 match l with
 | [] => rfl
 | [a] => simp [bZ]
 | a :: b :: r => rw [bZ, zp, oC r]; simp; omega
theorem qWq (A1 A2 : Option Addr) (c1 c2 : Nat) (ps ls : List PkC) (w : World) (hr1 : Rd w 2 A1 ps.length (ps.flatMap PkC.cells)) (h1 : ∀ p ∈ ps, fP w p) (hr2 : Rd w 2 A2 ls.length (ls.flatMap PkC.cells)) (h2 : ∀ p ∈ ls, fP w p)
  (hcap : ps.length ≤ c1) (hl1 : ps.length ≤ 10000) (hl2 : ls.length ≤ 10000) (hs : ∀ p ∈ ls, p.count ≤ 2305843009213693951 ∧ p.sy.length ≤ 100000)
  (G : Nat → Prop) (hG : ∀ x, w.heap.size ≤ x → G x) (hg1 : ∀ p ∈ ps, ∀ x ∈ ob p.A, G x) :
  Calls Tryz.prog 97 #[.slice A1 ps.length c1, .slice A2 ls.length c2] w fun e w' => ∃ B c qs, e = .returned (.slice B qs.length c) ∧ Pks w' B c qs ∧ qs.map PkC.abs = bK (ps.map PkC.abs) (bZ (ls.map PkC.abs)) ∧ Frm [] w w' ∧ (∀ x ∈ ob B, w.heap.size ≤ x) ∧ ∀ p ∈ qs, ∀ x ∈ ob p.A, G x := by
 refine VC.calls (nt := 72) (res := #[.tmp 4]) Tryz.func97 rfl Tryz.ntmps97 Tryz.results97 rfl ?_
 refine jS (jR (ja rfl (jO (jN (jv2 0 1 ?_)))))
 refine jS (jR (ja rfl (ja rfl (jO (jN (jS (jS (jR (jz 0 (jO (jN (jB ?_))))))))))))
 refine VC.loop (σ := Nat × Option Addr × Nat × List PkC) (fun s => [(0, .slice A1 ps.length c1), (1, .slice A2 ls.length c2), (5, .slice s.2.1 s.2.2.2.length s.2.2.1), (6, .slice none 0 0), (7, .int .i64 ((2 * s.1 : Nat) : Int))]) (fun s wr => 2 * s.1 ≤ ls.length ∧ Pks wr s.2.1 s.2.2.1 s.2.2.2 ∧ s.2.2.2.map PkC.abs = bZ ((ls.map PkC.abs).take (2 * s.1)) ∧ Frm [] w wr ∧ (∀ x ∈ ob s.2.1, w.heap.size ≤ x) ∧ ∀ p ∈ s.2.2.2, ∀ x ∈ ob p.A, G x) (fun s => ls.length - 2 * s.1) (0, none, 0, []) (js5 rfl rfl rfl rfl rfl) ⟨jo, ⟨Own.nil _ _ _, jp⟩, rfl, Frm.refl _ _, jF, jp⟩ ?_
 rintro ⟨k, B, c, qs⟩ w7 ⟨hk, hP, hq, hfr, huB, hqg⟩
 dsimp only at hk hP hq hfr huB hqg ⊢
 have hql : qs.length ≤ ls.length := by
  have h5 := congrArg List.length hq
  rw [zl, oC, zi, zl] at h5
  omega
 refine jS (jS (jR (jm rfl (jb rfl rfl (Bin.add_i64 _ 1 jo) (jm rfl (je (Run.lenS rfl zae) (jb rfl rfl (Bin.lssN _ _) (jO (jN (jv6 0 1 5 6 7 12 ?_))))))))))
 refine jD rfl (fun hc1 => ?_) fun hc1 => ?_
 ·
  have hkl : 2 * k < ls.length := jo
  obtain ⟨ad, rfl, hea⟩ := hr2.elem hkl
  obtain ⟨ad2, had, heb⟩ := hr2.elem hc1
  obtain rfl : ad = ad2 := by injection had
  have hpt := xH (ls.map PkC.abs) k (by simpa using hc1)
  rw [zer, zer] at hpt
  have ha := h2 _ (zt hkl)
  have hb := h2 _ (zt hc1)
  have hsa := hs _ (zt hkl)
  have hsb := hs _ (zt hc1)
  rw [cI PkC.cells 2 PkC.cells_len ls _ hkl] at hea
  rw [cI PkC.cells 2 PkC.cells_len ls _ hc1] at heb
  generalize ls[2 * k] = a at *
  generalize ls[2 * k + 1] = b at *
  refine jQ (jN (jv5 0 1 5 6 7 ?_))
  refine jS (jB ?_)
  refine VC.held (fun v => Frm [] w v) jK ?_
  have hS : (fun v => Frm [] w v) w7.drew := hfr.drawn (qQ.drew _)
  have hPd : Pks w7.drew B c qs := hP.frm (qQ.drew _).frm jp (fun _ _ _ _ => jp)
  refine jH 0 rfl hS (fun w0 hw0 => Run.mv rfl) ?_
  refine jH 1 rfl hS (fun w0 hw0 => Run.mv rfl) ?_
  refine jH 2 rfl hS (fun w0 hw0 => Run.mv rfl) ?_
  refine jH 3 rfl hS (fun w0 hw0 => Run.indexS _ rfl rfl zae zy jo) ?_
  refine jH 4 rfl hS (fun w0 hw0 => Run.loadA rfl zel zy (fun j v h => hw0.cell (hea j v h) jp) (by first | rfl | (simp; done))) ?_
  refine jH 5 rfl hS (fun w0 hw0 => Run.mv rfl) ?_
  refine jH 6 rfl hS (fun w0 hw0 => Run.mv rfl) ?_
  refine jH 7 rfl hS (fun w0 hw0 => Run.bin rfl rfl (Bin.add_i64 _ 1 jo)) ?_
  refine jH 8 rfl hS (fun w0 hw0 => Run.indexS _ rfl rfl zae zy jo) ?_
  refine jH 9 rfl hS (fun w0 hw0 => Run.loadA rfl zel zy (fun j v h => hw0.cell (heb j v h) jp) (by first | rfl | (simp; done))) ?_
  refine qK.cl 10 rfl jK (jE2 Tryz.call128) (qNs a b _ (ha.frm hS jp) (hb.frm hS jp) jo jo) trivial rfl rfl ?_
  have hszb := Frm.size hS
  rintro e w4 ⟨A4, c4, rfl, hp4, hf4, hA4⟩
  have hS : (fun v => Frm [] w v) w4 := hS.own hf4 jp
  refine ⟨_, rfl, hS, ?_⟩
  have hP4 := hPd.frm hf4 jp (fun _ _ _ _ => jp)
  generalize hpk : (⟨a.count + b.count, A4, c4, a.sy ++ b.sy⟩ : PkC) = p at *
  have hpa : p.abs = lK a.abs b.abs := by subst hpk; rfl
  have hpG : ∀ x ∈ ob p.A, G x := by subst hpk; exact fun x hx => hG x (zn hszb (hA4 x hx))
  refine qK.m 11 rfl jK (qV.buildS1 rfl zae zy gY jd jd rfl rfl) trivial rfl rfl ?_
  rintro _ w5 ⟨rfl, hF5⟩
  have hS : (fun v => Frm [] w v) w5 := hS.own hF5.frm jp
  refine ⟨hS, ?_⟩
  have hrd5 : Rd w5 2 (some ⟨w4.heap.size, 0, none⟩) 1 p.cells := Rd.of_blk (n := 1) (size := 2) hF5.blk rfl
  have hP5 := hP4.frm hF5.frm jp (fun _ _ _ _ => jp)
  have hp5 := hp4.frm hF5.frm jp
  refine qK.m 12 rfl jK (qV.app rfl rfl zae (sK) rfl jd hP5.1 hrd5 p.one jo jo) trivial rfl rfl ?_
  rintro _ w6 ⟨B6, c6, rfl, ho6, hf6, hob6⟩
  have hsz5 := Frm.size hS
  have hS : (fun v => Frm [] w v) w6 := Frm.own hS hf6 huB
  refine ⟨hS, ?_⟩
  refine jH 13 rfl hS (fun w0 hw0 => Run.asg rfl) ?_
  refine qK.done jK ?_
  refine qJ (jN ?_)
  refine jv5 0 1 5 6 7 ?_
  refine jR (jm rfl (jb rfl rfl (Bin.add_i64 _ 2 jo) (ja rfl (jO ?_))))
  refine jN ⟨(k + 1, B6, c6, qs ++ [p]), (js5 rfl rfl (by rw [show (qs ++ [p]).length = qs.length + 1 from za]; rfl) rfl (congrArg (fun z : Nat => some (Value.int .i64 (z : Int))) jo)), ?_, ?_⟩
  ·
   refine ⟨by dsimp only; omega, ⟨?_, ?_⟩, ?_, hS, cG huB hob6 hsz5, fun q hq2 => (List.mem_append.1 hq2).elim (hqg q) (fun h5 => by simp at h5; subst h5; exact hpG)⟩
   ·
    rw [show (qs ++ [p]).length = qs.length + 1 from za, zw]
    simpa using ho6
   ·
    intro q hq2
    rcases List.mem_append.1 hq2 with h5 | h5
    · exact (hP5.2 q h5).frm hf6 (hP5.ne q h5)
    simp at h5; subst h5; exact hp5.frm hf6 (Own.ne_own hp5 hP5.1 jd)
   dsimp only
   rw [zbt, hq, show 2 * (k + 1) = 2 * k + 2 by omega, hpt, zai, hpa]
   rfl
  first | omega | (dsimp only; omega)
 have hqa : qs.map PkC.abs = bZ (ls.map PkC.abs) := by rw [hq, tC _ (2 * k) (by simp; omega) (by simp; omega) jo]
 rw [← hqa]
 have hql2 : qs.length ≤ 10000 := jo
 clear hqa hq hk
 refine jX ?_
 refine qZ (qZ (qW ?_))
 refine jN (jv3 0 5 6 ?_)
 refine jS (jB ?_)
 refine VC.loop (σ := List PkC × List PkC × List PkC × Option Addr × Nat × Option Addr × Nat × Option Addr × Nat) (fun s => [(0, .slice s.2.2.2.1 s.1.length s.2.2.2.2.1), (5, .slice s.2.2.2.2.2.1 s.2.1.length s.2.2.2.2.2.2.1), (6, .slice s.2.2.2.2.2.2.2.1 s.2.2.1.length s.2.2.2.2.2.2.2.2)]) (fun s wr => bK (ps.map PkC.abs) (qs.map PkC.abs) = s.2.2.1.map PkC.abs ++ bK (s.1.map PkC.abs) (s.2.1.map PkC.abs) ∧ Rd w 2 s.2.2.2.1 s.1.length (s.1.flatMap PkC.cells) ∧ s.1.length ≤ s.2.2.2.2.1 ∧ (∀ p ∈ s.1, fP w p) ∧ Rd w7 2 s.2.2.2.2.2.1 s.2.1.length (s.2.1.flatMap PkC.cells) ∧ s.2.1.length ≤ s.2.2.2.2.2.2.1 ∧ (∀ p ∈ s.2.1, fP w7 p) ∧ Pks wr s.2.2.2.2.2.2.2.1 s.2.2.2.2.2.2.2.2 s.2.2.1 ∧ Frm [] w7 wr ∧ (∀ x ∈ ob s.2.2.2.2.2.2.2.1, w7.heap.size ≤ x) ∧ s.2.2.1.length + s.1.length + s.2.1.length ≤ 30000 ∧ (∀ p ∈ s.1, ∀ x ∈ ob p.A, G x) ∧ (∀ p ∈ s.2.1, ∀ x ∈ ob p.A, G x) ∧ ∀ p ∈ s.2.2.1, ∀ x ∈ ob p.A, G x) (fun s => s.1.length + s.2.1.length) (ps, qs, [], A1, c1, B, c, none, 0) (js3 rfl rfl rfl) ⟨jp, hr1, hcap, h1, hP.1.rd, hP.1.le, hP.2, ⟨Own.nil _ _ _, jp⟩, Frm.refl _ _, jF, by simp; omega, hg1, hqg, jp⟩ ?_
 rintro ⟨cs, pk, out, Ac, ca, Bp, cp, Bo, co⟩ wr ⟨hm, hrc, hcc, hoc, hrp, hcp, hop, hPo, hfo, huo, hlen, hcg, hpg, hog⟩
 dsimp only at hm hrc hcc hoc hrp hcp hop hPo hfo huo hlen hcg hpg hog ⊢
 have hfw : Frm [] w wr := hfr.own hfo jp
 refine jS (jS ?_)
 refine VC.split1 [(0, _), (5, _), (6, _)] (js3 rfl rfl rfl) 35 (.bool (decide ((0 < cs.length) ∨ (0 < pk.length)))) ?_ ?_
 ·
  by_cases hs0 : 0 < cs.length
  ·
   refine jR (jm rfl (je (Run.lenS rfl zae) (jb rfl rfl (Bin.gtrN _ 0) (jM ?_))))
   refine jU ?_
   refine jU ?_
   refine jU ?_
   refine je (Run.pickT rfl rfl au) (jO ?_)
   refine jN ⟨(js4 (by rw [xI hs0]; rfl) rfl rfl rfl), rfl⟩
  refine jR (jm rfl (je (Run.lenS rfl zae) (jb rfl rfl (Bin.gtrN _ 0) (jM ?_))))
  refine jG ?_
  refine jk (Run.lenS rfl zae) ?_
  refine jk (Run.bin rfl rfl (Bin.gtrN _ 0)) ?_
  refine je (Run.pickF rfl rfl au) (jO ?_)
  refine jN ⟨(js4 (by rw [xL hs0]; rfl) rfl rfl rfl), rfl⟩
 intro Γ hΓ
 refine jN (VC.sub _ hΓ ?_)
 refine jD rfl (fun hc2 => ?_) fun hc2 => ?_
 ·
  refine jQ (jN (jv3 0 5 6 ?_))
  refine jB (jS ?_)
  refine VC.splitR [(0, .slice Ac cs.length ca), (5, .slice Bp pk.length cp), (6, .slice Bo out.length co)] (fun w1 => w1 = wr.drew) 54 (.bool (decide (pk.length = 0 ∨ 0 < cs.length ∧ (cs.headD PkC.zero).count ≤ (pk.headD PkC.zero).count))) ?_ ?_
  ·
   refine VC.still jK jK ?_
   refine qM ?_
   refine qE (Run.lenS rfl zae) ?_
   refine qE (Run.bin rfl rfl (Bin.eqlN _ 0)) ?_
   by_cases hs38 : pk.length = 0
   ·
    refine qM ?_
    refine qU ?_
    refine qU ?_
    refine qU ?_
    refine qU ?_
    refine qH.skU rfl rfl ?_
    refine qH.skU rfl rfl ?_
    refine qH.skU rfl rfl ?_
    refine qH.skU rfl rfl ?_
    refine qH.skU rfl rfl ?_
    refine qH.skU rfl rfl ?_
    refine qH.skU rfl rfl ?_
    refine qH.skU rfl rfl ?_
    refine qH.skU rfl rfl ?_
    refine qU ?_
    refine qE (Run.pickT rfl rfl au) ?_
    refine qH.nil ?_
    refine jN ⟨(js4 (jC (by simp [*])) rfl rfl rfl), (rfl)⟩
   refine qM ?_
   refine qG (Run.mv rfl) ?_
   refine qG (Run.lenS rfl zae) ?_
   refine qG (Run.bin rfl rfl (Bin.gtrN _ 0)) ?_
   by_cases hs42 : 0 < cs.length
   ·
    have hpk0 : 0 < pk.length := jo
    obtain ⟨ad, rfl, hea⟩ := hrc.elem hs42
    obtain ⟨ad2, rfl, heb⟩ := hrp.elem hpk0
    rw [cI PkC.cells 2 PkC.cells_len cs 0 hs42, show cs[0] = cs.headD PkC.zero by cases cs <;> simp at hs42 ⊢] at hea
    rw [cI PkC.cells 2 PkC.cells_len pk 0 hpk0, show pk[0] = pk.headD PkC.zero by cases pk <;> simp at hpk0 ⊢] at heb
    have hca := (hfw.drawn (qQ.drew wr)).cell (hea 0 _ rfl) jp
    have hcb := (hfo.drawn (qQ.drew wr)).cell (heb 0 _ rfl) jp
    refine qG (Run.mv rfl) ?_
    refine qG (Run.mv rfl) ?_
    refine qG (Run.indexS 0 rfl rfl zae zy jo) ?_
    refine qG (Run.fieldAddr rfl zbh rfl zc jd) ?_
    refine qG (Run.load rfl zg hca) ?_
    refine qG (Run.mv rfl) ?_
    refine qG (Run.indexS 0 rfl rfl zae zy jo) ?_
    refine qG (Run.fieldAddr rfl zbh rfl zc jd) ?_
    refine qG (Run.load rfl zg hcb) ?_
    refine qG (Run.bin rfl rfl (Bin.leqN _ _)) ?_
    by_cases hs52 : (cs.headD PkC.zero).count ≤ (pk.headD PkC.zero).count
    ·
     refine qG (Run.pickT rfl rfl au) ?_
     refine qE (Run.pickF rfl rfl au) ?_
     refine qH.nil ?_
     refine jN ⟨(js4 (jC (by simp [*])) rfl rfl rfl), (rfl)⟩
    refine qG (Run.pickT rfl rfl au) ?_
    refine qE (Run.pickF rfl rfl au) ?_
    refine qH.nil ?_
    refine jN ⟨(js4 (jC (by simp [*])) rfl rfl rfl), (rfl)⟩
   refine qG (Run.mv rfl) ?_
   refine qU ?_
   refine qU ?_
   refine qU ?_
   refine qU ?_
   refine qU ?_
   refine qU ?_
   refine qU ?_
   refine qU ?_
   refine qU ?_
   refine qG (Run.pickF rfl rfl au) ?_
   refine qE (Run.pickF rfl rfl au) ?_
   refine qH.nil ?_
   refine jN ⟨(js4 (jC (by simp [*])) rfl rfl rfl), (rfl)⟩
  intro Γ w8 hΓ hw8
  refine jN (VC.sub _ hΓ ?_)
  refine jD rfl (fun hc3 => ?_) fun hc3 => ?_
  ·
   subst hw8
   obtain ⟨c0, cs, rfl⟩ : ∃ c0 cs2, cs = c0 :: cs2 := by
    cases cs with
    | nil => exfalso; simp only [zbx] at hc2 hc3; omega
    | cons c0 cs2 => exact ⟨_, _, rfl⟩
   have hmc : bK ((c0 :: cs).map PkC.abs) (pk.map PkC.abs) = c0.abs :: bK (cs.map PkC.abs) (pk.map PkC.abs) := by
    cases pk with
    | nil => cases cs <;> simp [bK]
    | cons p0 pk2 =>
     rw [zai, zai, bK, if_pos]
     rcases hc3 with h5 | h5
     · simp at h5
     exact h5.2
   rw [hmc] at hm
   obtain ⟨ad, rfl, hea⟩ := hrc.elem (k := 0) jp
   rw [cI PkC.cells 2 PkC.cells_len (c0 :: cs) 0 jp] at hea
   have hcl : (c0 :: cs).length = cs.length + 1 := rfl
   have hd1 := hfo.drawn (qQ.drew wr)
   refine VC.held (fun v => Frm [] w7 v) jK ?_
   have hS : (fun v => Frm [] w7 v) wr.drew.drew := hd1.drawn (qQ.drew _)
   have hPd : Pks wr.drew.drew Bo co out := hPo.frm ((qQ.drew wr).trans (qQ.drew _)).frm jp (fun _ _ _ _ => jp)
   refine jH 0 rfl hS (fun w0 hw0 => Run.mv rfl) ?_
   refine jH 1 rfl hS (fun w0 hw0 => Run.mv rfl) ?_
   refine jH 2 rfl hS (fun w0 hw0 => Run.indexS 0 rfl rfl zae zy jo) ?_
   refine jH 3 rfl hS (fun w0 hw0 => Run.loadA rfl zel zy (fun j v h => (hfr.own hw0 jp).cell (hea j v h) jp) (by first | rfl | (simp; done))) ?_
   refine jH 6 rfl hS (fun w0 hw0 => Run.mv rfl) ?_
   refine jH 7 rfl hS (fun w0 hw0 => Run.sliceS 1 _ rfl zae zy (evB.some_ rfl) evB.none_ jo jo) ?_
   refine qK.m 4 rfl jK (qV.buildS1 rfl zae zy gY jd jd rfl rfl) trivial rfl rfl ?_
   rintro _ w5 ⟨rfl, hF5⟩
   have hS : (fun v => Frm [] w7 v) w5 := hS.own hF5.frm jp
   refine ⟨hS, ?_⟩
   have hrd5 : Rd w5 2 (some ⟨wr.drew.drew.heap.size, 0, none⟩) 1 c0.cells := Rd.of_blk (n := 1) (size := 2) hF5.blk rfl
   have hP5 := hPd.frm hF5.frm jp (fun _ _ _ _ => jp)
   refine qK.m 5 rfl jK (qV.app rfl rfl zae (sK) rfl jd hP5.1 hrd5 c0.one jo jo) trivial rfl rfl ?_
   rintro _ w6 ⟨B6, c6, rfl, ho6, hf6, hob6⟩
   have hsz5 := Frm.size hS
   have hp6 : fP w6 c0 := (hoc c0 jp).frm (hfr.own (Frm.own hS hf6 huo) jp) jp
   have hS : (fun v => Frm [] w7 v) w6 := Frm.own hS hf6 huo
   refine ⟨hS, ?_⟩
   refine jH 8 rfl hS (fun w0 hw0 => Run.asg rfl) ?_
   refine jH 9 rfl hS (fun w0 hw0 => Run.asg rfl) ?_
   refine qK.done jK ?_
   refine qJ (jN ⟨(cs, pk, out ++ [c0], cC (some ad) ca 1 2, ca - 1, Bp, cp, B6, c6), (js3 rfl rfl (by rw [show (out ++ [c0]).length = out.length + 1 from za]; rfl)), ?_, ?_⟩)
   ·
    refine ⟨?_, qYm hrc (by rw [← hcl]; exact hcc), by dsimp only; rw [hcl] at hcc; omega, fun q hq2 => hoc q (by simp [hq2]), hrp, hcp, hop, ⟨?_, ?_⟩, hS, cG huo hob6 hsz5, by dsimp only; simp at hlen ⊢; omega, fun q hq2 => hcg q (by simp [hq2]), hpg, fun q hq2 => (List.mem_append.1 hq2).elim (hog q) (fun h5 => hcg q (by simp at h5; simp [h5]))⟩
    ·
     dsimp only
     rw [hm, zbt, zj]
     rfl
    ·
     rw [show (out ++ [c0]).length = out.length + 1 from za, zw]
     simpa using ho6
    intro q hq2
    rcases List.mem_append.1 hq2 with h5 | h5
    · exact (hP5.2 q h5).frm hf6 (hP5.ne q h5)
    simp at h5; subst h5; exact hp6
   dsimp only; simp
  subst hw8
  obtain ⟨p0, pk, rfl⟩ : ∃ p0 pk2, pk = p0 :: pk2 := by
   cases pk with
   | nil => exact absurd (.inl rfl) hc3
   | cons p0 pk2 => exact ⟨_, _, rfl⟩
  have hmc : bK (cs.map PkC.abs) ((p0 :: pk).map PkC.abs) = p0.abs :: bK (cs.map PkC.abs) (pk.map PkC.abs) := by
   cases cs with
   | nil => simp [bK]
   | cons c0 cs2 =>
    rw [zai, zai, bK, if_neg]
    intro h5
    exact hc3 (.inr ⟨jp, h5⟩)
  rw [hmc] at hm
  obtain ⟨ad, rfl, hea⟩ := hrp.elem (k := 0) jp
  rw [cI PkC.cells 2 PkC.cells_len (p0 :: pk) 0 jp] at hea
  have hcl : (p0 :: pk).length = pk.length + 1 := rfl
  have hd1 := hfo.drawn (qQ.drew wr)
  refine VC.held (fun v => Frm [] w7 v) jK ?_
  have hS : (fun v => Frm [] w7 v) wr.drew.drew := hd1.drawn (qQ.drew _)
  have hPd : Pks wr.drew.drew Bo co out := hPo.frm ((qQ.drew wr).trans (qQ.drew _)).frm jp (fun _ _ _ _ => jp)
  refine jH 0 rfl hS (fun w0 hw0 => Run.mv rfl) ?_
  refine jH 1 rfl hS (fun w0 hw0 => Run.mv rfl) ?_
  refine jH 2 rfl hS (fun w0 hw0 => Run.indexS 0 rfl rfl zae zy jo) ?_
  refine jH 3 rfl hS (fun w0 hw0 => Run.loadA rfl zel zy (fun j v h => hw0.cell (hea j v h) jp) (by first | rfl | (simp; done))) ?_
  refine jH 6 rfl hS (fun w0 hw0 => Run.mv rfl) ?_
  refine jH 7 rfl hS (fun w0 hw0 => Run.sliceS 1 _ rfl zae zy (evB.some_ rfl) evB.none_ jo jo) ?_
  refine qK.m 4 rfl jK (qV.buildS1 rfl zae zy gY jd jd rfl rfl) trivial rfl rfl ?_
  rintro _ w5 ⟨rfl, hF5⟩
  have hS : (fun v => Frm [] w7 v) w5 := hS.own hF5.frm jp
  refine ⟨hS, ?_⟩
  have hrd5 : Rd w5 2 (some ⟨wr.drew.drew.heap.size, 0, none⟩) 1 p0.cells := Rd.of_blk (n := 1) (size := 2) hF5.blk rfl
  have hP5 := hPd.frm hF5.frm jp (fun _ _ _ _ => jp)
  refine qK.m 5 rfl jK (qV.app rfl rfl zae (sK) rfl jd hP5.1 hrd5 p0.one jo jo) trivial rfl rfl ?_
  rintro _ w6 ⟨B6, c6, rfl, ho6, hf6, hob6⟩
  have hsz5 := Frm.size hS
  have hp6 : fP w6 p0 := (hop p0 jp).frm (Frm.own hS hf6 huo) jp
  have hS : (fun v => Frm [] w7 v) w6 := Frm.own hS hf6 huo
  refine ⟨hS, ?_⟩
  refine jH 8 rfl hS (fun w0 hw0 => Run.asg rfl) ?_
  refine jH 9 rfl hS (fun w0 hw0 => Run.asg rfl) ?_
  refine qK.done jK ?_
  refine qJ (jN ⟨(cs, pk, out ++ [p0], Ac, ca, cC (some ad) cp 1 2, cp - 1, B6, c6), (js3 rfl rfl (by rw [show (out ++ [p0]).length = out.length + 1 from za]; rfl)), ?_, ?_⟩)
  ·
   refine ⟨?_, hrc, hcc, hoc, qYm hrp (by rw [← hcl]; exact hcp), by dsimp only; rw [hcl] at hcp; omega, fun q hq2 => hop q (by simp [hq2]), ⟨?_, ?_⟩, hS, cG huo hob6 hsz5, by dsimp only; simp at hlen ⊢; omega, hcg, fun q hq2 => hpg q (by simp [hq2]), fun q hq2 => (List.mem_append.1 hq2).elim (hog q) (fun h5 => hpg q (by simp at h5; simp [h5]))⟩
   ·
    dsimp only
    rw [hm, zbt, zj]
    rfl
   ·
    rw [show (out ++ [p0]).length = out.length + 1 from za, zw]
    simpa using ho6
   intro q hq2
   rcases List.mem_append.1 hq2 with h5 | h5
   · exact (hP5.2 q h5).frm hf6 (hP5.ne q h5)
   simp at h5; subst h5; exact hp6
  dsimp only; simp
 have e1 : cs = [] := zab jo
 have e2 : pk = [] := zab jo
 subst e1 e2
 rw [show bK (List.map PkC.abs []) (List.map PkC.abs []) = [] by simp [bK], zdd] at hm
 refine jX ?_
 refine qZ (qZ (qW ?_))
 refine jN (jv1 6 ?_)
 refine jS (jR (jm rfl (ja rfl (jO (jN (jv1 4 ?_))))))
 refine jT ?_
 refine qT rfl ?_
 exact ⟨Bo, co, out, rfl, hPo, hm.symm, hfr.own hfo jp, fun x hx => zn hfr.size (huo x hx), hog⟩
end
section
open Go.RowKit
def fJ (l : List (Nat × List Nat)) : Nat := (l.map Prod.fst).sum
def dU (l : List (Nat × List Nat)) : Nat := (l.map fun p => p.2.length).sum
theorem tD : ∀ (a b : List (Nat × List Nat)), fJ (bK a b) = fJ a + fJ b
 | [], b => by simp [bK, fJ]
 | c :: cs, [] => by simp [bK, fJ]
 | c :: cs, p :: ps => by
  rw [bK]
  split
  ·
   have := tD cs (p :: ps)
   simp [fJ] at this ⊢
   omega
  have := tD (c :: cs) ps
  simp [fJ] at this ⊢
  omega
 termination_by a b => a.length + b.length
theorem tE : ∀ (a b : List (Nat × List Nat)), dU (bK a b) = dU a + dU b
 | [], b => by simp [bK, dU]
 | c :: cs, [] => by simp [bK, dU]
 | c :: cs, p :: ps => by
  rw [bK]
  split
  ·
   have := tE cs (p :: ps)
   simp [dU] at this ⊢
   omega
  have := tE (c :: cs) ps
  simp [dU] at this ⊢
  omega
 termination_by a b => a.length + b.length
theorem rG : ∀ (a b : List (Nat × List Nat)), (bK a b).length = a.length + b.length
 | [], b => by simp [bK]
 | c :: cs, [] => by simp [bK]
 | c :: cs, p :: ps => by
  rw [bK]
  split
  ·
   have := rG cs (p :: ps)
   simp at this ⊢
   omega
  have := rG (c :: cs) ps
  simp at this ⊢
  omega
 termination_by a b => a.length + b.length
theorem qQi : ∀ (l : List (Nat × List Nat)), fJ (bZ l) ≤ fJ l
 | [] => by simp [bZ]
 | [a] => by simp [bZ, fJ]
 | a :: b :: r => by
  have := qQi r
  simp [bZ, fJ, lK] at this ⊢
  omega
theorem qQj : ∀ (l : List (Nat × List Nat)), dU (bZ l) ≤ dU l
 | [] => by simp [bZ]
 | [a] => by simp [bZ, dU]
 | a :: b :: r => by
  have := qQj r
  simp [bZ, dU, lK] at this ⊢
  omega
def bR (cs : List (Nat × List Nat)) : Nat → List (Nat × List Nat)
 | 0 => cs
 | k + 1 => bK cs (bZ (bR cs k))
theorem tF (cs : List (Nat × List Nat)) : ∀ k, fJ (bR cs k) ≤ (k + 1) * fJ cs
 | 0 => by simp [bR]
 | k + 1 => by
  have h1 := tF cs k
  have h2 := qQi (bR cs k)
  rw [bR, tD, zei (k + 1)]
  omega
theorem mI (cs : List (Nat × List Nat)) : ∀ k, dU (bR cs k) ≤ (k + 1) * dU cs
 | 0 => by simp [bR]
 | k + 1 => by
  have h1 := mI cs k
  have h2 := qQj (bR cs k)
  rw [bR, tE, zei (k + 1)]
  omega
theorem rH (cs : List (Nat × List Nat)) : ∀ k, (bR cs k).length ≤ 2 * cs.length ∧ (2 * cs.length - (bR cs k).length) * 2 ^ k + 1 ≤ cs.length + 2 ^ k
 | 0 => by simp [bR]; omega
 | k + 1 => by
  obtain ⟨h1, h2⟩ := rH cs k
  have h3 : (bZ (bR cs k)).length = (bR cs k).length / 2 := by
   generalize bR cs k = l
   clear h1 h2
   induction l using bZ.induct with
   | case1 a b r ih => simp [bZ, ih]; omega
   | case2 l h => 
    match l, h with
    | [], _ => rfl
    | [a], _ => simp [bZ]
    | a :: b :: r, h => exact absurd rfl (h a b r)
  rw [bR, rG, h3]
  generalize (bR cs k).length = L at *
  refine ⟨jo, ?_⟩
  have h4 : (2 * cs.length - (cs.length + L / 2)) * 2 ≤ (2 * cs.length - L) + 1 := jo
  have h5 : (2 * cs.length - (cs.length + L / 2)) * 2 * 2 ^ k ≤ ((2 * cs.length - L) + 1) * 2 ^ k := zdg _ h4
  rw [zgr, zgs] at h5
  rw [zbo, zcw (2 ^ k) 2, ← zdm]
  omega
theorem pR (cs : List (Nat × List Nat)) (k : Nat) (h : cs.length ≤ 2 ^ (k + 1)) : 2 * cs.length - 2 ≤ (bR cs k).length := by
 obtain ⟨h1, h2⟩ := rH cs k
 rw [zbo] at h
 have h3 : (2 * cs.length - (bR cs k).length) * 2 ^ k < 3 * 2 ^ k := jo
 have h4 := Nat.lt_of_mul_lt_mul_right h3
 omega
theorem qK3 {l : List (Nat × List Nat)} {x : Nat × List Nat} (h : x ∈ l) : x.1 ≤ fJ l := by
 induction l with
 | nil => simp at h
 | cons a r ih =>
  unfold fJ at ih ⊢
  rw [zai, zfj]
  rcases zbv.1 h with rfl | h
  · omega
  have := ih h; omega
theorem qK4 {l : List (Nat × List Nat)} {x : Nat × List Nat} (h : x ∈ l) : x.2.length ≤ dU l := by
 induction l with
 | nil => simp at h
 | cons a r ih =>
  unfold dU at ih ⊢
  rw [zai, zfj]
  rcases zbv.1 h with rfl | h
  · omega
  have := ih h; omega
theorem vD {Q : Nat → Prop} : ∀ (a b : List (Nat × List Nat)), (∀ p ∈ a, ∀ s ∈ p.2, Q s) → (∀ p ∈ b, ∀ s ∈ p.2, Q s) → ∀ p ∈ bK a b, ∀ s ∈ p.2, Q s
 | [], b, _, hb => by simpa [bK] using hb
 | c :: cs, [], ha, _ => by simpa [bK] using ha
 | c :: cs, p :: ps, ha, hb => by
  rw [bK]
  split
  ·
   intro q hq
   rcases zbv.1 hq with rfl | hq
   · exact ha _ jp
   exact vD cs (p :: ps) (fun x hx => ha x (by simp [hx])) hb q hq
  intro q hq
  rcases zbv.1 hq with rfl | hq
  · exact hb _ jp
  exact vD (c :: cs) ps ha (fun x hx => hb x (by simp [hx])) q hq
 termination_by a b => a.length + b.length
theorem qZp {Q : Nat → Prop} : ∀ (l : List (Nat × List Nat)), (∀ p ∈ l, ∀ s ∈ p.2, Q s) → ∀ p ∈ bZ l, ∀ s ∈ p.2, Q s
 | [], _ => by simp [bZ]
 | [a], _ => by simp [bZ]
 | a :: b :: r, h => by
  intro q hq s hs
  rw [bZ] at hq
  rcases zbv.1 hq with rfl | hq
  ·
   rcases List.mem_append.1 hs with h5 | h5
   · exact h a jp s h5
   exact h b jp s h5
  exact qZp r (fun x hx => h x (by simp [hx])) q hq s hs
theorem qZq {Q : Nat → Prop} (cs : List (Nat × List Nat)) (h : ∀ p ∈ cs, ∀ s ∈ p.2, Q s) : ∀ k, ∀ p ∈ bR cs k, ∀ s ∈ p.2, Q s
 | 0 => h
 | k + 1 => vD _ _ h (qZp _ (qZq cs h k))
theorem vE (cs : List Nat) (b : Nat) (hb : ∀ x ∈ cs, x ≤ b) : ∀ n, n ≤ cs.length → fJ (cP cs n) ≤ n * b ∧ dU (cP cs n) ≤ n
 | 0, _ => by simp [cP, fJ, dU]
 | n + 1, h => by
  obtain ⟨h1, h2⟩ := vE cs b hb n jo
  have hx : cs.getD n 0 ≤ b := by
   simp only [List.getD, zb (jo : n < cs.length), zba]
   exact hb _ (zt _)
  rw [pP, zei]
  unfold fJ dU at *
  rw [zbt, zbt, zht, zht]
  generalize cs.getD n 0 = x at *
  split <;> simp <;> omega
theorem qK5 {a b : List (Nat × List Nat)} (h : a.Perm b) : fJ a = fJ b ∧ dU a = dU b := ⟨(h.map _).sum_nat, (h.map _).sum_nat⟩
def wF (n : Nat) (l : List (Nat × List Nat)) : List Nat := (List.range n).map fun k => (l.map fun p => p.2.count k).sum
def cF (n m : Nat) (own : List (Nat × List Nat)) : List Nat := if own.length ≤ 1 then wF n own else wF n ((bR own (m - 1)).take (2 * own.length - 2))
end
end Go.Proofs.YtndjgmbfkkgpdaaGreat
