/-
  Lemmas on the way, joined: CmdP, CmdQ, Eng28, Eng29, CmdR, CmdV, CmdW, CmdT, CmdU, CmdX.
-/
import Derived.Test.YtjklfpccmaljjaaGreatDoorPk1
set_option maxRecDepth 100000
set_option linter.unusedVariables false
set_option linter.unusedSimpArgs false
set_option maxHeartbeats 8000000
namespace Go.Proofs.YtjklfpccmaljjaaGreatDoor
section
open Go.RowKit
theorem Run.neqNilS {P : Program} {Γ : Env} {w : World} {dst : Option Nat} {T : TypeId} {pos : String} {after : Array Edge} {g : Option (Nat × Bool)} {t yT e : TypeId} {x y : Operand} {A : Option Addr} {n c : Nat} (hx : ev? Γ x = some (.slice A n c)) (hy : ev? Γ y = some (.slice none 0 0)) (ht : P.underlying t = some (.slice e)) :
  Run P ⟨dst, .binOp .neq t x y yT, T, pos, after, g⟩ Γ w (.bool (! A.isNone)) := fun ρ hρ => by
 have h0 : ∀ d : Nat, (Op.equalIn (d + 1) t (.slice A n c) (.slice none 0 0)).run P w = .ok A.isNone w := fun d => by
  cases A <;> simp [Op.equalIn, run_underlying ht]
 have h1 : (Op.equal t (.slice A n c) (.slice none 0 0)).run P w = .ok A.isNone w := h0 9999
 simp [execOp, hρ _ _ hx, hρ _ _ hy, eqGuard, binOp, h1]
theorem sZ (w : World) : (zeroValue 117).run Tryz.prog w = .ok (.nilFunc) w := by
 simp only [zeroValue, Sem.run_bind, Tryz.typeInfo117, Result.andThen_ok]; rfl
theorem mZ (v0 : World) (gp gc : Nat) (A : Option Addr) (n c : Nat) (tk : List Tk) (q : Nat) (cs : Array Value) (w : World) (hP : IsCp w gp gc A n c tk q cs) (hcs : cs[9]? = some (.slice none 0 0)) (hA : 0 < n → ∀ x ∈ ob A, x < v0.heap.size) (hK0 : Frm [] v0 w) (hgp : v0.heap.size ≤ gp ∧ v0.heap.size ≤ gc) (hl : ∀ x ∈ tk, x.2.length ≤ 50000) (hv : cK v0) (htb : Tab v0) : Calls Tryz.prog 35 #[jI0 gp] w fun e w' => match cH tk q with
   | none => e = .panicked cI ∧ Frm [gp, gc] w w'
   | some (sp, xs, q2) => e = .returned (.tuple #[]) ∧ ∃ gf gb Bs ds cs2, cV v0 w gf gb gp gc A n c tk (cs.setIfInBounds 8 (.slice Bs sp.length ds)) Bs ds sp xs w' q2 cs2 := by
 refine jV Tryz.func35 Tryz.ntmps35 Tryz.results35 ?_
 refine jS (jR ?_)
 refine Ops.m (qV.box rfl) rfl ?_
 rintro _ w1 ⟨rfl, hF1⟩
 obtain ⟨gb, hgb⟩ : ∃ g, g = w.heap.size := ⟨_, rfl⟩
 have hG : Blk w1 gb 61 #[jI0 gp] := by rw [hgb]; exact hF1.blk
 have hP1 := hP.frm hF1.frm
 rw [← hgb]
 refine jO (jN (jv1 1 ?_))
 refine jS ?_
 refine VC.heldL 8 (fun V => V.cell? ⟨gb, 0, none⟩ = some (jI0 gp) ∧ V.cell? ⟨gp, 2, none⟩ = some (jI0 gc)) jK ?_
 have hd := (qI.drew w1).frm
 have hPd := hP1.frm hd
 have hGd := hG.frm hd jp
 have hS : (fun V : World => V.cell? ⟨gb, 0, none⟩ = some (jI0 gp) ∧ V.cell? ⟨gp, 2, none⟩ = some (jI0 gc)) w1.drew := ⟨hGd.cell 0, hPd.p.cell 2⟩
 refine jH 0 rfl hS (fun w0 hw0 => Run.load rfl zbn hw0.1) ?_
 refine jH 1 rfl hS (fun w0 hw0 => Run.nilck rfl) ?_
 refine jH 2 rfl hS (fun w0 hw0 => Run.fieldAddr rfl zi rfl zag jd) ?_
 refine jH 3 rfl hS (fun w0 hw0 => Run.load rfl zas hw0.2) ?_
 refine qJ.r1 4 rfl jK hS (Run.load rfl zbn hS.1) trivial rfl rfl ?_
 refine qJ.clp 5 rfl jK (jE1 Tryz.call69) (pK gp gc A n c tk q cs _ hPd (fun x hx => by have := hl x hx; omega)) trivial rfl rfl ?_
 rintro e w2 ⟨hf2, he⟩
 have K2 : Frm [gp, gc] w w2 := ((hF1.frm.trans hd jp).mono jp).trans hf2 (fun x hx => .inl (by simp at hx; simp [hx]))
 rcases hT : gN tk q with _ | sp
 ·
  rw [hT] at he
  exact .inr ⟨_, he, qT (qL (by rw [show cH tk q = none by simp [cH, hT]]; exact ⟨rfl, K2⟩))⟩
 rw [hT] at he
 obtain ⟨Bs, ds, rfl, hP2, hoS, hupS⟩ := he
 have hG2 := hGd.frm hf2 (by simp; exact hGd.ne hPd.p jd)
 have hS : (fun V : World => V.cell? ⟨gb, 0, none⟩ = some (jI0 gp) ∧ V.cell? ⟨gp, 2, none⟩ = some (jI0 gc)) w2 := ⟨hG2.cell 0, hP2.p.cell 2⟩
 refine .inl ⟨_, rfl, hS, ?_⟩
 refine qJ.r1 6 rfl jK hS (Run.nilck rfl) trivial rfl rfl ?_
 refine qJ.r1 7 rfl jK hS (Run.fieldAddr rfl zo rfl zcg jd) trivial rfl rfl ?_
 refine qJ.stL rfl jK (qQ.store (i := 8) rfl rfl zcg hP2.k (by rw [hP2.sz]; rfl) rfl) trivial rfl ?_
 rintro w3 ⟨hb3, hf3, hs3⟩
 have hf3 : Frm [gc] w2 w3 := hf3
 obtain ⟨csS, hcsS⟩ : ∃ x, x = cs.setIfInBounds 8 (.slice Bs sp.length ds) := ⟨_, rfl⟩
 have hP3 : IsCp w3 gp gc A n c tk (q + 1) csS := by rw [hcsS]; exact hP2.turn hb3 (by simp [hP2.sz]) hf3
 have hG3 := hG2.frm hf3 (by simp; exact hG2.ne hP2.k jd)
 have hoS := hoS.one hf3 hP2.k jd
 have h9 : csS[9]? = some (.slice none 0 0) := by rw [hcsS, zv, if_neg jd]; exact hcs
 have K3 : Frm [gp, gc] w w3 := K2.trans hf3 (fun x hx => .inl (by simp at hx; simp [hx]))
 refine qJ.done jK ?_
 refine jN (jv1 1 ?_)
 refine jS (jR (je (Run.mkFunc evs.nil (evs.cons rfl evs.nil)) ?_))
 refine Ops.m (qV.alloc sZ) rfl ?_
 rintro _ w4 ⟨rfl, hF4⟩
 obtain ⟨gf, hgf⟩ : ∃ g, g = w3.heap.size := ⟨_, rfl⟩
 have hb4 := hF4.blk
 rw [← hgf] at hb4 ⊢
 refine Ops.st (qQ.store (i := 0) rfl rfl Tryz.sizeOf117 hb4 rfl rfl) ?_
 rintro w5 ⟨hFf, hf5, hs5⟩
 have hFf : Blk w5 gf 117 #[.func (.func 70) ([] : List Value).toArray ([jI0 gb] : List Value).toArray] := hFf
 have hf45 : Frm [] w3 w5 := hF4.frm.own hf5 (fun x hx => by rw [ze] at hx; omega)
 have hP5 := hP3.frm hf45
 have hG5 := hG3.frm hf45 jp
 have hoS := hoS.frm hf45 jp
 have K5 := K3.trans hf45 jp
 have hX5 : cV v0 w gf gb gp gc A n c tk csS Bs ds sp [] w5 (q + 1) csS := ⟨none, 0, [], rfl, IsIt.nil _ _, h9, fun _ => rfl, hP5, hFf, hG5, hoS, K5, fun _ h => absurd h (by simp [ob])⟩
 clear hFf hoS
 refine jO (jN (jv2 1 2 ?_))
 refine jS (jS (jR (jl rfl zbn (hG5.cell 0) ?_)))
 refine jc (jE3 Tryz.call61) (gV 0 2 gp gc A n c tk (q + 1) csS w5 hP5 jo) ?_
 rintro e w6 ⟨hf6, rfl⟩
 refine ⟨_, rfl, ?_⟩
 have hX6 := hX5.frm hf6
 have hG6 := hG5.frm hf6 jp
 have hP6 := hP5.frm hf6
 have K6 := K5.trans hf6 jp
 rw [Nat.add_zero]
 have hbase : ∀ W, Frm [gp, gc] w W → Frm [] v0 W := fun W k => hK0.own k (by simp; exact hgp)
 clear hX5
 refine jO (jN (jv3 1 2 17 ?_))
 refine VC.condB rfl (fun hc1 => ?_) (fun hc1 => ?_)
 ·
  have hit : IsT tk (q + 1) 2 := by simpa using hc1
  have hfm : cH tk q = (eU tk (jE tk) 1 16 (q + 1)).map fun p => (sp, (List.range p.2).map (fun i => (dO tk (q + 2 + i)).getD it0), p.1 + 1) := by unfold cH; rw [hT, zbo, if_pos hit]
  rw [hfm]
  have hone : ∀ j W q1 cs1, j < 16 → ¬ IsT tk q1 3 → (j ≤ 16 ∧ q1 = q + 2 + j ∧ cV v0 w gf gb gp gc A n c tk csS Bs ds sp ((List.range j).map fun i => (dO tk (q + 2 + i)).getD it0) W q1 cs1) → Calls Tryz.prog 72 ([jI0 gf, jI0 gb] : List Value).toArray W fun e w' => match jE tk j q1 with
     | none => e = .panicked cI ∧ Frm [gp, gc] w w'
     | some q2 => e = .returned (.tuple #[]) ∧ ∃ cs2, (j + 1 ≤ 16 ∧ q2 = q + 2 + (j + 1) ∧ cV v0 w gf gb gp gc A n c tk csS Bs ds sp ((List.range (j + 1)).map fun i => (dO tk (q + 2 + i)).getD it0) w' q2 cs2) := by
   intro j W q1 cs1 hj hn3 h
   obtain ⟨_, hq1, I, d, rs, h1, h2, h3, h4, h5, h6, h7, h8, h9, h10⟩ := h
   have hln : rs.length = j := by have := congrArg List.length h1; simpa using this
   refine (nD v0 gf gb d I rs gp gc A n c tk q1 cs1 W h5 h6 h7 h2 h3 hA (hbase W h9) hgp.1 jo hl hv htb).mono fun e w' he => ?_
   unfold jE
   rcases hi : dO tk q1 with _ | x
   ·
    rw [hi] at he
    exact ⟨he.1, h9.trans he.2 (fun y hy => .inl (by simp at hy; simp [hy]))⟩
   rw [hi] at he
   obtain ⟨he, I', d', r, hr, g2, g5, k, hu⟩ := he
   refine ⟨he, cs1.setIfInBounds 9 (.slice I' (rs.length + 1) d'), jo, (by show q1 + 1 = _; omega), ?_⟩
   have := cV.add h1 h2 h4 h5 h6 h7 h8 h9 h10 g2 g5 k hu
   rw [List.range_succ, List.map_append, List.map_singleton, ← hq1, hi]
   rw [hr] at this
   exact this
  refine jS (jR (jl rfl zbn (hG6.cell 0) (je (Run.mkFunc evs.nil (evs.cons rfl (evs.cons rfl evs.nil))) ?_)))
  refine Ops.clp (jE4 Tryz.call62) (nT 72 [jI0 gf, jI0 gb] 1 16 (jE tk) (fun j W q1 cs1 => j ≤ 16 ∧ q1 = q + 2 + j ∧ cV v0 w gf gb gp gc A n c tk csS Bs ds sp ((List.range j).map fun i => (dO tk (q + 2 + i)).getD it0) W q1 cs1) w gp gc A n c tk (q + 1) csS w6 hP6 K6 jo jo Tryz.call72 (fun W k hP => ⟨zan _, rfl, hX6.read k hP⟩) (fun j W q1 cs1 h => by obtain ⟨_, _, I, d, rs, h1, h2, h3, h4, h5, h6, h7, h8, h9, h10⟩ := h; exact ⟨h5, h9⟩) (fun j W W' q1 cs1 h k => ⟨h.1, h.2.1, h.2.2.frm k⟩) hone) rfl ?_
  rintro e w7 he
  rcases hL : eU tk (jE tk) 1 16 (q + 1) with _ | ⟨q2, j⟩
  ·
   rw [hL] at he
   exact .inr ⟨_, he.1, qT (qT (qL ⟨rfl, he.2⟩))⟩
  rw [hL] at he
  obtain ⟨rfl, cs2, W1, ⟨_, _, hX7⟩, hf7, hP7⟩ := he
  refine .inl ⟨_, rfl, ?_⟩
  refine jO (jN ?_)
  refine VC.sub [] .nil ?_
  refine jT ?_
  refine qZ (pP ?_)
  refine ⟨rfl, gf, gb, Bs, ds, cs2, ?_⟩
  rw [← hcsS]
  exact hX7.read hf7 hP7
 have hit : ¬ IsT tk (q + 1) 2 := by simpa using hc1
 have hfm : cH tk q = (qO tk (q + 1) [0]).bind fun s => if bS (qS s) = [] then (bR s).map fun x => (sp, [x], q + 2) else some (sp, (bS (qS s)).map (fun m => (bR m).getD it0), q + 2) := by unfold cH; rw [hT, zbo, if_neg hit]
 rw [hfm]
 refine jQ (jN (jv2 1 2 ?_))
 refine jS (jR (jl rfl zbn (hG6.cell 0) ?_))
 refine Ops.m (qV.buildS1 rfl zm zc eP jd jd rfl rfl) rfl ?_
 rintro _ w7 ⟨rfl, hF7⟩
 have hK7 : Rd w7 1 (some ⟨w6.heap.size, 0, none⟩) 1 (IB [0]) := Rd.of_blk (n := 1) (size := 1) hF7.blk rfl
 have hPl := hP6.lt
 have hX7 := hX6.frm hF7.frm
 refine Ops.clp (jE2 Tryz.call31) (cP (some ⟨w6.heap.size, 0, none⟩) 1 1 [0] gp gc A n c tk (q + 1) csS w7 (hP6.frm hF7.frm) rfl jo hK7 (fun _ x hx => by rw [ze.1 hx]; show w6.heap.size ≠ gp; omega)) rfl ?_
 rintro e w8 ⟨hf8, he⟩
 rcases hTk : qO tk (q + 1) [0] with _ | s
 ·
  rw [hTk] at he
  exact .inr ⟨_, he, qT (qL ⟨rfl, (K6.trans hF7.frm jp).trans hf8 (fun x hx => .inl (by simp at hx; simp [hx]))⟩)⟩
 rw [hTk] at he
 obtain ⟨rfl, hP8⟩ := he
 have hsl := eJ hTk hl
 have hX8 := hX7.read hf8 hP8
 rw [zbo]
 refine .inl ⟨_, rfl, ?_⟩
 refine ja rfl (jO (jN (jv2 2 3 ?_)))
 refine jS (jS (jR (jM ?_)))
 refine jc (jE1 Tryz.call30) (dB s w8 jo) ?_
 rintro e w9 ⟨rfl, hf9⟩
 refine ⟨_, rfl, ?_⟩
 have hX9 := hX8.frm hf9
 refine jc (jE1 Tryz.call73) (mX (qS s) w9) ?_
 rintro e wa ⟨hfa, Bm, dm, rfl, hRm, hm0, hm1, hdm⟩
 refine ⟨_, rfl, ?_⟩
 have hXa := hX9.frm hfa
 refine ja rfl (jO (jN (jv3 2 3 4 ?_)))
 refine jS (jR (jm rfl (je (Run.neqNilS rfl rfl zq) (jO (jN (jv4 2 3 4 28 ?_))))))
 refine VC.condB rfl (fun hc2 => ?_) (fun hc2 => ?_)
 ·
  have hmn : bS (qS s) ≠ [] := fun h0 => by
   obtain ⟨h1, h2⟩ := hm0 h0
   rw [h1] at hc2
   simp at hc2
  obtain ⟨gm, hgm, hbm⟩ := hm1 hmn
  subst hgm
  rw [if_neg hmn]
  obtain ⟨ml, hml⟩ : ∃ ml, ml = bS (qS s) := ⟨_, rfl⟩
  have hmat : ∀ k, k < ml.length → ml[k]? = bL[k]? ∧ k < 5 := by rw [hml]; exact fun k hk => sX _ hk
  have hmL : ml.length ≤ 5 := by rcases Nat.lt_or_ge 5 ml.length with h | h; exact absurd (hmat 5 h).2 jo; exact h
  rw [← hml] at hdm ⊢
  clear hRm hm0 hm1
  refine jS (jS (jR (jm rfl (jL rfl zq ?_))))
  refine jx .i64 0 ?_
  refine jO (jN (jv4 2 29 30 31 ?_))
  refine jB ?_
  refine VC.loop (σ := Nat × Array Value) (fun s => [(2, jI0 gf), (29, .slice (some ⟨gm, 0, none⟩) ml.length dm), (30, jI1 ml.length), (31, jI1 s.1)]) (fun s wr => s.1 ≤ ml.length ∧ Blk wr gm 9 (SB bL).toArray ∧ cV v0 w gf gb gp gc A n c tk csS Bs ds sp ((ml.take s.1).map fun m => (bR m).getD it0) wr (q + 2) s.2) (fun s => ml.length - s.1) (0, csS) (js4 rfl rfl rfl rfl) ⟨zan _, hbm, hXa⟩ ?_
  clear hXa hbm
  rintro ⟨k, cs1⟩ wr ⟨hk, hbm, hXk⟩
  dsimp only at hk hXk ⊢
  obtain ⟨I, d, rs, x1, x2, x3, x4, x5, x6, x7, x8, x9, x10⟩ := hXk
  have hrl : rs.length ≤ 5 := by have := congrArg List.length x1; simp at this; omega
  refine jS (jR (jb rfl rfl (Bin.lssN _ _) (jO (jN (jS ?_)))))
  refine jD rfl (fun hc3 => ?_) fun hc3 => ?_
  ·
   have hk3 : k < ml.length := by simpa using hc3
   have hm5 := hmat k hk3
   obtain ⟨mk, hmk⟩ : ∃ mk, bL[k]? = some mk := ⟨_, zb (show k < bL.length from hm5.2)⟩
   have hmem : mk ∈ bL := zbb hmk
   obtain ⟨xk, hxk⟩ := pY mk hmem
   refine jQ (jN (jv4 2 29 30 31 ?_))
   refine jS (jB (jS (jR (je (Run.index1 _ rfl rfl zq zd jo) (jl rfl zg (v := encStr mk) (hbm.cells k _ (by simp [SB, hmk])) (ja rfl (jO (jN (jv5 2 6 29 30 31 ?_)))))))))
   refine jR (jl rfl Tryz.isAgg117 (x6.cell 0) (jM ?_))
   refine Ops.clp (qD.dyn rfl (evs.cons rfl evs.nil) Tryz.call70) (fM mk gb v0.heap.size d I rs gp gc A n c tk (q + 2) cs1 wr x5 x7 x2 x3 hA (hbase _ x9).size jo (rV mk hmem) (hv.frm0 (hbase _ x9)) (htb.frm (hbase _ x9))) rfl ?_
   rintro e wb he
   rw [hxk] at he
   obtain ⟨rfl, I3, d3, r, hr, g2, g5, kf, hu⟩ := he
   have hXb := cV.add x1 x2 x4 x5 x6 x7 x8 x9 x10 g2 g5 (kf.mono (fun y hy => by simp at hy; rcases hy with h | h <;> simp [h])) hu
   have hbm := hbm.frm kf (by simp; exact ⟨hbm.ne x5.k jd, x2.row.ne_blk hbm jd⟩)
   refine .inl ⟨_, rfl, ?_⟩
   refine jO ?_
   refine qW (jN ?_)
   refine jv4 2 29 30 31 ?_
   refine jR (jb rfl rfl (Bin.add_i64 _ 1 jo) (jm rfl (jO ?_)))
   refine jN ⟨(k + 1, cs1.setIfInBounds 9 (.slice I3 (rs.length + 1) d3)), (js4 rfl rfl rfl rfl), ?_, ?_⟩
   ·
    refine ⟨hk3, hbm, ?_⟩
    rw [zaq, List.map_append, hm5.1, hmk]
    rw [hr] at hXb
    show cV v0 w gf gb gp gc A n c tk csS Bs ds sp (_ ++ [(bR mk).getD it0]) wb (q + 2) _
    rw [hxk]
    exact hXb
   exact jq
  have hnk : ¬ k < ml.length := by simpa using hc3
  have hk3 : k = ml.length := by omega
  refine jX ?_
  refine qK (qK (qR ?_))
  refine jN ?_
  refine VC.sub [] .nil ?_
  refine jT ?_
  refine qZ (pP ?_)
  refine ⟨rfl, gf, gb, Bs, ds, cs1, ?_⟩
  rw [← hcsS]
  rw [hk3, zx (zab _)] at x1
  exact ⟨I, d, rs, x1, x2, x3, x4, x5, x6, x7, x8, x9, x10⟩
 have hmn : bS (qS s) = [] := by
  rcases hq : bS (qS s) with _ | ⟨a, r⟩
  · rfl
  obtain ⟨g, h1, _⟩ := hm1 (by rw [hq]; exact List.cons_ne_nil _ _)
  rw [h1] at hc2
  simp at hc2
 rw [if_pos hmn]
 obtain ⟨I, d, rs, x1, x2, x3, x4, x5, x6, x7, x8, x9, x10⟩ := hXa
 have hr0 : rs = [] := List.map_eq_nil_iff.1 x1
 refine jQ (jN (jv2 2 3 ?_))
 refine jR (jl rfl Tryz.isAgg117 (x6.cell 0) (jM ?_))
 refine Ops.clp (qD.dyn rfl (evs.cons rfl evs.nil) Tryz.call70) (fM s gb v0.heap.size d I rs gp gc A n c tk (q + 2) csS wa x5 x7 x2 x3 hA (hbase _ x9).size (by rw [hr0]; exact zan _) hsl (hv.frm0 (hbase _ x9)) (htb.frm (hbase _ x9))) rfl ?_
 rintro e wb he
 rcases hi : bR s with _ | x
 ·
  rw [hi] at he
  exact .inr ⟨_, he.1, qL ⟨rfl, x9.trans he.2 jp⟩⟩
 rw [hi] at he
 obtain ⟨rfl, I3, d3, r, hr, g2, g5, kf, hu⟩ := he
 have hXb := cV.add x1 x2 x4 x5 x6 x7 x8 x9 x10 g2 g5 (kf.mono (fun y hy => by simp at hy; rcases hy with h | h <;> simp [h])) hu
 refine .inl ⟨_, rfl, ?_⟩
 refine jO ?_
 refine dW ?_
 refine ⟨rfl, gf, gb, Bs, ds, csS.setIfInBounds 9 (.slice I3 (rs.length + 1) d3), ?_⟩
 rw [← hcsS]
 rw [hr] at hXb
 exact hXb
def cM (tag : Tx) : Array Value := #[encStr tag, encStr [], .bool false, encStr [], encStr [], .slice none 0 0, .int .i64 0, .bool false, .slice none 0 0, .slice none 0 0, .int .i64 0, encStr [], encStr [], .int .i64 0, .slice none 0 0, .slice none 0 0, .int .i64 0, .int .i64 0, .bool false, .slice none 0 0]
theorem fN (tag : Tx) : ∀ u ∈ (cM tag).toList, u.oneCell' = true := by
 intro u hu
 simp only [cM, zah, zbd, or_false] at hu
 rcases hu with rfl | rfl | rfl | rfl | rfl | rfl | rfl | rfl | rfl | rfl | rfl | rfl | rfl | rfl | rfl | rfl | rfl | rfl | rfl | rfl <;> rfl
theorem eZ (g1 g2 g3 : Nat) (A : Option Addr) (n c : Nat) (tk : List Tk) (cs : Array Value) (v3 : Value) (w : World) (hT : Blk w g1 23 #[.slice A n c]) (hO : Blk w g2 34 cs) (hsz : cs.size = 20) (h3 : Blk w g3 35 #[v3]) (hR : RdT w A n tk) (hn : 0 < n) :
  CallsD Tryz.prog 17 #[jI0 g1, jI0 g2, jI0 g3] (.panicking cI) w fun e u w' => (∃ v, e = .returned v) ∧ settle u = .returning ∧ Blk w' g2 34 (cM (tk.getD 0 tk0).2) ∧ Blk w' g3 35 #[.int .i64 20] ∧ Frm [g2, g3] w w' := by
 obtain ⟨ad, hA, hel⟩ := hR.cell hn
 subst hA
 have hne : g2 ≠ g3 := hO.ne h3 jd
 refine VC.recovered (nt := 12) (res := #[]) (u' := .panicking [{ v := .iface 89 (.agg #[]), recovered := true }]) (v := .iface 89 (.agg #[])) Tryz.func17 rfl Tryz.ntmps17 Tryz.results17 rfl (.inl ⟨[], rfl, rfl⟩) rfl rfl rfl rfl rfl rfl rfl rfl ?_
 refine jS (jR (jm rfl (je (Run.neqNilI rfl rfl zbc rfl) (jO (jN (jv4 0 1 2 6 ?_))))))
 refine VC.condT rfl (rfl) ?_
 refine jR (jl rfl zbf (hT.cell 0) (je (Run.indexS 0 rfl rfl zw zs jo) (jf rfl zap rfl zd (jl rfl zg (hel _ (Frm.refl _ _) 1 _ rfl) (je (Run.build (evs.cons rfl evs.nil) eY (dN).choose_spec.1 (dN).choose_spec.2 (cells := cM (tk.getD 0 tk0).2) rfl) ?_)))))
 refine Ops.st (qQ.storeA rfl rfl zat hO hsz.symm (fN _)) ?_
 rintro w1 ⟨hb1, hf1, hs1⟩
 refine Ops.st (qQ.store (i := 0) (v := .int .i64 20) rfl rfl Tryz.sizeOf35 (h3.frm hf1 (by simp; omega)) rfl rfl) ?_
 rintro w2 ⟨hb2, hf2, hs2⟩
 refine jO ?_
 refine dW ?_
 exact ⟨⟨_, rfl⟩, rfl, hb1.frm hf2 (by simp; omega), hb2, (hf1.mono (T := [g2, g3]) jp).trans hf2 (fun x hx => .inl (by simp at hx; simp [hx]))⟩
theorem nE (g1 g2 g3 : Nat) (w : World) :
  CallsD Tryz.prog 17 #[jI0 g1, jI0 g2, jI0 g3] .returning w fun e u w' => (∃ v, e = .returned v) ∧ settle u = .returning ∧ w' = w := by
 refine VC.recovered (nt := 12) (res := #[]) (u' := .returning) (v := .nilIface) Tryz.func17 rfl Tryz.ntmps17 Tryz.results17 rfl (.inr ⟨rfl, rfl, rfl⟩) rfl rfl rfl rfl rfl rfl rfl rfl ?_
 refine jS (jR (jm rfl (je (Run.neqNil2 rfl zbc rfl) (jO (jN (jv4 0 1 2 6 ?_))))))
 refine VC.condF rfl (rfl) ?_
 refine jQ ?_
 refine dW ?_
 exact ⟨⟨_, rfl⟩, rfl, rfl⟩
end
section
open Go.RowKit
open Go.Maps (Keyed)
section
variable {P : Program} {k : TypeId} {κ : Type} {enc : κ → Value} {w : World} {g : Nat} {M : κ → Option Value} {Γ : Env} {dst : Option Tmp} {T : TypeId} {pos : String} {after : Array Edge} {gd : Option (Nat × Bool)}
theorem pG {t e : TypeId} {z : Value} {x : κ} {kl : Lit} (h : MpF P k enc w g M) (K : Keyed P k) (ht : P.underlying t = some (.map k e)) (hz : (zeroValue e).run P w = .ok z w) (hkey : keyOf P k (enc x) = some kl) :
  (Instr.lookup t (.map (some g)) (enc x) true).run P w = .ok (.tuple #[(M x).getD z, .bool (M x).isSome]) w := by
 obtain ⟨es, clock, hb, h2, h3, h4⟩ := h
 rcases K.find w hkey es (fun e he => (h2 e he).1) with ⟨h5, h6⟩ | ⟨j, e0, h5, h6, h7⟩
 ·
  have hM : M x = none := by
   cases hm : M x with
   | none => rfl
   | some v =>
    obtain ⟨e1, he1, he2, _⟩ := (h4 x v).1 hm
    exact absurd he2 (h6 e1 he1)
  rw [hM]
  simp [Instr.lookup, run_underlying ht, MapKept.run_getObj_map hb, K.check w _ hkey, h5, hz, Result.andThen]
 have hM : M x = some e0.val := (h4 x e0.val).2 ⟨e0, zbb h6, h7, rfl⟩
 rw [hM]
 simp [Instr.lookup, run_underlying ht, MapKept.run_getObj_map hb, K.check w _ hkey, h5, hz, Result.andThen]
theorem Run.lookup2 {t e : TypeId} {a b : Operand} {z : Value} {x : κ} {kl : Lit} (ha : ev? Γ a = some (.map (some g))) (hb : ev? Γ b = some (enc x)) (h : MpF P k enc w g M) (K : Keyed P k) (ht : P.underlying t = some (.map k e)) (hz : ∀ w, (zeroValue e).run P w = .ok z w) (hkey : keyOf P k (enc x) = some kl) :
  Run P ⟨dst, .lookup t a b true, T, pos, after, gd⟩ Γ w (.tuple #[(M x).getD z, .bool (M x).isSome]) := fun ρ hρ => by
 simp [execOp, hρ _ _ ha, hρ _ _ hb, pG h K ht (hz w) hkey]
end
end
section
open Go.RowKit
def dD (ts : List Tmp) (a a' : Act) : Prop := ∀ t ∈ ts, a'.tmps.getD t undef = a.tmps.getD t undef
theorem dD.put {ts : List Tmp} {a0 a : Act} {d : Option Tmp} {v : Value} (h : dD ts a0 a) (hd : ∀ t ∈ ts, d ≠ some t) : dD ts a0 (a.put d v) := fun t ht => by
 rw [← h t ht]
 cases d with
 | none => rfl
 | some k =>
  have hk : k ≠ t := fun e => hd t ht (by rw [e])
  simp [Act.put, zv, hk]
section
variable {P : Program} {ops : Array Oper} {Q : Exit → Act → World → Prop} {S : World → Prop} {L : Nat} {ts : List Tmp} {a0 : Act}
theorem rW {o : Oper} {a : Act} {w : World} {K : Act → World → Prop} (hd : ∀ t ∈ ts, o.dst ≠ some t) (ha : dD ts a0 a) (hh : o.wp P a w K Q) :
  o.wp P a w (fun a' w' => K a' w' ∧ dD ts a0 a') (fun e a' w' => Q e a' w' ∧ ∀ ch, e = .panic ch → dD ts a0 a') := by
 unfold Oper.wp at *
 generalize (execOp a.eval o).run P w = r at *
 cases r with
 | ok n w' =>
  cases n <;> simp only [Oper.upon] at hh ⊢
  case value => exact ⟨hh, ha.put hd⟩
  case skip => exact ⟨hh, ha.put hd⟩
  case defer => exact ⟨hh, dD.put (a := { a with defers := _ }) ha hd⟩
  case enter => exact Calls.mono hh (fun e w'' he => by
   cases e with
   | returned v => exact ⟨he, ha.put hd⟩
   | panicked ch => exact ⟨he, fun _ _ => ha⟩
   | outgrown => obtain ⟨a1, w1, h1⟩ := he; exact ⟨a1, w1, h1, fun ch h => by cases h⟩)
  case row => exact Rows.mono hh (fun _ _ he => ⟨he, ha.put hd⟩)
 | halt x w' => cases x <;> simp only [Oper.upon] at hh ⊢ <;> first | exact hh | exact ⟨hh, fun _ _ => ha⟩
theorem dH (hops : ∀ (i : Nat) (o : Oper), ops[i]? = some o → ∀ t ∈ ts, o.dst ≠ some t) : ∀ (f : Nat) (listed : Array Bool) (a : Act) (w : World), dD ts a0 a → bC P ops Q S L f listed a w →
  bC P ops (fun e a' w' => Q e a' w' ∧ ∀ ch, e = .panic ch → dD ts a0 a') S L f listed a w
 | 0, _, _, _, _, h => ⟨h.1, h.2, fun ch h => by cases h⟩
 | f + 1, listed, a, w, ha, h => ⟨fun hr => ⟨h.1 hr, fun ch h => by cases h⟩, fun i hi => by
   have h2 := h.2 i hi
   unfold wpOp at h2 ⊢
   cases ho : ops[i]? with
   | none => rw [ho] at h2; exact ⟨h2.1, dH hops f _ a w ha h2.2⟩
   | some o =>
    rw [ho] at h2
    dsimp only at h2 ⊢
    split
    ·
     rename_i hw
     rw [if_pos hw] at h2
     rcases h2 with h2 | ⟨h2, a1, w1, h3⟩
     · exact .inl (Oper.wp_mono (fun a' w' h4 => ⟨h4.1.1, dH hops f _ a' w' h4.2 h4.1.2⟩) (rW (hops i o ho) ha h2))
     exact .inr ⟨h2, a1, w1, h3, fun ch h => by cases h⟩
    rename_i hw
    rw [if_neg hw] at h2
    exact ⟨h2.1, dH hops f _ _ w (ha.put (hops i o ho)) h2.2⟩⟩
end
section
variable {P : Program} {n : NF} {Γ : Env} {w : World} {Q : Exit → Env → World → Prop}
theorem mP {t : Nat} {v : Value} : ∀ {Γ : Env}, get? Γ t = some v → t ∈ Γ.map (·.1)
 | [], h => by cases h
 | (k, u) :: r, h => by
  unfold get? at h
  cases hb : Nat.beq k t with
  | true => rw [zax hb]; simp
  | false => rw [hb] at h; exact List.mem_cons_of_mem _ (mP h)
def sF (Γ0 : Env) (l : List Oper) : Bool := l.all fun o => match o.dst with | none => true | some d => Γ0.all fun b => ! Nat.beq b.1 d
theorem VC.heldK {id : Nat} {l : List Oper} (Γ0 : Env) (L : Nat) (S : World → Prop) (hm : P.follows .mixedOrders = true) (hsub : Sub Γ Γ0) (hsp : sF Γ0 l = true)
  (h : qJ P n l.toArray S (fun ch w' => Q (.panic ch) Γ0 w') L l.toArray.size (Array.replicate l.toArray.size false) Γ w.drew (fun Γ' w' => Q .normal Γ' w')) (hnd : n.ro = none ∨ cZ l.toArray = true := by first | exact .inl rfl | exact .inr jK) : VC P n (.region id l.toArray true) Γ w Q := by
 intro a hs m
 have hk := dH (a0 := a) (ts := Γ0.map (·.1)) (fun i o ho t ht hd => by
  have h1 := List.all_eq_true.1 hsp o (zbb (by simpa using ho))
  rw [hd] at h1
  obtain ⟨b, hb, rfl⟩ := List.mem_map.1 ht
  have h2 := List.all_eq_true.1 h1 b hb
  simp at h2) _ _ _ _ (fun _ _ => rfl) (h a hs)
 refine wpIn_mono (Q := fun e a' w' => fX n (fun Γ' w' => Q .normal Γ' w') (fun ch w' => Q (.panic ch) Γ0 w') e a' w' ∧ ∀ ch, e = .panic ch → dD (Γ0.map (·.1)) a a') (wpIn_region_any hm (eL hnd (fun ⟨_, _, h⟩ => h.1) _ _ _ _ (fQ _ _ _ _ hk))) ?_
 intro e a' w hq
 cases e with
 | normal => exact hq.1
 | panic ch =>
  refine ⟨Γ0, ⟨hq.1.1.1, hq.1.1.2, fun t v hg => ?_⟩, hq.1.2⟩
  have hmem := mP hg
  rw [hq.2 ch rfl t hmem]
  exact hs.at_ t v (hsub.get t v hg)
 | _ => exact hq.1.elim
end
def gP (tag nm : Tx) : Array Value := (cM tag).setIfInBounds 1 (encStr nm)
def nF (tag nm : Tx) : Array Value := (gP tag nm).setIfInBounds 2 (.bool true)
def hZ (tk : List Tk) : Tx := if 0 < tk.length ∧ (tk.getD 0 tk0).1 = 0 then (tk.getD 0 tk0).2 else []
def cB (tk : List Tk) (D : Tx → Option Nat) : Option Unit := if 0 < tk.length ∧ (tk.getD 0 tk0).1 = 0 then (qO tk 1 [0]).bind fun s => if (eS (qS s)).isSome then (D (qS s)).bind fun q => if q = tk.length then some () else none else none else none
def jI (w : World) (A : Option Addr) (n c : Nat) (tk : List Tk) (q0 : Nat) (C : Tx → Array Value) (D : Tx → Option Nat) (Y : World → Array Value → Prop) (nm : Tx) (f : Nat) : Prop :=
 ∀ W gp gc cs, IsCp W gp gc A n c tk q0 cs → cs = C nm → Frm [] w W → w.heap.size ≤ gp → w.heap.size ≤ gc → Calls Tryz.prog f #[jI0 gp] W fun e w' => match D nm with
  | none => e = .panicked cI ∧ Frm [gp, gc] W w'
  | some q2 => e = .returned (.tuple #[]) ∧ ∃ cs2, IsCp w' gp gc A n c tk q2 cs2 ∧ Frm [gp, gc] W w' ∧ Y w' cs2 ∧ ∀ u ∈ cs2.toList, u.oneCell' = true
theorem pH (w : World) : (zeroValue 66).run Tryz.prog w = .ok (.nilFunc) w := by
 simp only [zeroValue, Sem.run_bind, Tryz.typeInfo66, Result.andThen_ok]; rfl
theorem gZ {Γ : Env} {w : World} {R : Ending → World → Prop} {g2 g3 : Nat} {cs : Array Value} {v3 : Value} (e2 : get? Γ 2 = some (jI0 g2)) (e3 : get? Γ 3 = some (jI0 g3)) (h2 : Blk w g2 34 cs) (h3 : Blk w g3 35 #[v3]) (hs : cs.size = 20)
  (k : R (.returned (.tuple #[.agg cs, v3])) w) : cQ Tryz.prog #[.cell 2 34, .cell 3 35] R .ret Γ w :=
 bE (qF e2 Tryz.isAgg34 zat h2.cells hs (cA e3 Tryz.isAgg35 (h3.cell 0) (bJ k)))
theorem eE (A : Option Addr) (n c : Nat) (tk : List Tk) (D : Tx → Option Nat) (Y : World → Array Value → Prop) (w : World) (hR : RdT w A n tk) (hn : n ≤ 100000) (hl : ∀ x ∈ tk, x.2.length ≤ 1000000) (hYf : ∀ W W' g t csx cs, Y W cs → Blk W g t csx → (t = 34 ∨ t = 35) → Frm [g] W W' → Y W' cs)
  (hD : ∀ s, qO tk 1 [0] = some s → ∀ fv, eS (qS s) = some fv → ∃ f, fv = .func (.func f) ([] : List Value).toArray ([] : List Value).toArray ∧ (∀ args w, (callFunc f args).run Tryz.prog w = .ok (.enter f args) w) ∧ jI w A n c tk 2 (gP (hZ tk)) D Y (qS s) f) :
  Calls Tryz.prog 10 #[.slice A n c] w fun e w' => Frm [] w w' ∧ ∃ cs' code, e = .returned (.tuple #[.agg cs', .int .i64 code]) ∧ match cB tk D with
   | none => cs' = cM (hZ tk) ∧ code = 20
   | some _ => code = 0 ∧ cs'.size = 20 ∧ Y w' cs' := by
 refine LW.calls (nt := 67) Tryz.func10 rfl Tryz.ntmps10 rfl ?_
 refine LW.seq ?_
 refine jR ?_
 refine Ops.m (qV.box rfl) rfl ?_
 rintro _ w1 ⟨rfl, hF1⟩
 obtain ⟨g1, hg1⟩ : ∃ g, g = w.heap.size := ⟨_, rfl⟩
 have hb1 := hF1.blk
 have s1 := hF1.size
 rw [← hg1] at hb1 ⊢
 refine Ops.m (qV.alloc eY) rfl ?_
 rintro _ w2 ⟨rfl, hF2⟩
 obtain ⟨g2, hg2⟩ : ∃ g, g = w1.heap.size := ⟨_, rfl⟩
 have hb2 := hF2.blk
 have s2 := hF2.size
 rw [← hg2] at hb2 ⊢
 refine Ops.m (qV.alloc oW) rfl ?_
 rintro _ w3 ⟨rfl, hF3⟩
 obtain ⟨g3, hg3⟩ : ∃ g, g = w2.heap.size := ⟨_, rfl⟩
 have hb3 := hF3.blk
 have s3 := hF3.size
 rw [← hg3] at hb3 ⊢
 have K3 : Frm [] w w3 := (hF1.frm.trans hF2.frm jp).trans hF3.frm jp
 have hb1 : Blk w3 g1 23 #[.slice A n c] := (hb1.frm hF2.frm jp).frm hF3.frm jp
 have hb2 : Blk w3 g2 34 (cM []) := hb2.frm hF3.frm jp
 have hR3 := hR.frm K3 jp
 have hln := hR.len
 refine jO (jN ?_)
 refine LW.seq ?_
 refine jS ?_
 refine VC.split1 [(1, _), (2, _), (3, _)] (js3 rfl rfl rfl) 16 (.bool (decide (n = 0 ∨ (tk.getD 0 tk0).1 ≠ 0))) ?_ ?_
 ·
  refine jR (jl rfl zbf (hb1.cell 0) (jL rfl zw (jb rfl rfl (Bin.eqlN _ 0) ?_)))
  by_cases hs9 : n = 0
  ·
   refine jM ?_
   refine jU ?_
   refine jU ?_
   refine jU ?_
   refine jU ?_
   refine jU ?_
   refine jW rfl rfl au (jO ?_)
   refine jN ⟨(js4 (jC (by grind)) rfl rfl rfl), rfl⟩
  refine jM ?_
  refine jk (Run.load rfl zbf (hb1.cell 0)) ?_
  obtain ⟨ad, hA, hel⟩ := hR3.cell (k := 0) jo
  subst hA
  refine jk (Run.indexS 0 rfl rfl zw zs jo) ?_
  refine jk (Run.fieldAddr rfl zap rfl zc jd) ?_
  refine jk (Run.load rfl zk (hel _ (Frm.refl _ _) 0 _ rfl)) ?_
  refine jk (Run.bin rfl rfl (Bin.neq _ 0)) ?_
  by_cases hs15 : (tk.getD 0 tk0).1 ≠ 0
  ·
   refine jF rfl rfl au (jO ?_)
   refine jN ⟨(js4 (jC (by grind)) rfl rfl rfl), rfl⟩
  refine jF rfl rfl au (jO ?_)
  refine jN ⟨(js4 (jC (by grind)) rfl rfl rfl), rfl⟩
 intro Γ hΓ
 refine jN (VC.sub _ hΓ ?_)
 refine jD rfl (fun hc1 => ?_) fun hc1 => ?_
 ·
  have hbad : ¬ (0 < tk.length ∧ (tk.getD 0 tk0).1 = 0) := by rw [hln]; rintro ⟨h1, h2⟩; rcases hc1 with h | h; omega; exact h h2
  have hpm : cB tk D = none := by unfold cB; rw [if_neg hbad]
  have hpt : hZ tk = [] := if_neg hbad
  refine jS (jR (je (Run.build evs.nil eY (dN).choose_spec.1 (dN).choose_spec.2 (cells := cM []) rfl) ?_))
  refine Ops.st (qQ.storeA rfl rfl zat hb2 rfl (fN _)) ?_
  rintro w4 ⟨hb4, hf4, hs4⟩
  refine Ops.st (qQ.store (i := 0) (v := .int .i64 20) rfl rfl Tryz.sizeOf35 (hb3.frm hf4 (by simp; omega)) rfl rfl) ?_
  rintro w5 ⟨hb5, hf5, hs5⟩
  refine jO (jN (jv2 2 3 ?_))
  refine jT ?_
  refine qZ (pT zca ?_)
  refine bE ?_
  refine qF rfl Tryz.isAgg34 zat ((hb4.frm hf5 (by simp; omega)).cells) (by first | rfl | (simp; done) | (simp [*]; done)) ?_
  refine cA rfl Tryz.isAgg35 ((hb5.cell 0)) ?_
  refine bJ ?_
  refine ⟨(K3.own hf4 (by simp; omega)).own hf5 (by simp; omega), cM [], 20, rfl, ?_⟩
  rw [hpm, hpt]
  exact ⟨rfl, rfl⟩
 have hgood : 0 < tk.length ∧ (tk.getD 0 tk0).1 = 0 := by rw [hln]; exact ⟨jo, by rcases Decidable.em ((tk.getD 0 tk0).1 = 0) with h | h; exact h; exact absurd (.inr h) hc1⟩
 have hn0 : 0 < n := jo
 have hpt : hZ tk = (tk.getD 0 tk0).2 := if_pos hgood
 obtain ⟨ad, hA, hel⟩ := hR3.cell (k := 0) hn0
 have hR3' := hR3
 subst hA
 refine jQ (jN ?_)
 refine LW.dfr (us := [_, _, _]) (Run.mkFunc evs.nil (evs.cons rfl (evs.cons rfl (evs.cons rfl evs.nil)))) rfl rfl rfl rfl rfl rfl rfl ?_
 refine LW.vc ?_
 refine jS ?_
 refine VC.held (fun V => Frm [] w3 V) jK ?_
 have hS : Frm [] w3 w3.drew := (qI.drew w3).frm
 refine jH 0 rfl hS (fun w0 hw0 => Run.load rfl zbf ((hb1.frm hw0 jp).cell 0)) ?_
 refine jH 1 rfl hS (fun w0 hw0 => Run.load rfl zbf ((hb1.frm hw0 jp).cell 0)) ?_
 refine jH 2 rfl hS (fun w0 hw0 => Run.indexS 0 rfl rfl zw zs jo) ?_
 refine jH 3 rfl hS (fun w0 hw0 => Run.fieldAddr rfl zap rfl zd jd) ?_
 refine jH 4 rfl hS (fun w0 hw0 => Run.load rfl zg (hel _ hw0 1 _ rfl)) ?_
 refine jH 5 rfl hS (fun w0 hw0 => Run.build (evs.cons rfl evs.nil) eY (dN).choose_spec.1 (dN).choose_spec.2 (cells := cM (tk.getD 0 tk0).2) rfl) ?_
 refine qJ.m 6 rfl jK (qV.box rfl) trivial rfl rfl ?_
 rintro _ w4 ⟨rfl, hF4⟩
 obtain ⟨gc, hgc⟩ : ∃ g, g = w3.drew.heap.size := ⟨_, rfl⟩
 have hbc := hF4.blk
 rw [← hgc] at hbc ⊢
 have hS : Frm [] w3 w4 := Frm.trans hS hF4.frm jp
 have s4 := hF4.size
 refine ⟨hS, ?_⟩
 refine jH 7 rfl hS (fun w0 hw0 => Run.build (evs.cons rfl (evs.cons rfl (evs.cons rfl evs.nil))) sH (kL).choose_spec.1 (kL).choose_spec.2 (cells := #[.slice (some ad) n c, jI1 1, jI0 gc]) rfl) ?_
 refine qJ.m 8 rfl jK (qV.box rfl) trivial rfl rfl ?_
 rintro _ w5 ⟨rfl, hF5⟩
 obtain ⟨gp, hgp⟩ : ∃ g, g = w4.heap.size := ⟨_, rfl⟩
 have hbp := hF5.blk
 rw [← hgp] at hbp ⊢
 have hbc := hbc.frm hF5.frm jp
 have K5 : Frm [] w3 w5 := Frm.trans hS hF5.frm jp
 have s3d := (qI.drew w3).frm.size
 have hP5 : IsCp w5 gp gc (some ad) n c tk 1 (cM (tk.getD 0 tk0).2) := ⟨hbp, hbc, rfl, hR3'.frm K5 jp, jo, hn, fun h0 x hx => by have := hR.rd.lt h0 x hx; omega⟩
 have hS : Frm [] w3 w5 := K5
 refine ⟨hS, ?_⟩
 refine jH 9 rfl hS (fun w0 hw0 => Run.asg rfl) ?_
 refine qJ.done jK ?_
 refine jN (jv4 1 2 3 4 ?_)
 refine jS ?_
 refine VC.heldK [(2, _), (3, _)] 8 (fun V => V.cell? ⟨gp, 2, none⟩ = some (jI0 gc)) jK (js2 rfl rfl) jK ?_
 have hd := (qI.drew w5).frm
 have hPd := hP5.frm hd
 have hS : (fun V : World => V.cell? ⟨gp, 2, none⟩ = some (jI0 gc)) w5.drew := hPd.p.cell 2
 have hR1 : g1 < g2 ∧ g2 < g3 ∧ g3 < gc ∧ gc < gp ∧ w.heap.size ≤ g1 := by have := (qI.drew w3).frm.size; omega
 have K05 : Frm [] w w5 := K3.trans K5 jp
 have hb1 := hb1.frm K5 jp
 have hb2 := hb2.frm K5 jp
 have hb3 := hb3.frm K5 jp
 refine jh 0 hS ?_
 refine jH 1 rfl hS (fun w0 hw0 => Run.nilck rfl) ?_
 refine jH 2 rfl hS (fun w0 hw0 => Run.fieldAddr rfl zi rfl zag jd) ?_
 refine jH 3 rfl hS (fun w0 hw0 => Run.load rfl zas hw0) ?_
 refine qJ.r1 4 rfl jK hS (Run.mv rfl) trivial rfl rfl ?_
 refine qJ.clp 5 rfl jK (jE1 Tryz.call18) (gC gp gc (some ad) n c tk 1 _ _ hPd hl) trivial rfl rfl ?_
 rintro e w6 ⟨hf6, he⟩
 have k56 : Frm [gp] w5 w6 := (hd.mono jp).trans hf6 (fun x hx => .inl hx)
 have K06 : Frm [] w w6 := K05.own k56 (by simp; omega)
 have hb1 : Blk w6 g1 23 _ := hb1.frm k56 (by simp; omega)
 have hb2 := hb2.frm k56 (by simp; omega)
 have hb3 := hb3.frm k56 (by simp; omega)
 rcases hT : qO tk 1 [0] with _ | s
 ·
  rw [hT] at he
  have hpm : cB tk D = none := by unfold cB; rw [if_pos hgood, hT]; rfl
  refine .inr ⟨_, he, qT (fK zca Tryz.call17 ?_)⟩
  refine (eZ g1 g2 g3 (some ad) n c tk (cM []) _ w6 hb1 hb2 rfl hb3 (hR.frm K06 jp) hn0).mono ?_
  rintro e u w7 ⟨hv, hu2, hb2, hb3, hf7⟩
  exact ⟨hv, hu2, gZ (by rfl) (by rfl) hb2 hb3 rfl ⟨K06.own hf7 (by simp; omega), _, _, rfl, by rw [hpm, hpt]; exact ⟨rfl, rfl⟩⟩⟩
 rw [hT] at he
 obtain ⟨rfl, hP6⟩ := he
 have hS : (fun V : World => V.cell? ⟨gp, 2, none⟩ = some (jI0 gc)) w6 := hP6.p.cell 2
 refine .inl ⟨_, rfl, hS, ?_⟩
 refine qJ.r1 6 rfl jK hS (Run.nilck rfl) trivial rfl rfl ?_
 refine qJ.r1 7 rfl jK hS (Run.fieldAddr rfl zo rfl zd jd) trivial rfl rfl ?_
 refine qJ.stL rfl jK (qQ.store (i := 1) rfl rfl zd hP6.k (by rw [hP6.sz]; rfl) rfl) trivial rfl ?_
 rintro w7 ⟨hb7, hf7, hs7⟩
 have hf7 : Frm [gc] w6 w7 := hf7
 have hP7 := hP6.turn hb7 (by rw [Array.size_setIfInBounds]; exact hP6.sz) hf7
 have K07 : Frm [] w w7 := K06.own hf7 (by simp; omega)
 have hb1 := hb1.frm hf7 (by simp; omega)
 have hb2 := hb2.frm hf7 (by simp; omega)
 have hb3 := hb3.frm hf7 (by simp; omega)
 refine qJ.done jK ?_
 refine jN (jv4 1 2 3 4 ?_)
 refine jS ?_
 refine VC.held (fun V => V.cell? ⟨gp, 2, none⟩ = some (jI0 gc) ∧ V.cell? ⟨gc, 1, none⟩ = some (encStr (qS s))) jK ?_
 have hd := (qI.drew w7).frm
 have hPd := hP7.frm hd
 have mkS : ∀ W, IsCp W gp gc (some ad) n c tk 2 ((cM (tk.getD 0 tk0).2).setIfInBounds 1 (encStr (qS s))) → (fun V : World => V.cell? ⟨gp, 2, none⟩ = some (jI0 gc) ∧ V.cell? ⟨gc, 1, none⟩ = some (encStr (qS s))) W := fun W h => ⟨h.p.cell 2, h.k.cells 1 _ rfl⟩
 have hS := mkS _ hPd
 refine jh 1 hS ?_
 refine jH 2 rfl hS (fun w0 hw0 => Run.nilck rfl) ?_
 refine jH 3 rfl hS (fun w0 hw0 => Run.fieldAddr rfl zi rfl zag jd) ?_
 refine jH 4 rfl hS (fun w0 hw0 => Run.load rfl zas hw0.1) ?_
 refine jH 5 rfl hS (fun w0 hw0 => Run.nilck rfl) ?_
 refine jH 6 rfl hS (fun w0 hw0 => Run.fieldAddr rfl zo rfl zd jd) ?_
 refine jH 7 rfl hS (fun w0 hw0 => Run.load rfl zg hw0.2) ?_
 refine qJ.cl 0 rfl jK (jE0 Tryz.call19) (lF _) trivial rfl rfl ?_
 rintro e w8 ⟨hf8, m, rfl, hm8, hmp⟩
 have hP8 := hPd.frm hf8
 have hS := mkS _ hP8
 refine ⟨_, rfl, hS, ?_⟩
 have K08 : Frm [] w w8 := (K07.trans hd jp).trans hf8 jp
 have k78 : Frm [] w7 w8 := hd.trans hf8 jp
 have hb1 := hb1.frm k78 jp
 have hb2 := hb2.frm k78 jp
 have hb3 := hb3.frm k78 jp
 have hsl := eJ hT hl
 obtain ⟨ov, hov⟩ : ∃ ov, eS (qS s) = ov := ⟨_, rfl⟩
 refine qJ.r1 8 rfl jK hS (Run.lookup2 (enc := encStr) (x := qS s) rfl rfl hmp (Go.Maps.string_keyed za) zp pH (bH _ (by rw [cL]; omega))) trivial rfl rfl ?_
 rw [hov]
 refine jh 9 hS ?_
 refine jH 10 rfl hS (fun w0 hw0 => Run.extract rfl rfl) ?_
 refine jH 11 rfl hS (fun w0 hw0 => Run.extract rfl rfl) ?_
 refine jH 12 rfl hS (fun w0 hw0 => Run.asg rfl) ?_
 refine jH 13 rfl hS (fun w0 hw0 => Run.asg rfl) ?_
 refine qJ.done jK ?_
 refine jN (jv6 1 2 3 4 5 6 ?_)
 refine jS (jR (jM ?_))
 refine Ops.clp (jE1 zar) (bY ov.isSome w8) rfl ?_
 rintro e _ ⟨rfl, he⟩
 rcases ov with _ | fv
 ·
  have hpm : cB tk D = none := by unfold cB; rw [if_pos hgood, hT]; simp [hov]
  refine .inr ⟨_, he, qT (fK zca Tryz.call17 ?_)⟩
  refine (eZ g1 g2 g3 (some ad) n c tk (cM []) _ w8 hb1 hb2 rfl hb3 (hR.frm K08 jp) hn0).mono ?_
  rintro e u wx ⟨hv, hu2, hb2, hb3, hfx⟩
  exact ⟨hv, hu2, gZ (by rfl) (by rfl) hb2 hb3 rfl ⟨K08.own hfx (by simp; omega), _, _, rfl, by rw [hpm, hpt]; exact ⟨rfl, rfl⟩⟩⟩
 refine .inl ⟨_, he, ?_⟩
 obtain ⟨f, rfl, hent, hdeed⟩ := hD s hT _ hov
 refine jO (jN (jv5 1 2 3 4 5 ?_))
 refine jS (jR (jm rfl (jM ?_)))
 refine Ops.clp (qD.dyn rfl (evs.cons rfl evs.nil) hent) (hdeed w8 gp gc _ hP8 (by rw [hpt]; rfl) K08 jo jo) rfl ?_
 rintro e w9 he
 obtain ⟨G, hG⟩ : ∃ G, D (qS s) = G := ⟨_, rfl⟩
 rw [hG] at he
 rcases G with _ | q2
 ·
  have hpm : cB tk D = none := by unfold cB; rw [if_pos hgood, hT]; simp [hov, hG]
  have hf9 := he.2
  have hb1 := hb1.frm hf9 (by simp; omega)
  have hb2 := hb2.frm hf9 (by simp; omega)
  have hb3 := hb3.frm hf9 (by simp; omega)
  have K09 : Frm [] w w9 := K08.own hf9 (by simp; omega)
  refine .inr ⟨_, he.1, qT (fK zca Tryz.call17 ?_)⟩
  refine (eZ g1 g2 g3 (some ad) n c tk (cM []) _ w9 hb1 hb2 rfl hb3 (hR.frm K09 jp) hn0).mono ?_
  rintro e u wx ⟨hv, hu2, hb2, hb3, hfx⟩
  exact ⟨hv, hu2, gZ (by rfl) (by rfl) hb2 hb3 rfl ⟨K09.own hfx (by simp; omega), _, _, rfl, by rw [hpm, hpt]; exact ⟨rfl, rfl⟩⟩⟩
 obtain ⟨rfl, cs2, hP9, hf9, hY9, hone⟩ := he
 have hb1 := hb1.frm hf9 (by simp; omega)
 have hb2 := hb2.frm hf9 (by simp; omega)
 have hb3 := hb3.frm hf9 (by simp; omega)
 have K09 : Frm [] w w9 := K08.own hf9 (by simp; omega)
 refine .inl ⟨_, rfl, ?_⟩
 refine jO (jN (jv4 1 2 3 4 ?_))
 refine jS ?_
 refine VC.tail 7 jK jK ?_
 simp only [List.take_succ_cons, List.take_zero, List.drop_succ_cons, List.drop_zero]
 refine qM ?_
 refine qE (Run.nilck rfl) ?_
 refine qE (Run.fieldAddr rfl zi rfl zc jd) ?_
 refine qE (Run.load rfl zk (hP9.p.cell 1)) ?_
 refine qE (Run.load rfl zbf (hb1.cell 0)) ?_
 refine qE (Run.lenS rfl zw) ?_
 refine qE (Run.bin rfl rfl (Bin.eqlN _ _)) ?_
 refine qC.nil ?_
 refine Ops.clp (jE1 zar) (bY (decide (q2 = n)) _) rfl ?_
 rintro e wa ⟨hwa, he⟩
 have hda : Frm [] w9 wa := by subst hwa; first | exact (qI.drew w9).frm | exact Frm.refl _ _
 have hb29 := hb2
 have hb1 := hb1.frm hda jp
 have hb2 := hb2.frm hda jp
 have hb3 := hb3.frm hda jp
 have K0a : Frm [] w wa := K09.trans hda jp
 by_cases hqn : q2 = n
 rotate_left
 ·
  rw [decide_eq_false hqn] at he
  have hpm : cB tk D = none := by unfold cB; rw [if_pos hgood, hT]; simp [hov, hG, hln, hqn]
  refine .inr ⟨_, he, qT (fK zca Tryz.call17 ?_)⟩
  refine (eZ g1 g2 g3 (some ad) n c tk (cM []) _ wa hb1 hb2 rfl hb3 (hR.frm K0a jp) hn0).mono ?_
  rintro e u wx ⟨hv, hu2, hb2, hb3, hfx⟩
  exact ⟨hv, hu2, gZ (by rfl) (by rfl) hb2 hb3 rfl ⟨K0a.own hfx (by simp; omega), _, _, rfl, by rw [hpm, hpt]; exact ⟨rfl, rfl⟩⟩⟩
 rw [decide_eq_true hqn] at he
 refine .inl ⟨_, he, ?_⟩
 have hpm : cB tk D = some () := by unfold cB; rw [if_pos hgood, hT]; simp [hov, hG, hln, hqn]
 have hPa := hP9.frm hda
 have hsza := hPa.sz
 refine jO (jN (jv3 2 3 4 ?_))
 refine jS (jR (jm rfl (jZ rfl (jf rfl zi rfl zag (jl rfl zas (hPa.p.cell 2) (jZ rfl (je (Run.loadA rfl Tryz.isAgg34 zat hPa.k.cells hPa.sz) ?_)))))))
 refine Ops.st (qQ.storeA rfl rfl (fun w => (zat w).trans (by simp [hsza])) hb2 (by simp [hsza]; rfl) (by simpa using hone)) ?_
 rintro wb ⟨hbb, hfb, hsb⟩
 refine Ops.st (qQ.store (i := 0) (v := .int .i64 0) rfl rfl Tryz.sizeOf35 (hb3.frm hfb (by simp; omega)) rfl rfl) ?_
 rintro wc ⟨hbc2, hfc, hsc⟩
 refine jO (jN (jv2 2 3 ?_))
 refine jT ?_
 refine pU zca Tryz.call17 ?_
 refine (nE g1 g2 g3 _).mono ?_
 rintro e u _ ⟨hv, hu2, rfl⟩
 refine ⟨hv, hu2, ?_⟩
 refine bE ?_
 refine qF rfl Tryz.isAgg34 zat ((hbb.frm hfc (by simp; omega)).cells) (by first | rfl | (simp; done) | (simp [*]; done)) ?_
 refine cA rfl Tryz.isAgg35 ((hbc2.cell 0)) ?_
 refine bJ ?_
 refine ⟨(K0a.own hfb (by simp; omega)).own hfc (by simp; omega), _, 0, rfl, ?_⟩
 rw [hpm]
 exact ⟨rfl, by simp [hsza], by simpa using hYf _ _ g3 _ _ cs2 (hYf _ _ g2 _ _ cs2 (hYf _ _ g2 _ _ cs2 hY9 hb29 (.inl rfl) (hda.mono jp)) hb2 (.inl rfl) hfb) (hb3.frm hfb (by simp; omega)) (.inr rfl) hfc⟩
def lN (y : Tx) : Option Value := if y = [69, 88, 80, 85, 78, 71, 69] then some (.func (.func 75) #[] #[]) else if y = [83, 69, 65, 82, 67, 72] then some (.func (.func 34) #[] #[]) else if y = [67, 79, 80, 89] then some (.func (.func 37) #[] #[]) else if y = [83, 84, 79, 82, 69] then some (.func (.func 36) #[] #[]) else if y = [70, 69, 84, 67, 72] then some (.func (.func 35) #[] #[]) else none
def fP (tk : List Tk) (D : Tx → Option Nat) : Option Nat := (qO tk 2 [0]).bind fun s => if (lN (qS s)).isSome then D (qS s) else none
theorem pM (A : Option Addr) (n c : Nat) (tk : List Tk) (tag : Tx) (D D' : Tx → Option Nat) (Y : World → Array Value → Prop) (w0 : World) (hl : ∀ x ∈ tk, x.2.length ≤ 1000000) (nm : Tx) (hnm : D' nm = fP tk D)
  (hA : 0 < n → ∀ x ∈ ob A, x < w0.heap.size) (hD : ∀ s, qO tk 2 [0] = some s → ∀ fv, lN (qS s) = some fv → ∃ f, fv = .func (.func f) ([] : List Value).toArray ([] : List Value).toArray ∧ (∀ args w, (callFunc f args).run Tryz.prog w = .ok (.enter f args) w) ∧ jI w0 A n c tk 3 (nF tag) D Y (qS s) f) :
  jI w0 A n c tk 2 (gP tag) D' Y nm 38 := by
 intro w gp gc cs hP hcs K0 hgp hgc
 rw [hnm]
 have hsz := K0.size
 have hcz : ∀ s : Tx, (cs.setIfInBounds 2 (.bool true)).setIfInBounds 1 (encStr s) = nF tag s := fun s => by rw [hcs]; rfl
 refine jV Tryz.func38 Tryz.ntmps38 Tryz.results38 ?_
 refine jS ?_
 refine VC.heldL 15 (fun V : World => V.cell? ⟨gp, 2, none⟩ = some (jI0 gc)) jK ?_
 have hd := (qI.drew w).frm
 have hPd := hP.frm hd
 have hS : (fun V : World => V.cell? ⟨gp, 2, none⟩ = some (jI0 gc)) w.drew := hPd.p.cell 2
 refine jh 0 hS ?_
 refine jH 1 rfl hS (fun w0 hw0 => Run.nilck rfl) ?_
 refine jH 2 rfl hS (fun w0 hw0 => Run.fieldAddr rfl zi rfl zag jd) ?_
 refine jH 3 rfl hS (fun w0 hw0 => Run.load rfl zas hw0) ?_
 refine jh 4 hS ?_
 refine jH 5 rfl hS (fun w0 hw0 => Run.nilck rfl) ?_
 refine jH 6 rfl hS (fun w0 hw0 => Run.fieldAddr rfl zi rfl zag jd) ?_
 refine jH 7 rfl hS (fun w0 hw0 => Run.load rfl zas hw0) ?_
 refine qJ.r1 8 rfl jK hS (Run.mv rfl) trivial rfl rfl ?_
 refine qJ.clp 9 rfl jK (jE1 Tryz.call18) (gC gp gc A n c tk 2 cs _ hPd hl) trivial rfl rfl ?_
 rintro e w1 ⟨hf1, he⟩
 rcases hT1 : qO tk 2 [0] with _ | s
 ·
  rw [hT1] at he
  exact .inr ⟨_, he, qT (qL (by rw [show fP tk D = none by simp [fP, hT1]]; exact ⟨rfl, (hd.mono jp).trans hf1 (fun x hx => .inl (by simp at hx; simp [hx]))⟩))⟩
 rw [hT1] at he
 obtain ⟨rfl, hP1⟩ := he
 have hS : (fun V : World => V.cell? ⟨gp, 2, none⟩ = some (jI0 gc)) w1 := hP1.p.cell 2
 refine .inl ⟨_, rfl, hS, ?_⟩
 refine qJ.r1 10 rfl jK hS (Run.nilck rfl) trivial rfl rfl ?_
 refine qJ.r1 11 rfl jK hS (Run.fieldAddr rfl zo rfl zj jd) trivial rfl rfl ?_
 refine qJ.st 12 rfl jK (qQ.store (i := 2) rfl rfl zj hP1.k (by rw [hP1.sz]; rfl) rfl) trivial rfl ?_
 rintro w2 ⟨hb2, hf2, hs2⟩
 have hP2 := hP1.turn hb2 (by simp [hP1.sz]) hf2
 have hS : (fun V : World => V.cell? ⟨gp, 2, none⟩ = some (jI0 gc)) w2 := hP2.p.cell 2
 refine ⟨hS, ?_⟩
 refine qJ.r1 13 rfl jK hS (Run.nilck rfl) trivial rfl rfl ?_
 refine qJ.r1 14 rfl jK hS (Run.fieldAddr rfl zo rfl zd jd) trivial rfl rfl ?_
 refine qJ.stL rfl jK (qQ.store (i := 1) rfl rfl zd hP2.k (by rw [hP2.sz]; rfl) rfl) trivial rfl ?_
 rintro w3 ⟨hb3, hf3, hs3⟩
 have hP3 := hP2.turn hb3 (by simp [hP1.sz]) hf3
 rw [hcz] at hP3
 have K3 : Frm [gp, gc] w w3 := (((hd.mono jp).trans hf1 (fun x hx => .inl (by simp at hx; simp [hx]))).trans hf2 (fun x hx => .inl (by simp at hx; simp [hx]))).trans hf3 (fun x hx => .inl (by simp at hx; simp [hx]))
 refine qJ.done jK ?_
 refine jN (jv1 0 ?_)
 refine jS (jR ?_)
 refine Ops.m (qV.makeMap (k := 9) (enc := encStr)) rfl ?_
 rintro _ v0 ⟨rfl, hm0, hf0, hs0⟩
 obtain ⟨m, hmm⟩ : ∃ m, m = w3.heap.size := ⟨_, rfl⟩
 rw [← hmm] at hm0 ⊢
 refine Ops.st (qQ.mapIns (x := [70, 69, 84, 67, 72]) rfl rfl rfl hm0 (Go.Maps.string_keyed za) bG zp (bH _ jd)) ?_
 rintro v1 ⟨hm1, hf1, hs1⟩
 refine Ops.st (qQ.mapIns (x := [83, 84, 79, 82, 69]) rfl rfl rfl hm1 (Go.Maps.string_keyed za) bG zp (bH _ jd)) ?_
 rintro v2 ⟨hm2, hf2, hs2⟩
 refine Ops.st (qQ.mapIns (x := [67, 79, 80, 89]) rfl rfl rfl hm2 (Go.Maps.string_keyed za) bG zp (bH _ jd)) ?_
 rintro v3 ⟨hm3, hf3, hs3⟩
 refine Ops.st (qQ.mapIns (x := [83, 69, 65, 82, 67, 72]) rfl rfl rfl hm3 (Go.Maps.string_keyed za) bG zp (bH _ jd)) ?_
 rintro v4 ⟨hm4, hf4, hs4⟩
 refine Ops.st (qQ.mapIns (x := [69, 88, 80, 85, 78, 71, 69]) rfl rfl rfl hm4 (Go.Maps.string_keyed za) bG zp (bH _ jd)) ?_
 rintro v5 ⟨hm5, hf5, hs5⟩
 refine jM ?_
 have hmk : MpF Tryz.prog 9 encStr v5 m lN := hm5
 have Km : Frm [] w3 v5 := ((((hf0.own hf1 (by simp; omega)).own hf2 (by simp; omega)).own hf3 (by simp; omega)).own hf4 (by simp; omega)).own hf5 (by simp; omega)
 have hP5 := hP3.frm Km
 have K5 : Frm [gp, gc] w v5 := K3.trans Km jp
 have hsl := eJ hT1 hl
 obtain ⟨ov, hov⟩ : ∃ ov, lN (qS s) = ov := ⟨_, rfl⟩
 refine ja rfl (jO (jN (jv2 0 2 ?_)))
 refine jS (jR (jm rfl (jm rfl (jZ rfl (jf rfl zi rfl zag (jl rfl zas (hP5.p.cell 2) (jZ rfl (jf rfl zo rfl zd (jl rfl zg (hP5.k.cells 1 _ rfl) (je (Run.lookup2 (enc := encStr) (x := qS s) rfl rfl hmk (Go.Maps.string_keyed za) zp pH (bH _ (by rw [cL]; omega))) ?_))))))))))
 rw [hov]
 refine jm rfl (jY rfl rfl (jY rfl rfl (ja rfl (ja rfl (jO (jN (jv3 0 3 4 ?_)))))))
 refine jS (jR (jM ?_))
 refine Ops.clp (jE1 zar) (bY ov.isSome _) rfl ?_
 rintro e _ ⟨rfl, he⟩
 rcases ov with _ | fv
 · exact .inr ⟨_, he, qT (qL (by rw [show fP tk D = none by simp [fP, hT1, hov]]; exact ⟨rfl, K5⟩))⟩
 refine .inl ⟨_, he, ?_⟩
 obtain ⟨f, rfl, hent, hdeed⟩ := hD s hT1 _ hov
 refine jO (jN (jv2 0 3 ?_))
 refine jR (jm rfl (jM ?_))
 refine Ops.clp (qD.dyn rfl (evs.cons rfl evs.nil) hent) (hdeed _ gp gc _ hP5 rfl (K0.own K5 (by simp; omega)) hgp hgc) rfl ?_
 rintro e w9 he
 have hu : fP tk D = D (qS s) := by simp [fP, hT1, hov]
 obtain ⟨G, hG⟩ : ∃ G, D (qS s) = G := ⟨_, rfl⟩
 rw [hG] at he hu
 rcases G with _ | q2
 · exact .inr ⟨_, he.1, qL (by rw [hu]; exact ⟨rfl, K5.trans he.2 (fun x hx => .inl hx)⟩)⟩
 obtain ⟨rfl, cs2, hP9, hf9, hY9, hone⟩ := he
 refine .inl ⟨_, rfl, ?_⟩
 refine jO ?_
 refine dW ?_
 exact (by rw [hu]; exact ⟨rfl, cs2, hP9, K5.trans hf9 (fun x hx => .inl hx), hY9, hone⟩)
def lP (B0 : Nat) (tk : List Tk) (q0 : Nat) (cs0 : Array Value) (W : World) (cs : Array Value) : Prop :=
 ∃ sp xs q2 Bs ds I d rs, cH tk q0 = some (sp, xs, q2) ∧ rs.map (·.x) = xs ∧ IsIt W B0 I d rs ∧ Own W 96 2 Bs sp.length ds (SC sp) ∧ cs = (cs0.setIfInBounds 8 (.slice Bs sp.length ds)).setIfInBounds 9 (.slice I rs.length d)
theorem lP.frm {B0 q0 g : Nat} {tk : List Tk} {cs0 cs csx : Array Value} {W W' : World} {t : TypeId} (h : lP B0 tk q0 cs0 W cs) (hb : Blk W g t csx) (ht : t = 34 ∨ t = 35) (k : Frm [g] W W') : lP B0 tk q0 cs0 W' cs := by
 obtain ⟨sp, xs, q2, Bs, ds, I, d, rs, h1, h2, h3, h4, h5⟩ := h
 have hne : ∀ e : TypeId, e ≠ 34 → e ≠ 35 → e ≠ t := fun e h1 h2 => by rcases ht with rfl | rfl <;> assumption
 exact ⟨sp, xs, q2, Bs, ds, I, d, rs, h1, h2, h3.blk hb k (hne _ jd jd) (hne _ jd jd) (hne _ jd jd), h4.one k hb (hne _ jd jd), h5⟩
theorem cJ {cs : Array Value} {i : Nat} {v : Value} (h : ∀ u ∈ cs.toList, u.oneCell' = true) (hv : v.oneCell' = true) : ∀ u ∈ (cs.setIfInBounds i v).toList, u.oneCell' = true := by
 intro u hu
 rw [zci] at hu
 rcases List.mem_or_eq_of_mem_set hu with h1 | rfl
 · exact h u h1
 exact hv
theorem nA {A : Option Addr} {n c : Nat} {tk : List Tk} {w0 : World} {q0 : Nat} {C : Tx → Array Value} {D : Tx → Option Nat} (nm : Tx) (hC : (C nm)[9]? = some (.slice none 0 0)) (hC1 : ∀ u ∈ (C nm).toList, u.oneCell' = true) (hA : 0 < n → ∀ x ∈ ob A, x < w0.heap.size) (hl : ∀ x ∈ tk, x.2.length ≤ 50000) (hv : cK w0) (htb : Tab w0) (hDn : D nm = (cH tk q0).map fun p => p.2.2) :
  jI w0 A n c tk q0 C D (lP w0.heap.size tk q0 (C nm)) nm 35 := by
 intro W gp gc cs hP hcs K hgp hgc
 subst hcs
 refine (mZ w0 gp gc A n c tk q0 _ W hP hC hA K ⟨hgp, hgc⟩ hl hv htb).mono ?_
 rintro e w' he
 rw [hDn]
 obtain ⟨G, hG⟩ : ∃ G, cH tk q0 = G := ⟨_, rfl⟩
 rw [hG] at he ⊢
 rcases G with _ | ⟨sp, xs, q2⟩
 · exact he
 obtain ⟨rfl, gf, gb, Bs, ds, cs2, I, d, rs, h1, h2, h3, h4, h5, _, _, h8, h9, _⟩ := he
 have h6 : cs2 = ((C nm).setIfInBounds 8 (.slice Bs sp.length ds)).setIfInBounds 9 (.slice I rs.length d) := by rw [← h4, rK h3]
 refine ⟨rfl, cs2, h5, h9, ⟨sp, xs, q2, Bs, ds, I, d, rs, hG, h1, h2, h8, h6⟩, ?_⟩
 rw [h6]
 exact cJ (cJ hC1 rfl) rfl
theorem rY {A : Option Addr} {n c : Nat} {tk : List Tk} {w0 : World} {q0 : Nat} {C : Tx → Array Value} {D : Tx → Option Nat} (nm : Tx) (hC1 : ∀ u ∈ (C nm).toList, u.oneCell' = true) (hDn : D nm = (eB tk q0).map fun _ => q0 + 2) :
  jI w0 A n c tk q0 C D (fun _ cs => ∃ s, eB tk q0 = some s ∧ cs = ((C nm).setIfInBounds 3 (encStr s.1)).setIfInBounds 4 (encStr s.2)) nm 41 := by
 intro W gp gc cs hP hcs K hgp hgc
 subst hcs
 refine (oR gp gc A n c tk q0 _ W hP).mono ?_
 rintro e w' ⟨hf, he⟩
 rw [hDn]
 obtain ⟨G, hG⟩ : ∃ G, eB tk q0 = G := ⟨_, rfl⟩
 rw [hG] at he ⊢
 rcases G with _ | s
 · exact ⟨he, hf⟩
 obtain ⟨rfl, hP2⟩ := he
 exact ⟨rfl, _, hP2, hf, ⟨s, rfl, rfl⟩, cJ (cJ hC1 rfl) rfl⟩
theorem nI {A : Option Addr} {n c : Nat} {tk : List Tk} {w0 : World} {q0 : Nat} {C : Tx → Array Value} {D : Tx → Option Nat} (nm : Tx) (hC1 : ∀ u ∈ (C nm).toList, u.oneCell' = true) (hDn : D nm = some q0) :
  jI w0 A n c tk q0 C D (fun _ cs => cs = C nm) nm 39 := by
 intro W gp gc cs hP hcs K hgp hgc
 subst hcs
 refine (lE gp W).mono ?_
 rintro e w' ⟨rfl, rfl⟩
 rw [hDn]
 exact ⟨rfl, _, hP, Frm.refl _ _, rfl, hC1⟩
theorem fR (tag nm : Tx) : ∀ u ∈ (gP tag nm).toList, u.oneCell' = true := cJ (fN tag) rfl
theorem lR (tag nm : Tx) : ∀ u ∈ (nF tag nm).toList, u.oneCell' = true := cJ (fR tag nm) rfl
def Sgn (c : UInt8) : Prop := 33 ≤ c.toNat ∧ c.toNat ≤ 126 ∧ c.toNat ≠ 40 ∧ c.toNat ≠ 41 ∧ c.toNat ≠ 34
instance (c : UInt8) : Decidable (Sgn c) := by unfold Sgn; infer_instance
def fS : Tx → Option Nat
 | [] => none
 | c :: r => if c.toNat = 34 then some 0 else if c.toNat < 32 ∨ c.toNat = 127 ∨ c.toNat = 92 then none else (fS r).map (· + 1)
def atF : Bool → Tx → Option Nat
 | b, [] => if b = true then none else some 0
 | b, c :: r => if b = true ∧ (c.toNat < 32 ∨ 126 < c.toNat) then none else if b = false ∧ ¬ Sgn c then some 0 else (atF (if c.toNat = 93 then false else if c.toNat = 91 then true else b) r).map (· + 1)
def fT (s : Tx) (a : Nat) : Option (Tk × Nat) := match s[a]? with
 | none => none
 | some c => if c.toNat = 40 then some ((2, [40]), a + 1) else if c.toNat = 41 then some ((3, [41]), a + 1) else if c.toNat = 34 then (fS (s.drop (a + 1))).map fun k => ((1, (s.drop (a + 1)).take k), a + 1 + k + 1) else (atF false (s.drop a)).bind fun k => if k = 0 then none else some ((0, (s.drop a).take k), a + k)
theorem rG {s : Tx} {i m : Nat} (h : fS (s.drop i) = some m) : ∃ hi : i < s.length, (s[i].toNat = 34 ∧ m = 0) ∨ (s[i].toNat ≠ 34 ∧ ¬ (s[i].toNat < 32) ∧ s[i].toNat ≠ 127 ∧ s[i].toNat ≠ 92 ∧ ∃ m', m = m' + 1 ∧ fS (s.drop (i + 1)) = some m') := by
 by_cases hi : i < s.length
 ·
  refine ⟨hi, ?_⟩
  rw [zbk hi] at h
  unfold fS at h
  split at h
  · injection h with h; exact .inl ⟨by assumption, h.symm⟩
  split at h
  · cases h
  obtain ⟨m', h1, h2⟩ := Option.map_eq_some_iff.1 h
  exact .inr ⟨by assumption, jo, jo, jo, m', h2.symm, h1⟩
 rw [zbe jo] at h; cases h
theorem sJ {s : Tx} {b : Bool} {i m : Nat} (h : atF b (s.drop i) = some m) : (m = 0 ∧ b = false ∧ (s.length ≤ i ∨ ∃ hi : i < s.length, ¬ Sgn s[i])) ∨ (∃ hi : i < s.length, ¬ (b = true ∧ (s[i].toNat < 32 ∨ 126 < s[i].toNat)) ∧ (b = false → Sgn s[i]) ∧ ∃ m', m = m' + 1 ∧ atF (if s[i].toNat = 93 then false else if s[i].toNat = 91 then true else b) (s.drop (i + 1)) = some m') := by
 by_cases hi : i < s.length
 ·
  rw [zbk hi] at h
  unfold atF at h
  split at h
  · cases h
  split at h
  · rename_i h1; injection h with h; exact .inl ⟨h.symm, h1.1, .inr ⟨hi, h1.2⟩⟩
  rename_i h0 h1
  obtain ⟨m', h2, h3⟩ := Option.map_eq_some_iff.1 h
  exact .inr ⟨hi, h0, fun hb => Classical.byContradiction fun h4 => h1 ⟨hb, h4⟩, m', h3.symm, h2⟩
 rw [zbe jo] at h
 unfold atF at h
 split at h
 · cases h
 injection h with h; exact .inl ⟨h.symm, by cases b <;> simp_all, .inl jo⟩
theorem sV {s : Tx} {a j : Nat} (h : a + j < s.length) : (s.drop a).take (j + 1) = (s.drop a).take j ++ (s.drop (a + j)).take 1 := by
 rw [List.take_add, List.drop_drop]
theorem rH (c : UInt8) (w : World) : Calls Tryz.prog 90 #[.int .u8 ((c.toNat : Nat) : Int)] w fun e w' => e = .returned (.bool (decide (Sgn c))) ∧ w' = w := by
 refine jV Tryz.func90 Tryz.ntmps90 Tryz.results90 ?_
 refine jS (jR (ja rfl (jO (jN (jv1 0 ?_)))))
 refine jS ?_
 refine VC.split1 [] .nil 2 (.bool (decide (Sgn c))) ?_ ?_
 ·
  refine jR ?_
  refine jm rfl (jb rfl rfl (Bin.leqN 33 _) ?_)
  by_cases hs4 : 33 ≤ c.toNat
  ·
   refine jM ?_
   refine jG ?_
   refine jk (Run.bin rfl rfl (Bin.leqN _ 126)) ?_
   by_cases hs7 : c.toNat ≤ 126
   ·
    refine jW rfl rfl au (jM ?_)
    refine jG ?_
    refine jk (Run.bin rfl rfl (Bin.neqN _ 40)) ?_
    by_cases hs11 : c.toNat ≠ 40
    ·
     refine jW rfl rfl au (jM ?_)
     refine jG ?_
     refine jk (Run.bin rfl rfl (Bin.neqN _ 41)) ?_
     by_cases hs15 : c.toNat ≠ 41
     ·
      refine jW rfl rfl au (jM ?_)
      refine jG ?_
      refine jk (Run.bin rfl rfl (Bin.neqN _ 34)) ?_
      by_cases hs19 : c.toNat ≠ 34
      ·
       refine jW rfl rfl au (ja rfl (jO ?_))
       refine jN ⟨(js1 (jC (by unfold Sgn; grind))), rfl⟩
      refine jW rfl rfl au (ja rfl (jO ?_))
      refine jN ⟨(js1 (jC (by unfold Sgn; grind))), rfl⟩
     refine jW rfl rfl au (jM ?_)
     refine jU ?_
     refine jU ?_
     refine jF rfl rfl au (ja rfl (jO ?_))
     refine jN ⟨(js1 (jC (by unfold Sgn; grind))), rfl⟩
    refine jW rfl rfl au (jM ?_)
    refine jU ?_
    refine jU ?_
    refine jF rfl rfl au (jM ?_)
    refine jU ?_
    refine jU ?_
    refine jF rfl rfl au (ja rfl (jO ?_))
    refine jN ⟨(js1 (jC (by unfold Sgn; grind))), rfl⟩
   refine jW rfl rfl au (jM ?_)
   refine jU ?_
   refine jU ?_
   refine jF rfl rfl au (jM ?_)
   refine jU ?_
   refine jU ?_
   refine jF rfl rfl au (jM ?_)
   refine jU ?_
   refine jU ?_
   refine jF rfl rfl au (ja rfl (jO ?_))
   refine jN ⟨(js1 (jC (by unfold Sgn; grind))), rfl⟩
  refine jM ?_
  refine jU ?_
  refine jU ?_
  refine jF rfl rfl au (jM ?_)
  refine jU ?_
  refine jU ?_
  refine jF rfl rfl au (jM ?_)
  refine jU ?_
  refine jU ?_
  refine jF rfl rfl au (jM ?_)
  refine jU ?_
  refine jU ?_
  refine jF rfl rfl au (ja rfl (jO ?_))
  refine jN ⟨(js1 (jC (by unfold Sgn; grind))), rfl⟩
 intro Γ hΓ
 refine jN (VC.sub _ hΓ ?_)
 refine jT ?_
 refine qN rfl ?_
 exact ⟨rfl, rfl⟩
theorem mJ (q : Tx) (a : Nat) (t : Tk) (nx : Nat) (w : World) (hs : q.length ≤ 1000000) (h : fT q a = some (t, nx)) : Calls Tryz.prog 60 #[encStr q, jI1 a] w fun e w' => e = .returned (.tuple #[.agg (tkC t).toArray, jI1 nx]) ∧ Frm [] w w' := by
 have ha : a < q.length := by
  by_cases h1 : a < q.length
  · exact h1
  unfold fT at h; rw [zcb jo] at h; cases h
 unfold fT at h
 rw [zb ha] at h
 dsimp only at h
 refine jV Tryz.func60 Tryz.ntmps60 Tryz.results60 ?_
 refine jS (jR ?_)
 refine Ops.m (qV.alloc dE) rfl ?_
 rintro _ w1 ⟨rfl, hF1⟩
 obtain ⟨g4, hg4⟩ : ∃ g, g = w.heap.size := ⟨_, rfl⟩
 have hb1 := hF1.blk
 have s1 := hF1.size
 rw [← hg4] at hb1 ⊢
 have K := hF1.frm
 refine jz 0 (jO (jN (jv3 0 1 4 ?_)))
 refine jS (jS (jR (jm rfl (jM ?_))))
 refine je (Run.indexT _ rfl rfl za (zb ha)) ?_
 refine jb rfl rfl (Bin.eqlN _ 40) (jO (jN (jv4 0 1 4 14 ?_)))
 refine jD rfl (fun hc1 => ?_) fun hc1 => ?_
 ·
  rw [if_pos hc1] at h
  injection h with h
  injection h with h1 h2
  subst h1 h2
  refine jS (jR (je (Run.build (evs.cons rfl (evs.cons rfl evs.nil)) dE (bF).choose_spec.1 (bF).choose_spec.2 (cells := (tkC (2, [40])).toArray) rfl) (jm rfl (jb rfl rfl (Bin.add_i64 _ 1 jo) ?_))))
  refine Ops.st (qQ.storeA rfl rfl zs hb1 rfl (dR _)) ?_
  rintro w2 ⟨hb2, hf2, hs2⟩
  refine ja rfl (jO (jN (jv2 4 5 ?_)))
  refine jT ?_
  refine qZ (bE ?_)
  refine qF rfl zco zs ((hb2.cells)) (by first | rfl | (simp; done) | (simp [*]; done)) ?_
  refine bP rfl ?_
  refine bJ ?_
  exact ⟨rfl, K.own hf2 (by simp; omega)⟩
 rw [if_neg hc1] at h
 refine jQ (jN (jv3 0 1 4 ?_))
 refine jS (jS (jR (jm rfl (jM ?_))))
 refine je (Run.indexT _ rfl rfl za (zb ha)) ?_
 refine jb rfl rfl (Bin.eqlN _ 41) (jO (jN (jv4 0 1 4 21 ?_)))
 refine jD rfl (fun hc2 => ?_) fun hc2 => ?_
 ·
  rw [if_pos hc2] at h
  injection h with h
  injection h with h1 h2
  subst h1 h2
  refine jS (jR (je (Run.build (evs.cons rfl (evs.cons rfl evs.nil)) dE (bF).choose_spec.1 (bF).choose_spec.2 (cells := (tkC (3, [41])).toArray) rfl) (jm rfl (jb rfl rfl (Bin.add_i64 _ 1 jo) ?_))))
  refine Ops.st (qQ.storeA rfl rfl zs hb1 rfl (dR _)) ?_
  rintro w2 ⟨hb2, hf2, hs2⟩
  refine ja rfl (jO (jN (jv2 4 5 ?_)))
  refine jT ?_
  refine qZ (bE ?_)
  refine qF rfl zco zs ((hb2.cells)) (by first | rfl | (simp; done) | (simp [*]; done)) ?_
  refine bP rfl ?_
  refine bJ ?_
  exact ⟨rfl, K.own hf2 (by simp; omega)⟩
 rw [if_neg hc2] at h
 refine jQ (jN (jv3 0 1 4 ?_))
 refine jS (jS (jR (jm rfl (jM ?_))))
 refine je (Run.indexT _ rfl rfl za (zb ha)) ?_
 refine jb rfl rfl (Bin.eqlN _ 34) (jO (jN (jv4 0 1 4 28 ?_)))
 refine jD rfl (fun hc3 => ?_) fun hc3 => ?_
 ·
  rw [if_pos hc3] at h
  obtain ⟨Q, hQ, h⟩ := Option.map_eq_some_iff.1 h
  injection h with h1 h2
  subst h1 h2
  refine jS (jR (ja rfl (jO (jN (jv4 0 1 4 6 ?_)))))
  refine jS (jS (jR (jm rfl (jb rfl rfl (Bin.add_i64 _ 1 jo) (ja rfl (jO (jN (jv4 0 4 6 7 ?_))))))))
  refine jB ?_
  refine VC.loop (σ := Nat × Nat) (fun s => [(0, encStr q), (4, jI0 g4), (6, encStr ((q.drop (a + 1)).take s.1)), (7, jI1 (a + 1 + s.1))]) (fun s wr => s.1 + s.2 = Q ∧ fS (q.drop (a + 1 + s.1)) = some s.2 ∧ wr = w1) (fun s => s.2) (0, Q) (js4 rfl rfl rfl rfl) ⟨jp, hQ, rfl⟩ ?_
  rintro ⟨j, m⟩ wr ⟨hjm, hq, rfl⟩
  dsimp only at hjm hq ⊢
  obtain ⟨hi, hst⟩ := rG hq
  refine jS (jS (jR (jm rfl (jm rfl (je (Run.lenT rfl za) (jb rfl rfl (Bin.lssN _ _) (jO (jN (jv5 0 4 6 7 34 ?_)))))))))
  refine VC.condT rfl (decide_eq_true hi) ?_
  refine jQ (jN (jv4 0 4 6 7 ?_))
  refine jS (jB (jS (jR (jm rfl (jM ?_)))))
  refine je (Run.indexT _ rfl rfl za (zb hi)) ?_
  refine ja rfl (jO (jN (jv5 0 4 6 7 8 ?_)))
  refine jS (jS (jR (jm rfl (jb rfl rfl (Bin.eqlN _ 34) (jO (jN (jv6 0 4 6 7 8 41 ?_)))))))
  refine jD rfl (fun hc5 => ?_) fun hc5 => ?_
  ·
   have hm : m = 0 := by
    rcases hst with h | h
    · exact h.2
    exact absurd hc5 h.1
   have hjQ : j = Q := jo
   subst hjQ
   refine jS (jR (jm rfl (je (Run.build (evs.cons rfl (evs.cons rfl evs.nil)) dE (bF).choose_spec.1 (bF).choose_spec.2 (cells := (tkC (1, (q.drop (a + 1)).take j)).toArray) rfl) (jm rfl (jb rfl rfl (Bin.add_i64 _ 1 jo) ?_)))))
   refine Ops.st (qQ.storeA rfl rfl zs hb1 rfl (dR _)) ?_
   rintro w2 ⟨hb2, hf2, hs2⟩
   refine ja rfl (jO (jN (jv2 4 5 ?_)))
   refine jT ?_
   refine qZ (qP (qZ (qZ (qP (qZ (qZ (bE ?_)))))))
   refine qF rfl zco zs ((hb2.cells)) (by first | rfl | (simp; done) | (simp [*]; done)) ?_
   refine bP rfl ?_
   refine bJ ?_
   exact ⟨rfl, K.own hf2 (by simp; omega)⟩
  obtain ⟨h51, h52, h53, h54, m', rfl, hq'⟩ : q[a + 1 + j].toNat ≠ 34 ∧ ¬ (q[a + 1 + j].toNat < 32) ∧ q[a + 1 + j].toNat ≠ 127 ∧ q[a + 1 + j].toNat ≠ 92 ∧ ∃ m', m = m' + 1 ∧ fS (q.drop (a + 1 + j + 1)) = some m' := by
   rcases hst with h | h
   · exact absurd h.1 hc5
   exact h
  refine jQ (jN (jv5 0 4 6 7 8 ?_))
  refine jS (jS ?_)
  refine VC.split1 [(0, _), (4, _), (6, _), (7, _), (8, _)] (js5 rfl rfl rfl rfl rfl) 51 (.bool (decide (False))) ?_ ?_
  ·
   refine jR ?_
   refine jm rfl (jb rfl rfl (Bin.lssN _ 32) ?_)
   by_cases hs47 : q[a + 1 + j].toNat < 32
   ·
    refine jM ?_
    refine jU ?_
    refine jU ?_
    refine jW rfl rfl au (jO ?_)
    refine jN ⟨(js6 (jC (by grind)) rfl rfl rfl rfl rfl), rfl⟩
   refine jM ?_
   refine jG ?_
   refine jk (Run.bin rfl rfl (Bin.eqlN _ 127)) ?_
   by_cases hs50 : q[a + 1 + j].toNat = 127
   ·
    refine jF rfl rfl au (jO ?_)
    refine jN ⟨(js6 (jC (by grind)) rfl rfl rfl rfl rfl), rfl⟩
   refine jF rfl rfl au (jO ?_)
   refine jN ⟨(js6 (jC (by grind)) rfl rfl rfl rfl rfl), rfl⟩
  intro Γ hΓ
  refine jN (VC.sub _ hΓ ?_)
  refine VC.condF rfl (rfl) ?_
  refine jQ (jN (jv5 0 4 6 7 8 ?_))
  refine jS (jS (jR (jm rfl (jb rfl rfl (Bin.eqlN _ 92) (jO (jN (jv5 0 4 6 7 54 ?_)))))))
  refine VC.condF rfl (decide_eq_false h54) ?_
  refine jQ (jN (jv4 0 4 6 7 ?_))
  refine jR (jm rfl (jm rfl (jm rfl (jm rfl (jb rfl rfl (Bin.add_i64 _ 1 jo) (je (Run.sliceT _ _ rfl za (evB.some_ rfl) (evB.some_ rfl) jo jo) (je (Run.addT rfl rfl (by simp only [zaj, zau]; omega)) (ja rfl (jO ?_)))))))))
  refine qW (jN ?_)
  refine jv4 0 4 6 7 ?_
  refine jR (jm rfl (jb rfl rfl (Bin.add_i64 _ 1 jo) (ja rfl (jO ?_))))
  refine jN ⟨(j + 1, m'), (js4 rfl rfl (by show some (encStr _) = some (encStr _); rw [sV jo, show a + 1 + j + 1 - (a + 1 + j) = 1 by omega]) rfl), ?_, ?_⟩
  · exact ⟨jo, by rw [← zbr]; exact hq', rfl⟩
  exact jq
 rw [if_neg hc3] at h
 obtain ⟨Q, hQ, h⟩ := Option.bind_eq_some_iff.1 h
 split at h
 · cases h
 rename_i hQ0
 injection h with h
 injection h with h1 h2
 subst h1 h2
 refine jQ (jN (jv3 0 1 4 ?_))
 refine jS (jR (jm rfl (ja rfl (jO (jN (jv4 0 1 4 9 ?_))))))
 refine jS (jR (ja rfl (jO (jN (jS (jB ?_))))))
 refine VC.loop (σ := Nat × Nat × Bool) (fun s => [(0, encStr q), (1, jI1 a), (4, jI0 g4), (9, jI1 (a + s.1)), (10, .bool s.2.2)]) (fun s wr => s.1 + s.2.1 = Q ∧ atF s.2.2 (q.drop (a + s.1)) = some s.2.1 ∧ a + s.1 ≤ q.length ∧ wr = w1) (fun s => s.2.1) (0, Q, false) (js5 rfl rfl rfl rfl rfl) ⟨jp, hQ, jo, rfl⟩ ?_
 rintro ⟨j, m, b⟩ wr ⟨hjm, hq, hjl, rfl⟩
 dsimp only at hjm hq hjl ⊢
 have hst := sJ hq
 refine jS (jS (jR (jm rfl (jm rfl (je (Run.lenT rfl za) (jb rfl rfl (Bin.lssN _ _) (jO (jN (jv6 0 1 4 9 10 86 ?_)))))))))
 refine jD rfl (fun hc9 => ?_) fun hc9 => ?_
 ·
  have hnb : ¬ (b = true ∧ (q[a + j].toNat < 32 ∨ 126 < q[a + j].toNat)) := by
   rcases hst with ⟨_, h, _⟩ | ⟨_, h, _⟩
   · simp [h]
   exact h
  refine jQ (jN (jv5 0 1 4 9 10 ?_))
  refine jB (jS (jS ?_))
  refine VC.split1 [(0, _), (1, _), (4, _), (9, _), (10, _)] (js5 rfl rfl rfl rfl rfl) 99 (.bool (decide (False))) ?_ ?_
  ·
   refine jR (jM ?_)
   by_cases hs87 : b = true
   ·
    refine jM ?_
    refine jG ?_
    refine jG ?_
    refine jk (Run.indexT _ rfl rfl za (zb hc9)) ?_
    refine jk (Run.bin rfl rfl (Bin.lssN _ 32)) ?_
    by_cases hs92 : q[a + j].toNat < 32
    ·
     refine jG ?_
     refine jU ?_
     refine jU ?_
     refine jU ?_
     refine jU ?_
     refine jk (Run.pickT rfl rfl au) ?_
     refine jW rfl rfl au (jO ?_)
     refine jN ⟨(js6 (jC (by grind)) rfl rfl rfl rfl rfl), rfl⟩
    refine jG ?_
    refine jG ?_
    refine jG ?_
    refine jk (Run.indexT _ rfl rfl za (zb hc9)) ?_
    refine jk (Run.bin rfl rfl (Bin.gtrN _ 126)) ?_
    by_cases hs97 : 126 < q[a + j].toNat
    ·
     refine jk (Run.pickF rfl rfl au) ?_
     refine jW rfl rfl au (jO ?_)
     refine jN ⟨(js6 (jC (by grind)) rfl rfl rfl rfl rfl), rfl⟩
    refine jk (Run.pickF rfl rfl au) ?_
    refine jW rfl rfl au (jO ?_)
    refine jN ⟨(js6 (jC (by grind)) rfl rfl rfl rfl rfl), rfl⟩
   refine jM ?_
   refine jU ?_
   refine jU ?_
   refine jU ?_
   refine jU ?_
   refine jU ?_
   refine Ops.skU rfl rfl ?_
   refine Ops.skU rfl rfl ?_
   refine Ops.skU rfl rfl ?_
   refine Ops.skU rfl rfl ?_
   refine jU ?_
   refine jF rfl rfl au (jO ?_)
   refine jN ⟨(js6 (jC (by grind)) rfl rfl rfl rfl rfl), rfl⟩
  intro Γ hΓ
  refine jN (VC.sub _ hΓ ?_)
  refine VC.condF rfl (rfl) ?_
  refine jQ (jN (jv5 0 1 4 9 10 ?_))
  refine jS (jS ?_)
  refine VC.split1 [(0, _), (1, _), (4, _), (9, _), (10, _)] (js5 rfl rfl rfl rfl rfl) 109 (.bool (decide (b = false ∧ ¬ Sgn q[a + j]))) ?_ ?_
  ·
   refine jR (jM ?_)
   by_cases hs101 : b = true
   ·
    refine je (Run.not rfl) (jM ?_)
    refine jU ?_
    refine jU ?_
    refine jU ?_
    refine jU ?_
    refine jU ?_
    refine jF rfl rfl au (jO ?_)
    refine jN ⟨(js6 (jC (by grind)) rfl rfl rfl rfl rfl), rfl⟩
   refine je (Run.not rfl) (jM ?_)
   refine jG ?_
   refine jG ?_
   refine jk (Run.indexT _ rfl rfl za (zb hc9)) ?_
   refine Ops.clg rfl au (jE1 Tryz.call90) (rH _ _) rfl ?_
   rintro e _ ⟨rfl, rfl⟩
   refine ⟨_, rfl, ?_⟩
   by_cases hs107 : Sgn q[a + j]
   ·
    refine jk (Run.not rfl) ?_
    refine jW rfl rfl au (jO ?_)
    refine jN ⟨(js6 (jC (by grind)) rfl rfl rfl rfl rfl), rfl⟩
   refine jk (Run.not rfl) ?_
   refine jW rfl rfl au (jO ?_)
   refine jN ⟨(js6 (jC (by grind)) rfl rfl rfl rfl rfl), rfl⟩
  intro Γ hΓ
  refine jN (VC.sub _ hΓ ?_)
  refine jD rfl (fun hc11 => ?_) fun hc11 => ?_
  ·
   obtain ⟨rfl, rfl⟩ : m = 0 ∧ b = false := by
    rcases hst with ⟨h1, h2, _⟩ | ⟨_, _, h, _⟩
    · exact ⟨h1, h2⟩
    exact absurd (h hc11.1) hc11.2
   have hjQ : j = Q := jo
   subst hjQ
   refine jX ?_
   refine qK (eW rfl (qK (qR ?_)))
   refine jN (jv5 0 1 4 9 10 ?_)
   refine jS (jS ?_)
   refine VC.split1 [(0, _), (1, _), (4, _), (9, _)] (js4 rfl rfl rfl rfl) 125 (.bool (decide (False))) ?_ ?_
   ·
    refine jR ?_
    refine jm rfl (jM ?_)
    refine jG ?_
    refine jG ?_
    refine jk (Run.bin rfl rfl (Bin.eqlN _ _)) ?_
    by_cases hs124 : a + j = a
    ·
     refine jF rfl rfl au (jO ?_)
     refine jN ⟨(js5 (jC (by grind)) rfl rfl rfl rfl), rfl⟩
    refine jF rfl rfl au (jO ?_)
    refine jN ⟨(js5 (jC (by grind)) rfl rfl rfl rfl), rfl⟩
   intro Γ hΓ
   refine jN (VC.sub _ hΓ ?_)
   refine VC.condF rfl (rfl) ?_
   refine jQ (jN (jv4 0 1 4 9 ?_))
   refine jS (jR (jm rfl (jm rfl (jm rfl (je (Run.sliceT _ _ rfl za (evB.some_ rfl) (evB.some_ rfl) jo jo) (je (Run.build (evs.cons rfl (evs.cons rfl evs.nil)) dE (bF).choose_spec.1 (bF).choose_spec.2 (cells := (tkC (0, (q.drop a).take (a + j - a))).toArray) rfl) (jM ?_)))))))
   refine Ops.st (qQ.storeA rfl rfl zs hb1 rfl (dR _)) ?_
   rintro w2 ⟨hb2, hf2, hs2⟩
   refine ja rfl (jO (jN (jv2 4 5 ?_)))
   refine jT ?_
   refine bE ?_
   refine qF rfl zco zs ((hb2.cells)) (by first | rfl | (simp; done) | (simp [*]; done)) ?_
   refine bP rfl ?_
   refine bJ ?_
   exact ⟨by rw [show a + j - a = j by omega]; rfl, K.own hf2 (by simp; omega)⟩
  obtain ⟨m', rfl, hq'⟩ : ∃ m', m = m' + 1 ∧ atF (if q[a + j].toNat = 93 then false else if q[a + j].toNat = 91 then true else b) (q.drop (a + j + 1)) = some m' := by
   rcases hst with ⟨_, h, h2 | ⟨_, h2⟩⟩ | ⟨_, _, _, h⟩
   · omega
   · exact absurd ⟨h, h2⟩ hc11
   exact h
  refine jQ (jN (jv5 0 1 4 9 10 ?_))
  refine jS (jS (jR (jm rfl (jM ?_))))
  refine je (Run.indexT _ rfl rfl za (zb hc9)) ?_
  refine jb rfl rfl (Bin.eqlN _ 91) (jO (jN (jv6 0 1 4 9 10 113 ?_)))
  refine jD rfl (fun hc12 => ?_) fun hc12 => ?_
  ·
   refine jR (ja rfl (jO (jN (jv5 0 1 4 9 10 ?_))))
   refine jS (jS (jR (jm rfl (jM ?_))))
   refine je (Run.indexT _ rfl rfl za (zb hc9)) ?_
   refine jb rfl rfl (Bin.eqlN _ 93) (jO (jN (jv6 0 1 4 9 10 117 ?_)))
   refine jD rfl (fun hc13 => ?_) fun hc13 => ?_
   ·
    refine jR (ja rfl (jO (jN (jv5 0 1 4 9 10 ?_))))
    refine jR (jm rfl (jb rfl rfl (Bin.add_i64 _ 1 jo) (ja rfl (jO ?_))))
    refine qW (jN ⟨(j + 1, m', false), (js5 rfl rfl rfl rfl rfl), ?_, ?_⟩)
    · exact ⟨by show j + 1 + m' = _; omega, by rw [← zbr, ← hq', if_pos hc13], by show a + (j + 1) ≤ _; omega, rfl⟩
    exact jq
   refine jQ (jN (jv5 0 1 4 9 10 ?_))
   refine jR (jm rfl (jb rfl rfl (Bin.add_i64 _ 1 jo) (ja rfl (jO ?_))))
   refine qW (jN ⟨(j + 1, m', true), (js5 rfl rfl rfl rfl rfl), ?_, ?_⟩)
   · exact ⟨by show j + 1 + m' = _; omega, by rw [← zbr, ← hq', if_neg hc13, if_pos hc12], by show a + (j + 1) ≤ _; omega, rfl⟩
   exact jq
  refine jQ (jN (jv5 0 1 4 9 10 ?_))
  refine jS (jS (jR (jm rfl (jM ?_))))
  refine je (Run.indexT _ rfl rfl za (zb hc9)) ?_
  refine jb rfl rfl (Bin.eqlN _ 93) (jO (jN (jv6 0 1 4 9 10 117 ?_)))
  refine jD rfl (fun hc13 => ?_) fun hc13 => ?_
  ·
   refine jR (ja rfl (jO (jN (jv5 0 1 4 9 10 ?_))))
   refine jR (jm rfl (jb rfl rfl (Bin.add_i64 _ 1 jo) (ja rfl (jO ?_))))
   refine qW (jN ⟨(j + 1, m', false), (js5 rfl rfl rfl rfl rfl), ?_, ?_⟩)
   · exact ⟨by show j + 1 + m' = _; omega, by rw [← zbr, ← hq', if_pos hc13], by show a + (j + 1) ≤ _; omega, rfl⟩
   exact jq
  refine jQ (jN (jv5 0 1 4 9 10 ?_))
  refine jR (jm rfl (jb rfl rfl (Bin.add_i64 _ 1 jo) (ja rfl (jO ?_))))
  refine qW (jN ⟨(j + 1, m', b), (js5 rfl rfl rfl rfl rfl), ?_, ?_⟩)
  · exact ⟨by show j + 1 + m' = _; omega, by rw [← zbr, ← hq', if_neg hc13, if_neg hc12], by show a + (j + 1) ≤ _; omega, rfl⟩
  exact jq
 obtain ⟨rfl, rfl⟩ : m = 0 ∧ b = false := by
  rcases hst with ⟨h1, h2, _⟩ | ⟨h, _⟩
  · exact ⟨h1, h2⟩
  omega
 have hjQ : j = Q := jo
 subst hjQ
 refine jX ?_
 refine qK (qK (qR ?_))
 refine jN (jv5 0 1 4 9 10 ?_)
 refine jS (jS ?_)
 refine VC.split1 [(0, _), (1, _), (4, _), (9, _)] (js4 rfl rfl rfl rfl) 125 (.bool (decide (False))) ?_ ?_
 ·
  refine jR ?_
  refine jm rfl (jM ?_)
  refine jG ?_
  refine jG ?_
  refine jk (Run.bin rfl rfl (Bin.eqlN _ _)) ?_
  by_cases hs124 : a + j = a
  ·
   refine jF rfl rfl au (jO ?_)
   refine jN ⟨(js5 (jC (by grind)) rfl rfl rfl rfl), rfl⟩
  refine jF rfl rfl au (jO ?_)
  refine jN ⟨(js5 (jC (by grind)) rfl rfl rfl rfl), rfl⟩
 intro Γ hΓ
 refine jN (VC.sub _ hΓ ?_)
 refine VC.condF rfl (rfl) ?_
 refine jQ (jN (jv4 0 1 4 9 ?_))
 refine jS (jR (jm rfl (jm rfl (jm rfl (je (Run.sliceT _ _ rfl za (evB.some_ rfl) (evB.some_ rfl) jo jo) (je (Run.build (evs.cons rfl (evs.cons rfl evs.nil)) dE (bF).choose_spec.1 (bF).choose_spec.2 (cells := (tkC (0, (q.drop a).take (a + j - a))).toArray) rfl) (jM ?_)))))))
 refine Ops.st (qQ.storeA rfl rfl zs hb1 rfl (dR _)) ?_
 rintro w2 ⟨hb2, hf2, hs2⟩
 refine ja rfl (jO (jN (jv2 4 5 ?_)))
 refine jT ?_
 refine bE ?_
 refine qF rfl zco zs ((hb2.cells)) (by first | rfl | (simp; done) | (simp [*]; done)) ?_
 refine bP rfl ?_
 refine bJ ?_
 exact ⟨by rw [show a + j - a = j by omega]; rfl, K.own hf2 (by simp; omega)⟩
theorem pN : ∀ (s : Tx) {k : Nat}, fS s = some k → k < s.length
 | [], _, h => by cases h
 | c :: r, k, h => by
  unfold fS at h
  split at h
  · injection h with h; subst h; simp
  split at h
  · cases h
  obtain ⟨m, h1, rfl⟩ := Option.map_eq_some_iff.1 h
  have := pN r h1
  simp; omega
theorem rC : ∀ (s : Tx) {b : Bool} {k : Nat}, atF b s = some k → k ≤ s.length
 | [], b, k, h => by
  unfold atF at h
  split at h
  · cases h
  injection h with h; subst h; simp
 | c :: r, b, k, h => by
  unfold atF at h
  split at h
  · cases h
  split at h
  · injection h with h; subst h; simp
  obtain ⟨m, h1, rfl⟩ := Option.map_eq_some_iff.1 h
  have := rC r h1
  simp; omega
theorem sA {q : Tx} {a : Nat} {t : Tk} {nx : Nat} (h : fT q a = some (t, nx)) : a < nx ∧ nx ≤ q.length := by
 unfold fT at h
 split at h
 · cases h
 rename_i c hc
 have ha := (List.getElem?_eq_some_iff.1 hc).1
 split at h
 · injection h with h; injection h with h1 h2; omega
 split at h
 · injection h with h; injection h with h1 h2; omega
 split at h
 ·
  obtain ⟨Q, hQ, h⟩ := Option.map_eq_some_iff.1 h
  have := pN _ hQ
  rw [zau] at this
  injection h with h1 h2; omega
 obtain ⟨Q, hQ, h⟩ := Option.bind_eq_some_iff.1 h
 have := rC _ hQ
 rw [zau] at this
 split at h
 · cases h
 injection h with h; injection h with h1 h2; omega
def cC (q : Tx) : Nat → Nat → Nat → Option (List (Tk × Nat))
 | 0, _, _ => none
 | f + 1, a, gap => match q[a]? with
  | none => if gap = 0 then some [] else none
  | some c => if c.toNat = 32 then cC q f (a + 1) (gap + 1) else match fT q a with
   | none => none
   | some p => (cC q f p.2 0).map ((p.1, gap) :: ·)
theorem rM {q : Tx} {f a gap : Nat} {R : List (Tk × Nat)} (h : cC q f a gap = some R) : (q.length ≤ a ∧ gap = 0 ∧ R = []) ∨ ∃ ha : a < q.length, ∃ f', f = f' + 1 ∧ ((q[a].toNat = 32 ∧ cC q f' (a + 1) (gap + 1) = some R) ∨ (q[a].toNat ≠ 32 ∧ ∃ t nx R', fT q a = some (t, nx) ∧ cC q f' nx 0 = some R' ∧ R = (t, gap) :: R')) := by
 cases f with
 | zero => cases h
 | succ f =>
  unfold cC at h
  split at h
  ·
   rename_i hn
   split at h
   · injection h with h; exact .inl ⟨by simpa using hn, by assumption, h.symm⟩
   cases h
  rename_i c hc
  obtain ⟨ha, rfl⟩ := List.getElem?_eq_some_iff.1 hc
  refine .inr ⟨ha, f, rfl, ?_⟩
  split at h
  · exact .inl ⟨by assumption, h⟩
  split at h
  · cases h
  rename_i p hp
  obtain ⟨R', h1, h2⟩ := Option.map_eq_some_iff.1 h
  exact .inr ⟨by assumption, p.1, p.2, R', hp, h1, h2.symm⟩
def bZ (L : List (Tk × Nat)) : List Tk := L.map (·.1)
def hH (L : List (Tk × Nat)) : List Int := L.map fun x => ((x.2 : Nat) : Int)
def fU (L : List (Tk × Nat)) : Prop := ∀ i < L.length, (hH L).getD i 0 = if i = 0 ∨ ((bZ L).getD (i - 1) tk0).1 = 2 ∨ ((bZ L).getD i tk0).1 = 3 then 0 else 1
instance (L : List (Tk × Nat)) : Decidable (fU L) := by unfold fU; infer_instance
structure TokR (w wr : World) (L : List (Tk × Nat)) (A : Option Addr) (d : Nat) (G : Option Addr) (e : Nat) : Prop where
 out : Own wr 41 2 A L.length d ((bZ L).flatMap tkC)
 gap : Own wr 3 1 G L.length e (IB (hH L))
 up : (∀ x ∈ ob A, w.heap.size ≤ x) ∧ ∀ x ∈ ob G, w.heap.size ≤ x
 frm : Frm [] w wr
theorem TokR.step {w wr wx : World} {L : List (Tk × Nat)} {A G : Option Addr} {d e : Nat} (h : TokR w wr L A d G e) (k : Frm [] wr wx) : TokR w wx L A d G e := ⟨h.out.frm k jp, h.gap.frm k jp, h.up, h.frm.trans k jp⟩
theorem hrdK {w w' : World} {t : TypeId} {x : Tk} (h : Fresh w w' t (Value.agg (tkC x).toArray).cells) : Rd w' 2 (some ⟨w.heap.size, 0, none⟩) 1 ([x].flatMap tkC) := Rd.of_blk (n := 1) (size := 2) h.blk rfl
theorem hrdI {w w' : World} {t : TypeId} {q : Int} (h : Fresh w w' t #[.int .i64 q]) : Rd w' 1 (some ⟨w.heap.size, 0, none⟩) 1 (IB [q]) := Rd.of_blk (n := 1) (size := 1) h.blk rfl
theorem nL (q : Tx) (L : List (Tk × Nat)) (F : Nat) (P : Option Addr) (pc : Nat) (w : World) (hs : q.length ≤ 1000000) (hP : Rd w 2 P 1 [.bool false, encStr q]) (hF : cC q F 0 0 = some L) (hG : fU L) : Calls Tryz.prog 29 #[.slice P 1 pc] w fun e w' => ∃ A d, e = .returned (.tuple #[.slice A L.length d, .int .i64 0]) ∧ RdT w' A L.length (bZ L) ∧ Frm [] w w' := by
 obtain ⟨pad, rfl, _, hpc⟩ := hP.2 jo
 have hp1 : ∀ W, Frm [] w W → W.cell? ((pad.add (0 * 2)).add 0) = some (.bool false) := fun W hW => by
  obtain ⟨ad, h1, _, h2⟩ := (hP.frm hW jp).2 jo
  cases h1
  have := h2 0 _ rfl
  rw [show (0 * 2) = 0 from rfl, show pad.add 0 = pad by cases pad; simp [Addr.add]]
  simpa using this
 have hp2 : ∀ W, Frm [] w W → W.cell? ((pad.add (0 * 2)).add 1) = some (encStr q) := fun W hW => by
  obtain ⟨ad, h1, _, h2⟩ := (hP.frm hW jp).2 jo
  cases h1
  have := h2 1 _ rfl
  rw [show (0 * 2) = 0 from rfl, show pad.add 0 = pad by cases pad; simp [Addr.add]]
  simpa using this
 refine jV Tryz.func29 Tryz.ntmps29 Tryz.results29 ?_
 refine jS (jR (ja rfl (jz 0 (jO (jN (jv1 0 ?_))))))
 refine jS (jR (ja rfl (jO (jN (jS (jR (ja rfl (jO (jN (jS (jR (jz 0 (jO (jN (jS (jS (jR (jz 0 (jO (jN (jB ?_)))))))))))))))))))))
 refine VC.loop (σ := Nat × List (Tk × Nat) × Option Addr × Nat × Option Addr × Nat) (fun s => [(0, .slice (some pad) 1 pc), (4, .slice s.2.2.1 s.2.1.length s.2.2.2.1), (5, .slice s.2.2.2.2.1 s.2.1.length s.2.2.2.2.2), (6, jI1 0), (7, jI1 s.1)]) (fun s wr => (s.1 = 0 ∧ s.2.1 = [] ∨ s.1 = 1 ∧ s.2.1 = L) ∧ s.2.1.length ≤ q.length ∧ TokR w wr s.2.1 s.2.2.1 s.2.2.2.1 s.2.2.2.2.1 s.2.2.2.2.2) (fun s => 1 - s.1) (0, [], none, 0, none, 0) (js5 rfl rfl rfl rfl rfl) ⟨.inl ⟨rfl, rfl⟩, jp, Own.nil _ _ _, Own.nil _ _ _, ⟨by simp [ob], by simp [ob]⟩, Frm.refl _ _⟩ ?_
 rintro ⟨i, pre, A, d, G, e⟩ wr ⟨hip, hpq, hT⟩
 dsimp only at hip hpq hT ⊢
 refine jS (jS (jR (jm rfl (jm rfl (jL rfl zbj (jb rfl rfl (Bin.lssN _ _) (jO (jN (jv6 0 4 5 6 7 16 ?_)))))))))
 refine jD rfl (fun hc1 => ?_) fun hc1 => ?_
 ·
  obtain ⟨rfl, rfl⟩ : i = 0 ∧ pre = [] := by
   rcases hip with h | ⟨h, _⟩
   · exact h
   omega
  refine jQ (jN (jv5 0 4 5 6 7 ?_))
  refine jS (jB (jS (jS (jR (jm rfl (jm rfl (je (Run.indexS 0 rfl rfl zbj Tryz.sizeOf82 jo) (jf rfl zbx rfl zj (jl rfl zai (hp1 _ hT.frm) (jO (jN (jv6 0 4 5 6 7 23 ?_))))))))))))
  refine VC.condF rfl (rfl) ?_
  refine jQ (jN (jv5 0 4 5 6 7 ?_))
  refine jS (jR (jz 0 (jO (jN (jB ?_)))))
  refine VC.loop (σ := (Nat × Nat × Nat × List (Tk × Nat)) × List (Tk × Nat) × Option Addr × Nat × Option Addr × Nat) (fun s => [(0, .slice (some pad) 1 pc), (4, .slice s.2.2.1 s.2.1.length s.2.2.2.1), (5, .slice s.2.2.2.2.1 s.2.1.length s.2.2.2.2.2), (6, jI1 s.1.2.1), (7, jI1 0), (8, jI1 s.1.1)]) (fun s wr => s.1.1 ≤ q.length ∧ s.1.2.1 ≤ s.1.1 ∧ s.2.1.length ≤ s.1.1 ∧ cC q s.1.2.2.1 s.1.1 s.1.2.1 = some s.1.2.2.2 ∧ s.2.1 ++ s.1.2.2.2 = L ∧ TokR w wr s.2.1 s.2.2.1 s.2.2.2.1 s.2.2.2.2.1 s.2.2.2.2.2) (fun s => s.1.2.2.1) ((0, 0, F, L), [], A, d, G, e) (js6 rfl rfl rfl rfl rfl rfl) ⟨jp, jp, jp, hF, jp, hT⟩ ?_
  rintro ⟨⟨a, gap, f, R⟩, pre, A, d, G, e⟩ wr ⟨hal, hga, hpl, htk, hL, hT⟩
  dsimp only at hal hga hpl htk hL hT ⊢
  have hst := rM htk
  refine jS (jS (jR (jm rfl (jm rfl (jm rfl (je (Run.indexS 0 rfl rfl zbj Tryz.sizeOf82 jo) (jf rfl zbx rfl zd (jl rfl zg (hp2 _ hT.frm) (je (Run.lenT rfl za) (jb rfl rfl (Bin.lssN _ _) (jO (jN (jv7 0 4 5 6 7 8 44 ?_)))))))))))))
  refine jD rfl (fun hc3 => ?_) fun hc3 => ?_
  ·
   obtain ⟨f, rfl, hst2⟩ : ∃ f', f = f' + 1 ∧ ((q[a].toNat = 32 ∧ cC q f' (a + 1) (gap + 1) = some R) ∨ (q[a].toNat ≠ 32 ∧ ∃ t nx R', fT q a = some (t, nx) ∧ cC q f' nx 0 = some R' ∧ R = (t, gap) :: R')) := by
    rcases hst with ⟨h, _⟩ | ⟨_, h⟩
    · omega
    exact h
   refine jQ (jN (jv6 0 4 5 6 7 8 ?_))
   refine jB (jS (jS (jR (jm rfl (jm rfl (je (Run.indexS 0 rfl rfl zbj Tryz.sizeOf82 jo) (jf rfl zbx rfl zd (jl rfl zg (hp2 _ hT.frm) (jM ?_)))))))))
   refine je (Run.indexT _ rfl rfl za (zb hc3)) ?_
   refine jb rfl rfl (Bin.eqlN _ 32) (jO (jN (jv7 0 4 5 6 7 8 52 ?_)))
   refine jD rfl (fun hc4 => ?_) fun hc4 => ?_
   ·
    have hst3 : cC q f (a + 1) (gap + 1) = some R := by
     rcases hst2 with ⟨_, h⟩ | ⟨h, _⟩
     · exact h
     exact absurd hc4 h
    refine jS (jR (jm rfl (jb rfl rfl (Bin.add_i64 _ 1 jo) (ja rfl (jO (jN (jv6 0 4 5 6 7 8 ?_)))))))
    refine jS (jR (jm rfl (jb rfl rfl (Bin.add_i64 _ 1 jo) (ja rfl (jO (jN (jv6 0 4 5 6 7 8 ?_)))))))
    refine jX ?_
    refine qK (qR ?_)
    refine jN ⟨((a + 1, gap + 1, f, R), pre, A, d, G, e), (js6 rfl rfl rfl rfl rfl rfl), ?_, ?_⟩
    · exact ⟨by show a + 1 ≤ _; omega, by show gap + 1 ≤ a + 1; omega, by show pre.length ≤ a + 1; omega, hst3, hL, hT⟩
    exact jq
   obtain ⟨t, nx, R', hct, hst3, rfl⟩ : ∃ t nx R', fT q a = some (t, nx) ∧ cC q f nx 0 = some R' ∧ R = (t, gap) :: R' := by
    rcases hst2 with ⟨h, _⟩ | ⟨_, h⟩
    · exact absurd h hc4
    exact h
   have hnx := sA hct
   refine jQ (jN (jv6 0 4 5 6 7 8 ?_))
   refine jS (jR (jm rfl (jm rfl (je (Run.indexS 0 rfl rfl zbj Tryz.sizeOf82 jo) (jf rfl zbx rfl zd (jl rfl zg (hp2 _ hT.frm) (jM ?_)))))))
   refine jc (jE2 Tryz.call60) (mJ q a t nx _ hs hct) ?_
   rintro _ w1 ⟨rfl, hf1⟩
   refine ⟨_, rfl, ?_⟩
   have hT := hT.step hf1
   refine jm rfl (jY rfl rfl (jY rfl rfl ?_))
   refine Ops.m (qV.alloc dE) rfl ?_
   rintro _ w2 ⟨rfl, hF2⟩
   obtain ⟨g9, hg9⟩ : ∃ g, g = w1.heap.size := ⟨_, rfl⟩
   have hb2 := hF2.blk
   have s2 := hF2.size
   rw [← hg9] at hb2 ⊢
   have s1 := hT.frm.size
   have hAlt : ∀ y ∈ ob A, y < g9 := fun y hy => by have := hT.out.lt y hy; omega
   have hGlt : ∀ y ∈ ob G, y < g9 := fun y hy => by have := hT.gap.lt y hy; omega
   have hT := hT.step hF2.frm
   refine Ops.st (qQ.storeA rfl rfl zs hb2 rfl (dR _)) ?_
   rintro w3 ⟨hb3, hf3, hs3⟩
   have hT : TokR w w3 pre A d G e := ⟨hT.out.frm hf3 (fun y hy h => by have := hAlt y hy; simp at h; omega), hT.gap.frm hf3 (fun y hy h => by have := hGlt y hy; simp at h; omega), hT.up, hT.frm.own hf3 (by simp; omega)⟩
   refine ja rfl (jO (jN (jv7 0 4 5 6 7 9 10 ?_)))
   refine jS (jS (jR (jm rfl (jb rfl rfl (Bin.eqlN _ 0) (jO (jN (jv8 0 4 5 6 7 9 10 68 ?_)))))))
   refine VC.condF rfl jdf ?_
   refine jQ (jN (jv7 0 4 5 6 7 9 10 ?_))
   refine jS (jR (jm rfl (je (Run.loadA rfl zco zs (hb3.cells) (by first | rfl | (simp; done))) ?_)))
   refine Ops.m (qV.buildS1 rfl zw zs dE jd jd rfl rfl) rfl ?_
   rintro _ w4 ⟨rfl, hF4⟩
   have hT := hT.step hF4.frm
   have s4 := hF4.size
   refine Ops.m (qV.app rfl rfl zw (sY) rfl jd hT.out (hrdK hF4) (dR _) jo jo) rfl ?_
   rintro _ w5 ⟨A5, d5, rfl, hA5, hf5, hob5⟩
   have hA5 : Own w5 41 2 A5 (pre ++ [(t, gap)]).length d5 ((bZ (pre ++ [(t, gap)])).flatMap tkC) := by simpa [bZ] using hA5
   have hupA : ∀ x ∈ ob A5, w.heap.size ≤ x := kE hT.up.1 hob5 hT.frm.size
   have hGp := hT.gap.frm hf5 (hT.gap.ne_own hT.out jd)
   have hK5 := hT.frm.own hf5 hT.up.1
   have s5 := hf5.size
   refine ja rfl (jO (jN (jv6 0 4 5 6 7 10 ?_)))
   refine jS (jR (jm rfl (jM ?_)))
   refine Ops.m (qV.buildS1 rfl zm zc eP jd jd rfl rfl) rfl ?_
   rintro _ w6 ⟨rfl, hF6⟩
   have hA6 := hA5.frm hF6.frm jp
   have hGp := hGp.frm hF6.frm jp
   have hK6 := hK5.trans hF6.frm jp
   have s6 := hF6.size
   refine Ops.m (qV.app rfl rfl zm (rU) rfl jd hGp (hrdI hF6) (sW _) jo jo) rfl ?_
   rintro _ w7 ⟨G7, e7, rfl, hG7, hf7, hob7⟩
   have hG7 : Own w7 3 1 G7 (pre ++ [(t, gap)]).length e7 (IB (hH (pre ++ [(t, gap)]))) := by simpa [hH, IB] using hG7
   have hT7 : TokR w w7 (pre ++ [(t, gap)]) A5 d5 G7 e7 := ⟨hA6.frm hf7 (hA6.ne_own hGp jd), hG7, ⟨hupA, kE hT.up.2 hob7 hK6.size⟩, hK6.own hf7 hT.up.2⟩
   have el : pre.length + 1 = (pre ++ [(t, gap)]).length := jp
   refine ja rfl (jO (jN (jv5 0 4 5 7 10 ?_)))
   refine jS (jR (jz 0 (jO (jN (jR (jm rfl (ja rfl (jO ?_))))))))
   refine qW (jN ⟨((nx, 0, f, R'), pre ++ [(t, gap)], A5, d5, G7, e7), (js6 rfl (by rw [← el]; rfl) (by rw [← el]; rfl) rfl rfl rfl), ?_, ?_⟩)
   · exact ⟨by show nx ≤ _; omega, by show 0 ≤ nx; omega, by simp; omega, hst3, by simpa using hL, hT7⟩
   exact jq
  obtain ⟨rfl, rfl⟩ : gap = 0 ∧ R = [] := by
   rcases hst with ⟨_, h⟩ | ⟨h, _⟩
   · exact h
   omega
  rw [List.append_nil] at hL
  subst hL
  refine jX ?_
  refine qK (qK (qR ?_))
  refine qW (jN ?_)
  refine jv5 0 4 5 6 7 ?_
  refine jR (jm rfl (jb rfl rfl (Bin.add_i64 _ 1 jo) (ja rfl (jO ?_))))
  refine jN ⟨(1, pre, A, d, G, e), (js5 rfl rfl rfl rfl rfl), ?_, ?_⟩
  · exact ⟨.inr ⟨rfl, rfl⟩, by show pre.length ≤ _; omega, hT⟩
  exact jq
 obtain ⟨rfl, rfl⟩ : i = 1 ∧ pre = L := by
  rcases hip with ⟨h, _⟩ | h
  · omega
  exact h
 rename World => wq
 have hR : RdT wq A pre.length (bZ pre) := ⟨by simp [bZ], hT.out.rd⟩
 refine jX ?_
 refine qK (qK (qR ?_))
 refine jN (jv3 4 5 6 ?_)
 refine jS (jS (jR (jm rfl (jb rfl rfl (Bin.gtrN _ 0) (jO (jN (jv3 4 5 79 ?_)))))))
 refine VC.condF rfl (rfl) ?_
 refine jQ (jN (jv2 4 5 ?_))
 refine jS (jS (jR (jz 0 (jO (jN (jB ?_))))))
 refine VC.loop (σ := Nat) (fun s => [(4, .slice A pre.length d), (5, .slice G pre.length e), (11, jI1 s)]) (fun s wr => s ≤ pre.length ∧ wr = wq) (fun s => pre.length - s) 0 (js3 rfl rfl rfl) ⟨jo, rfl⟩ ?_
 rintro i wr ⟨hi, rfl⟩
 refine jS (jS (jR (jm rfl (jm rfl (jL rfl zw (jb rfl rfl (Bin.lssN _ _) (jO (jN (jv4 4 5 11 83 ?_)))))))))
 refine jD rfl (fun hc7 => ?_) fun hc7 => ?_
 ·
  have hGi := hG i hc7
  obtain ⟨oad, rfl, hoc⟩ := hR.cell hc7
  have hoc2 : ∀ W, Frm [] wr W → ∀ j v, (tkC ((bZ pre).getD (i - 1) tk0))[j]? = some v → W.cell? ((oad.add ((i - 1) * 2)).add j) = some v := by
   obtain ⟨ad, h1, h2⟩ := hR.cell (k := i - 1) jo
   cases h1
   exact h2
  obtain ⟨gad, rfl, hgc⟩ := mO hT.gap.rd (by simp [hH]) hc7
  refine jQ (jN (jv3 4 5 11 ?_))
  refine jS (jB (jS (jR (jz 1 (jO (jN (jS (jS ?_))))))))
  refine VC.split1 [(4, _), (5, _), (11, _), (12, _)] (js4 rfl rfl rfl rfl) 104 (.bool (decide (i = 0 ∨ ((bZ pre).getD (i - 1) tk0).1 = 2 ∨ ((bZ pre).getD i tk0).1 = 3))) ?_ ?_
  ·
   refine jR ?_
   refine jm rfl (jb rfl rfl (Bin.eqlN _ 0) ?_)
   by_cases hs87 : i = 0
   ·
    refine jM ?_
    refine jU ?_
    refine jU ?_
    refine jU ?_
    refine jU ?_
    refine jU ?_
    refine jU ?_
    refine jU ?_
    refine jW rfl rfl au (jM ?_)
    refine jU ?_
    refine jU ?_
    refine jU ?_
    refine jU ?_
    refine jU ?_
    refine jU ?_
    refine jW rfl rfl au (jO ?_)
    refine jN ⟨(js5 (jC (by grind)) rfl rfl rfl rfl), rfl⟩
   refine jM ?_
   refine jG ?_
   refine jG ?_
   refine jk (Run.bin rfl rfl (Bin.subN i 1 jo (by simp [bmax]; omega))) ?_
   refine jk (Run.indexS (i - 1) rfl rfl zw zs jo) ?_
   refine jk (Run.fieldAddr rfl zap rfl zc jd) ?_
   refine jk (Run.load rfl zk (hoc2 _ (Frm.refl _ _) 0 _ rfl)) ?_
   refine jk (Run.bin rfl rfl (Bin.eql _ 2)) ?_
   by_cases hs95 : ((bZ pre).getD (i - 1) tk0).1 = 2
   ·
    refine jF rfl rfl au (jM ?_)
    refine jU ?_
    refine jU ?_
    refine jU ?_
    refine jU ?_
    refine jU ?_
    refine jU ?_
    refine jW rfl rfl au (jO ?_)
    refine jN ⟨(js5 (jC (by grind)) rfl rfl rfl rfl), rfl⟩
   refine jF rfl rfl au (jM ?_)
   refine jG ?_
   refine jG ?_
   refine jk (Run.indexS i rfl rfl zw zs hc7) ?_
   refine jk (Run.fieldAddr rfl zap rfl zc jd) ?_
   refine jk (Run.load rfl zk (hoc _ (Frm.refl _ _) 0 _ rfl)) ?_
   refine jk (Run.bin rfl rfl (Bin.eql _ 3)) ?_
   by_cases hs103 : ((bZ pre).getD i tk0).1 = 3
   ·
    refine jF rfl rfl au (jO ?_)
    refine jN ⟨(js5 (jC (by grind)) rfl rfl rfl rfl), rfl⟩
   refine jF rfl rfl au (jO ?_)
   refine jN ⟨(js5 (jC (by grind)) rfl rfl rfl rfl), rfl⟩
  intro Γ hΓ
  refine jN (VC.sub _ hΓ ?_)
  refine jD rfl (fun hc8 => ?_) fun hc8 => ?_
  ·
   refine jR (jz 0 (jO (jN (jv4 4 5 11 12 ?_))))
   refine jS (jR (jm rfl (jm rfl (je (Run.index1 i rfl rfl zm zc hc7) (jl rfl zk hgc (jm rfl (jb rfl rfl (Bin.neq _ _) (jO (jN (jv4 4 5 11 110 ?_))))))))))
   refine VC.condF rfl (decide_eq_false (by rw [hGi, if_pos hc8]; simp)) ?_
   refine jQ ?_
   refine qW (jN ?_)
   refine jv3 4 5 11 ?_
   refine jR (jm rfl (jb rfl rfl (Bin.add_i64 _ 1 jo) (ja rfl (jO ?_))))
   refine jN ⟨i + 1, (js3 rfl rfl rfl), ?_, ?_⟩
   · exact ⟨jo, rfl⟩
   exact jq
  refine jQ (jN (jv4 4 5 11 12 ?_))
  refine jS (jR (jm rfl (jm rfl (je (Run.index1 i rfl rfl zm zc hc7) (jl rfl zk hgc (jm rfl (jb rfl rfl (Bin.neq _ _) (jO (jN (jv4 4 5 11 110 ?_))))))))))
  refine VC.condF rfl (decide_eq_false (by rw [hGi, if_neg hc8]; simp)) ?_
  refine jQ ?_
  refine qW (jN ?_)
  refine jv3 4 5 11 ?_
  refine jR (jm rfl (jb rfl rfl (Bin.add_i64 _ 1 jo) (ja rfl (jO ?_))))
  refine jN ⟨i + 1, (js3 rfl rfl rfl), ?_, ?_⟩
  · exact ⟨jo, rfl⟩
  exact jq
 refine jX ?_
 refine qK (qK (qR ?_))
 refine jN (jv1 4 ?_)
 refine jS (jR (jm rfl (ja rfl (jz 0 (jO (jN (jv2 2 3 ?_)))))))
 refine jT ?_
 refine end2 rfl rfl ?_
 exact ⟨A, d, rfl, hR, hT.frm⟩
theorem fB (q : Tx) (L : List (Tk × Nat)) (F : Nat) (w : World) (hs : q.length ≤ 1000000) (hF : cC q F 0 0 = some L) (hG : fU L) : Calls Tryz.prog 16 #[encStr q] w fun e w' => ∃ A d, e = .returned (.slice A L.length d) ∧ RdT w' A L.length (bZ L) ∧ Frm [] w w' := by
 refine jV Tryz.func16 Tryz.ntmps16 Tryz.results16 ?_
 refine jS (jR (ja rfl (jO (jN (jv1 0 ?_)))))
 refine jS (jR (jm rfl (je (Run.build (evs.cons rfl evs.nil) oY (kO).choose_spec.1 (kO).choose_spec.2 (cells := #[.bool false, encStr q]) rfl) ?_)))
 refine Ops.m (qV.buildS1 rfl zbj Tryz.sizeOf82 oY jd jd rfl rfl) rfl ?_
 rintro _ w1 ⟨rfl, hF1⟩
 refine jc (jE1 Tryz.call29) (nL q L F _ _ w1 hs (Rd.of_blk (n := 1) (size := 2) hF1.blk rfl) hF hG) ?_
 rintro e w2 ⟨A, d, rfl, hR2, hf2⟩
 refine ⟨_, rfl, ?_⟩
 refine jm rfl (jY rfl rfl (jY rfl rfl (ja rfl (ja rfl (jO (jN (jv1 3 ?_)))))))
 refine jS (jR (jm rfl (ja rfl (jO (jN (jv1 2 ?_))))))
 refine jT ?_
 refine qN rfl ?_
 exact ⟨A, d, rfl, hR2, hF1.frm.trans hf2 jp⟩
def axS1 : Tx := [97, 32, 108, 111, 103, 105, 110, 32, 106, 111, 101, 32, 34, 120, 32, 121, 34]
def fO : List (Tk × Nat) := [((0, [97]), 0), ((0, [108, 111, 103, 105, 110]), 1), ((0, [106, 111, 101]), 1), ((1, [120, 32, 121]), 1)]
theorem mR : cC axS1 200 0 0 = some fO ∧ fU fO := jd
def axS2 : Tx := [97, 32, 117, 105, 100, 32, 102, 101, 116, 99, 104, 32, 49, 58, 42, 32, 40, 102, 108, 97, 103, 115, 32, 98, 111, 100, 121, 91, 49, 93, 60, 48, 46, 57, 62, 41]
def eH : List (Tk × Nat) := [((0, [97]), 0), ((0, [117, 105, 100]), 1), ((0, [102, 101, 116, 99, 104]), 1), ((0, [49, 58, 42]), 1), ((2, [40]), 1), ((0, [102, 108, 97, 103, 115]), 0), ((0, [98, 111, 100, 121, 91, 49, 93, 60, 48, 46, 57, 62]), 1), ((3, [41]), 0)]
theorem mS : cC axS2 200 0 0 = some eH ∧ fU eH := jd
def axS3 : Tx := [97, 32, 110, 111, 111, 112, 32, 120]
def kQ : List (Tk × Nat) := [((0, [97]), 0), ((0, [110, 111, 111, 112]), 1), ((0, [120]), 1)]
theorem mT : cC axS3 200 0 0 = some kQ ∧ fU kQ := jd
theorem rN (A : Option Addr) (c : Nat) (w : World) (hR : RdT w A 4 (bZ fO)) : Calls Tryz.prog 10 #[.slice A 4 c] w fun e w' => Frm [] w w' ∧ e = .returned (.tuple #[.agg (((gP [97] [76, 79, 71, 73, 78]).setIfInBounds 3 (encStr [106, 111, 101])).setIfInBounds 4 (encStr [120, 32, 121])), .int .i64 0]) := by
 refine (eE A 4 c _ (fun _ => some 4) (fun _ cs => ∃ s, eB (bZ fO) 2 = some s ∧ cs = ((gP [97] [76, 79, 71, 73, 78]).setIfInBounds 3 (encStr s.1)).setIfInBounds 4 (encStr s.2)) w hR jd jd (fun W W' g t csx cs h _ _ _ => h) (fun s hs fv hfv => ?_)).mono ?_
 ·
  have h1 : qO (bZ fO) 1 [0] = some [108, 111, 103, 105, 110] := jd
  rw [h1] at hs
  injection hs with hs
  subst hs
  have h2 : eS (qS [108, 111, 103, 105, 110]) = some (.func (.func 41) #[] #[]) := by rfl
  rw [h2] at hfv
  injection hfv with hfv
  exact ⟨_, hfv.symm, Tryz.call41, rY _ (fR _ _) jd⟩
 rintro e w' ⟨hf, cs', code, rfl, he⟩
 have h3 : cB (bZ fO) (fun _ => some 4) = some () := jd
 rw [h3] at he
 obtain ⟨rfl, _, s, hs, rfl⟩ := he
 have h4 : eB (bZ fO) 2 = some ([106, 111, 101], [120, 32, 121]) := jd
 rw [h4] at hs
 injection hs with hs
 subst hs
 exact ⟨hf, rfl⟩
theorem kR : (cH (bZ eH) 3).map (fun p => (p.2.1.length, (p.2.1.getD 1 it0).label, p.2.2)) = some (2, [66, 79, 68, 89, 91, 49, 93, 60, 48, 62], 8) := by decide +kernel
theorem rP (A : Option Addr) (c : Nat) (w : World) (hR : RdT w A 8 (bZ eH)) (hv : cK w) (htb : Tab w) : Calls Tryz.prog 10 #[.slice A 8 c] w fun e w' => Frm [] w w' ∧ ∃ cs', e = .returned (.tuple #[.agg cs', .int .i64 0]) ∧ (∀ u ∈ cs'.toList, u.oneCell' = true) ∧ cs'.size = 20 ∧ cs'[1]? = some (encStr [70, 69, 84, 67, 72]) ∧ cs'[2]? = some (.bool true) ∧ ∃ ad d, cs'[9]? = some (.slice (some ad) 2 d) ∧ ∀ W, Frm [] w' W → W.cell? ((ad.add (1 * 9)).add 1) = some (encStr [66, 79, 68, 89, 91, 49, 93, 60, 48, 62]) := by
 have hA : 0 < 8 → ∀ x ∈ ob A, x < w.heap.size := fun h0 x hx => hR.rd.lt h0 x hx
 refine (eE A 8 c _ (fun _ => fP (bZ eH) (fun _ => some 8)) (lP w.heap.size (bZ eH) 3 (nF [97] [70, 69, 84, 67, 72])) w hR jd jd (fun W W' g t csx cs h hb ht k => h.frm hb ht k) (fun s hs fv hfv => ?_)).mono ?_
 ·
  have h1 : qO (bZ eH) 1 [0] = some [117, 105, 100] := jd
  rw [h1] at hs
  injection hs with hs
  subst hs
  have h2 : eS (qS [117, 105, 100]) = some (.func (.func 38) #[] #[]) := by rfl
  rw [h2] at hfv
  injection hfv with hfv
  refine ⟨_, hfv.symm, Tryz.call38, pM A 8 c _ _ (fun _ => some 8) _ _ w jd _ rfl hA (fun s hs fv hfv => ?_)⟩
  have h3 : qO (bZ eH) 2 [0] = some [102, 101, 116, 99, 104] := jd
  rw [h3] at hs
  injection hs with hs
  subst hs
  have h4 : lN (qS [102, 101, 116, 99, 104]) = some (.func (.func 35) #[] #[]) := by rfl
  rw [h4] at hfv
  injection hfv with hfv
  refine ⟨_, hfv.symm, Tryz.call35, nA _ rfl (lR _ _) hA jd hv htb ?_⟩
  have h5 := kR
  obtain ⟨p, h6, h7⟩ := Option.map_eq_some_iff.1 h5
  rw [h6]
  injection h7 with h7 h8
  injection h8 with h8 h9
  show some 8 = some p.2.2
  rw [h9]
 rintro e w' ⟨hf, cs', code, rfl, he⟩
 have h3 : cB (bZ eH) (fun _ => fP (bZ eH) (fun _ => some 8)) = some () := by decide +kernel
 rw [h3] at he
 obtain ⟨rfl, hsz, sp, xs, q2, Bs, ds, I, d, rs, h4, h5, h6, _, rfl⟩ := he
 have h7 := kR
 rw [h4] at h7
 simp only [Option.map_some, Option.some.injEq, Prod.mk.injEq] at h7
 obtain ⟨h7, h8, h9⟩ := h7
 have hrl : rs.length = 2 := by rw [← h7, ← h5, zba]
 have h1 : 1 < rs.length := by omega
 obtain ⟨ad, rfl, _⟩ := h6.row.rd.elem h1
 refine ⟨hf, _, rfl, cJ (cJ (lR _ _) rfl) rfl, hsz, rfl, rfl, ad, d, by rw [hrl]; rfl, fun W hW => ?_⟩
 obtain ⟨ad2, h10, hc⟩ := (h6.row.frm hW jp).rd.elem h1
 cases h10
 refine hc 1 _ ?_
 unfold IRC
 rw [kF itR 9 (fun _ => rfl) rs 1 h1]
 have : (xs.getD 1 it0) = (rs[1]).x := by rw [← h5, zn, List.getElem?_map, zb h1]; rfl
 rw [this] at h8
 rw [← h8]
 rfl
theorem rR (A : Option Addr) (c : Nat) (w : World) (hR : RdT w A 3 (bZ kQ)) : Calls Tryz.prog 10 #[.slice A 3 c] w fun e w' => Frm [] w w' ∧ e = .returned (.tuple #[.agg (cM [97]), .int .i64 20]) := by
 refine (eE A 3 c _ (fun _ => some 2) (fun _ cs => cs = gP [97] [78, 79, 79, 80]) w hR jd jd (fun W W' g t csx cs h _ _ _ => h) (fun s hs fv hfv => ?_)).mono ?_
 ·
  have h1 : qO (bZ kQ) 1 [0] = some [110, 111, 111, 112] := jd
  rw [h1] at hs
  injection hs with hs
  subst hs
  have h2 : eS (qS [110, 111, 111, 112]) = some (.func (.func 39) #[] #[]) := by rfl
  rw [h2] at hfv
  injection hfv with hfv
  exact ⟨_, hfv.symm, Tryz.call39, nI _ (fR _ _) rfl⟩
 rintro e w' ⟨hf, cs', code, rfl, he⟩
 have h3 : cB (bZ kQ) (fun _ => some 2) = none := jd
 rw [h3] at he
 obtain ⟨rfl, rfl⟩ := he
 exact ⟨hf, rfl⟩
theorem lS (w : World) (hv : cK w) (htb : Tab w) : Calls Tryz.prog 8 #[] w fun e w' => e = .returned (.bool true) ∧ Frm [] w w' := by
 refine jV Tryz.func8 Tryz.ntmps8 Tryz.results8 ?_
 refine jS (jR (ja rfl (jO (jN ?_))))
 refine VC.sub [] .nil ?_
 refine jS (jR ?_)
 refine jc (jE1 Tryz.call16) (fB axS1 fO 200 _ jd mR.1 mR.2) ?_
 rintro _ v1 ⟨A1, d1, rfl, hR1, hf1⟩
 refine ⟨_, rfl, ?_⟩
 refine jc (jE1 Tryz.call10) (rN A1 d1 v1 hR1) ?_
 rintro _ u1 ⟨k1, rfl⟩
 refine ⟨_, rfl, ?_⟩
 refine jm rfl (jY rfl rfl (jY rfl rfl ?_))
 refine Ops.m (qV.alloc eY) rfl ?_
 rintro _ a1 ⟨rfl, hF1⟩
 obtain ⟨g1, hg1⟩ : ∃ g, g = u1.heap.size := ⟨_, rfl⟩
 have hb1 := hF1.blk
 rw [← hg1] at hb1 ⊢
 refine Ops.st (qQ.storeA rfl rfl zat hb1 rfl (cJ (cJ (fR _ _) rfl) rfl)) ?_
 rintro b1 ⟨hc1, hs1, hz1⟩
 have K1 : Frm [] w b1 := ((hf1.trans k1 jp).trans hF1.frm jp).own hs1 (by have := (hf1.trans k1 jp).size; simp; omega)
 refine ja rfl (jO (jN (jv2 1 2 ?_)))
 refine jS (jR ?_)
 refine jc (jE1 Tryz.call16) (fB axS2 eH 200 _ jd mS.1 mS.2) ?_
 rintro _ v2 ⟨A2, d2, rfl, hR2, hf2⟩
 refine ⟨_, rfl, ?_⟩
 refine jc (jE1 Tryz.call10) (rP A2 d2 v2 hR2 (hv.frm0 (K1.trans hf2 jp)) (htb.frm (K1.trans hf2 jp))) ?_
 rintro _ u2 ⟨k2, cs2, rfl, one2, sz2, n2, uid2, ad2, dd2, it2, lab2⟩
 refine ⟨_, rfl, ?_⟩
 refine jm rfl (jY rfl rfl (jY rfl rfl ?_))
 refine Ops.m (qV.alloc eY) rfl ?_
 rintro _ a2 ⟨rfl, hF2⟩
 obtain ⟨g2, hg2⟩ : ∃ g, g = u2.heap.size := ⟨_, rfl⟩
 have hb2 := hF2.blk
 rw [← hg2] at hb2 ⊢
 refine Ops.st (qQ.storeA rfl rfl (fun w => (zat w).trans (by rw [sz2])) hb2 sz2 one2) ?_
 rintro b2 ⟨hc2, hs2, hz2⟩
 have K2 : Frm [] b1 a2 := (hf2.trans k2 jp).trans hF2.frm jp
 have K2b : Frm [] b1 b2 := K2.own hs2 (by have := (hf2.trans k2 jp).size; simp; omega)
 have hc1 := hc1.frm K2b jp
 have lab2 : ∀ W, Frm [] b2 W → W.cell? ((ad2.add (1 * 9)).add 1) = some (encStr [66, 79, 68, 89, 91, 49, 93, 60, 48, 62]) := fun W hW => lab2 W ((hF2.frm.own hs2 (by simp; omega)).trans hW jp)
 refine ja rfl (jO (jN (jv4 1 2 3 4 ?_)))
 refine jS (jR ?_)
 refine jc (jE1 Tryz.call16) (fB axS3 kQ 200 _ jd mT.1 mT.2) ?_
 rintro _ v3 ⟨A3, d3, rfl, hR3, hf3⟩
 refine ⟨_, rfl, ?_⟩
 refine jc (jE1 Tryz.call10) (rR A3 d3 v3 hR3) ?_
 rintro _ u3 ⟨k3, rfl⟩
 refine ⟨_, rfl, ?_⟩
 refine jm rfl (jY rfl rfl (jY rfl rfl ?_))
 refine Ops.m (qV.alloc eY) rfl ?_
 rintro _ a3 ⟨rfl, hF3⟩
 obtain ⟨g3, hg3⟩ : ∃ g, g = u3.heap.size := ⟨_, rfl⟩
 have hb3 := hF3.blk
 rw [← hg3] at hb3 ⊢
 refine Ops.st (qQ.storeA rfl rfl zat hb3 rfl (fN _)) ?_
 rintro b3 ⟨hc3, hs3, hz3⟩
 have K3 : Frm [] b2 b3 := ((hf3.trans k3 jp).trans hF3.frm jp).own hs3 (by have := (hf3.trans k3 jp).size; simp; omega)
 have hc1 := hc1.frm K3 jp
 have hc2 := hc2.frm K3 jp
 have lab2 := lab2 _ K3
 refine ja rfl (jO (jN (jv6 1 2 3 4 5 6 ?_)))
 refine jS ?_
 refine VC.split1 [] .nil 0 (.bool (decide (True))) ?_ ?_
 ·
  refine jR (jf rfl zo rfl zd (jl rfl zg (hc1.cells 1 _ rfl) (je (Run.eqlT rfl rfl) (jM ?_))))
  refine jk (Run.fieldAddr rfl zo rfl zd jd) ?_
  refine jk (Run.load rfl zg (hc1.cells 3 _ rfl)) ?_
  refine jk (Run.eqlT rfl rfl) ?_
  refine jW rfl rfl au (jM ?_)
  refine jk (Run.fieldAddr rfl zo rfl zd jd) ?_
  refine jk (Run.load rfl zg (hc1.cells 4 _ rfl)) ?_
  refine jk (Run.eqlT rfl rfl) ?_
  refine jW rfl rfl au (jM ?_)
  refine jG ?_
  refine jk (Run.bin rfl rfl (Bin.eqlN _ 0)) ?_
  refine jW rfl rfl au (jM ?_)
  refine jk (Run.fieldAddr rfl zo rfl zd jd) ?_
  refine jk (Run.load rfl zg (hc2.cells 1 _ (by rw [zcc]; exact n2))) ?_
  refine jk (Run.eqlT rfl rfl) ?_
  refine jW rfl rfl au (jM ?_)
  refine jk (Run.fieldAddr rfl zo rfl zj jd) ?_
  refine jk (Run.load rfl zai (hc2.cells 2 _ (by rw [zcc]; exact uid2))) ?_
  refine jW rfl rfl au (jM ?_)
  refine jk (Run.fieldAddr rfl zo rfl zch jd) ?_
  refine jk (Run.load rfl Tryz.isAgg27 (hc2.cells 9 _ (by rw [zcc]; exact it2))) ?_
  refine jk (Run.lenS rfl zdb) ?_
  refine jk (Run.bin rfl rfl (Bin.eqlN _ 2)) ?_
  refine jW rfl rfl au (jM ?_)
  refine jk (Run.fieldAddr rfl zo rfl zch jd) ?_
  refine jk (Run.load rfl Tryz.isAgg27 (hc2.cells 9 _ (by rw [zcc]; exact it2))) ?_
  refine jk (Run.indexS 1 rfl rfl zdb zy jo) ?_
  refine jk (Run.fieldAddr rfl zf rfl zd jd) ?_
  refine jk (Run.load rfl zg lab2) ?_
  refine jk (Run.eqlT rfl rfl) ?_
  refine jW rfl rfl au (jM ?_)
  refine jG ?_
  refine jk (Run.bin rfl rfl (Bin.eqlN _ 0)) ?_
  refine jW rfl rfl au (jM ?_)
  refine jG ?_
  refine jk (Run.bin rfl rfl (Bin.eqlN _ 20)) ?_
  refine jW rfl rfl au (jM ?_)
  refine jk (Run.fieldAddr rfl zo rfl zd jd) ?_
  refine jk (Run.load rfl zg (hc3.cells 0 _ rfl)) ?_
  refine jk (Run.eqlT rfl rfl) ?_
  refine jW rfl rfl au (jm rfl (jW rfl rfl au (ja rfl (jO ?_))))
  refine jN ⟨(js1 (jC jp)), rfl⟩
 intro Γ hΓ
 refine jN (VC.sub _ hΓ ?_)
 refine jT ?_
 refine qN rfl ?_
 exact ⟨rfl, (K1.trans K2b jp).trans K3 jp⟩
theorem kX (w : World) (hv : cK w) (htb : Tab w) : Calls Tryz.prog 3 #[] w fun e w' => e = .returned (.bool true) ∧ Frm [] w w' := by
 refine jV Tryz.func3 Tryz.ntmps3 Tryz.results3 ?_
 refine jS (jR (ja rfl (jO (jN ?_))))
 refine VC.sub [] .nil ?_
 refine jS (jR (jM ?_))
 refine Ops.clg rfl au (jE0 Tryz.call8) (lS w hv htb) rfl ?_
 rintro _ w1 ⟨rfl, hf1⟩
 refine ⟨_, rfl, ?_⟩
 refine jW rfl rfl au (ja rfl (jO (jN (jv1 0 ?_))))
 refine jT ?_
 refine qN rfl ?_
 exact ⟨rfl, hf1⟩
end
end Go.Proofs.YtjklfpccmaljjaaGreatDoor
