/-
  Lemmas on the way, joined: StoZb, BoxL0, StoQ0, StoZc, StoZd, StoZe, StoQS.
-/
import Derived.Lib.Overlaps
import Derived.Test.YtgmbmfpfhcekiaaGreatPk3
set_option maxRecDepth 100000
set_option linter.unusedVariables false
set_option linter.unusedSimpArgs false
namespace Go.Proofs.YtgmbmfpfhcekiaaGreat
section
open Go.RowKit Go.Sort
def oK (l : List MsgP) : List MsgP := fY (if 20 < l.length ∧ l.length ≤ 128 then l.take 20 else l)
def fG (x : NmP) : NmP := (x.1.take 70, ⟨x.2.valid, x.2.next, oK x.2.l⟩)
def mS (m : MailP) : MailP := ⟨(m.l.take 25).map fG, (m.subs.take 25).map (fun s => s.take 70), m.valid, m.blob⟩
theorem sY (l : List Tx) : cB (cB l) = cB l := by
 obtain ⟨h1, h2⟩ := nT l
 have e : cB (cB l) = ((cB l).take 24).map fun x => x.take 30 := rfl
 rw [e, zn h1]
 exact (zdo (g := id) fun x hx => zn (h2 x hx)).trans (List.map_id _)
theorem kZ (l : List MsgP) : (fY l).length = min 129 l.length := by unfold fY; simp
theorem lA (l : List MsgP) : fY (fY l) = fY l := by
 have e : fY (fY l) = ((fY l).take 129).map fun m => { m with flags := cB m.flags } := rfl
 rw [e, zn (by rw [kZ]; omega)]
 unfold fY
 rw [zcg]
 exact zdo fun m _ => by simp only [Function.comp, sY]
theorem wF (l : List MsgP) : oK (oK l) = oK l := by
 unfold oK
 by_cases h : 20 < l.length ∧ l.length ≤ 128
 · rw [if_pos h, if_neg (by rw [kZ, zk]; omega), lA]
 rw [if_neg h, if_neg (by rw [kZ]; omega), lA]
theorem wI (m : MailP) : mS (mS m) = mS m := by
 unfold mS
 congr 1
 ·
  rw [zn (by simp; omega), zcg]
  refine zdo fun x _ => ?_
  show fG (fG x) = fG x
  unfold fG
  dsimp only
  rw [wF, zcs, Nat.min_self]
 rw [zn (by simp; omega), zcg]
 refine zdo fun x _ => ?_
 show (x.take 70).take 70 = x.take 70
 rw [zcs, Nat.min_self]
structure RawL (w : World) (m : MlC) : Prop where
 l : Rd w 4 m.A m.l.length (NDC m.l)
 el : ∀ x ∈ m.l, RawM w x.A x.l ∧ x.l.length ≤ x.c
 s : Rd w 1 m.S m.ss.length (SB m.ss)
 lc : m.l.length ≤ m.c
 sc : m.ss.length ≤ m.d
theorem RawL.frm {w w' : World} {m : MlC} (h : RawL w m) (k : Frm [] w w') : RawL w' m := ⟨h.l.frm k jp, fun x hx => ⟨(h.el x hx).1.frm k, (h.el x hx).2⟩, h.s.frm k jp, h.lc, h.sc⟩
theorem RawL.takeL {w : World} {m : MlC} (h : RawL w m) (k : Nat) : Rd w 4 m.A (m.l.take k).length (NDC (m.l.take k)) := by
 rcases Nat.le_total k m.l.length with hm | hm
 ·
  have h1 := h.l.cut (cap := m.l.length) (zai k) hm (zad _)
  rw [dM, zbo, Nat.zero_mul, zbh, fO m.l k hm] at h1
  rw [zk, zaj hm]
  exact h1
 rw [zn hm]
 exact h.l
theorem RawL.takeS {w : World} {m : MlC} (h : RawL w m) (k : Nat) : Rd w 1 m.S (m.ss.take k).length (SB (m.ss.take k)) := by
 rcases Nat.le_total k m.ss.length with hm | hm
 ·
  have h1 := h.s.cut (cap := m.ss.length) (zai k) hm (zad _)
  rw [dM, zbo, Nat.zero_mul, zbh, zbb, show (SB m.ss).take k = SB (m.ss.take k) by simp [SB, zda]] at h1
  rw [zk, zaj hm]
  exact h1
 rw [zn hm]
 exact h.s
theorem qQh {w : World} {A : Option Addr} {l : List Nc} {k : Nat} (h : Rd w 4 A l.length (NDC l)) (hk : k < l.length) : ∃ ad, A = some ad ∧ ∀ W, Frm [] w W → ∀ j v, (l[k]).cells[j]? = some v → W.cell? ((ad.add (k * 4)).add j) = some v := by
 obtain ⟨ad, rfl, hc⟩ := h.elem hk
 refine ⟨ad, rfl, fun W hW j v hj => ?_⟩
 obtain ⟨ad', e, hc'⟩ := (h.frm hW jp).elem hk
 cases e
 exact hc' j v (by rw [eB Nc.cells 4 Nc.cells_len l k hk]; exact hj)
theorem OwM.offO {w w' : World} {A B : Option Addr} {d size n c : Nat} {l : List Mc} {e : TypeId} {xs : List Value} (h : OwM w A d l) (k : Frm (ob B) w w') (hB : Own w e size B n c xs) (h1 : 60 ≠ e) (h2 : 9 ≠ e) : OwM w' A d l :=
 ⟨h.own.frm k (fun y hy => h.own.ne_own hB h1 y hy), fun x hx => (h.fl x hx).frm k (fun y hy => (h.fl x hx).ne_own hB h2 y hy), h.fit⟩
theorem OwM.at27 {w : World} {x : Nc} (h : OwM w x.A x.c x.l) (h1 : x.l.length ≤ 129) (h2 : x.nm.length ≤ 70) : x.At w := ⟨h.rdm, jo, jo⟩
structure OwL (w : World) (m : MlC) : Prop where
 l : Own w 45 4 m.A m.l.length m.c (NDC m.l)
 el : ∀ x ∈ m.l, OwM w x.A x.c x.l ∧ x.l.length ≤ 129 ∧ x.nm.length ≤ 70
 s : Own w 9 1 m.S m.ss.length m.d (SB m.ss)
 ln : m.l.length ≤ 25
 sn : m.ss.length ≤ 25
 sq : ∀ q ∈ m.ss, q.length ≤ 70
theorem OwL.frm {w w' : World} {m : MlC} (h : OwL w m) (k : Frm [] w w') : OwL w' m := ⟨h.l.frm k jp, fun x hx => ⟨(h.el x hx).1.frm k, (h.el x hx).2⟩, h.s.frm k jp, h.ln, h.sn, h.sq⟩
theorem OwL.rdl {w : World} {m : MlC} (h : OwL w m) : RdL w m := ⟨⟨h.l.rd, fun x hx => (h.el x hx).1.at27 (h.el x hx).2.1 (h.el x hx).2.2⟩, h.s.rd, h.l.le, h.s.le, by have := h.ln; omega, by have := h.sn; omega, fun q hq => by have := h.sq q hq; omega⟩
theorem OwL.raw {w : World} {m : MlC} (h : OwL w m) : RawL w m := ⟨h.l.rd, fun x hx => ⟨(h.el x hx).1.raw, (h.el x hx).1.own.le⟩, h.s.rd, h.l.le, h.s.le⟩
theorem OwL.blk {w w' : World} {m : MlC} {g : Nat} {t : TypeId} {cs : Array Value} (h : OwL w m) (k : Frm [g] w w') (hb : Blk w g t cs) (h0 : 45 ≠ t) (h1 : 60 ≠ t) (h2 : 9 ≠ t) : OwL w' m :=
 ⟨h.l.frm k (fun y hy h' => by rw [za] at h'; subst h'; exact h.l.ne_blk hb h0 hy), fun x hx => ⟨(h.el x hx).1.blk k hb h1 h2, (h.el x hx).2⟩, h.s.frm k (fun y hy h' => by rw [za] at h'; subst h'; exact h.s.ne_blk hb h2 hy), h.ln, h.sn, h.sq⟩
theorem rV {w : World} {A : Option Addr} {l : List Tx} {k : Nat} (h : Rd w 1 A l.length (SB l)) (hk : k < l.length) : ∃ ad, A = some ad ∧ w.cell? ((ad.add (k * 1)).add 0) = some (encStr l[k]) := by
 obtain ⟨ad, hA, hc⟩ := h.elem hk
 exact ⟨ad, hA, hc 0 _ (by simp [SB, zd hk])⟩
theorem kY {α β : Type} (f : α → β) {l : List α} {i : Nat} (h : i < l.length) : (l.take (i + 1)).map f = (l.take i).map f ++ [f l[i]] := by rw [zan, zd h, zbc]; rfl
set_option maxHeartbeats 1000000 in
theorem nU (m : MlC) (w : World) (hm : RawL w m) : Calls Tryz.prog 11 #[m.val] w fun e w' => ∃ m' : MlC, e = .returned m'.val ∧ m'.p = mS m.p ∧ OwL w' m' ∧ m'.b = m.b ∧ Frm [] w w' := by
 have hlc := hm.lc
 have hsc := hm.sc
 refine VC.calls (nt := 85) (res := #[.cell 2 25]) Tryz.func11 rfl Tryz.ntmps11 Tryz.results11 rfl ?_
 refine jS (jR ?_)
 refine Ops.m (qJ.box rfl) rfl ?_
 rintro _ w1 ⟨rfl, hF_w1⟩
 have hb1 : Blk w1 w.heap.size 25 #[.slice m.A m.l.length m.c, .slice m.S m.ss.length m.d, .int .i64 m.v, .int .i64 m.b] := hF_w1.blk
 have K := hF_w1.frm
 generalize hg1 : w.heap.size = g1 at hb1 ⊢
 refine Ops.m (qJ.alloc bZ) rfl ?_
 rintro _ w2 ⟨rfl, hF2⟩
 have hb4 := hF2.blk
 have hg4 : w.heap.size ≤ w1.heap.size := K.size
 have hb1 := hb1.frm hF2.frm jp
 have hl1 := hb1.lt
 have hl4 := hb4.lt
 have K := K.trans hF2.frm jp
 have hne14 : g1 ≠ w1.heap.size := by have := hF_w1.size; omega
 have hg1s : w.heap.size ≤ g1 := jo
 generalize hg4' : w1.heap.size = g4 at hb4 hg4 hne14 hl4 ⊢
 refine jO (jN (jv2 1 2 ?_))
 refine jS (jS (jR (jf rfl ze rfl zac (jl rfl zap (hb1.cell 0) (je (Run.lenS rfl zg) (jb rfl rfl (Bin.gtrN _ 25) (jO (jN (jv3 1 2 11 ?_)))))))))
 refine VC.meet (σ := Unit) (fun s => [(1, .pointer (some ⟨g1, 0, none⟩)), (2, .pointer (some ⟨g4, 0, none⟩))]) (fun s wm => Blk wm g1 25 #[.slice m.A (m.l.take 25).length m.c, .slice m.S m.ss.length m.d, .int .i64 m.v, .int .i64 m.b] ∧ Blk wm g4 25 qS.cells.toArray ∧ Frm [] w wm) ?_ ?_
 ·
  refine jD rfl (fun hc1 => ?_) fun hc1 => ?_
  ·
   refine jR (jf rfl ze rfl zac (jl rfl zap (hb1.cell 0) (je (Run.sliceS 0 25 rfl zg zq evB.none_ (evB.some_ rfl) jo jo) (jf rfl ze rfl zac ?_))))
   refine Ops.st (qP.store rfl rfl zac hb1 rfl rfl) ?_
   rintro w3 ⟨hbn, (hfw3 : Frm [g1] _ _), hsw3⟩
   have hlt : (m.l.take 25).length = 25 := by rw [zk]; omega
   have hbn : Blk w3 g1 25 #[.slice (dX m.A m.c 0 4) (25 - 0) (m.c - 0), .slice m.S m.ss.length m.d, .int .i64 m.v, .int .i64 m.b] := hbn
   rw [dM, zbo, zbo] at hbn
   have hb1 : Blk w3 g1 25 #[.slice m.A (m.l.take 25).length m.c, .slice m.S m.ss.length m.d, .int .i64 m.v, .int .i64 m.b] := by rw [hlt]; exact hbn
   have hb4 := hb4.frm hfw3 (by simp; omega)
   have K := K.own hfw3 (fun y hy => by rw [za] at hy; omega)
   refine jO ?_
   refine jN ⟨(), (js2 rfl rfl), ?_⟩
   exact ⟨hb1, hb4, K⟩
  refine jQ ?_
  refine jN ⟨(), (js2 rfl rfl), ?_⟩
  have hlt : (m.l.take 25).length = m.l.length := by rw [zk]; omega
  exact ⟨by rw [hlt]; exact hb1, hb4, K⟩
 rintro _ w3 ⟨hb1, hb4, K⟩ Γ hΓ
 refine jN (VC.sub _ hΓ (jS (jS (jR (jf rfl ze rfl zu (jl rfl zah (hb1.cell 1) (je (Run.lenS rfl zb) (jb rfl rfl (Bin.gtrN _ 25) (jO (jN (jv3 1 2 19 ?_)))))))))))
 refine VC.meet (σ := Unit) (fun s => [(1, .pointer (some ⟨g1, 0, none⟩)), (2, .pointer (some ⟨g4, 0, none⟩))]) (fun s wm => Blk wm g1 25 #[.slice m.A (m.l.take 25).length m.c, .slice m.S (m.ss.take 25).length m.d, .int .i64 m.v, .int .i64 m.b] ∧ Blk wm g4 25 qS.cells.toArray ∧ Frm [] w wm) ?_ ?_
 ·
  refine jD rfl (fun hc2 => ?_) fun hc2 => ?_
  ·
   refine jR (jf rfl ze rfl zu (jl rfl zah (hb1.cell 1) (je (Run.sliceS 0 25 rfl zb zf evB.none_ (evB.some_ rfl) jo jo) (jf rfl ze rfl zu ?_))))
   refine Ops.st (qP.store rfl rfl zu hb1 rfl rfl) ?_
   rintro w4 ⟨hbn, (hfw4 : Frm [g1] _ _), hsw4⟩
   have hst : (m.ss.take 25).length = 25 := by rw [zk]; omega
   have hbn : Blk w4 g1 25 #[.slice m.A (m.l.take 25).length m.c, .slice (dX m.S m.d 0 1) (25 - 0) (m.d - 0), .int .i64 m.v, .int .i64 m.b] := hbn
   rw [dM, zbo, zbo] at hbn
   have hb1 : Blk w4 g1 25 #[.slice m.A (m.l.take 25).length m.c, .slice m.S (m.ss.take 25).length m.d, .int .i64 m.v, .int .i64 m.b] := by rw [hst]; exact hbn
   have hb4 := hb4.frm hfw4 (by simp; omega)
   have K := K.own hfw4 (fun y hy => by rw [za] at hy; omega)
   refine jO ?_
   refine jN ⟨(), (js2 rfl rfl), ?_⟩
   exact ⟨hb1, hb4, K⟩
  refine jQ ?_
  refine jN ⟨(), (js2 rfl rfl), ?_⟩
  have hst : (m.ss.take 25).length = m.ss.length := by rw [zk]; omega
  exact ⟨by rw [hst]; exact hb1, hb4, K⟩
 rintro _ w4 ⟨hb1, hb4, K⟩ Γ hΓ
 have hRl := hm.takeL 25
 have hRs := hm.takeS 25
 have hRe : ∀ x ∈ m.l.take 25, RawM w x.A x.l ∧ x.l.length ≤ x.c := fun x hx => hm.el x (zcw hx)
 have hRn : (m.l.take 25).length ≤ 25 := zcr _ _
 have hRm : (m.ss.take 25).length ≤ 25 := zcr _ _
 obtain ⟨l, hl⟩ : ∃ l, l = m.l.take 25 := ⟨_, rfl⟩
 obtain ⟨ss, hss⟩ : ∃ ss, ss = m.ss.take 25 := ⟨_, rfl⟩
 rw [← hl] at hRl hRe hRn hb1
 rw [← hss] at hRs hRm hb1
 refine jN (VC.sub _ hΓ (jS (jR (ja rfl (jO (jN (jS (jS (jR (jz 0 (jO (jN (jB ?_)))))))))))))
 refine VC.loop (σ := Nat × Option Addr × Nat × List Nc) (fun s => [(1, .pointer (some ⟨g1, 0, none⟩)), (2, .pointer (some ⟨g4, 0, none⟩)), (3, .slice s.2.1 s.2.2.2.length s.2.2.1), (4, .int .i64 ((s.1 : Nat) : Int))]) (fun s wr => s.1 ≤ l.length ∧ Blk wr g1 25 #[.slice m.A l.length m.c, .slice m.S ss.length m.d, .int .i64 m.v, .int .i64 m.b] ∧ Blk wr g4 25 qS.cells.toArray ∧ Own wr 45 4 s.2.1 s.2.2.2.length s.2.2.1 (NDC s.2.2.2) ∧ (∀ x ∈ s.2.2.2, OwM wr x.A x.c x.l ∧ x.l.length ≤ 129 ∧ x.nm.length ≤ 70) ∧ Ns s.2.2.2 = ((l.take s.1).map Nc.p).map fG ∧ (∀ b ∈ ob s.2.1, w.heap.size ≤ b) ∧ Frm [] w wr) (fun s => l.length - s.1) (0, none, 0, []) (js4 rfl rfl rfl rfl) ⟨zai _, hb1, hb4, Own.nil _ _ _, jp, rfl, by simp [ob], K⟩ ?_
 rintro ⟨i, B, d, l'⟩ wr ⟨hi, hb1, hb4, ho, hel', hns, hob, K⟩
 dsimp only at *
 have hll : l'.length = i := by
  have h := congrArg List.length hns
  rw [bT, zat, zat, zk] at h
  omega
 refine jS (jS (jR (jm rfl (jf rfl ze rfl zac (jl rfl zap (hb1.cell 0) (je (Run.lenS rfl zg) (jb rfl rfl (Bin.lssN _ _) (jO (jN (jv5 1 2 3 4 28 ?_))))))))))
 refine jD rfl (fun hc3 => ?_) fun hc3 => ?_
 ·
  obtain ⟨ad, had, hel⟩ := qQh hRl hc3
  have hxr := hRe _ (zx hc3)
  have hts := kY (fun x : Nc => fG x.p) hc3
  generalize hx : l[i] = x at *
  refine jQ (jN (jv4 1 2 3 4 ?_))
  refine jS (jB (jS (jR (jf rfl ze rfl zac (jl rfl zap (hb1.cell 0) (jm rfl (je (Run.indexS i (show _ = some (Value.slice (some ad) l.length m.c) by rw [← had]; rfl) rfl zg zq hc3) (jf rfl zw rfl zt (je (Run.loadA rfl zaw zt (cs := BVc x.v x.n x.A x.l.length x.c) (fun j v hj => by rw [Go.Proofs.YtgmbmfpfhcekiaaGreat.add_add]; exact hel _ K (1 + j) v (by rw [Nat.add_comm]; exact hj)) (by first | rfl | (simp; done))) ?_)))))))))
  refine Ops.m (qJ.alloc cD) rfl ?_
  rintro _ w5 ⟨rfl, hF5⟩
  have hb1 := hb1.frm hF5.frm jp
  have hb4 := hb4.frm hF5.frm jp
  have ho := ho.frm hF5.frm jp
  have hel' := fun x hx => show OwM w5 x.A x.c x.l ∧ x.l.length ≤ 129 ∧ x.nm.length ≤ 70 from ⟨(hel' x hx).1.frm hF5.frm, (hel' x hx).2⟩
  have hb5 := hF5.blk
  have hK5 := K.size
  have hl1 := hb1.lt
  have hl4 := hb4.lt
  have hne15 : g1 ≠ wr.heap.size := fun e => by have := hb1.ne hb5 jd; omega
  have hne45 : g4 ≠ wr.heap.size := fun e => by have := hb4.ne hb5 jd; omega
  have K := K.trans hF5.frm jp
  generalize hgg5 : wr.heap.size = g5 at hb5 hK5 hne15 hne45 ⊢
  have ho5 := ho.ne_blk hb5 jd
  have hb50 := hb5
  refine Ops.st (qP.storeA rfl rfl zt hb5 rfl (cR x.v x.n x.A x.l.length x.c)) ?_
  rintro w6 ⟨hb5, (hf6 : Frm [g5] _ _), hs6⟩
  have hb5 : Blk w6 g5 43 (BVc x.v x.n x.A x.l.length x.c).toArray := hb5
  have hb1 := hb1.frm hf6 (by simp; omega)
  have hb4 := hb4.frm hf6 (by simp; omega)
  have ho := ho.frm hf6 (fun y hy h => by rw [za] at h; subst h; exact ho5 hy)
  have hel' := fun x hx => show OwM w6 x.A x.c x.l ∧ x.l.length ≤ 129 ∧ x.nm.length ≤ 70 from ⟨(hel' x hx).1.blk hf6 hb50 jd jd, (hel' x hx).2⟩
  have K := K.own hf6 (fun y hy => by rw [za] at hy; omega)
  refine jO (jN (jv5 1 2 3 4 5 ?_))
  refine jS (jS ?_)
  refine VC.split1 [(1, _), (2, _), (3, _), (4, _), (5, _)] (js5 rfl rfl rfl rfl rfl) 46 (.bool (decide ((20 < x.l.length) ∧ (x.l.length ≤ 128)))) ?_ ?_
  ·
   by_cases hs0 : 20 < x.l.length
   ·
    refine jR (jf rfl zl rfl zae (jl rfl zao (hb5.cell 2) (je (Run.lenS rfl zv) (jb rfl rfl (Bin.gtrN _ 20) (jM ?_)))))
    refine jk (Run.fieldAddr rfl zl rfl zae jd) ?_
    refine jk (Run.load rfl zao (hb5.cell 2)) ?_
    refine jk (Run.lenS rfl zv) ?_
    refine jk (Run.bin rfl rfl (Bin.leqN _ 128)) ?_
    refine je (Run.pickT rfl rfl au) (jO ?_)
    refine jN ⟨(js6 (by rw [mU hs0]; rfl) rfl rfl rfl rfl rfl), rfl⟩
   refine jR (jf rfl zl rfl zae (jl rfl zao (hb5.cell 2) (je (Run.lenS rfl zv) (jb rfl rfl (Bin.gtrN _ 20) (jM ?_)))))
   refine jU ?_
   refine jU ?_
   refine jU ?_
   refine jU ?_
   refine je (Run.pickF rfl rfl au) (jO ?_)
   refine jN ⟨(js6 (by rw [mC hs0]; rfl) rfl rfl rfl rfl rfl), rfl⟩
  intro Γ hΓ
  refine jN (VC.sub _ hΓ ?_)
  refine VC.meet (σ := List Mc) (fun s => [(1, .pointer (some ⟨g1, 0, none⟩)), (2, .pointer (some ⟨g4, 0, none⟩)), (3, .slice B l'.length d), (4, .int .i64 ((i : Nat) : Int)), (5, .pointer (some ⟨g5, 0, none⟩))]) (fun s wm => s = (if 20 < x.l.length ∧ x.l.length ≤ 128 then x.l.take 20 else x.l) ∧ s.length ≤ x.c ∧ Blk wm g5 43 (BVc x.v x.n x.A s.length x.c).toArray ∧ Blk wm g1 25 #[.slice m.A l.length m.c, .slice m.S ss.length m.d, .int .i64 m.v, .int .i64 m.b] ∧ Blk wm g4 25 qS.cells.toArray ∧ Own wm 45 4 B l'.length d (NDC l') ∧ (∀ x ∈ l', OwM wm x.A x.c x.l ∧ x.l.length ≤ 129 ∧ x.nm.length ≤ 70) ∧ Frm [] w wm) ?_ ?_
  ·
   refine jD rfl (fun hc4 => ?_) fun hc4 => ?_
   ·
    refine jR (jf rfl zl rfl zae (jl rfl zao (hb5.cell 2) (je (Run.sliceS 0 20 rfl zv zam evB.none_ (evB.some_ rfl) jo jo) (jf rfl zl rfl zae ?_))))
    have ho5 := ho.ne_blk hb5 jd
    have hb50 := hb5
    refine Ops.st (qP.store rfl rfl zae hb5 rfl rfl) ?_
    rintro w7 ⟨hbn, (hf7 : Frm [g5] _ _), hs7⟩
    have hlt : (x.l.take 20).length = 20 := by rw [zk]; omega
    have hbn : Blk w7 g5 43 (BVc x.v x.n (dX x.A x.c 0 6) (20 - 0) (x.c - 0)).toArray := hbn
    rw [dM, zbo, zbo] at hbn
    have hb5 : Blk w7 g5 43 (BVc x.v x.n x.A (x.l.take 20).length x.c).toArray := by rw [hlt]; exact hbn
    have hb1 := hb1.frm hf7 (by simp; omega)
    have hb4 := hb4.frm hf7 (by simp; omega)
    have ho := ho.frm hf7 (fun y hy h => by rw [za] at h; subst h; exact ho5 hy)
    have hel' := fun x hx => show OwM w7 x.A x.c x.l ∧ x.l.length ≤ 129 ∧ x.nm.length ≤ 70 from ⟨(hel' x hx).1.blk hf7 hb50 jd jd, (hel' x hx).2⟩
    have K7 := K.own hf7 (fun y hy => by rw [za] at hy; omega)
    refine jO ?_
    refine jN ⟨(x.l.take 20), (js5 rfl rfl rfl rfl rfl), ?_⟩
    exact ⟨by rw [if_pos (by first | exact hc4 | exact of_decide_eq_true hc4)], by rw [zk]; omega, hb5, hb1, hb4, ho, hel', K7⟩
   refine jQ ?_
   refine jN ⟨x.l, (js5 rfl rfl rfl rfl rfl), ?_⟩
   exact ⟨by rw [if_neg (by first | exact hc4 | exact of_decide_eq_false hc4)], hxr.2, hb5, hb1, hb4, ho, hel', K⟩
  rintro lx w8 ⟨hlx, hlc, hb5, hb1, hb4, ho, hel', K⟩ Γ hΓ
  have hxl : RawM w8.drew x.A lx := by
   have h := (hRe x (by rw [← hx]; exact zx hc3)).1.frm K.drew
   rw [hlx]
   split
   · exact h.take 20
   exact h
  have hnB1 := ho.ne_blk hb1 jd
  have hnB4 := ho.ne_blk hb4 jd
  have hnB5 := ho.ne_blk hb5 jd
  refine jN (VC.sub _ hΓ ?_)
  refine VC.held (fun W => Frm (ob B) w8 W) jK ?_
  have hS : Frm (ob B) w8 w8.drew := (Frm.refl _ _).drew
  have hS0 : Frm [] w8 w8.drew := (Frm.refl _ _).drew
  refine jH 0 rfl hS (fun w0 hw0 => Run.mv rfl) ?_
  refine jH 1 rfl hS (fun w0 hw0 => Run.fieldAddr rfl ze rfl zac jd) ?_
  refine jH 2 rfl hS (fun w0 hw0 => Run.load rfl zap ((hb1.frm hw0 hnB1).cell 0)) ?_
  refine jH 3 rfl hS (fun w0 hw0 => Run.mv rfl) ?_
  refine jH 4 rfl hS (fun w0 hw0 => Run.indexS i (show _ = some (Value.slice (some ad) l.length m.c) by rw [← had]; rfl) rfl zg zq hc3) ?_
  refine jH 5 rfl hS (fun w0 hw0 => Run.fieldAddr rfl zw rfl zf jd) ?_
  refine jH 6 rfl hS (fun w0 hw0 => Run.load rfl zr (hel _ (K.own hw0 hob) 0 (encStr x.nm) rfl)) ?_
  refine jH 8 rfl hS (fun w0 hw0 => Run.loadA rfl zaw zt (fun j v hj => (hb5.frm hw0 hnB5).cells j v hj) (by first | rfl | (simp; done))) ?_
  refine qZ.cl 7 rfl jK (jE1 Tryz.call12) (gP x.nm _) trivial rfl rfl ?_
  rintro e _ ⟨rfl, rfl⟩
  refine ⟨_, rfl, hS, ?_⟩
  refine qZ.cl 9 rfl jK (jE1 Tryz.call44) (uF x.v x.n x.A x.c lx _ hxl hlc) trivial rfl rfl ?_
  rintro e w9 ⟨hf9, C, dC, lC, rfl, hoC, hMC, hCl, hCb⟩
  have hS9 := hS.trans hf9 jp
  have hS09 := hS0.trans hf9 jp
  refine ⟨_, rfl, hS9, ?_⟩
  have hS := hS9
  have ho9 := ho.frm hS09 jp
  have hel9 := fun x hx => show OwM w9 x.A x.c x.l ∧ x.l.length ≤ 129 ∧ x.nm.length ≤ 70 from ⟨(hel' x hx).1.frm hS09, (hel' x hx).2⟩
  refine jH 10 rfl hS (fun w0 hw0 => Run.build (evs.cons rfl (evs.cons rfl evs.nil)) cS (eC).choose_spec.1 (eC).choose_spec.2 rfl) ?_
  refine qZ.m 11 rfl jK (qJ.buildS1 rfl zg zq cS jd jd rfl rfl) trivial rfl rfl ?_
  rintro _ w10 ⟨rfl, hF10⟩
  have hr10 : Rd w10 4 (some ⟨w9.heap.size, 0, none⟩) 1 (NDC [⟨x.nm.take 70, x.v, x.n, C, dC, lC⟩]) := uJ (x := ⟨x.nm.take 70, x.v, x.n, C, dC, lC⟩) hF10
  have hS010 := hS09.trans hF10.frm jp
  have hS10 := hS.trans hF10.frm jp
  refine ⟨hS10, ?_⟩
  have hS := hS10
  have ho10 := ho9.frm hF10.frm jp
  have hel10 := fun x hx => show OwM w10 x.A x.c x.l ∧ x.l.length ≤ 129 ∧ x.nm.length ≤ 70 from ⟨(hel9 x hx).1.frm hF10.frm, (hel9 x hx).2⟩
  have hoC10 := hoC.frm hF10.frm
  have K10 := K.trans hS010 jp
  have hK10 := K10.size
  have hS90 := hS09.size
  have hK8 := K.size
  refine qZ.m 12 rfl jK (qJ.app rfl rfl zg (gU) rfl jd ho10 hr10 (eE _) jo jo) trivial rfl rfl ?_
  rintro _ w11 ⟨B6, c6, rfl, ho6, hf6, hob6⟩
  rw [← cE] at ho6
  have hS11 := hS10.trans hf6 (fun y hy => .inl hy)
  refine ⟨hS11, ?_⟩
  have hS := hS11
  have hel11 : ∀ y ∈ l' ++ [⟨x.nm.take 70, x.v, x.n, C, dC, lC⟩], OwM w11 y.A y.c y.l ∧ y.l.length ≤ 129 ∧ y.nm.length ≤ 70 := fun y hy => by
   rcases zeb.1 hy with h | h
   · exact ⟨(hel10 y h).1.offO hf6 ho10 jd jd, (hel10 y h).2⟩
   rw [za] at h
   subst h
   exact ⟨hoC10.offO hf6 ho10 jd jd, hCl, zcr _ _⟩
  have hob6 : ∀ b ∈ ob B6, w.heap.size ≤ b := fun b hb => by
   rcases hob6 with h | h
   · rw [h] at hb; exact hob b hb
   rw [h, za] at hb; omega
  have K11 := K10.own hf6 hob
  have hb1 := hb1.frm hS11 hnB1
  have hb4 := hb4.frm hS11 hnB4
  refine jH 13 rfl hS (fun w0 hw0 => Run.asg rfl) ?_
  refine qZ.done jK ?_
  refine qW (jN ?_)
  refine jv4 1 2 3 4 ?_
  refine jR (jm rfl (jb rfl rfl (Bin.add_i64 _ 1 jo) (ja rfl (jO ?_))))
  refine jN ⟨(i + 1, B6, c6, l' ++ [⟨x.nm.take 70, x.v, x.n, C, dC, lC⟩]), (js4 rfl rfl (by rw [zh]; rfl) rfl), ?_, ?_⟩
  ·
   refine ⟨hc3, hb1, hb4, by rw [zh]; exact ho6, hel11, ?_, hob6, K11⟩
   rw [zcg] at hns
   rw [zcg]
   show Ns (l' ++ _) = List.map (fun x => fG (Nc.p x)) (l.take (i + 1))
   rw [hts]
   show (l' ++ _).map Nc.p = _
   rw [zbc]
   have hns' : l'.map Nc.p = List.map (fun x => fG (Nc.p x)) (l.take i) := hns
   rw [hns']
   congr 1
   show [Nc.p _] = [fG x.p]
   unfold Nc.p fG oK
   dsimp only
   rw [hMC, hlx]
   congr 4
   have hml : (Ms x.l).length = x.l.length := by simp [Ms]
   rw [hml]
   split <;> simp [Ms]
  first | omega | (dsimp only; omega)
 obtain rfl : i = l.length := jo
 rw [zag] at hns
 refine jX ?_
 refine qK (qK (qT ?_))
 refine jN (jv3 1 2 3 ?_)
 refine jS (jR (jm rfl (jf rfl ze rfl zac ?_)))
 have ho1 := ho.ne_blk hb1 jd
 have hb10 := hb1
 refine Ops.st (qP.store rfl rfl zac hb1 rfl rfl) ?_
 rintro w13 ⟨hb1, (hf13 : Frm [g1] _ _), hs13⟩
 have hb1 : Blk w13 g1 25 #[.slice B l'.length d, .slice m.S ss.length m.d, .int .i64 m.v, .int .i64 m.b] := hb1
 have hb4 := hb4.frm hf13 (by simp; omega)
 have ho := ho.frm hf13 (fun y hy h => by rw [za] at h; subst h; exact ho1 hy)
 have hel' := fun x hx => show OwM w13 x.A x.c x.l ∧ x.l.length ≤ 129 ∧ x.nm.length ≤ 70 from ⟨(hel' x hx).1.blk hf13 hb10 jd jd, (hel' x hx).2⟩
 have K := K.own hf13 (fun y hy => by rw [za] at hy; omega)
 refine jO (jN (jv2 1 2 ?_))
 refine jS (jR (ja rfl (jO (jN (jS (jS (jR (jz 0 (jO (jN (jB ?_)))))))))))
 refine VC.loop (σ := Nat × Option Addr × Nat × List Tx) (fun s => [(1, .pointer (some ⟨g1, 0, none⟩)), (2, .pointer (some ⟨g4, 0, none⟩)), (6, .slice s.2.1 s.2.2.2.length s.2.2.1), (7, .int .i64 ((s.1 : Nat) : Int))]) (fun s wr => s.1 ≤ ss.length ∧ Own wr 9 1 s.2.1 s.2.2.2.length s.2.2.1 (SB s.2.2.2) ∧ s.2.2.2 = (ss.take s.1).map (fun s => s.take 70) ∧ (∀ b ∈ ob s.2.1, w13.heap.size ≤ b) ∧ Frm [] w13 wr) (fun s => ss.length - s.1) (0, none, 0, []) (js4 rfl rfl rfl rfl) ⟨zai _, Own.nil _ _ _, rfl, by simp [ob], Frm.refl _ _⟩ ?_
 rintro ⟨k, C, e, s'⟩ wr ⟨hk, hos, hse, hoc, F⟩
 dsimp only at *
 have hsl : s'.length = k := by rw [hse, zat, zk]; omega
 have hb1r := hb1.frm F jp
 have Kr := K.trans F jp
 refine jS (jS (jR (jm rfl (jf rfl ze rfl zu (jl rfl zah (hb1r.cell 1) (je (Run.lenS rfl zb) (jb rfl rfl (Bin.lssN _ _) (jO (jN (jv5 1 2 6 7 70 ?_))))))))))
 refine jD rfl (fun hc5 => ?_) fun hc5 => ?_
 ·
  obtain ⟨ad2, had2, hcs⟩ := rV (hRs.frm Kr jp) hc5
  have hts2 := kY (fun s : Tx => s.take 70) hc5
  generalize hq : ss[k] = q at *
  refine jQ (jN (jv4 1 2 6 7 ?_))
  refine jS (jB (jR (jm rfl (jf rfl ze rfl zu (jl rfl zah (hb1r.cell 1) (jm rfl (je (Run.indexS k (show _ = some (Value.slice (some ad2) ss.length m.d) by rw [← had2]; rfl) rfl zb zf hc5) (jl rfl zr hcs ?_))))))))
  refine Ops.cl (jE1 Tryz.call12) (gP q _) rfl ?_
  rintro e _ ⟨rfl, rfl⟩
  refine ⟨_, rfl, ?_⟩
  refine Ops.m (qJ.buildS1 rfl zb zf cC jd jd rfl rfl) rfl ?_
  rintro _ w14 ⟨rfl, hF14⟩
  have hr14 : Rd w14 1 (some ⟨wr.heap.size, 0, none⟩) 1 (SB [q.take 70]) := Rd.of_blk (n := 1) (size := 1) hF14.blk rfl
  have ho14 := hos.frm hF14.frm jp
  have F14 := F.trans hF14.frm jp
  have hFs := F14.size
  refine Ops.m (qJ.app rfl rfl zb (dH) rfl jd ho14 hr14 (bO _) jo jo) rfl ?_
  rintro _ w15 ⟨C6, e6, rfl, ho6, hf6, hob6⟩
  rw [← bH] at ho6
  have hob6 : ∀ b ∈ ob C6, w13.heap.size ≤ b := fun b hb => by
   rcases hob6 with h | h
   · rw [h] at hb; exact hoc b hb
   rw [h, za] at hb; omega
  have F15 := F14.own hf6 hoc
  refine ja rfl (jO ?_)
  refine qW (jN ?_)
  refine jv4 1 2 6 7 ?_
  refine jR (jm rfl (jb rfl rfl (Bin.add_i64 _ 1 jo) (ja rfl (jO ?_))))
  refine jN ⟨(k + 1, C6, e6, s' ++ [q.take 70]), (js4 rfl rfl (by rw [zh]; rfl) rfl), ?_, ?_⟩
  · exact ⟨hc5, by rw [zh]; exact ho6, by rw [hts2, hse], hob6, F15⟩
  first | omega | (dsimp only; omega)
 obtain rfl : k = ss.length := jo
 rw [zag] at hse
 refine jX ?_
 refine qK (qK (qT ?_))
 refine jN (jv3 1 2 6 ?_)
 refine jS (jR (jm rfl (jf rfl ze rfl zu ?_)))
 have ho := ho.frm F jp
 have hb4 := hb4.frm F jp
 have hel' := fun x hx => show OwM wr x.A x.c x.l ∧ x.l.length ≤ 129 ∧ x.nm.length ≤ 70 from ⟨(hel' x hx).1.frm F, (hel' x hx).2⟩
 have ho1 := ho.ne_blk hb1r jd
 have hs1 := hos.ne_blk hb1r jd
 refine Ops.st (qP.store rfl rfl zu hb1r rfl rfl) ?_
 rintro w16 ⟨hb1, (hf16 : Frm [g1] _ _), hs16⟩
 have hb1 : Blk w16 g1 25 (⟨B, d, l', C, e, s', m.v, m.b⟩ : MlC).cells.toArray := hb1
 have hb4 := hb4.frm hf16 (by simp; omega)
 have ho := ho.frm hf16 (fun y hy h => by rw [za] at h; subst h; exact ho1 hy)
 have hos := hos.frm hf16 (fun y hy h => by rw [za] at h; subst h; exact hs1 hy)
 have hel' := fun x hx => show OwM w16 x.A x.c x.l ∧ x.l.length ≤ 129 ∧ x.nm.length ≤ 70 from ⟨(hel' x hx).1.blk hf16 hb1r jd jd, (hel' x hx).2⟩
 have K := Kr.own hf16 (fun y hy => by rw [za] at hy; omega)
 refine jO (jN (jv2 1 2 ?_))
 refine jS (jR (je (Run.loadA rfl zj zc (hb1.cells) (by first | rfl | (simp; done))) ?_))
 have ho4 := ho.ne_blk hb4 jd
 have hs4 := hos.ne_blk hb4 jd
 have hb40 := hb4
 refine Ops.st (qP.storeA rfl rfl zc hb4 rfl (MlC.cells_one _)) ?_
 rintro w17 ⟨hb17, (hf17 : Frm [g4] _ _), hs17⟩
 have ho := ho.frm hf17 (fun y hy h => by rw [za] at h; subst h; exact ho4 hy)
 have hos := hos.frm hf17 (fun y hy h => by rw [za] at h; subst h; exact hs4 hy)
 have hel' := fun x hx => show OwM w17 x.A x.c x.l ∧ x.l.length ≤ 129 ∧ x.nm.length ≤ 70 from ⟨(hel' x hx).1.blk hf17 hb40 jd jd, (hel' x hx).2⟩
 have K := K.own hf17 (fun y hy => by rw [za] at hy; omega)
 refine jO (jN (jv1 2 ?_))
 refine jT ?_
 refine bW ?_
 refine qC rfl zj zc (fun j v hj => hb17.cells j v hj) (by first | rfl | (simp; done)) ?_
 refine qI ?_
 refine ⟨⟨B, d, l', C, e, s', m.v, m.b⟩, rfl, ?_, ⟨ho, hel', hos, by dsimp only; omega, by dsimp only; omega, fun q hq => ?_⟩, rfl, K⟩
 ·
  show MailP.mk (Ns l') s' m.v m.b = mS m.p
  unfold mS
  congr 1
  ·
   rw [hns, hl]
   show _ = ((m.l.map Nc.p).take 25).map fG
   rw [zda]
  rw [hse, hss]
  rfl
 dsimp only at hq
 rw [hse] at hq
 obtain ⟨y, hy, rfl⟩ := List.mem_map.1 hq
 rw [zk]
 omega
end
section
open Go.RowKit Go.Sort
section
variable {H : Type} {enc : TypeId × Value → H} {w : World} {base : Nat} {spare : Nat → Bool} {held : Bool} {n : Nat} {cs : List Value} {x : DataW H × List MemPlace}
theorem wL (h : DataW.trod enc Tryz.prog w base spare held n 41 cs = some x) : ∃ (A : Option Addr) (c : Nat) (l : List Mc), cs = [.slice A l.length c] ∧ l.length ≤ c ∧ RawM w A l := by
 obtain ⟨A, len, c, rfl⟩ := hY zv h
 obtain ⟨l, rfl, h1, _, h3⟩ := qQg h
 exact ⟨A, c, l, rfl, h1, h3⟩
end
theorem yF {H : Type} {enc : TypeId × Value → H} {w : World} {base : Nat} {spare : Nat → Bool} {held : Bool} {n : Nat} {cs : List Value} {x : DataW H × List MemPlace} (h : DataW.trod enc Tryz.prog w base spare held n 43 cs = some x) :
  ∃ (va : Int) (na : Int) (A : Option Addr) (c : Nat) (l : List Mc), cs = ([.int .i64 va] ++ ([.int .i64 na] ++ ([.slice A l.length c] ++ [] : List Value) : List Value) : List Value) ∧ ((Lit.int .i64 va).wf = true) ∧ ((Lit.int .i64 na).wf = true) ∧ (l.length ≤ c ∧ RawM w A l) := by
 obtain ⟨hlen, n', hf⟩ := hX zl h
 have hl : cs.length = 3 := hlen.trans jK
 obtain ⟨a0, a1, a2, rfl⟩ : ∃ a0 a1 a2, cs = [a0, a1, a2] := by
  match cs, hl with
  | [a0, a1, a2], _ => exact ⟨a0, a1, a2, rfl⟩
 clear h hlen hl
 obtain ⟨y0, h0⟩ := hf 0 _ rfl
 have h0 : DataW.trod enc Tryz.prog w base spare held n' 3 ([a0, a1, a2].take (Tryz.prog.cellsOf 3)) = some y0 := h0
 rw [show Tryz.prog.cellsOf 3 = 1 by kernel_rfl] at h0
 have h0 : DataW.trod enc Tryz.prog w base spare held n' 3 [a0] = some y0 := h0
 obtain ⟨va, e0, q0⟩ := hZ zaf h0
 obtain ⟨y1, h1⟩ := hf 1 _ rfl
 have h1 : DataW.trod enc Tryz.prog w base spare held n' 3 ([a1, a2].take (Tryz.prog.cellsOf 3)) = some y1 := h1
 rw [show Tryz.prog.cellsOf 3 = 1 by kernel_rfl] at h1
 have h1 : DataW.trod enc Tryz.prog w base spare held n' 3 [a1] = some y1 := h1
 obtain ⟨na, e1, q1⟩ := hZ zaf h1
 obtain ⟨y2, h2⟩ := hf 2 _ rfl
 have h2 : DataW.trod enc Tryz.prog w base spare held n' 41 ([a2].take (Tryz.prog.cellsOf 41)) = some y2 := h2
 rw [show Tryz.prog.cellsOf 41 = 1 by kernel_rfl] at h2
 have h2 : DataW.trod enc Tryz.prog w base spare held n' 41 [a2] = some y2 := h2
 obtain ⟨A, c, l, e2, q2⟩ := wL h2
 refine ⟨va, na, A, c, l, ?_, q0, q1, q2⟩
 show ([a0] ++ ([a1] ++ ([a2] ++ [] : List Value) : List Value) : List Value) = _
 rw [e0, e1, e2]
 try rfl
end
section
open Go.RowKit Go.ChangeShapes Go.WideShapes Go.Deep
theorem uA {H : Type} {enc : TypeId × Value → H} {w : World} {base : Nat} {spare : Nat → Bool} {held : Bool} {n : Nat} {cs : List Value} {x : DataW H × List MemPlace} (h : DataW.trod enc Tryz.prog w base spare held n 45 cs = some x) :
  ∃ (q : Tx) (va na : Int) (A : Option Addr) (c : Nat) (l : List Mc), cs = ([encStr q] ++ (BVc va na A l.length c ++ [] : List Value) : List Value) ∧ (q.length ≤ 9223372036854775807) ∧ ((Lit.int .i64 va).wf = true ∧ (Lit.int .i64 na).wf = true ∧ l.length ≤ c ∧ RawM w A l) := by
 obtain ⟨hlen, n', hf⟩ := hX zw h
 have hl : cs.length = 4 := hlen.trans jK
 obtain ⟨a0, a1, a2, a3, rfl⟩ : ∃ a0 a1 a2 a3, cs = [a0, a1, a2, a3] := by
  match cs, hl with
  | [a0, a1, a2, a3], _ => exact ⟨a0, a1, a2, a3, rfl⟩
 clear h hlen hl
 obtain ⟨y0, h0⟩ := hf 0 _ rfl
 have h0 : DataW.trod enc Tryz.prog w base spare held n' 9 ([a0, a1, a2, a3].take (Tryz.prog.cellsOf 9)) = some y0 := h0
 rw [show Tryz.prog.cellsOf 9 = 1 by kernel_rfl] at h0
 have h0 : DataW.trod enc Tryz.prog w base spare held n' 9 [a0] = some y0 := h0
 obtain ⟨q, e0, q0⟩ := xY zi h0
 obtain ⟨y1, h1⟩ := hf 1 _ rfl
 have h1 : DataW.trod enc Tryz.prog w base spare held n' 43 ([a1, a2, a3].take (Tryz.prog.cellsOf 43)) = some y1 := h1
 rw [show Tryz.prog.cellsOf 43 = 3 by kernel_rfl] at h1
 have h1 : DataW.trod enc Tryz.prog w base spare held n' 43 [a1, a2, a3] = some y1 := h1
 obtain ⟨va, na, A, c, l, e1, q1⟩ := yF h1
 refine ⟨q, va, na, A, c, l, ?_, q0, q1⟩
 show ([a0] ++ ([a1, a2, a3] ++ [] : List Value) : List Value) = _
 rw [e0, e1]
 try rfl
section
variable {H : Type} {enc : TypeId × Value → H} {w : World} {base : Nat} {spare : Nat → Bool} {held : Bool}
theorem uI {n : Nat} {cs : List Value} {x : DataW H × List MemPlace} (h : DataW.trod enc Tryz.prog w base spare held n 45 cs = some x) : ∃ y : Nc, cs = y.cells ∧ RawM w y.A y.l ∧ y.l.length ≤ y.c := by
 obtain ⟨q, va, na, A, c, l, e, _, ⟨_, _, h1, h2⟩⟩ := uA h
 exact ⟨⟨q, va, na, A, c, l⟩, e, h2, h1⟩
theorem yA {fuel len cap : Nat} {a : Option Addr} {x : DataW H × List MemPlace} (h : DataW.trod enc Tryz.prog w base spare held fuel 22 [.slice a len cap] = some x) :
  ∃ l : List Nc, l.length = len ∧ len ≤ cap ∧ Rd w 4 a l.length (NDC l) ∧ ∀ y ∈ l, RawM w y.A y.l ∧ y.l.length ≤ y.c := by
 have hC : Tryz.prog.cellsOf 45 = 4 := by kernel_rfl
 rcases open_slice zg h with ⟨hcs, _⟩ | ⟨ad, l, c, m, n, D, Pl, hcs, _, hl, hm, hmm, _, hi⟩
 ·
  simp only [List.cons.injEq, Value.slice.injEq, and_true] at hcs
  obtain ⟨rfl, rfl, rfl⟩ := hcs
  exact ⟨[], rfl, zad _, Rd.nil _ _ _, jp⟩
 simp only [List.cons.injEq, Value.slice.injEq, and_true] at hcs
 obtain ⟨rfl, rfl, rfl⟩ := hcs
 have hml : len ≤ m := by rw [hmm]; split <;> omega
 rw [hC] at hi
 have key : ∀ i, i < len → ∃ y : Nc, (∀ j, j < 4 → w.cell? ((ad.add (i * 4)).add j) = y.cells[j]?) ∧ RawM w y.A y.l ∧ y.l.length ≤ y.c := by
  intro i hil
  obtain ⟨cs', hc, ht'⟩ := hi i jo
  obtain ⟨_, hcl, hat⟩ := World.cells?_some hc
  obtain ⟨y, rfl, h1, h2⟩ := uI ht'
  exact ⟨y, fun j hj => hat j hj, h1, h2⟩
 obtain ⟨ls, hll, hq⟩ := eL len key
 have hcell : ∀ j u, (NDC ls)[j]? = some u → w.cell? (ad.add j) = some u := by
  intro j u hu
  rw [show NDC ls = ls.flatMap Nc.cells from rfl, fB Nc.cells 4 jo Nc.cells_len] at hu
  obtain ⟨y, hy, hu'⟩ := Option.bind_eq_some_iff.1 hu
  have := (hq _ y hy).1 (j % 4) (Nat.mod_lt _ jo)
  rw [Go.Proofs.YtgmbmfpfhcekiaaGreat.add_add, Nat.mul_comm, Nat.div_add_mod] at this
  rw [this, hu']
 refine ⟨ls, hll, hl, ⟨by rw [dA], fun hn => ⟨ad, rfl, ?_, hcell⟩⟩, fun y hy => ?_⟩
 ·
  have h0 : 0 < (NDC ls).length := by rw [dA]; omega
  have := World.block_lt_of_cell? w _ (hcell 0 _ (zd h0))
  rwa [eV] at this
 obtain ⟨i, hi', hli⟩ := zy hy
 exact (hq i y (by rw [zd hi', hli])).2
theorem sG {n : Nat} {cs : List Value} {x : DataW H × List MemPlace} (h : DataW.trod enc Tryz.prog w base spare held n 22 cs = some x) : ∃ (A : Option Addr) (c : Nat) (l : List Nc), cs = [.slice A l.length c] ∧ l.length ≤ c ∧ Rd w 4 A l.length (NDC l) ∧ ∀ y ∈ l, RawM w y.A y.l ∧ y.l.length ≤ y.c := by
 obtain ⟨A, len, c, rfl⟩ := hY zg h
 obtain ⟨l, rfl, h1, h2, h3⟩ := yA h
 exact ⟨A, c, l, rfl, h1, h2, h3⟩
theorem uL {n : Nat} {cs : List Value} {x : DataW H × List MemPlace} (h : DataW.trod enc Tryz.prog w base spare held n 23 cs = some x) : ∃ (A : Option Addr) (c : Nat) (l : List Tx), cs = [.slice A l.length c] ∧ l.length ≤ c ∧ c ≤ 9223372036854775807 ∧ Rd w 1 A l.length (SB l) := xG zb zi jK h
end
theorem wO {H : Type} {enc : TypeId × Value → H} {w : World} {base : Nat} {spare : Nat → Bool} {held : Bool} {n : Nat} {cs : List Value} {x : DataW H × List MemPlace} (h : DataW.trod enc Tryz.prog w base spare held n 25 cs = some x) :
  ∃ (A : Option Addr) (c : Nat) (l : List Nc) (S : Option Addr) (d : Nat) (ss : List Tx) (va : Int) (bl : Int), cs = ([.slice A l.length c] ++ ([.slice S ss.length d] ++ ([.int .i64 va] ++ ([.int .i64 bl] ++ [] : List Value) : List Value) : List Value) : List Value) ∧ (l.length ≤ c ∧ Rd w 4 A l.length (NDC l) ∧ ∀ y ∈ l, RawM w y.A y.l ∧ y.l.length ≤ y.c) ∧ (ss.length ≤ d ∧ d ≤ 9223372036854775807 ∧ Rd w 1 S ss.length (SB ss)) ∧ ((Lit.int .i64 va).wf = true) ∧ ((Lit.int .i64 bl).wf = true) := by
 obtain ⟨hlen, n', hf⟩ := hX ze h
 have hl : cs.length = 4 := hlen.trans jK
 obtain ⟨a0, a1, a2, a3, rfl⟩ : ∃ a0 a1 a2 a3, cs = [a0, a1, a2, a3] := by
  match cs, hl with
  | [a0, a1, a2, a3], _ => exact ⟨a0, a1, a2, a3, rfl⟩
 clear h hlen hl
 obtain ⟨y0, h0⟩ := hf 0 _ rfl
 have h0 : DataW.trod enc Tryz.prog w base spare held n' 22 ([a0, a1, a2, a3].take (Tryz.prog.cellsOf 22)) = some y0 := h0
 rw [show Tryz.prog.cellsOf 22 = 1 by kernel_rfl] at h0
 have h0 : DataW.trod enc Tryz.prog w base spare held n' 22 [a0] = some y0 := h0
 obtain ⟨A, c, l, e0, q0⟩ := sG h0
 obtain ⟨y1, h1⟩ := hf 1 _ rfl
 have h1 : DataW.trod enc Tryz.prog w base spare held n' 23 ([a1, a2, a3].take (Tryz.prog.cellsOf 23)) = some y1 := h1
 rw [show Tryz.prog.cellsOf 23 = 1 by kernel_rfl] at h1
 have h1 : DataW.trod enc Tryz.prog w base spare held n' 23 [a1] = some y1 := h1
 obtain ⟨S, d, ss, e1, q1⟩ := uL h1
 obtain ⟨y2, h2⟩ := hf 2 _ rfl
 have h2 : DataW.trod enc Tryz.prog w base spare held n' 3 ([a2, a3].take (Tryz.prog.cellsOf 3)) = some y2 := h2
 rw [show Tryz.prog.cellsOf 3 = 1 by kernel_rfl] at h2
 have h2 : DataW.trod enc Tryz.prog w base spare held n' 3 [a2] = some y2 := h2
 obtain ⟨va, e2, q2⟩ := hZ zaf h2
 obtain ⟨y3, h3⟩ := hf 3 _ rfl
 have h3 : DataW.trod enc Tryz.prog w base spare held n' 3 ([a3].take (Tryz.prog.cellsOf 3)) = some y3 := h3
 rw [show Tryz.prog.cellsOf 3 = 1 by kernel_rfl] at h3
 have h3 : DataW.trod enc Tryz.prog w base spare held n' 3 [a3] = some y3 := h3
 obtain ⟨bl, e3, q3⟩ := hZ zaf h3
 refine ⟨A, c, l, S, d, ss, va, bl, ?_, q0, q1, q2, q3⟩
 show ([a0] ++ ([a1] ++ ([a2] ++ ([a3] ++ [] : List Value) : List Value) : List Value) : List Value) = _
 rw [e0, e1, e2, e3]
 try rfl
theorem xQ {H : Type} {enc : TypeId × Value → H} {w : World} {base : Nat} {spare : Nat → Bool} {held : Bool} {n : Nat} {cs : List Value} {x : DataW H × List MemPlace} (h : DataW.trod enc Tryz.prog w base spare held n 25 cs = some x) :
  ∃ m : MlC, cs = m.cells ∧ RawL w m ∧ m.b ≤ 9223372036854775807 := by
 obtain ⟨A, c, l, S, d, ss, va, bl, e, ⟨h1, h2, h3⟩, ⟨h4, _, h6⟩, _, hb⟩ := wO h
 exact ⟨⟨A, c, l, S, d, ss, va, bl⟩, e, ⟨h2, h3, h6, h1, h4⟩, by simp [Lit.wf, IntKind.min, IntKind.max, IntKind.signed, IntKind.bits] at hb; dsimp only; omega⟩
theorem bI.same {w w' w2 : World} {m a b : MlC} {F : Except Nat MailP} {k k' : Nat} (h : bI w w' m F a k) (h' : gM w2 F b k') : k = k' ∧ a.p = b.p := by
 obtain ⟨_, h | h⟩ := h <;> obtain ⟨_, h' | h'⟩ := h'
 ·
  obtain ⟨h1, h2⟩ := h
  obtain ⟨h3, h4⟩ := h'
  rw [h2] at h4
  injection h4 with h4
  exact ⟨by rw [h1, h3], h4⟩
 · rw [h.2] at h'; cases h'.2.1
 · rw [h.2.1] at h'; cases h'.2
 obtain ⟨_, h2, rfl⟩ := h
 obtain ⟨_, h4, rfl⟩ := h'
 rw [h2] at h4
 injection h4 with h4
 exact ⟨h4, rfl⟩
theorem bI.rdl {w w' w2 : World} {m a : MlC} {F : Except Nat MailP} {k : Nat} (h : bI w w' m F a k) (f : Frm [] w' w2) (hm : RdL w' m) : RdL w2 a := by
 obtain ⟨⟨S, hS⟩, _⟩ := h
 exact (hS.now hm).frm f
end
section
open Go.RowKit Go.Sort
theorem oV (l : List Tx) : (SB l).length = l.length * 1 := by rw [vW, zbb]
theorem kJ (l : List Tx) (i : Nat) (_ : i ≤ l.length) : (SB l).take (i * 1) = SB (l.take i) := by rw [zbb]; simp [SB, zda]
theorem rW (l : List Tx) (i : Nat) (_ : i ≤ l.length) : (SB l).drop (i * 1) = SB (l.drop i) := by rw [zbb]; simp [SB, List.map_drop]
theorem uO (l : List Tx) (i : Nat) (hi : i < l.length) : SB (l.take i ++ l.drop (i + 1)) = (SB l).take (i * 1) ++ (SB l).drop ((i + 1) * 1) := by
 rw [bH, kJ l i jo, rW l (i + 1) jo]
theorem rY (B : Option Addr) (d i : Nat) (l : List Tx) (w : World) (hl : Own w 9 1 B l.length d (SB l)) (hn : l.length ≤ 1000000) (hi : i < l.length) :
  Calls Tryz.prog 74 #[.slice B l.length d, .int .i64 ((i : Nat) : Int), .int .i64 ((i + 1 : Nat) : Int)] w fun e w' => e = .returned (.slice B (l.length - 1) d) ∧ Own w' 9 1 B (l.length - 1) d (SB (l.take i ++ l.drop (i + 1))) ∧ Frm (ob B) w w' := by
 obtain ⟨g, rfl⟩ : ∃ g, B = some ⟨g, 0, none⟩ := by
  rcases hl.cases with ⟨_, h0, _⟩ | ⟨g, _, h0, _⟩
  · omega
  exact ⟨g, h0⟩
 have hle := hl.le
 have hcl := oV l
 refine VC.calls (nt := 33) (res := #[.tmp 6]) Tryz.func74 rfl Tryz.ntmps74 Tryz.results74 rfl ?_
 refine jS (jR (ja rfl (jO (jN (jv3 0 1 2 ?_)))))
 refine jS (jR (jm rfl (jm rfl (jm rfl (jm rfl (je (Run.lenS rfl zb) (je (Run.slice3 i (i + 1) l.length rfl zb zf rfl rfl rfl jo jo hle) (jO (jN (jv3 0 1 2 ?_))))))))))
 refine jS (jS (jR (jm rfl (jm rfl (jb rfl rfl (Bin.eqlN _ _) (jO (jN (jv4 0 1 2 16 ?_))))))))
 refine VC.condF rfl (decide_eq_false jo) ?_
 refine jQ (jN (jv3 0 1 2 ?_))
 refine jS (jR (jm rfl (je (Run.lenS rfl zb) (ja rfl (jO (jN (jv4 0 1 2 7 ?_)))))))
 refine jS ?_
 refine VC.tail 6 jK jK ?_
 simp only [zbs, zcm, zcq, zbh]
 refine qM ?_
 refine qM ?_
 refine qE (Run.sliceS 0 _ rfl zb zf evB.none_ (evB.some_ rfl) jo jo) ?_
 rw [dM]
 refine qM ?_
 refine qM ?_
 refine qE (Run.sliceS _ _ rfl zb zf (evB.some_ rfl) evB.none_ jo jo) ?_
 refine bX.nil ?_
 have hd := bQ.drew w
 have hown := hl.drawn hd
 have hcut := hown.rd.cut (l := i + 1) (r := l.length) (cap := d) jo (zad _) hle
 rw [zn (by rw [zo, hcl]; omega)] at hcut
 refine Ops.m (qJ.appIn (n := i) (cap := d) rfl rfl zb zf hown hcut jo (fun v hv => bO l v (zbd hv))) rfl ?_
 rintro _ w1 ⟨rfl, ho1, hf1, hs1⟩
 rw [show i + (l.length - (i + 1)) = l.length - 1 by omega] at ho1 ⊢
 refine ja rfl (jO (jN (jv2 0 7 ?_)))
 refine jS (jR (jm rfl (jm rfl (je (Run.lenS rfl zb) (jm rfl (je (Run.sliceS _ _ rfl zb zf (evB.some_ rfl) (evB.some_ rfl) jo jo) ?_))))))
 refine Ops.m0 (qJ.clearCut (m := l.length) (size := 1) rfl zb cC rfl jd ho1 jo) ?_
 rintro _ w2 ⟨ho2, hf2⟩
 rw [zal (by rw [zh, zk, zo, hcl]; omega), zn (by rw [zh, zk, zo, hcl]; omega), ← uO l i hi] at ho2
 refine jO (jN (jv1 0 ?_))
 refine jS (jR (jm rfl (ja rfl (jO (jN (jv1 6 ?_))))))
 refine jT ?_
 refine qH rfl ?_
 exact ⟨rfl, ho2, (((bQ.drew w).frm.mono jp).trans hf1 (fun x hx => .inl hx)).trans hf2 (fun x hx => .inl hx)⟩
theorem nB {w : World} {gv g i : Nat} {cv cs : Array Value} (hv : Blk w gv 9 cv) (hg : Blk w g 9 cs) (hne : gv ≠ g) (h0 : cs.size ≠ 0) (la ca lb cb : Nat) :
  (callFunc 122 #[.slice (some ⟨gv, 0, none⟩) la ca, .slice (some ⟨g, i, none⟩) lb cb]).run Tryz.prog w = .ok (.value (.bool false)) w := by
 rw [run_callFunc_extern Tryz.func122 jK jK jK (e := Extern.SlicesOverlaps.overlaps #[23, 23] #[4]) jK,
  Lib.run_overlaps_apart w 23 4 9 zb 1 zf ⟨gv, 0, none⟩ ⟨g, i, none⟩ la ca lb cb hne 9 9 cv.size cs.size hv.shape hg.shape h0 (hv.frozen 0) (hv.frozen _)]
 rfl
theorem xX (l : List Tx) (x : Tx) (i : Nat) (hi : i ≤ l.length) : SB (l.take i ++ x :: l.drop i) = (SB l).take (i * 1) ++ [encStr x] ++ (SB l).drop (i * 1) := by
 rw [bH, kJ l i hi, rW l i hi, show SB (x :: l.drop i) = [encStr x] ++ SB (l.drop i) from rfl, zbu]
theorem qQi {a zs b x : List Value} {o : Nat} (h1 : o + 1 ≤ (a ++ zs).length) (h2 : o ≤ a.length) : ((a ++ zs).take (o + 1) ++ b).take o ++ x ++ ((a ++ zs).take (o + 1) ++ b).drop (o + 1) = a.take o ++ x ++ b := by
 have hl : ((a ++ zs).take (o + 1)).length = o + 1 := by rw [zk]; omega
 rw [zal jo, zcs, zaj jo, zal h2, zdl, zar jo, hl, zcu, zbh, zbk]
theorem lW (x : Tx) : [encStr x].length = 1 := rfl
set_option maxHeartbeats 1000000 in
theorem rG (B : Option Addr) (d i gv : Nat) (l : List Tx) (x : Tx) (w : World) (hl : Own w 9 1 B l.length d (SB l)) (hn : l.length ≤ 1000000) (hi : i ≤ l.length) (hv : Blk w gv 9 #[encStr x]) (hne : gv ∉ ob B) :
  Calls Tryz.prog 76 #[.slice B l.length d, .int .i64 ((i : Nat) : Int), .slice (some ⟨gv, 0, none⟩) 1 1] w fun e w' => ∃ C d', e = .returned (.slice C (l.length + 1) d') ∧ Own w' 9 1 C (l.length + 1) d' (SB (l.take i ++ x :: l.drop i)) ∧ Frm (ob B) w w' ∧ ∀ b ∈ ob C, b ∈ ob B ∨ w.heap.size ≤ b := by
 have hle := hl.le
 have hcl := oV l
 have hil := xX l x i hi
 have hrv : Rd w 1 (some ⟨gv, 0, none⟩) 1 [encStr x] := Rd.of_blk (n := 1) (size := 1) hv rfl
 refine VC.calls (nt := 95) (res := #[.tmp 6]) Tryz.func76 rfl Tryz.ntmps76 Tryz.results76 rfl ?_
 refine jS (jR (ja rfl (jO (jN (jv3 0 1 2 ?_)))))
 refine jS (jR (jm rfl (jm rfl (je (Run.sliceS _ _ rfl zb zf (evB.some_ rfl) evB.none_ jo jo) (jO (jN (jv3 0 1 2 ?_)))))))
 refine jS (jR (jm rfl (je (Run.lenS rfl zb) (ja rfl (jO (jN (jv4 0 1 2 7 ?_)))))))
 refine jS (jS (jR (jm rfl (jb rfl rfl (Bin.eqlN _ 0) (jO (jN (jv5 0 1 2 7 16 ?_)))))))
 refine VC.condF rfl (rfl) ?_
 refine jQ (jN (jv4 0 1 2 7 ?_))
 refine jS (jR (jm rfl (je (Run.lenS rfl zb) (ja rfl (jO (jN (jv5 0 1 2 7 8 ?_)))))))
 refine jS (jS (jR (jm rfl (jm rfl (jb rfl rfl (Bin.eqlN _ _) (jO (jN (jv6 0 1 2 7 8 22 ?_))))))))
 refine jD rfl (fun hc2 => ?_) fun hc2 => ?_
 ·
  obtain rfl : i = l.length := hc2
  have hend : SB (l.take l.length ++ x :: l.drop l.length) = SB l ++ [encStr x] := by
   rw [zag, zdv, bH]
   simp [SB]
  refine jS (jR (jm rfl (jM ?_)))
  refine Ops.m (qJ.app rfl rfl zb (dH) rfl jd hl hrv (bO [x]) jo jo) rfl ?_
  rintro _ w1 ⟨C, c1, rfl, ho1, hf1, hob1⟩
  refine ja rfl (jO (jN (jv1 6 ?_)))
  refine jT ?_
  refine qQ (qH rfl ?_)
  exact ⟨C, c1, rfl, by rw [hend]; exact ho1, hf1, fun b hb => by rcases hob1 with h | h; exact .inl (h ▸ hb); rw [h, za] at hb; exact .inr jo⟩
 have hin : i < l.length := jo
 obtain ⟨g, rfl⟩ : ∃ g, B = some ⟨g, 0, none⟩ := by
  rcases hl.cases with ⟨_, h0, _⟩ | ⟨g, _, h0, _⟩
  · omega
  exact ⟨g, h0⟩
 refine jQ (jN (jv5 0 1 2 7 8 ?_))
 refine jS (jS (jR (jm rfl (jm rfl (jb rfl rfl (Bin.add_i64 _ _ jo) (jm rfl (je (Run.capS rfl zb) (jb rfl rfl (Bin.gtrN _ _) (jO (jN (jv6 0 1 2 7 8 31 ?_)))))))))))
 refine jD rfl (fun hc3 => ?_) fun hc3 => ?_
 ·
  refine jS (jR (jm rfl (jm rfl (je (Run.sliceS 0 _ rfl zb zf evB.none_ (evB.some_ rfl) jo jo) ?_))))
  rw [dM]
  refine jm rfl (jm rfl (jb rfl rfl (Bin.add_i64 _ _ jo) (jm rfl (jb rfl rfl (Bin.sub_i64 _ _ jo jo) ?_))))
  have hpre := (hl.short (k := i) hi).rd
  rw [kJ l i hi] at hpre
  refine Ops.m (qJ.appMake (n := i) (cap := d) (k := l.length + 1 - i) rfl rfl zb zaf (dH) rfl jd hpre jo jo jo jo jo) rfl ?_
  rintro _ w1 ⟨c1, zs, rfl, ho1, hzs, hf1⟩
  have hc1 := ho1.le
  have hpl : (SB (l.take i)).length = i * 1 := by rw [oV, zk, zaj hi]
  rw [show i + (l.length + 1 - i) = l.length + 1 by omega] at ho1 hc1 ⊢
  generalize hgn : w.heap.size = gn at ho1 ⊢
  refine ja rfl (jO (jN (jv5 0 1 2 7 9 ?_)))
  refine jS (jR (jm rfl (jm rfl (je (Run.sliceS _ _ rfl zb zf (evB.some_ rfl) evB.none_ jo jo) ?_))))
  rw [dY jo]
  refine jM ?_
  refine Ops.m (qJ.copyOwn (g := gn) (o := i * 1) rfl rfl zb zf ho1 1 (hrv.frm hf1 jp) (zaj jo) (by rw [zh, hpl, hzs, (lW x)]; omega) (bO [x])) rfl ?_
  rintro _ w2 ⟨rfl, ho2, hf2, hs2⟩
  rw [(lW x), lJ hpl jo] at ho2
  have hf02 : Frm [] w w2 := hf1.trans hf2 (fun y hy => by rw [za] at hy; right; omega)
  have hd2 := bQ.drew w2
  have ho2 := ho2.drawn hd2
  have hcut := (hl.rd.frm (hf02.drawn hd2) jp).cut (l := i) (r := l.length) (cap := d) hi (zad _) hle
  rw [zn (by rw [zo, hcl]; omega)] at hcut
  refine jO (jN (jv4 0 1 7 9 ?_))
  refine jS ?_
  refine VC.tail 8 jK jK ?_
  simp only [zbs, zcm, zcq, zbh]
  refine qM ?_
  refine qM ?_
  refine qM ?_
  refine qE (Run.bin rfl rfl (Bin.add_i64 _ _ jo)) ?_
  refine qE (Run.sliceS _ _ rfl zb zf (evB.some_ rfl) evB.none_ jo jo) ?_
  rw [dY jo]
  refine qM ?_
  refine qM ?_
  refine qE (Run.sliceS _ _ rfl zb zf (evB.some_ rfl) evB.none_ jo jo) ?_
  refine bX.nil ?_
  refine Ops.m (qJ.copyOwn (g := gn) (o := (i + 1) * 1) rfl rfl zb zf ho2 (l.length - i) hcut (zaj jo) (by rw [zh, zh, zo, zo, hpl, hzs, hcl, (lW x)]; omega) (fun v hv => bO l v (zbd hv))) rfl ?_
  rintro _ w3 ⟨rfl, ho3, hf3, hs3⟩
  have hal : (SB (l.take i) ++ [encStr x]).length = (i + 1) * 1 := by rw [zh, hpl, (lW x)]; omega
  have hz0 : (zs.drop 1).drop ((SB l).drop (i * 1)).length = [] := zar (by rw [zo, zo, hzs, hcl]; omega)
  rw [lJ hal (by rw [zo, zo, hzs, hcl]; omega), hz0, zau, ← kJ l i hi, ← hil] at ho3
  have hf03 : Frm [] w w3 := (hf02.drawn hd2).trans hf3 (fun y hy => by rw [za] at hy; right; omega)
  refine jO (jN (jv1 9 ?_))
  refine jS (jR (jm rfl (ja rfl (jO (jN (jv1 6 ?_))))))
  refine jT ?_
  refine qQ (qH rfl ?_)
  exact ⟨_, c1, rfl, ho3, hf03.mono jp, fun b hb => by simp only [ob, za] at hb; exact .inr jo⟩
 refine jQ (jN (jv5 0 1 2 7 8 ?_))
 refine jS (jR (jm rfl (jm rfl (jm rfl (jb rfl rfl (Bin.add_i64 _ _ jo) (je (Run.sliceS 0 _ rfl zb zf evB.none_ (evB.some_ rfl) jo jo) ?_))))))
 rw [dM]
 obtain ⟨zs, hmo, hzs⟩ := hl.more (N := l.length + 1) jo jo
 obtain ⟨cur, hcur, hcs⟩ : ∃ cur, Blk w g 9 cur ∧ cur.size ≠ 0 := by
  rcases hl.cases with ⟨h0, _⟩ | ⟨g', cur, hA, hb, h1, _, h3, _⟩
  · cases h0
  cases hA
  exact ⟨cur, hb, jo⟩
 refine ja rfl (jO (jN (jv5 0 1 2 7 8 ?_)))
 refine jS (jS (jR (jm rfl (jm rfl (jm rfl (jm rfl (jb rfl rfl (Bin.add_i64 _ _ jo) (je (Run.sliceS _ _ rfl zb zf (evB.some_ rfl) evB.none_ jo jo) ?_))))))))
 rw [dY jo]
 refine je (Run.ext2 rfl rfl (nB hv hcur (by simpa [ob] using hne) hcs _ _ _ _)) (je (Run.not rfl) (jO (jN (jv6 0 1 2 7 8 68 ?_))))
 refine VC.condT rfl (rfl) ?_
 refine jS ?_
 refine VC.tail 8 jK jK ?_
 simp only [zbs, zcm, zcq, zbh]
 refine qM ?_
 refine qM ?_
 refine qM ?_
 refine qE (Run.bin rfl rfl (Bin.add_i64 _ _ jo)) ?_
 refine qE (Run.sliceS _ _ rfl zb zf (evB.some_ rfl) evB.none_ jo jo) ?_
 rw [dY jo]
 refine qM ?_
 refine qM ?_
 refine qE (Run.sliceS _ _ rfl zb zf (evB.some_ rfl) evB.none_ jo jo) ?_
 refine bX.nil ?_
 have hd1 := bQ.drew w
 have hmo := hmo.drawn hd1
 have hcut := hmo.rd.cut (l := i) (r := l.length) (cap := d) hi jo jo
 rw [List.drop_append_of_le_length jo, zal (by rw [zo, hcl]; omega), zn (by rw [zo, hcl]; omega), show l.length - i = l.length + 1 - (i + 1) by omega] at hcut
 refine Ops.m (qJ.copyOwn (g := g) (o := (i + 1) * 1) rfl rfl zb zf hmo (l.length + 1 - (i + 1)) hcut (Nat.min_eq_right jo) (by rw [zh, zo, hzs, hcl]; omega) (fun v hv => bO l v (zbd hv))) rfl ?_
 rintro _ w2 ⟨rfl, ho2, hf2, hs2⟩
 have hz0 : (SB l ++ zs).drop ((i + 1) * 1 + ((SB l).drop (i * 1)).length) = [] := zar (by rw [zh, zo, hzs, hcl]; omega)
 rw [hz0, zau, show (i + 1) * 1 = i * 1 + 1 by omega] at ho2
 have hf02 : Frm [g] w w2 := (hd1.frm.mono jp).trans hf2 (fun y hy => .inl hy)
 have hv2 : Rd w2 1 (some ⟨gv, 0, none⟩) 1 [encStr x] := hrv.frm hf02 (by simpa [ob, eq_comm] using hne)
 refine jO (jN (jv3 0 1 2 ?_))
 refine jS (jR (jm rfl (jm rfl (je (Run.sliceS _ _ rfl zb zf (evB.some_ rfl) evB.none_ jo jo) ?_))))
 rw [dY jo]
 refine jM ?_
 refine Ops.m (qJ.copyOwn (g := g) (o := i * 1) rfl rfl zb zf ho2 1 hv2 (zaj jo) (by rw [zh, zk, zh, zo, hzs, hcl, (lW x)]; omega) (bO [x])) rfl ?_
 rintro _ w3 ⟨rfl, ho3, hf3, hs3⟩
 rw [(lW x), qQi (by rw [zh, hzs, hcl]; omega) jo, ← hil] at ho3
 refine jO (jN (jv1 0 ?_))
 refine jS (jR (jm rfl (ja rfl (jO (jN (jv1 6 ?_))))))
 refine jT ?_
 refine qQ (qH rfl ?_)
 exact ⟨_, d, rfl, ho3, hf02.trans hf3 (fun y hy => .inl hy), fun b hb => .inl hb⟩
end
section
open Go.RowKit Go.Sort
def kK (l : List Tx) (t : Tx) (i : Nat) : Prop := i ≤ l.length ∧ (∀ j (h : j < l.length), j < i → l[j] < t) ∧ ∀ j (h : j < l.length), i ≤ j → ¬ l[j] < t
theorem fX {l : List Tx} {t : Tx} {i : Nat} (h : kK l t i) : l.filter (fun x => decide (x < t)) = l.take i := by
 obtain ⟨h1, h2, h3⟩ := h
 conv => lhs; rw [← zaq i l]
 rw [zaz, List.filter_eq_self.2, List.filter_eq_nil_iff.2, zau]
 ·
  intro x hx
  obtain ⟨j, hj, rfl⟩ := zy hx
  rw [zo] at hj
  rw [zcy]
  simpa using h3 (i + j) jo jo
 intro x hx
 obtain ⟨j, hj, rfl⟩ := zy hx
 rw [zk] at hj
 rw [zca]
 simpa using h2 j jo jo
theorem fJ {l : List Tx} (h : l.Pairwise (· < ·)) {i j : Nat} (hi : i < l.length) (hj : j < l.length) (hij : i < j) : l[i] < l[j] := by
 have := List.pairwise_iff_getElem.1 h i j (by simpa using hi) (by simpa using hj) hij
 simpa using this
theorem nC {l : List Tx} {t : Tx} {i : Nat} (hr : l.Pairwise (· < ·)) (h : kK l t i) : (∃ hi : i < l.length, l[i] = t) ↔ t ∈ l := by
 constructor
 ·
  rintro ⟨hi, he⟩
  rw [← he]
  exact zx hi
 intro hm
 obtain ⟨j, hj, rfl⟩ := zy hm
 have hij : i ≤ j := by
  rcases zcf j i with h4 | h4
  · exact absurd (h.2.1 j hj h4) (cP _)
  exact h4
 have hi : i < l.length := jo
 refine ⟨hi, ?_⟩
 by_cases e : i = j
 · subst e; rfl
 exact absurd (fJ hr hi hj jo) (h.2.2 i hi (zad _))
theorem gF {l : List Tx} {t : Tx} {i : Nat} (hr : l.Pairwise (· < ·)) (hi : i < l.length) (he : l[i] = t) : l.filter (fun x => decide (t < x)) = l.drop (i + 1) := by
 conv => lhs; rw [← zaq (i + 1) l]
 rw [zaz, List.filter_eq_nil_iff.2, List.filter_eq_self.2, zbk]
 ·
  intro x hx
  obtain ⟨j, hj, rfl⟩ := zy hx
  rw [zo] at hj
  rw [zcy, ← he]
  simpa using fJ hr hi (j := i + 1 + j) jo jo
 intro x hx
 obtain ⟨j, hj, rfl⟩ := zy hx
 rw [zk] at hj
 rw [zca]
 simp only [decide_eq_true_eq]
 intro h2
 rw [← he] at h2
 by_cases e : i = j
 · subst e; exact cP _ h2
 exact cP _ (dJ h2 (fJ hr (i := j) jo hi jo))
theorem lI {l : List Tx} {t : Tx} {i : Nat} (h : kK l t i) (hn : t ∉ l) : l.filter (fun x => decide (t < x)) = l.drop i := by
 conv => lhs; rw [← zaq i l]
 rw [zaz, List.filter_eq_nil_iff.2, List.filter_eq_self.2, zbk]
 ·
  intro x hx
  have hx2 := zbd hx
  obtain ⟨j, hj, rfl⟩ := zy hx
  rw [zo] at hj
  rw [zcy] at hx2 ⊢
  have h1 := h.2.2 (i + j) jo jo
  simp only [decide_eq_true_eq]
  rcases Classical.em (t < l[i + j]) with h2 | h2
  · exact h2
  exact absurd (by rw [← pR h1 h2]; exact hx2) hn
 intro x hx
 obtain ⟨j, hj, rfl⟩ := zy hx
 rw [zk] at hj
 rw [zca]
 simp only [decide_eq_true_eq]
 intro h2
 exact cP _ (dJ h2 (h.2.1 j jo jo))
def dU (l : List Tx) (t : Tx) (on : Bool) : List Tx := l.filter (fun x => decide (x < t)) ++ (if on then [t] else []) ++ l.filter (fun x => decide (t < x))
def gR (m : MailP) (s : Tx) (on : Bool) : Except Nat MailP :=
 if ¬ bP m then .error 1 else if ¬ isN s then .error 18 else if 24 < (dU m.subs (qN s) on).length then .error 5 else .ok { m with subs := dU m.subs (qN s) on }
theorem xZ {l : List Tx} {i : Nat} (hi : i < l.length) : l = l.take i ++ l[i] :: l.drop (i + 1) := by
 conv => lhs; rw [← zaq i l]
 rw [zav hi]
theorem qQj {l : List Tx} {t : Tx} {i : Nat} (hr : l.Pairwise (· < ·)) (h : kK l t i) (hi : i < l.length) (he : l[i] = t) : dU l t true = l := by
 unfold dU
 rw [fX h, gF hr hi he, if_pos rfl, ← he, zbu]
 exact (xZ hi).symm
theorem yI {l : List Tx} {t : Tx} {i : Nat} (hr : l.Pairwise (· < ·)) (h : kK l t i) (hi : i < l.length) (he : l[i] = t) : dU l t false = l.take i ++ l.drop (i + 1) := by
 unfold dU
 rw [fX h, gF hr hi he, if_neg jd, zau]
theorem yL {l : List Tx} {t : Tx} {i : Nat} (h : kK l t i) (hn : t ∉ l) : dU l t false = l := by
 unfold dU
 rw [fX h, lI h hn, if_neg jd, zau, zaq]
theorem yO {l : List Tx} {t : Tx} {i : Nat} (h : kK l t i) (hn : t ∉ l) : dU l t true = l.take i ++ t :: l.drop i := by
 unfold dU
 rw [fX h, lI h hn, if_pos rfl, zbu]
 rfl
abbrev MlC.ws (m : MlC) (S : Option Addr) (d : Nat) (ss : List Tx) : MlC := { m with S := S, d := d, ss := ss }
theorem oA {w w' : World} {m : MlC} {S : Option Addr} {d : Nat} {ss : List Tx} (ho : Own w' 9 1 S ss.length d (SB ss)) (hf : ∀ b ∈ ob S, w.heap.size ≤ b) (hl : ss.length ≤ 1000000) (hq : ∀ q ∈ ss, q.length ≤ 1000000) : bC w w' (ob S) m (m.ws S d ss) := by
 refine ⟨hf, fun w'' T kT hT hm => ?_⟩
 have ho := ho.frm kT (fun y hy h => hT y h hy)
 exact ⟨hm.l, ho.rd, hm.lc, ho.le, hm.ln, hl, hq⟩
theorem qQ0 {w : World} {e size n c : Nat} {A : Option Addr} {xs : List Value} (h : Own w e size A n c xs) : ∀ b ∈ ob A, b < w.heap.size := by
 intro b hb
 rcases h.cases with ⟨h0, _⟩ | ⟨g, cur, h0, hbb, _⟩
 · rw [h0] at hb; simp [ob] at hb
 rw [h0] at hb
 simp only [ob, za] at hb
 rw [hb]
 exact hbb.lt
theorem bC.here {w w' : World} {m : MlC} : bC w w' [] m m := ⟨jp, fun _ _ _ _ h => h⟩
theorem xJ (q : Tx) (w : World) : Calls Tryz.prog 154 #[encStr q] w fun e w' => e = .returned (.bool false) ∧ w = w' := by
 refine VC.calls (nt := 6) (res := #[.tmp 2]) Tryz.func154 rfl Tryz.ntmps154 Tryz.results154 rfl ?_
 refine jS (jR (ja rfl (jO (jN (jv1 0 ?_)))))
 refine jS (jR (jm rfl (jm rfl (je (Run.neqT rfl rfl) (ja rfl (jO (jN (jv1 2 ?_))))))))
 refine jT ?_
 refine qH rfl ?_
 exact ⟨jp, rfl⟩
theorem xK (q : Tx) (w : World) : Calls Tryz.prog 121 #[encStr q] w fun e w' => e = .returned (.bool false) ∧ w = w' := by
 refine VC.calls (nt := 6) (res := #[.tmp 2]) Tryz.func121 rfl Tryz.ntmps121 Tryz.results121 rfl ?_
 refine jS (jR (ja rfl (jO (jN (jv1 0 ?_)))))
 refine jS (jR (jm rfl (jm rfl (je (Run.neqT rfl rfl) (ja rfl (jO (jN (jv1 2 ?_))))))))
 refine jT ?_
 refine qH rfl ?_
 exact ⟨jp, rfl⟩
theorem vQ (a b : Tx) (w : World) : Calls Tryz.prog 120 #[encStr a, encStr b] w fun e w' => e = .returned (.bool (decide (a < b))) ∧ w = w' := by
 refine VC.calls (nt := 17) (res := #[.tmp 4]) Tryz.func120 rfl Tryz.ntmps120 Tryz.results120 rfl ?_
 refine jS (jR (ja rfl (jO (jN (jv2 0 1 ?_)))))
 refine jS (jR (jM ?_))
 refine Ops.cl (jE1 Tryz.call154) (xJ a _) rfl ?_
 rintro e _ ⟨rfl, rfl⟩
 refine ⟨_, rfl, ?_⟩
 refine jM ?_
 refine Ops.sk rfl (rfl) rfl ?_
 refine Ops.sk rfl (rfl) rfl ?_
 refine Ops.sk rfl (rfl) rfl ?_
 refine je (Run.pickF rfl rfl (rfl)) (jM ?_)
 refine Ops.rg rfl (rfl) (Run.mv rfl) rfl ?_
 refine Ops.rg rfl (rfl) (Run.mv rfl) rfl ?_
 refine Ops.rg rfl (rfl) (Run.lssT rfl rfl) rfl ?_
 refine je (Run.pickF rfl rfl (rfl)) (ja rfl (jO (jN (jv1 4 ?_))))
 refine jT ?_
 refine qH rfl ?_
 exact ⟨rfl, rfl⟩
theorem rH (A : Option Addr) (c : Nat) (l : List Tx) (q : Tx) (w : World) (hr : Rd w 1 A l.length (SB l)) (hn : l.length ≤ 1000000) (hs : l.Pairwise (· < ·)) :
  Calls Tryz.prog 73 #[.slice A l.length c, encStr q] w fun e w' => ∃ k : Nat, e = .returned (.tuple #[.int .i64 ((k : Nat) : Int), .bool (decide (q ∈ l))]) ∧ kK l q k ∧ w = w' := by
 refine VC.calls (nt := 54) (res := #[.tmp 4, .tmp 5]) Tryz.func73 rfl Tryz.ntmps73 Tryz.results73 rfl ?_
 refine jS (jR (jz 0 (ja rfl (jO (jN (jv2 0 1 ?_))))))
 refine jS (jR (jm rfl (je (Run.lenS rfl zb) (ja rfl (jO (jN (jv3 0 1 6 ?_)))))))
 refine jS (jR (jm rfl (jz 0 (ja rfl (jO (jN (jv5 0 1 6 7 8 ?_)))))))
 refine jS (jB ?_)
 refine VC.loop (σ := Nat × Nat) (fun s => [(0, .slice A l.length c), (1, encStr q), (6, .int .i64 ((l.length : Nat) : Int)), (7, .int .i64 ((s.1 : Nat) : Int)), (8, .int .i64 ((s.2 : Nat) : Int))]) (fun s wr => s.1 ≤ s.2 ∧ s.2 ≤ l.length ∧ (∀ j (h : j < l.length), j < s.1 → l[j] < q) ∧ (∀ j (h : j < l.length), s.2 ≤ j → ¬ l[j] < q) ∧ w = wr) (fun s => s.2 - s.1) (0, l.length) (js5 rfl rfl rfl rfl rfl) ⟨zai _, zad _, fun _ _ h => jo, fun _ _ h => jo, rfl⟩ ?_
 rintro ⟨i, j⟩ _ ⟨hij, hj, hlo, hhi, rfl⟩
 dsimp only at *
 refine jS (jS (jR (jm rfl (jm rfl (jb rfl rfl (Bin.lssN _ _) (jO (jN (jv6 0 1 6 7 8 15 ?_))))))))
 refine jD rfl (fun hc1 => ?_) fun hc1 => ?_
 ·
  have hh : (i + j) / 2 < l.length := jo
  obtain ⟨ad, had, hc⟩ := dZ hr hh
  have hup := fun k (hk : k < l.length) (h : k < (i + j) / 2) => fJ hs hk hh h
  have hdn := fun k (hk : k < l.length) (h : (i + j) / 2 < k) => fJ hs hh hk h
  obtain ⟨h, hhd⟩ : ∃ h, h = (i + j) / 2 := ⟨_, rfl⟩
  simp only [← hhd] at hh hc hup hdn
  refine jQ (jN (jv5 0 1 6 7 8 ?_))
  refine jB (jS (jR (jm rfl (jm rfl (jb rfl rfl (Bin.add_i64 _ _ jo) (je (Run.convN _ rfl zaf zct (by simp only [bmax]; omega)) (jb rfl rfl (Bin.shr_u64 _ 1 jo) ?_)))))))
  rw [show (i + j) / 2 ^ 1 = h from hhd.symm]
  refine je (Run.convN _ rfl zct zaf (by simp only [bmax]; omega)) (ja rfl (jO (jN (jv6 0 1 6 7 8 9 ?_))))
  refine jS (jR (jm rfl (jm rfl (je (Run.index1 h (show _ = some (Value.slice (some ad) l.length c) by rw [← had]; rfl) rfl zb zf hh) (jl rfl zr hc (jM ?_))))))
  refine Ops.cl (jE2 Tryz.call120) (vQ l[h] q _) rfl ?_
  rintro e _ ⟨rfl, rfl⟩
  refine ⟨_, rfl, ?_⟩
  refine jO (jN (jv7 0 1 6 7 8 9 27 ?_))
  refine VC.condB rfl (fun hc2 => ?_) (fun hc2 => ?_)
  ·
   have hc2 : l[h] < q := by first | exact hc2 | exact of_decide_eq_true hc2
   refine jR (jm rfl (jb rfl rfl (Bin.add_i64 _ 1 jo) (ja rfl (jO ?_))))
   refine qW (jN ⟨(h + 1, j), (js5 rfl rfl rfl rfl rfl), ?_, ?_⟩)
   ·
    refine ⟨by dsimp only; omega, hj, fun k hk h2 => ?_, hhi, rfl⟩
    by_cases e : k = h
    · subst e; exact hc2
    exact dJ (hup k hk (by dsimp only at h2; omega)) hc2
   first | omega | (dsimp only; omega)
  have hc2 : ¬ l[h] < q := by first | exact hc2 | exact of_decide_eq_false hc2
  refine jR (jm rfl (ja rfl (jO ?_)))
  refine qW (jN ⟨(i, h), (js5 rfl rfl rfl rfl rfl), ?_, ?_⟩)
  ·
   refine ⟨by dsimp only; omega, by dsimp only; omega, hlo, fun k hk h2 h3 => ?_, rfl⟩
   by_cases e : k = h
   · subst e; exact hc2 h3
   exact hc2 (dJ (hdn k hk (by dsimp only at h2; omega)) h3)
  first | omega | (dsimp only; omega)
 obtain rfl : i = j := jo
 have hpos : kK l q i := ⟨hj, hlo, hhi⟩
 have hin := nC hs hpos
 refine jX ?_
 refine qK (qK (qT ?_))
 refine jN (jv4 0 1 6 7 ?_)
 refine jS ?_
 refine VC.splitR [(4, .int .i64 ((i : Nat) : Int))] (fun wz => w = wz) 5 (.bool (decide (q ∈ l))) ?_ ?_
 ·
  refine jR ?_
  refine jm rfl (jm rfl (jm rfl (jb rfl rfl (Bin.lssN _ _) ?_)))
  by_cases hs34 : i < l.length
  ·
   obtain ⟨ad, had, hc⟩ := dZ hr hs34
   have hin : l[i] = q ↔ q ∈ l := ⟨fun h => hin.1 ⟨hs34, h⟩, fun h => (hin.2 h).2⟩
   generalize hx : l[i] = x at *
   refine jM ?_
   refine jG ?_
   refine jG ?_
   refine jk (Run.index1 i (show _ = some (Value.slice (some ad) l.length c) by rw [← had]; rfl) rfl zb zf hs34) ?_
   refine jk (Run.load rfl zr hc) ?_
   refine jG ?_
   refine jk (Run.eqlT rfl rfl) ?_
   by_cases hs41 : x = q
   ·
    refine jG ?_
    refine jU ?_
    refine jU ?_
    refine jU ?_
    refine jU ?_
    refine jU ?_
    refine jU ?_
    refine Ops.skU rfl rfl ?_
    refine Ops.skU rfl rfl ?_
    refine jU ?_
    refine jk (Run.pickT rfl rfl au) ?_
    refine je (Run.pickT rfl rfl au) (ja rfl (ja rfl (jO ?_)))
    refine jN ⟨(js2 (jC (by first | exact (decide_eq_true (hin.1 hs41)).symm | exact (decide_eq_false (fun h => hs41 (hin.2 h))).symm | exact (decide_eq_false hnot).symm)) rfl), (rfl)⟩
   refine jG ?_
   refine jG ?_
   refine jG ?_
   refine jk (Run.index1 i (show _ = some (Value.slice (some ad) l.length c) by rw [← had]; rfl) rfl zb zf hs34) ?_
   refine jk (Run.load rfl zr hc) ?_
   refine Ops.clg rfl au (jE1 Tryz.call121) (xK x _) rfl ?_
   rintro e _ ⟨rfl, rfl⟩
   refine ⟨_, rfl, ?_⟩
   refine jG ?_
   refine jU ?_
   refine jU ?_
   refine jk (Run.pickF rfl rfl au) ?_
   refine jk (Run.pickF rfl rfl au) ?_
   refine je (Run.pickT rfl rfl au) (ja rfl (ja rfl (jO ?_)))
   refine jN ⟨(js2 (jC (by first | exact (decide_eq_true (hin.1 hs41)).symm | exact (decide_eq_false (fun h => hs41 (hin.2 h))).symm | exact (decide_eq_false hnot).symm)) rfl), (rfl)⟩
  have hnot : ¬ q ∈ l := fun h => hs34 (hin.2 h).1
  refine jM ?_
  refine jU ?_
  refine jU ?_
  refine jU ?_
  refine jU ?_
  refine jU ?_
  refine jU ?_
  refine jU ?_
  refine Ops.skU rfl rfl ?_
  refine Ops.skU rfl rfl ?_
  refine Ops.skU rfl rfl ?_
  refine Ops.skU rfl rfl ?_
  refine Ops.skU rfl rfl ?_
  refine Ops.skU rfl rfl ?_
  refine Ops.skU rfl rfl ?_
  refine Ops.skU rfl rfl ?_
  refine Ops.skU rfl rfl ?_
  refine jU ?_
  refine je (Run.pickF rfl rfl au) (ja rfl (ja rfl (jO ?_)))
  refine jN ⟨(js2 (jC (by first | exact (decide_eq_true (hin.1 hs41)).symm | exact (decide_eq_false (fun h => hs41 (hin.2 h))).symm | exact (decide_eq_false hnot).symm)) rfl), (rfl)⟩
 intro Γ wz hΓ hwz
 refine jN (VC.sub _ hΓ ?_)
 refine jT ?_
 refine dP rfl rfl ?_
 exact ⟨i, rfl, hpos, hwz⟩
set_option maxHeartbeats 1000000 in
theorem nD (m : MlC) (q : Tx) (on : Bool) (w : World) (hm : RdL w m) (hs : q.length ≤ 900000) (hv : cZ w) :
  Calls Tryz.prog 24 #[m.val, encStr q, .bool on] w fun e w' => ∃ (m' : MlC) (k : Nat), e = .returned (.tuple #[m'.val, .int .i64 ((k : Nat) : Int)]) ∧ bI w w' m (gR m.p q on) m' k ∧ Frm [] w w' := by
 have hln := hm.ln
 have hsn := hm.sn
 have htl := cX q
 refine VC.calls (nt := 57) (res := #[.cell 6 25, .tmp 7]) Tryz.func24 rfl Tryz.ntmps24 Tryz.results24 rfl ?_
 refine jS (jR ?_)
 refine Ops.m (qJ.box rfl) rfl ?_
 rintro _ w1 ⟨rfl, hF_w1⟩
 have hb1 : Blk w1 w.heap.size 25 #[.slice m.A m.l.length m.c, .slice m.S m.ss.length m.d, .int .i64 m.v, .int .i64 m.b] := hF_w1.blk
 have K := hF_w1.frm
 generalize hg1 : w.heap.size = g1 at hb1 ⊢
 refine Ops.m (qJ.alloc bZ) rfl ?_
 rintro _ w2 ⟨rfl, hF2⟩
 have hb4 := hF2.blk
 have hg4 : w.heap.size ≤ w1.heap.size := K.size
 have hb1 := hb1.frm hF2.frm jp
 have hl1 := hb1.lt
 have hl4 := hb4.lt
 have K := K.trans hF2.frm jp
 have hne14 : g1 ≠ w1.heap.size := by have := hF_w1.size; omega
 have hg1s : w.heap.size ≤ g1 := jo
 generalize hg4' : w1.heap.size = g4 at hb4 hg4 hne14 hl4 ⊢
 refine jz 0 (jO (jN (jv4 1 2 3 6 ?_)))
 refine jS (jS (jR (je (Run.loadA rfl zj zc hb1.cells (by first | rfl | (simp; done))) ?_)))
 refine Ops.cl (jE1 Tryz.call21) (eW m _ (hm.frm K) (hv.frm K)) rfl ?_
 rintro e w3 ⟨rfl, hf3⟩
 refine ⟨_, rfl, ?_⟩
 have hb1 := hb1.frm hf3 jp
 have hb4 := hb4.frm hf3 jp
 have hKs_hf3 := K.size
 have K := K.trans hf3 jp
 refine je (Run.not rfl) (jO (jN (jv5 1 2 3 6 12 ?_)))
 refine VC.condB rfl (fun hc1 => ?_) (fun hc1 => ?_)
 ·
  have hc1 : ¬ bP m.p := by simpa using hc1
  refine jS (jR (je (Run.build evs.nil bZ (qB).choose_spec.1 (qB).choose_spec.2 rfl) ?_))
  refine Ops.st (qP.storeA rfl rfl zc hb4 rfl (MlC.cells_one qS)) ?_
  rintro wz ⟨hb4, (hfwz : Frm [g4] _ _), hswz⟩
  have hb4 : Blk wz g4 25 qS.cells.toArray := hb4
  have K := K.own hfwz (fun y hy => by rw [za] at hy; omega)
  refine jz 1 (jO (jN (jv2 6 7 ?_)))
  refine jT ?_
  refine qQ (bW ?_)
  refine qC rfl zj zc (fun j v hj => hb4.cells j v hj) (by first | rfl | (simp; done)) ?_
  refine qD rfl ?_
  refine qI ?_
  exact ⟨qS, 1, rfl, bI.err jd (by unfold gR; rw [if_pos hc1]), K⟩
 have hc1 : bP m.p := by simpa using hc1
 obtain ⟨hm24, hv1, hv2, hb0, hb2, hr, hin⟩ := eY hc1
 have hsr : m.ss.Pairwise (· < ·) := vD hc1
 have hs24 : m.ss.length ≤ 24 := hc1.1.2.1.1
 refine jQ (jN (jv4 1 2 3 6 ?_))
 refine jS (jS (jR (jM ?_)))
 refine Ops.cl (jE1 zcb) (bA q _ jo (hv.frm K)) rfl ?_
 rintro e _ ⟨rfl, rfl⟩
 refine ⟨_, rfl, ?_⟩
 refine je (Run.not rfl) (jO (jN (jv5 1 2 3 6 16 ?_)))
 refine VC.condB rfl (fun hc2 => ?_) (fun hc2 => ?_)
 ·
  have hc2 : ¬ isN q := by simpa using hc2
  refine jS (jR (je (Run.build evs.nil bZ (qB).choose_spec.1 (qB).choose_spec.2 rfl) ?_))
  refine Ops.st (qP.storeA rfl rfl zc hb4 rfl (MlC.cells_one qS)) ?_
  rintro wz ⟨hb4, (hfwz : Frm [g4] _ _), hswz⟩
  have hb4 : Blk wz g4 25 qS.cells.toArray := hb4
  have K := K.own hfwz (fun y hy => by rw [za] at hy; omega)
  refine jz 18 (jO (jN (jv2 6 7 ?_)))
  refine jT ?_
  refine qQ (bW ?_)
  refine qC rfl zj zc (fun j v hj => hb4.cells j v hj) (by first | rfl | (simp; done)) ?_
  refine qD rfl ?_
  refine qI ?_
  exact ⟨qS, 18, rfl, bI.err jd (by unfold gR; rw [if_neg (fun h => h hc1), if_pos hc2]), K⟩
 have hc2 : isN q := by simpa using hc2
 refine jQ (jN (jv4 1 2 3 6 ?_))
 refine jS (jR (jM ?_))
 refine Ops.cl (jE1 zbw) (bM q _ jo (hv.frm K)) rfl ?_
 rintro e w4 ⟨rfl, hf4⟩
 refine ⟨_, rfl, ?_⟩
 have hb1 := hb1.frm hf4 jp
 have hb4 := hb4.frm hf4 jp
 have hKs_hf4 := K.size
 have K := K.trans hf4 jp
 generalize ht : qN q = t at *
 refine ja rfl (jO (jN (jv4 1 2 3 6 ?_)))
 refine jS (jR (jf rfl ze rfl zu (jl rfl zah (hb1.cell 1) (jM ?_))))
 refine Ops.cl (jE2 Tryz.call73) (rH m.S m.d m.ss t _ (hm.s.frm K jp) hsn hsr) rfl ?_
 rintro e _ ⟨k, rfl, hpos, rfl⟩
 refine ⟨_, rfl, ?_⟩
 have hth := nC hsr hpos
 have hsP : ∀ on, gR m.p q on = if 24 < (dU m.ss t on).length then .error 5 else .ok { m.p with subs := dU m.ss t on } := fun on => by
  unfold gR
  rw [if_neg (fun h => h hc1), if_neg (fun h => h hc2), ht]
  rfl
 refine jm rfl (je (Run.extract rfl rfl) (je (Run.extract rfl rfl) (ja rfl (ja rfl (jO (jN (jv6 1 2 3 6 8 9 ?_)))))))
 refine jS (jB (jS (jR (jm rfl (jm rfl (je (Run.eqlB rfl rfl zbp) (ja rfl (jO (jN (jv6 1 2 3 6 8 35 ?_))))))))))
 refine VC.condB rfl (fun hc3 => ?_) (fun hc3 => ?_)
 ·
  have hfin : dU m.ss t on = m.ss := by
   have hc3 : decide (t ∈ m.ss) = on := by simpa using hc3
   cases on with
   | true => obtain ⟨h1, h2⟩ := hth.2 (of_decide_eq_true hc3); exact qQj hsr hpos h1 h2
   | false => exact yL hpos (of_decide_eq_false hc3)
  refine jQ ?_
  refine qW (jN ?_)
  refine jv2 3 6 ?_
  refine jS (jR (je (Run.loadA rfl zj zc (hb1.cells) (by first | rfl | (simp; done))) ?_))
  refine Ops.st (qP.storeA rfl rfl zc hb4 rfl (MlC.cells_one _)) ?_
  rintro w9 ⟨hbn, (hfw9 : Frm [g4] _ _), hsw9⟩
  have hb4 : Blk w9 g4 25 (m).cells.toArray := hbn
  have K := K.own hfw9 (fun y hy => by rw [za] at hy; omega)
  refine jz 0 (jO (jN (jv2 6 7 ?_)))
  refine jT ?_
  refine bW ?_
  refine qC rfl zj zc (fun j v hj => hb4.cells j v hj) (by first | rfl | (simp; done)) ?_
  refine qD rfl ?_
  refine qI ?_
  exact ⟨m, 0, rfl, ⟨⟨[], bC.here⟩, .inl ⟨rfl, by rw [hsP, hfin, if_neg jo]; rfl⟩⟩, K⟩
 have hc3 : decide (t ∈ m.ss) ≠ on := by simpa using hc3
 refine jS (jR (jm rfl (je (Run.not rfl) (ja rfl (jO (jN (jv5 1 3 6 8 39 ?_)))))))
 refine VC.condB rfl (fun hc4 => ?_) (fun hc4 => ?_)
 ·
  obtain rfl : on = false := by simpa using hc4
  obtain ⟨hk, hke⟩ := hth.2 (by simpa using hc3)
  have hfin := yI hsr hpos hk hke
  have hqs : ∀ x ∈ m.ss.take k ++ m.ss.drop (k + 1), x.length ≤ 1000000 := fun x hx => hm.sq x (by rcases zeb.1 hx with h | h; exact zcw h; exact zbd h)
  have hlk : (m.ss.take k ++ m.ss.drop (k + 1)).length = m.ss.length - 1 := by rw [zh, zk, zo]; omega
  refine jR (jf rfl ze rfl zu (jl rfl zah (hb1.cell 1) ?_))
  refine Ops.cl (jE1 Tryz.call75) (fM m.S m.d m.ss _ (hm.s.frm K jp) jo) rfl ?_
  rintro e w5 ⟨B, d, rfl, ho, hob, hf5⟩
  have ho1 := ho.ne_blk (hb1.frm hf5 jp) jd
  have ho4 := ho.ne_blk (hb4.frm hf5 jp) jd
  refine ⟨_, rfl, ?_⟩
  have hb1 := hb1.frm hf5 jp
  have hb4 := hb4.frm hf5 jp
  have hKs_hf5 := K.size
  have K := K.trans hf5 jp
  refine jm rfl (jm rfl (jb rfl rfl (Bin.add_i64 _ 1 jo) ?_))
  refine Ops.cl (jE3 Tryz.call74) (rY B d k m.ss _ ho hsn hk) rfl ?_
  rintro e w6 ⟨rfl, ho, hf6⟩
  refine ⟨_, rfl, ?_⟩
  rw [← hlk] at ho ⊢
  have hob : ∀ b ∈ ob B, w.heap.size ≤ b := fun b hb => zay hKs_hf5 (hob b hb)
  have hb1 := hb1.frm hf6 ho1
  have hb4 := hb4.frm hf6 ho4
  have K := K.own hf6 hob
  refine jf rfl ze rfl zu ?_
  have hx1 := ho.ne_blk hb1 jd
  refine Ops.st (qP.store rfl rfl zu hb1 rfl rfl) ?_
  rintro w7 ⟨hbn, (hfw7 : Frm [g1] _ _), hsw7⟩
  have hb1 : Blk w7 g1 25 (m.ws B d (m.ss.take k ++ m.ss.drop (k + 1))).cells.toArray := hbn
  have hb4 := hb4.frm hfw7 (by simp; omega)
  have ho := ho.frm hfw7 (fun y hy h => by rw [za] at h; subst h; exact hx1 hy)
  have K := K.own hfw7 (fun y hy => by rw [za] at hy; omega)
  refine jO ?_
  refine qW (jN ?_)
  refine jv2 3 6 ?_
  refine jS (jR (je (Run.loadA rfl zj zc (hb1.cells) (by first | rfl | (simp; done))) ?_))
  have hx4 := ho.ne_blk hb4 jd
  refine Ops.st (qP.storeA rfl rfl zc hb4 rfl (MlC.cells_one _)) ?_
  rintro w9 ⟨hbn, (hfw9 : Frm [g4] _ _), hsw9⟩
  have hb4 : Blk w9 g4 25 (m.ws B d (m.ss.take k ++ m.ss.drop (k + 1))).cells.toArray := hbn
  have ho := ho.frm hfw9 (fun y hy h => by rw [za] at h; subst h; exact hx4 hy)
  have K := K.own hfw9 (fun y hy => by rw [za] at hy; omega)
  refine jz 0 (jO (jN (jv2 6 7 ?_)))
  refine jT ?_
  refine bW ?_
  refine qC rfl zj zc (fun j v hj => hb4.cells j v hj) (by first | rfl | (simp; done)) ?_
  refine qD rfl ?_
  refine qI ?_
  exact ⟨_, 0, rfl, ⟨⟨_, oA ho hob jo (fun x hx => hqs x hx)⟩, .inl ⟨rfl, by rw [hsP, hfin, if_neg jo]; rfl⟩⟩, K⟩
 obtain rfl : on = true := by simpa using hc4
 have hno : t ∉ m.ss := by simpa using hc3
 have hfin := yO hpos hno
 have hkl : k ≤ m.ss.length := hpos.1
 have hqs : ∀ x ∈ m.ss.take k ++ t :: m.ss.drop k, x.length ≤ 1000000 := fun x hx => by
  rcases zeb.1 hx with h | h
  · exact hm.sq x (zcw h)
  rcases zax.1 h with h | h
  · rw [h]; omega
  exact hm.sq x (zbd h)
 have hlk : (m.ss.take k ++ t :: m.ss.drop k).length = m.ss.length + 1 := by rw [zh, zbi, zk, zo]; omega
 refine jS (jR (jf rfl ze rfl zu (jl rfl zah (hb1.cell 1) (je (Run.lenS rfl zb) (jb rfl rfl (Bin.eqlN _ 24) (ja rfl (jO (jN (jv5 1 3 6 8 50 ?_)))))))))
 refine jD rfl (fun hc5 => ?_) fun hc5 => ?_
 ·
  refine jS (jR (je (Run.build evs.nil bZ (qB).choose_spec.1 (qB).choose_spec.2 rfl) ?_))
  refine Ops.st (qP.storeA rfl rfl zc hb4 rfl (MlC.cells_one qS)) ?_
  rintro wz ⟨hb4, (hfwz : Frm [g4] _ _), hswz⟩
  have hb4 : Blk wz g4 25 qS.cells.toArray := hb4
  have K := K.own hfwz (fun y hy => by rw [za] at hy; omega)
  refine jz 5 (jO (jN (jv2 6 7 ?_)))
  refine jT ?_
  refine qV (qQ (bW ?_))
  refine qC rfl zj zc (fun j v hj => hb4.cells j v hj) (by first | rfl | (simp; done)) ?_
  refine qD rfl ?_
  refine qI ?_
  exact ⟨qS, 5, rfl, bI.err jd (by rw [hsP, hfin, if_pos jo]), K⟩
 refine jR (jf rfl ze rfl zu (jl rfl zah (hb1.cell 1) ?_))
 refine Ops.cl (jE1 Tryz.call75) (fM m.S m.d m.ss _ (hm.s.frm K jp) jo) rfl ?_
 rintro e w5 ⟨B, d, rfl, ho, hob, hf5⟩
 have ho1 := ho.ne_blk (hb1.frm hf5 jp) jd
 have ho4 := ho.ne_blk (hb4.frm hf5 jp) jd
 refine ⟨_, rfl, ?_⟩
 have hb1 := hb1.frm hf5 jp
 have hb4 := hb4.frm hf5 jp
 have hKs_hf5 := K.size
 have K := K.trans hf5 jp
 refine jm rfl (jM ?_)
 refine Ops.m (qJ.buildS1 rfl zb zf cC jd jd rfl rfl) rfl ?_
 rintro _ w6 ⟨rfl, hF6⟩
 have hb6 : Blk w6 w5.heap.size 9 #[encStr t] := hF6.blk
 have hne6 : w5.heap.size ∉ ob B := fun h => Nat.lt_irrefl _ (qQ0 ho _ h)
 have hf6 := hF6.frm
 have ho := ho.frm hf6 jp
 have hb1 := hb1.frm hf6 jp
 have hb4 := hb4.frm hf6 jp
 have hK5 := K.size
 have K := K.trans hf6 jp
 have hK6 := K.size
 refine Ops.cl (jE3 Tryz.call76) (rG B d k _ m.ss t _ ho hsn hkl hb6 hne6) rfl ?_
 rintro e w7 ⟨C, d7, rfl, ho7, hf7, hob7⟩
 refine ⟨_, rfl, ?_⟩
 rw [← hlk] at ho7 ⊢
 have hb1 := hb1.frm hf7 (ho.ne_blk hb1 jd)
 have hb4 := hb4.frm hf7 (ho.ne_blk hb4 jd)
 have hobB : ∀ b ∈ ob B, w.heap.size ≤ b := fun b hb => zay hKs_hf5 (hob b hb)
 have K := K.own hf7 hobB
 have ho := ho7
 have hob : ∀ b ∈ ob C, w.heap.size ≤ b := fun b hb => by
  rcases hob7 b hb with h | h
  · exact hobB b h
  omega
 refine jf rfl ze rfl zu ?_
 have hx1 := ho.ne_blk hb1 jd
 refine Ops.st (qP.store rfl rfl zu hb1 rfl rfl) ?_
 rintro w8 ⟨hbn, (hfw8 : Frm [g1] _ _), hsw8⟩
 have hb1 : Blk w8 g1 25 (m.ws C d7 (m.ss.take k ++ t :: m.ss.drop k)).cells.toArray := hbn
 have hb4 := hb4.frm hfw8 (by simp; omega)
 have ho := ho.frm hfw8 (fun y hy h => by rw [za] at h; subst h; exact hx1 hy)
 have K := K.own hfw8 (fun y hy => by rw [za] at hy; omega)
 refine jO ?_
 refine qW (jN ?_)
 refine jv2 3 6 ?_
 refine jS (jR (je (Run.loadA rfl zj zc (hb1.cells) (by first | rfl | (simp; done))) ?_))
 have hx4 := ho.ne_blk hb4 jd
 refine Ops.st (qP.storeA rfl rfl zc hb4 rfl (MlC.cells_one _)) ?_
 rintro w9 ⟨hbn, (hfw9 : Frm [g4] _ _), hsw9⟩
 have hb4 : Blk w9 g4 25 (m.ws C d7 (m.ss.take k ++ t :: m.ss.drop k)).cells.toArray := hbn
 have ho := ho.frm hfw9 (fun y hy h => by rw [za] at h; subst h; exact hx4 hy)
 have K := K.own hfw9 (fun y hy => by rw [za] at hy; omega)
 refine jz 0 (jO (jN (jv2 6 7 ?_)))
 refine jT ?_
 refine bW ?_
 refine qC rfl zj zc (fun j v hj => hb4.cells j v hj) (by first | rfl | (simp; done)) ?_
 refine qD rfl ?_
 refine qI ?_
 exact ⟨_, 0, rfl, ⟨⟨_, oA ho hob jo (fun x hx => hqs x hx)⟩, .inl ⟨rfl, by rw [hsP, hfin, if_neg jo]; rfl⟩⟩, K⟩
end
section
open Go.RowKit Go.Sort
theorem nE {l : List Tx} {i : Nat} {p : Tx → Bool} (h : i < l.length) : (l.take (i + 1)).filter p = (l.take i).filter p ++ (if p l[i] = true then [l[i]] else []) := by
 rw [zan, zd h, zaz]
 congr 1
 simp only [Option.toList, zdn, List.filter_nil]
set_option maxHeartbeats 1000000 in
theorem nF (m : MlC) (q : Tx) (on : Bool) (w : World) (hm : RdL w m) (hs : q.length ≤ 900000) (hbb : m.b ≤ 9223372036854775807) :
  Calls Tryz.prog 25 #[m.val, encStr q, .bool on] w fun e w' => ∃ (m' : MlC) (k : Nat), e = .returned (.tuple #[m'.val, .int .i64 ((k : Nat) : Int)]) ∧ gM w' (gR m.p q on) m' k ∧ Frm [] w w' := by
 have hln := hm.ln
 have hsn := hm.sn
 have htl := cX q
 refine VC.calls (nt := 78) (res := #[.cell 6 25, .tmp 7]) Tryz.func25 rfl Tryz.ntmps25 Tryz.results25 rfl ?_
 refine jS (jR ?_)
 refine Ops.m (qJ.box rfl) rfl ?_
 rintro _ w1 ⟨rfl, hF_w1⟩
 have hb1 : Blk w1 w.heap.size 25 #[.slice m.A m.l.length m.c, .slice m.S m.ss.length m.d, .int .i64 m.v, .int .i64 m.b] := hF_w1.blk
 have K := hF_w1.frm
 generalize hg1 : w.heap.size = g1 at hb1 ⊢
 refine Ops.m (qJ.alloc bZ) rfl ?_
 rintro _ w2 ⟨rfl, hF2⟩
 have hb4 := hF2.blk
 have hg4 : w.heap.size ≤ w1.heap.size := K.size
 have hb1 := hb1.frm hF2.frm jp
 have hl1 := hb1.lt
 have hl4 := hb4.lt
 have K := K.trans hF2.frm jp
 have hne14 : g1 ≠ w1.heap.size := by have := hF_w1.size; omega
 have hg1s : w.heap.size ≤ g1 := jo
 generalize hg4' : w1.heap.size = g4 at hb4 hg4 hne14 hl4 ⊢
 refine jz 0 (jO (jN (jv4 1 2 3 6 ?_)))
 refine jS (jS (jR (je (Run.loadA rfl zj zc hb1.cells (by first | rfl | (simp; done))) ?_)))
 refine Ops.cl (jE1 Tryz.call26) (uD m _ (hm.frm K) hbb) rfl ?_
 rintro e w3 ⟨rfl, hf3⟩
 refine ⟨_, rfl, ?_⟩
 have hb1 := hb1.frm hf3 jp
 have hb4 := hb4.frm hf3 jp
 have hKs_hf3 := K.size
 have K := K.trans hf3 jp
 refine je (Run.not rfl) (jO (jN (jv5 1 2 3 6 14 ?_)))
 refine VC.condB rfl (fun hc1 => ?_) (fun hc1 => ?_)
 ·
  have hc1 : ¬ bP m.p := by simpa using hc1
  refine jS (jR (je (Run.build evs.nil bZ (qB).choose_spec.1 (qB).choose_spec.2 rfl) ?_))
  refine Ops.st (qP.storeA rfl rfl zc hb4 rfl (MlC.cells_one qS)) ?_
  rintro wz ⟨hb4, (hfwz : Frm [g4] _ _), hswz⟩
  have hb4 : Blk wz g4 25 qS.cells.toArray := hb4
  have K := K.own hfwz (fun y hy => by rw [za] at hy; omega)
  refine jz 1 (jO (jN (jv2 6 7 ?_)))
  refine jT ?_
  refine qQ (bW ?_)
  refine qC rfl zj zc (fun j v hj => hb4.cells j v hj) (by first | rfl | (simp; done)) ?_
  refine qD rfl ?_
  refine qI ?_
  exact ⟨qS, 1, rfl, gM.err jd (by unfold gR; rw [if_pos hc1]), K⟩
 have hc1 : bP m.p := by simpa using hc1
 refine jQ (jN (jv4 1 2 3 6 ?_))
 refine jS (jS (jR (jM ?_)))
 refine Ops.cl (jE1 Tryz.call50) (mR q _ jo) rfl ?_
 rintro e _ ⟨rfl, rfl⟩
 refine ⟨_, rfl, ?_⟩
 refine je (Run.not rfl) (jO (jN (jv5 1 2 3 6 18 ?_)))
 refine VC.condB rfl (fun hc2 => ?_) (fun hc2 => ?_)
 ·
  have hc2 : ¬ isN q := by simpa using hc2
  refine jS (jR (je (Run.build evs.nil bZ (qB).choose_spec.1 (qB).choose_spec.2 rfl) ?_))
  refine Ops.st (qP.storeA rfl rfl zc hb4 rfl (MlC.cells_one qS)) ?_
  rintro wz ⟨hb4, (hfwz : Frm [g4] _ _), hswz⟩
  have hb4 : Blk wz g4 25 qS.cells.toArray := hb4
  have K := K.own hfwz (fun y hy => by rw [za] at hy; omega)
  refine jz 18 (jO (jN (jv2 6 7 ?_)))
  refine jT ?_
  refine qQ (bW ?_)
  refine qC rfl zj zc (fun j v hj => hb4.cells j v hj) (by first | rfl | (simp; done)) ?_
  refine qD rfl ?_
  refine qI ?_
  exact ⟨qS, 18, rfl, gM.err jd (by unfold gR; rw [if_neg (fun h => h hc1), if_pos hc2]), K⟩
 have hc2 : isN q := by simpa using hc2
 refine jQ (jN (jv4 1 2 3 6 ?_))
 refine jS (jR (jM ?_))
 refine Ops.cl (jE1 Tryz.call60) (lD q _ jo) rfl ?_
 rintro e w4 ⟨rfl, hf4⟩
 refine ⟨_, rfl, ?_⟩
 have hb1 := hb1.frm hf4 jp
 have hb4 := hb4.frm hf4 jp
 have hKs_hf4 := K.size
 have K := K.trans hf4 jp
 have hsP : gR m.p q on = if 24 < (dU m.ss (qN q) on).length then .error 5 else .ok { m.p with subs := dU m.ss (qN q) on } := by
  unfold gR
  rw [if_neg (fun h => h hc1), if_neg (fun h => h hc2)]
  rfl
 generalize ht : qN q = t at *
 refine ja rfl (jO (jN (jv4 2 3 6 8 ?_)))
 refine jS (jR (ja rfl (jO (jN (jS (jS (jR (jz 0 (jO (jN (jB ?_)))))))))))
 refine VC.loop (σ := Nat × Option Addr × Nat × List Tx) (fun s => [(2, .bool on), (3, .pointer (some ⟨g1, 0, none⟩)), (6, .pointer (some ⟨g4, 0, none⟩)), (8, encStr t), (9, .slice s.2.1 (s.2.2.2).length s.2.2.1), (10, .int .i64 ((s.1 : Nat) : Int))]) (fun s wr => s.1 ≤ m.ss.length ∧ Blk wr g1 25 #[.slice m.A m.l.length m.c, .slice m.S m.ss.length m.d, .int .i64 m.v, .int .i64 m.b] ∧ Blk wr g4 25 qS.cells.toArray ∧ Own wr 9 1 s.2.1 (s.2.2.2).length s.2.2.1 (SB (s.2.2.2)) ∧ s.2.2.2 = (m.ss.take s.1).filter (fun x => decide (x < t)) ∧ (∀ b ∈ ob s.2.1, w.heap.size ≤ b) ∧ Frm [] w wr) (fun s => m.ss.length - s.1) (0, none, 0, []) (js6 rfl rfl rfl rfl rfl rfl) ⟨zai _, hb1, hb4, Own.nil _ _ _, rfl, by simp [ob], K⟩ ?_
 rintro ⟨i, B, d, l⟩ wr ⟨hi, hb1, hb4, ho, hl, hob, K⟩
 dsimp only at *
 have hll : l.length ≤ i := by rw [hl]; exact zay (zbt _ _) (zcr _ _)
 refine jS (jS (jR (jm rfl (jf rfl ze rfl zu (jl rfl zah (hb1.cell 1) (je (Run.lenS rfl zb) (jb rfl rfl (Bin.lssN _ _) (jO (jN (jv7 2 3 6 8 9 10 26 ?_))))))))))
 refine jD rfl (fun hc3 => ?_) fun hc3 => ?_
 ·
  obtain ⟨ad, had, hcs⟩ := rV (hm.s.frm K jp) hc3
  have hts := @nE m.ss i (fun x => decide (x < t)) hc3
  generalize hx : m.ss[i] = x at *
  refine jQ (jN (jv6 2 3 6 8 9 10 ?_))
  refine jS (jB (jS (jR (jf rfl ze rfl zu (jl rfl zah (hb1.cell 1) (jm rfl (je (Run.indexS i (show _ = some (Value.slice (some ad) m.ss.length m.d) by rw [← had]; rfl) rfl zb zf hc3) (jl rfl zr hcs (jm rfl (je (Run.lssT rfl rfl) (jO (jN (jv7 2 3 6 8 9 10 35 ?_)))))))))))))
  refine jD rfl (fun hc4 => ?_) fun hc4 => ?_
  ·
   have hc4 : x < t := by first | exact hc4 | exact of_decide_eq_true hc4
   rw [if_pos (decide_eq_true hc4)] at hts
   refine jR (jm rfl (jf rfl ze rfl zu (jl rfl zah (hb1.cell 1) (jm rfl (je (Run.indexS i (show _ = some (Value.slice (some ad) m.ss.length m.d) by rw [← had]; rfl) rfl zb zf hc3) (jl rfl zr hcs ?_))))))
   refine Ops.m (qJ.buildS1 rfl zb zf cC jd jd rfl rfl) rfl ?_
   rintro _ wa1 ⟨rfl, hFa⟩
   have hra : Rd wa1 1 (some ⟨wr.heap.size, 0, none⟩) 1 (SB [x]) := Rd.of_blk (n := 1) (size := 1) hFa.blk rfl
   have hfa := hFa.frm
   have hb1 := hb1.frm hfa jp
   have hb4 := hb4.frm hfa jp
   have ho := ho.frm hfa jp
   have K := K.trans hfa jp
   have hKsa := K.size
   refine Ops.m (qJ.app rfl rfl zb (dH) rfl jd ho hra (bO _) jo jo) rfl ?_
   rintro _ wb1 ⟨B6, c6, rfl, ho6, hf6, hob6⟩
   rw [← bH] at ho6
   have hb1 := hb1.frm hf6 (ho.ne_blk hb1 jd)
   have hb4 := hb4.frm hf6 (ho.ne_blk hb4 jd)
   have K := K.own hf6 hob
   have hob6 : ∀ b ∈ ob B6, w.heap.size ≤ b := fun b hb => by
    rcases hob6 with h | h
    · rw [h] at hb; exact hob b hb
    rw [h, za] at hb; omega
   refine ja rfl (jO ?_)
   refine qW (jN ?_)
   refine jv6 2 3 6 8 9 10 ?_
   refine jR (jm rfl (jb rfl rfl (Bin.add_i64 _ 1 jo) (ja rfl (jO ?_))))
   refine jN ⟨(i + 1, B6, c6, l ++ [x]), (js6 rfl rfl rfl rfl (by rw [zh]; rfl) rfl), ?_, ?_⟩
   · exact ⟨hc3, hb1, hb4, by rw [zh]; exact ho6, by rw [hts, hl], hob6, K⟩
   first | omega | (dsimp only; omega)
  have hc4 : ¬ x < t := by first | exact hc4 | exact of_decide_eq_false hc4
  rw [if_neg (by simpa using hc4), zau] at hts
  refine jQ ?_
  refine qW (jN ?_)
  refine jv6 2 3 6 8 9 10 ?_
  refine jR (jm rfl (jb rfl rfl (Bin.add_i64 _ 1 jo) (ja rfl (jO ?_))))
  refine jN ⟨(i + 1, B, d, l), (js6 rfl rfl rfl rfl rfl rfl), ?_, ?_⟩
  · exact ⟨hc3, hb1, hb4, ho, by rw [hts, hl], hob, K⟩
  first | omega | (dsimp only; omega)
 obtain rfl : i = m.ss.length := jo
 rw [zag] at hl
 refine jX ?_
 refine qK (qK (qT ?_))
 refine jN (jv5 2 3 6 8 9 ?_)
 refine jS (jS (jR (jm rfl (jO (jN (jv5 3 6 8 9 44 ?_))))))
 refine VC.meet (σ := Option Addr × Nat × List Tx) (fun s => [(3, .pointer (some ⟨g1, 0, none⟩)), (6, .pointer (some ⟨g4, 0, none⟩)), (8, encStr t), (9, .slice s.1 s.2.2.length s.2.1)]) (fun s wm => Blk wm g1 25 #[.slice m.A m.l.length m.c, .slice m.S m.ss.length m.d, .int .i64 m.v, .int .i64 m.b] ∧ Blk wm g4 25 qS.cells.toArray ∧ Own wm 9 1 s.1 s.2.2.length s.2.1 (SB s.2.2) ∧ s.2.2 = m.ss.filter (fun x => decide (x < t)) ++ (if on then [t] else []) ∧ (∀ b ∈ ob s.1, w.heap.size ≤ b) ∧ Frm [] w wm) ?_ ?_
 ·
  refine VC.condB rfl (fun hc5 => ?_) (fun hc5 => ?_)
  ·
   refine jR (jm rfl (jM ?_))
   refine Ops.m (qJ.buildS1 rfl zb zf cC jd jd rfl rfl) rfl ?_
   rintro _ wa2 ⟨rfl, hFa⟩
   have hra : Rd wa2 1 (some ⟨wr.heap.size, 0, none⟩) 1 (SB [t]) := Rd.of_blk (n := 1) (size := 1) hFa.blk rfl
   have hfa := hFa.frm
   have hb1 := hb1.frm hfa jp
   have hb4 := hb4.frm hfa jp
   have ho := ho.frm hfa jp
   have K := K.trans hfa jp
   have hKsa := K.size
   refine Ops.m (qJ.app rfl rfl zb (dH) rfl jd ho hra (bO _) jo jo) rfl ?_
   rintro _ wb2 ⟨B6, c6, rfl, ho6, hf6, hob6⟩
   rw [← bH] at ho6
   have hb1 := hb1.frm hf6 (ho.ne_blk hb1 jd)
   have hb4 := hb4.frm hf6 (ho.ne_blk hb4 jd)
   have K := K.own hf6 hob
   have hob6 : ∀ b ∈ ob B6, w.heap.size ≤ b := fun b hb => by
    rcases hob6 with h | h
    · rw [h] at hb; exact hob b hb
    rw [h, za] at hb; omega
   refine ja rfl (jO ?_)
   refine jN ⟨(B6, c6, l ++ [t]), (js4 rfl rfl rfl (by rw [zh]; rfl)), ?_⟩
   exact ⟨hb1, hb4, by rw [zh]; exact ho6, by rw [hl, if_pos hc5], hob6, K⟩
  refine jQ ?_
  refine jN ⟨(B, d, l), (js4 rfl rfl rfl rfl), ?_⟩
  exact ⟨hb1, hb4, ho, by rw [hl, if_neg (by simpa using hc5), zau], hob, K⟩
 rintro ⟨B, d, lo⟩ wm ⟨hb1, hb4, ho, hlo, hob, K⟩ Γ hΓ
 dsimp only at *
 have hll : lo.length ≤ m.ss.length + 1 := by rw [hlo, zh]; have := zbt (fun x => decide (x < t)) m.ss; split <;> simp <;> omega
 refine jN (VC.sub _ hΓ (jS (jS (jR (jz 0 (jO (jN (jB ?_))))))))
 refine VC.loop (σ := Nat × Option Addr × Nat × List Tx) (fun s => [(3, .pointer (some ⟨g1, 0, none⟩)), (6, .pointer (some ⟨g4, 0, none⟩)), (8, encStr t), (9, .slice s.2.1 (s.2.2.2).length s.2.2.1), (11, .int .i64 ((s.1 : Nat) : Int))]) (fun s wr => s.1 ≤ m.ss.length ∧ Blk wr g1 25 #[.slice m.A m.l.length m.c, .slice m.S m.ss.length m.d, .int .i64 m.v, .int .i64 m.b] ∧ Blk wr g4 25 qS.cells.toArray ∧ Own wr 9 1 s.2.1 (s.2.2.2).length s.2.2.1 (SB (s.2.2.2)) ∧ s.2.2.2 = lo ++ (m.ss.take s.1).filter (fun x => decide (t < x)) ∧ (∀ b ∈ ob s.2.1, w.heap.size ≤ b) ∧ Frm [] w wr) (fun s => m.ss.length - s.1) (0, B, d, lo) (js5 rfl rfl rfl rfl rfl) ⟨zai _, hb1, hb4, ho, jp, hob, K⟩ ?_
 rintro ⟨i, B, d, l⟩ wr ⟨hi, hb1, hb4, ho, hl, hob, K⟩
 dsimp only at *
 have hl2 : l.length ≤ lo.length + i := by rw [hl, zh]; have := zay (zbt (fun x => decide (t < x)) (m.ss.take i)) (zcr _ _); omega
 refine jS (jS (jR (jm rfl (jf rfl ze rfl zu (jl rfl zah (hb1.cell 1) (je (Run.lenS rfl zb) (jb rfl rfl (Bin.lssN _ _) (jO (jN (jv6 3 6 8 9 11 53 ?_))))))))))
 refine jD rfl (fun hc6 => ?_) fun hc6 => ?_
 ·
  obtain ⟨ad, had, hcs⟩ := rV (hm.s.frm K jp) hc6
  have hts := @nE m.ss i (fun x => decide (t < x)) hc6
  generalize hx : m.ss[i] = x at *
  refine jQ (jN (jv5 3 6 8 9 11 ?_))
  refine jS (jB (jS (jR (jf rfl ze rfl zu (jl rfl zah (hb1.cell 1) (jm rfl (je (Run.indexS i (show _ = some (Value.slice (some ad) m.ss.length m.d) by rw [← had]; rfl) rfl zb zf hc6) (jl rfl zr hcs (jm rfl (je (Run.gtrT rfl rfl) (jO (jN (jv6 3 6 8 9 11 62 ?_)))))))))))))
  refine jD rfl (fun hc7 => ?_) fun hc7 => ?_
  ·
   have hc7 : t < x := by first | exact hc7 | exact of_decide_eq_true hc7
   rw [if_pos (decide_eq_true hc7)] at hts
   refine jR (jm rfl (jf rfl ze rfl zu (jl rfl zah (hb1.cell 1) (jm rfl (je (Run.indexS i (show _ = some (Value.slice (some ad) m.ss.length m.d) by rw [← had]; rfl) rfl zb zf hc6) (jl rfl zr hcs ?_))))))
   refine Ops.m (qJ.buildS1 rfl zb zf cC jd jd rfl rfl) rfl ?_
   rintro _ wa3 ⟨rfl, hFa⟩
   have hra : Rd wa3 1 (some ⟨wr.heap.size, 0, none⟩) 1 (SB [x]) := Rd.of_blk (n := 1) (size := 1) hFa.blk rfl
   have hfa := hFa.frm
   have hb1 := hb1.frm hfa jp
   have hb4 := hb4.frm hfa jp
   have ho := ho.frm hfa jp
   have K := K.trans hfa jp
   have hKsa := K.size
   refine Ops.m (qJ.app rfl rfl zb (dH) rfl jd ho hra (bO _) jo jo) rfl ?_
   rintro _ wb3 ⟨B6, c6, rfl, ho6, hf6, hob6⟩
   rw [← bH] at ho6
   have hb1 := hb1.frm hf6 (ho.ne_blk hb1 jd)
   have hb4 := hb4.frm hf6 (ho.ne_blk hb4 jd)
   have K := K.own hf6 hob
   have hob6 : ∀ b ∈ ob B6, w.heap.size ≤ b := fun b hb => by
    rcases hob6 with h | h
    · rw [h] at hb; exact hob b hb
    rw [h, za] at hb; omega
   refine ja rfl (jO ?_)
   refine qW (jN ?_)
   refine jv5 3 6 8 9 11 ?_
   refine jR (jm rfl (jb rfl rfl (Bin.add_i64 _ 1 jo) (ja rfl (jO ?_))))
   refine jN ⟨(i + 1, B6, c6, l ++ [x]), (js5 rfl rfl rfl (by rw [zh]; rfl) rfl), ?_, ?_⟩
   · exact ⟨hc6, hb1, hb4, by rw [zh]; exact ho6, by rw [hts, hl, zbu], hob6, K⟩
   first | omega | (dsimp only; omega)
  have hc7 : ¬ t < x := by first | exact hc7 | exact of_decide_eq_false hc7
  rw [if_neg (by simpa using hc7), zau] at hts
  refine jQ ?_
  refine qW (jN ?_)
  refine jv5 3 6 8 9 11 ?_
  refine jR (jm rfl (jb rfl rfl (Bin.add_i64 _ 1 jo) (ja rfl (jO ?_))))
  refine jN ⟨(i + 1, B, d, l), (js5 rfl rfl rfl rfl rfl), ?_, ?_⟩
  · exact ⟨hc6, hb1, hb4, ho, by rw [hts, hl], hob, K⟩
  first | omega | (dsimp only; omega)
 obtain rfl : i = m.ss.length := jo
 rw [zag] at hl
 have hfin : dU m.ss t on = l := by rw [hl, hlo]; rfl
 have hqs : ∀ x ∈ l, x.length ≤ 1000000 := fun x hx => by
  rw [← hfin] at hx
  unfold dU at hx
  rcases zeb.1 hx with h | h
  ·
   rcases zeb.1 h with h | h
   · exact hm.sq x (zec.1 h).1
   split at h
   · rw [za] at h; rw [h]; omega
   cases h
  exact hm.sq x (zec.1 h).1
 refine jX ?_
 refine qK (qK (qT ?_))
 refine jN (jv3 3 6 9 ?_)
 refine jS (jS (jR (jm rfl (je (Run.lenS rfl zb) (jb rfl rfl (Bin.gtrN _ 24) (jO (jN (jv4 3 6 9 73 ?_))))))))
 refine jD rfl (fun hc8 => ?_) fun hc8 => ?_
 ·
  refine jS (jR (je (Run.build evs.nil bZ (qB).choose_spec.1 (qB).choose_spec.2 rfl) ?_))
  refine Ops.st (qP.storeA rfl rfl zc hb4 rfl (MlC.cells_one qS)) ?_
  rintro wz ⟨hb4, (hfwz : Frm [g4] _ _), hswz⟩
  have hb4 : Blk wz g4 25 qS.cells.toArray := hb4
  have K := K.own hfwz (fun y hy => by rw [za] at hy; omega)
  refine jz 5 (jO (jN (jv2 6 7 ?_)))
  refine jT ?_
  refine qQ (bW ?_)
  refine qC rfl zj zc (fun j v hj => hb4.cells j v hj) (by first | rfl | (simp; done)) ?_
  refine qD rfl ?_
  refine qI ?_
  exact ⟨qS, 5, rfl, gM.err jd (by rw [hsP, hfin, if_pos jo]), K⟩
 refine jQ (jN (jv3 3 6 9 ?_))
 refine jS (jR (jm rfl (jf rfl ze rfl zu ?_)))
 have hx1 := ho.ne_blk hb1 jd
 refine Ops.st (qP.store rfl rfl zu hb1 rfl rfl) ?_
 rintro w8 ⟨hbn, (hfw8 : Frm [g1] _ _), hsw8⟩
 have hb1 : Blk w8 g1 25 (m.ws B d l).cells.toArray := hbn
 have hb4 := hb4.frm hfw8 (by simp; omega)
 have ho := ho.frm hfw8 (fun y hy h => by rw [za] at h; subst h; exact hx1 hy)
 have K := K.own hfw8 (fun y hy => by rw [za] at hy; omega)
 refine jO (jN (jv2 3 6 ?_))
 refine jS (jR (je (Run.loadA rfl zj zc (hb1.cells) (by first | rfl | (simp; done))) ?_))
 have hx4 := ho.ne_blk hb4 jd
 refine Ops.st (qP.storeA rfl rfl zc hb4 rfl (MlC.cells_one _)) ?_
 rintro w9 ⟨hbn, (hfw9 : Frm [g4] _ _), hsw9⟩
 have hb4 : Blk w9 g4 25 (m.ws B d l).cells.toArray := hbn
 have ho := ho.frm hfw9 (fun y hy h => by rw [za] at h; subst h; exact hx4 hy)
 have K := K.own hfw9 (fun y hy => by rw [za] at hy; omega)
 refine jz 0 (jO (jN (jv2 6 7 ?_)))
 refine jT ?_
 refine bW ?_
 refine qC rfl zj zc (fun j v hj => hb4.cells j v hj) (by first | rfl | (simp; done)) ?_
 refine qD rfl ?_
 refine qI ?_
 exact ⟨m.ws B d l, 0, rfl, ⟨⟨(hm.frm K).l, ho.rd, hm.lc, ho.le, hm.ln, by dsimp only; omega, hqs⟩, .inl ⟨rfl, by rw [hsP, hfin, if_neg jo]; rfl⟩⟩, K⟩
end
section
open Go.RowKit Go.Sort
set_option maxHeartbeats 1000000 in
theorem nA (m : MlC) (q : Tx) (on : Bool) (w : World) (hm : RawL w m) (hbb : m.b ≤ 9223372036854775807) (hv : cZ w) :
  Calls Tryz.prog 6 #[m.val, encStr q, .bool on] w fun e w' => e = .returned (.bool true) ∧ Frm [] w w' := by
 have hq70 : (q.take 70).length ≤ 70 := zcr _ _
 refine VC.calls (nt := 48) (res := #[.tmp 6]) Tryz.func6 rfl Tryz.ntmps6 Tryz.results6 rfl ?_
 refine jS (jR ?_)
 refine Ops.m (qJ.box rfl) rfl ?_
 rintro _ w1 ⟨rfl, hF1⟩
 have hb3 : Blk w1 w.heap.size 25 m.cells.toArray := hF1.blk
 have K := hF1.frm
 have hsK := K.size
 generalize hg3 : w.heap.size = g3 at hb3 ⊢
 refine ja rfl (jO (jN (jv3 1 2 3 ?_)))
 refine jS (jR (je (Run.loadA rfl zj zc (fun j v hj => hb3.cells j v hj) (by first | rfl | (simp; done))) ?_))
 refine Ops.cl (jE1 Tryz.call11) (nU m _ (hm.frm K)) rfl ?_
 rintro e w2 ⟨m1, rfl, hpm1, hO1, hvm1, hf_w2⟩
 refine ⟨_, rfl, ?_⟩
 have hb3 := hb3.frm hf_w2 jp
 have K := Frm.trans K hf_w2 jp
 refine jM ?_
 refine Ops.cl (jE1 Tryz.call12) (gP q _) rfl ?_
 rintro e _ ⟨rfl, rfl⟩
 refine ⟨_, rfl, ?_⟩
 refine Ops.st (qP.storeA rfl rfl zc hb3 rfl (MlC.cells_one m1)) ?_
 rintro w3 ⟨hbn_w3, hf_w3, hsz_w3⟩
 have hO1 := hO1.blk hf_w3 hb3 jd jd jd
 have hb3 : Blk w3 g3 25 (m1.cells.toArray) := hbn_w3
 have K := Frm.own K hf_w3 (fun y hy => by simp at hy; omega)
 refine ja rfl (jO (jN (jv3 1 2 3 ?_)))
 refine jS (jR (je (Run.loadA rfl zj zc (fun j v hj => hb3.cells j v hj) (by first | rfl | (simp; done))) ?_))
 refine Ops.cl (jE1 Tryz.call11) (nU m1 _ hO1.raw) rfl ?_
 rintro e w4 ⟨m2, rfl, hpm2, hO2, hvm2, hf_w4⟩
 refine ⟨_, rfl, ?_⟩
 have hb3 := hb3.frm hf_w4 jp
 have hO1 := hO1.frm hf_w4
 have K := Frm.trans K hf_w4 jp
 refine Ops.m (qJ.alloc bZ) rfl ?_
 rintro _ w5 ⟨rfl, hF_w5⟩
 have hb7 := hF_w5.blk
 have hs7_K := K.size
 have lt_hb3_7 := hb3.lt
 have hb3 := hb3.frm hF_w5.frm jp
 have hO1 := hO1.frm hF_w5.frm
 have hO2 := hO2.frm hF_w5.frm
 have K := Frm.trans K hF_w5.frm jp
 generalize hg7 : w4.heap.size = g7 at hb7 hs7_K lt_hb3_7 ⊢
 refine Ops.st (qP.storeA rfl rfl zc hb7 rfl (MlC.cells_one m2)) ?_
 rintro w6 ⟨hbn_w6, hf_w6, hsz_w6⟩
 have hb3 := hb3.frm hf_w6 (by simp; omega)
 have hO1 := hO1.blk hf_w6 hb7 jd jd jd
 have hO2 := hO2.blk hf_w6 hb7 jd jd jd
 have hb7 : Blk w6 g7 25 (m2.cells.toArray) := hbn_w6
 have K := Frm.own K hf_w6 (fun y hy => by simp at hy; omega)
 refine jO (jN (jv4 1 2 3 7 ?_))
 refine jS (jR (je (Run.loadA rfl zj zc (fun j v hj => hb3.cells j v hj) (by first | rfl | (simp; done))) (jm rfl (jM ?_))))
 refine Ops.cl (jE3 Tryz.call24) (nD m1 (q.take 70) on _ hO1.rdl jo (hv.frm K)) rfl ?_
 rintro e w7 ⟨a, k, rfl, hI, hf_w7⟩
 refine ⟨_, rfl, ?_⟩
 have hb3 := hb3.frm hf_w7 jp
 have hO1 := hO1.frm hf_w7
 have hO2 := hO2.frm hf_w7
 have hb7 := hb7.frm hf_w7 jp
 have K := Frm.trans K hf_w7 jp
 have hR7 := hO1.rdl
 have K7 := Frm.refl [] w7
 refine jm rfl (je (Run.extract rfl rfl) (je (Run.extract rfl rfl) ?_))
 refine Ops.m (qJ.alloc bZ) rfl ?_
 rintro _ w8 ⟨rfl, hF_w8⟩
 have hb8 := hF_w8.blk
 have hs8_K := K.size
 have hs8_K7 := K7.size
 have lt_hb3_8 := hb3.lt
 have lt_hb7_8 := hb7.lt
 have hb3 := hb3.frm hF_w8.frm jp
 have hO1 := hO1.frm hF_w8.frm
 have hO2 := hO2.frm hF_w8.frm
 have hb7 := hb7.frm hF_w8.frm jp
 have K := Frm.trans K hF_w8.frm jp
 have K7 := Frm.trans K7 hF_w8.frm jp
 generalize hg8 : w7.heap.size = g8 at hb8 hs8_K hs8_K7 lt_hb3_8 lt_hb7_8 ⊢
 refine Ops.st (qP.storeA rfl rfl zc hb8 rfl (MlC.cells_one a)) ?_
 rintro w9 ⟨hbn_w9, hf_w9, hsz_w9⟩
 have hb3 := hb3.frm hf_w9 (by simp; omega)
 have hO1 := hO1.blk hf_w9 hb8 jd jd jd
 have hO2 := hO2.blk hf_w9 hb8 jd jd jd
 have hb7 := hb7.frm hf_w9 (by simp; omega)
 have hb8 : Blk w9 g8 25 (a.cells.toArray) := hbn_w9
 have K := Frm.own K hf_w9 (fun y hy => by simp at hy; omega)
 have K7 := Frm.own K7 hf_w9 (fun y hy => by simp at hy; omega)
 refine ja rfl (jO (jN (jv6 1 2 3 7 8 9 ?_)))
 refine jS (jR (je (Run.loadA rfl zj zc (fun j v hj => hb3.cells j v hj) (by first | rfl | (simp; done))) (jm rfl (jM ?_))))
 refine Ops.cl (jE3 Tryz.call25) (nF m1 (q.take 70) on _ hO1.rdl jo (by rw [hvm1]; exact hbb)) rfl ?_
 rintro e w10 ⟨b, k2, rfl, hJ, hf_w10⟩
 refine ⟨_, rfl, ?_⟩
 have hb3 := hb3.frm hf_w10 jp
 have hO1 := hO1.frm hf_w10
 have hO2 := hO2.frm hf_w10
 have hb7 := hb7.frm hf_w10 jp
 have hb8 := hb8.frm hf_w10 jp
 have K := Frm.trans K hf_w10 jp
 have K7 := Frm.trans K7 hf_w10 jp
 have K10 := Frm.refl [] w10
 obtain ⟨rfl, hE⟩ := hI.same hJ
 refine jm rfl (je (Run.extract rfl rfl) (je (Run.extract rfl rfl) ?_))
 refine Ops.m (qJ.alloc bZ) rfl ?_
 rintro _ w11 ⟨rfl, hF_w11⟩
 have hb10 := hF_w11.blk
 have hs10_K := K.size
 have hs10_K7 := K7.size
 have hs10_K10 := K10.size
 have lt_hb3_10 := hb3.lt
 have lt_hb7_10 := hb7.lt
 have lt_hb8_10 := hb8.lt
 have hb3 := hb3.frm hF_w11.frm jp
 have hO1 := hO1.frm hF_w11.frm
 have hO2 := hO2.frm hF_w11.frm
 have hb7 := hb7.frm hF_w11.frm jp
 have hb8 := hb8.frm hF_w11.frm jp
 have K := Frm.trans K hF_w11.frm jp
 have K7 := Frm.trans K7 hF_w11.frm jp
 have K10 := Frm.trans K10 hF_w11.frm jp
 generalize hg10 : w10.heap.size = g10 at hb10 hs10_K hs10_K7 hs10_K10 lt_hb3_10 lt_hb7_10 lt_hb8_10 ⊢
 refine Ops.st (qP.storeA rfl rfl zc hb10 rfl (MlC.cells_one b)) ?_
 rintro w12 ⟨hbn_w12, hf_w12, hsz_w12⟩
 have hb3 := hb3.frm hf_w12 (by simp; omega)
 have hO1 := hO1.blk hf_w12 hb10 jd jd jd
 have hO2 := hO2.blk hf_w12 hb10 jd jd jd
 have hb7 := hb7.frm hf_w12 (by simp; omega)
 have hb8 := hb8.frm hf_w12 (by simp; omega)
 have hb10 : Blk w12 g10 25 (b.cells.toArray) := hbn_w12
 have K := Frm.own K hf_w12 (fun y hy => by simp at hy; omega)
 have K7 := Frm.own K7 hf_w12 (fun y hy => by simp at hy; omega)
 have K10 := Frm.own K10 hf_w12 (fun y hy => by simp at hy; omega)
 have hRa := hI.rdl K7 hR7
 have hRb := hJ.1.frm K10
 refine ja rfl (jO (jN (jv6 3 7 8 9 10 11 ?_)))
 refine jS (jR (je (Run.loadA rfl zj zc (fun j v hj => hb8.cells j v hj) (by first | rfl | (simp; done))) (je (Run.loadA rfl zj zc (fun j v hj => hb10.cells j v hj) (by first | rfl | (simp; done))) ?_)))
 refine Ops.cl (jE2 Tryz.call15) (lF a b _ hRa hRb) rfl ?_
 rintro e w13 ⟨rfl, hf_w13⟩
 rw [decide_eq_true (hE)]
 refine ⟨_, rfl, ?_⟩
 have hb3 := hb3.frm hf_w13 jp
 have hO1 := hO1.frm hf_w13
 have hO2 := hO2.frm hf_w13
 have hb7 := hb7.frm hf_w13 jp
 have hb8 := hb8.frm hf_w13 jp
 have hb10 := hb10.frm hf_w13 jp
 have K := Frm.trans K hf_w13 jp
 have K7 := Frm.trans K7 hf_w13 jp
 have K10 := Frm.trans K10 hf_w13 jp
 refine jM ?_
 refine jG ?_
 refine jG ?_
 refine jk (Run.bin rfl rfl (Bin.eqlN _ _)) ?_
 refine je (Run.pickT rfl rfl au) (jM ?_)
 refine jk (Run.loadA rfl zj zc (fun j v hj => hb3.cells j v hj) (by first | rfl | (simp; done))) ?_
 refine jk (Run.loadA rfl zj zc (fun j v hj => hb7.cells j v hj) (by first | rfl | (simp; done))) ?_
 refine Ops.clg rfl au (jE2 Tryz.call15) (lF m1 m2 _ hO1.rdl hO2.rdl) rfl ?_
 rintro e w14 ⟨rfl, hf_w14⟩
 rw [decide_eq_true (by rw [hpm2, hpm1, wI])]
 refine ⟨_, rfl, ?_⟩
 have hb3 := hb3.frm hf_w14 jp
 have hO1 := hO1.frm hf_w14
 have hO2 := hO2.frm hf_w14
 have hb7 := hb7.frm hf_w14 jp
 have hb8 := hb8.frm hf_w14 jp
 have hb10 := hb10.frm hf_w14 jp
 have K := Frm.trans K hf_w14 jp
 have K7 := Frm.trans K7 hf_w14 jp
 have K10 := Frm.trans K10 hf_w14 jp
 refine je (Run.pickT rfl rfl au) (jM ?_)
 refine Ops.clg rfl au (jE0 Tryz.call16) (rZ _ (hv.frm K)) rfl ?_
 rintro e w15 ⟨rfl, hf_w15⟩
 refine ⟨_, rfl, ?_⟩
 have hb3 := hb3.frm hf_w15 jp
 have hO1 := hO1.frm hf_w15
 have hO2 := hO2.frm hf_w15
 have hb7 := hb7.frm hf_w15 jp
 have hb8 := hb8.frm hf_w15 jp
 have hb10 := hb10.frm hf_w15 jp
 have K := Frm.trans K hf_w15 jp
 have K7 := Frm.trans K7 hf_w15 jp
 have K10 := Frm.trans K10 hf_w15 jp
 refine je (Run.pickT rfl rfl au) (ja rfl (jO (jN (jv1 6 ?_))))
 refine jT ?_
 refine qH rfl ?_
 exact ⟨rfl, K⟩
end
end Go.Proofs.YtgmbmfpfhcekiaaGreat
