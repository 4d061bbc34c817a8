/-
  Lemmas on the way, joined: StoZb, BoxL0, StoQ0, StoZg, StoZh, StoZi, StoZk, Srt0, SrtA, SrtB, SrtC, SrtD, SrtE, SrtF, SrtG, SrtH, SrtI, StoZt, Eng16, Oct0.
-/
import Derived.Sort.AssemblyPlain
import Derived.Shelf.Slices.CompactI
import Derived.Lib.AppendStr
import Derived.Test.YtgmbmfpfhcekiaaGreatPk3
set_option maxRecDepth 100000
set_option linter.unusedVariables false
set_option linter.unusedSimpArgs false
namespace Go.Proofs.YtgmbmfpfhcekiaaGreat
section
open Go.RowKit Go.Sort
def fewB (l : List MsgP) : List MsgP := qZ2 (if 20 < l.length ∧ l.length ≤ 128 then l.take 20 else l)
def mT (x : NmP) : NmP := (x.1.take 70, ⟨x.2.valid, x.2.next, fewB x.2.l⟩)
def qZ4 (m : MailP) : MailP := ⟨(m.l.take 25).map mT, (m.subs.take 25).map (fun s => s.take 70), m.valid, m.blob⟩
structure RawL (w : World) (m : MlC) : Prop where
 l : Rd w 4 m.A m.l.length (NDC m.l)
 el : ∀ x ∈ m.l, RawM w x.A x.l ∧ x.l.length ≤ x.c
 s : Rd w 1 m.S m.ss.length (SB m.ss)
 lc : m.l.length ≤ m.c
 sc : m.ss.length ≤ m.d
theorem RawL.frm {w w' : World} {m : MlC} (h : RawL w m) (k : Frm [] w w') : RawL w' m := ⟨h.l.frm k jp, fun x hx => ⟨(h.el x hx).1.frm k, (h.el x hx).2⟩, h.s.frm k jp, h.lc, h.sc⟩
theorem RawL.takeL {w : World} {m : MlC} (h : RawL w m) (k : Nat) : Rd w 4 m.A (m.l.take k).length (NDC (m.l.take k)) := by
 rcases Nat.le_total k m.l.length with hm | hm
 ·
  have h1 := h.l.cut (cap := m.l.length) (zae k) hm (zw _)
  rw [fX, zcb, Nat.zero_mul, zco, gD m.l k hm] at h1
  rw [zt, zau hm]
  exact h1
 rw [zv hm]
 exact h.l
theorem RawL.takeS {w : World} {m : MlC} (h : RawL w m) (k : Nat) : Rd w 1 m.S (m.ss.take k).length (SB (m.ss.take k)) := by
 rcases Nat.le_total k m.ss.length with hm | hm
 ·
  have h1 := h.s.cut (cap := m.ss.length) (zae k) hm (zw _)
  rw [fX, zcb, Nat.zero_mul, zco, zbq, show (SB m.ss).take k = SB (m.ss.take k) by simp [SB, zdu]] at h1
  rw [zt, zau hm]
  exact h1
 rw [zv hm]
 exact h.s
theorem qKx {w : World} {A : Option Addr} {l : List Nc} {k : Nat} (h : Rd w 4 A l.length (NDC l)) (hk : k < l.length) : ∃ ad, A = some ad ∧ ∀ W, Frm [] w W → ∀ j v, (l[k]).cells[j]? = some v → W.cell? ((ad.add (k * 4)).add j) = some v := by
 obtain ⟨ad, rfl, hc⟩ := h.elem hk
 refine ⟨ad, rfl, fun W hW j v hj => ?_⟩
 obtain ⟨ad', e, hc'⟩ := (h.frm hW jp).elem hk
 cases e
 exact hc' j v (by rw [fY Nc.cells 4 Nc.cells_len l k hk]; exact hj)
theorem OwM.offO {w w' : World} {A B : Option Addr} {d size n c : Nat} {l : List Mc} {e : TypeId} {xs : List Value} (h : OwM w A d l) (k : Frm (ob B) w w') (hB : Own w e size B n c xs) (h1 : 60 ≠ e) (h2 : 9 ≠ e) : OwM w' A d l :=
 ⟨h.own.frm k (fun y hy => h.own.ne_own hB h1 y hy), fun x hx => (h.fl x hx).frm k (fun y hy => (h.fl x hx).ne_own hB h2 y hy), h.fit⟩
theorem OwM.at27 {w : World} {x : Nc} (h : OwM w x.A x.c x.l) (h1 : x.l.length ≤ 129) (h2 : x.nm.length ≤ 70) : x.At w := ⟨h.rdm, jo, jo⟩
structure OwL (w : World) (m : MlC) : Prop where
 l : Own w 45 4 m.A m.l.length m.c (NDC m.l)
 el : ∀ x ∈ m.l, OwM w x.A x.c x.l ∧ x.l.length ≤ 129 ∧ x.nm.length ≤ 70
 s : Own w 9 1 m.S m.ss.length m.d (SB m.ss)
 ln : m.l.length ≤ 25
 sn : m.ss.length ≤ 25
 sq : ∀ q ∈ m.ss, q.length ≤ 70
theorem OwL.frm {w w' : World} {m : MlC} (h : OwL w m) (k : Frm [] w w') : OwL w' m := ⟨h.l.frm k jp, fun x hx => ⟨(h.el x hx).1.frm k, (h.el x hx).2⟩, h.s.frm k jp, h.ln, h.sn, h.sq⟩
theorem OwL.rdl {w : World} {m : MlC} (h : OwL w m) : RdL w m := ⟨⟨h.l.rd, fun x hx => (h.el x hx).1.at27 (h.el x hx).2.1 (h.el x hx).2.2⟩, h.s.rd, h.l.le, h.s.le, by have := h.ln; omega, by have := h.sn; omega, fun q hq => by have := h.sq q hq; omega⟩
theorem OwL.blk {w w' : World} {m : MlC} {g : Nat} {t : TypeId} {cs : Array Value} (h : OwL w m) (k : Frm [g] w w') (hb : Blk w g t cs) (h0 : 45 ≠ t) (h1 : 60 ≠ t) (h2 : 9 ≠ t) : OwL w' m :=
 ⟨h.l.frm k (fun y hy h' => by rw [za] at h'; subst h'; exact h.l.ne_blk hb h0 hy), fun x hx => ⟨(h.el x hx).1.blk k hb h1 h2, (h.el x hx).2⟩, h.s.frm k (fun y hy h' => by rw [za] at h'; subst h'; exact h.s.ne_blk hb h2 hy), h.ln, h.sn, h.sq⟩
theorem mU {w : World} {A : Option Addr} {l : List Tx} {k : Nat} (h : Rd w 1 A l.length (SB l)) (hk : k < l.length) : ∃ ad, A = some ad ∧ w.cell? ((ad.add (k * 1)).add 0) = some (encStr l[k]) := by
 obtain ⟨ad, hA, hc⟩ := h.elem hk
 exact ⟨ad, hA, hc 0 _ (by simp [SB, zb hk])⟩
theorem lE {α β : Type} (f : α → β) {l : List α} {i : Nat} (h : i < l.length) : (l.take (i + 1)).map f = (l.take i).map f ++ [f l[i]] := by rw [zan, zb h, zbc]; rfl
set_option maxHeartbeats 1000000 in
theorem yU (m : MlC) (w : World) (hm : RawL w m) : Calls Tryz.prog 11 #[m.val] w fun e w' => ∃ m' : MlC, e = .returned m'.val ∧ m'.p = qZ4 m.p ∧ OwL w' m' ∧ m'.b = m.b ∧ (∀ x ∈ m'.l, ∀ b ∈ ob x.A, w.heap.size ≤ b) ∧ Frm [] w w' := by
 have hlc := hm.lc
 have hsc := hm.sc
 refine VC.calls (nt := 85) (res := #[.cell 2 25]) Tryz.func11 rfl Tryz.ntmps11 Tryz.results11 rfl ?_
 refine jS (jR ?_)
 refine Ops.m (qV.box rfl) rfl ?_
 rintro _ w1 ⟨rfl, hF_w1⟩
 have hb1 : Blk w1 w.heap.size 25 #[.slice m.A m.l.length m.c, .slice m.S m.ss.length m.d, .int .i64 m.v, .int .i64 m.b] := hF_w1.blk
 have K := hF_w1.frm
 generalize hg1 : w.heap.size = g1 at hb1 ⊢
 refine Ops.m (qV.alloc bW) rfl ?_
 rintro _ w2 ⟨rfl, hF2⟩
 have hb4 := hF2.blk
 have hg4 : w.heap.size ≤ w1.heap.size := K.size
 have hb1 := hb1.frm hF2.frm jp
 have hl1 := hb1.lt
 have hl4 := hb4.lt
 have K := K.trans hF2.frm jp
 have hne14 : g1 ≠ w1.heap.size := by have := hF_w1.size; omega
 have hg1s : w.heap.size ≤ g1 := jo
 generalize hg4' : w1.heap.size = g4 at hb4 hg4 hne14 hl4 ⊢
 refine jO (jN (jv2 1 2 ?_))
 refine jS (jS (jR (jf rfl zf rfl zaf (jl rfl zap (hb1.cell 0) (je (Run.lenS rfl zg) (jb rfl rfl (Bin.gtrN _ 25) (jO (jN (jv3 1 2 11 ?_)))))))))
 refine VC.meet (σ := Unit) (fun s => [(1, .pointer (some ⟨g1, 0, none⟩)), (2, .pointer (some ⟨g4, 0, none⟩))]) (fun s wm => Blk wm g1 25 #[.slice m.A (m.l.take 25).length m.c, .slice m.S m.ss.length m.d, .int .i64 m.v, .int .i64 m.b] ∧ Blk wm g4 25 qF.cells.toArray ∧ Frm [] w wm) ?_ ?_
 ·
  refine jD rfl (fun hc1 => ?_) fun hc1 => ?_
  ·
   refine jR (jf rfl zf rfl zaf (jl rfl zap (hb1.cell 0) (je (Run.sliceS 0 25 rfl zg zq evB.none_ (evB.some_ rfl) jo jo) (jf rfl zf rfl zaf ?_))))
   refine Ops.st (qP.store rfl rfl zaf hb1 rfl rfl) ?_
   rintro w3 ⟨hbn, (hfw3 : Frm [g1] _ _), hsw3⟩
   have hlt : (m.l.take 25).length = 25 := by rw [zt]; omega
   have hbn : Blk w3 g1 25 #[.slice (dP m.A m.c 0 4) (25 - 0) (m.c - 0), .slice m.S m.ss.length m.d, .int .i64 m.v, .int .i64 m.b] := hbn
   rw [fX, zcb, zcb] at hbn
   have hb1 : Blk w3 g1 25 #[.slice m.A (m.l.take 25).length m.c, .slice m.S m.ss.length m.d, .int .i64 m.v, .int .i64 m.b] := by rw [hlt]; exact hbn
   have hb4 := hb4.frm hfw3 (by simp; omega)
   have K := K.own hfw3 (fun y hy => by rw [za] at hy; omega)
   refine jO ?_
   refine jN ⟨(), (js2 rfl rfl), ?_⟩
   exact ⟨hb1, hb4, K⟩
  refine jQ ?_
  refine jN ⟨(), (js2 rfl rfl), ?_⟩
  have hlt : (m.l.take 25).length = m.l.length := by rw [zt]; omega
  exact ⟨by rw [hlt]; exact hb1, hb4, K⟩
 rintro _ w3 ⟨hb1, hb4, K⟩ Γ hΓ
 refine jN (VC.sub _ hΓ (jS (jS (jR (jf rfl zf rfl zaj (jl rfl zar (hb1.cell 1) (je (Run.lenS rfl zc) (jb rfl rfl (Bin.gtrN _ 25) (jO (jN (jv3 1 2 19 ?_)))))))))))
 refine VC.meet (σ := Unit) (fun s => [(1, .pointer (some ⟨g1, 0, none⟩)), (2, .pointer (some ⟨g4, 0, none⟩))]) (fun s wm => Blk wm g1 25 #[.slice m.A (m.l.take 25).length m.c, .slice m.S (m.ss.take 25).length m.d, .int .i64 m.v, .int .i64 m.b] ∧ Blk wm g4 25 qF.cells.toArray ∧ Frm [] w wm) ?_ ?_
 ·
  refine jD rfl (fun hc2 => ?_) fun hc2 => ?_
  ·
   refine jR (jf rfl zf rfl zaj (jl rfl zar (hb1.cell 1) (je (Run.sliceS 0 25 rfl zc zm evB.none_ (evB.some_ rfl) jo jo) (jf rfl zf rfl zaj ?_))))
   refine Ops.st (qP.store rfl rfl zaj hb1 rfl rfl) ?_
   rintro w4 ⟨hbn, (hfw4 : Frm [g1] _ _), hsw4⟩
   have hst : (m.ss.take 25).length = 25 := by rw [zt]; omega
   have hbn : Blk w4 g1 25 #[.slice m.A (m.l.take 25).length m.c, .slice (dP m.S m.d 0 1) (25 - 0) (m.d - 0), .int .i64 m.v, .int .i64 m.b] := hbn
   rw [fX, zcb, zcb] at hbn
   have hb1 : Blk w4 g1 25 #[.slice m.A (m.l.take 25).length m.c, .slice m.S (m.ss.take 25).length m.d, .int .i64 m.v, .int .i64 m.b] := by rw [hst]; exact hbn
   have hb4 := hb4.frm hfw4 (by simp; omega)
   have K := K.own hfw4 (fun y hy => by rw [za] at hy; omega)
   refine jO ?_
   refine jN ⟨(), (js2 rfl rfl), ?_⟩
   exact ⟨hb1, hb4, K⟩
  refine jQ ?_
  refine jN ⟨(), (js2 rfl rfl), ?_⟩
  have hst : (m.ss.take 25).length = m.ss.length := by rw [zt]; omega
  exact ⟨by rw [hst]; exact hb1, hb4, K⟩
 rintro _ w4 ⟨hb1, hb4, K⟩ Γ hΓ
 have hRl := hm.takeL 25
 have hRs := hm.takeS 25
 have hRe : ∀ x ∈ m.l.take 25, RawM w x.A x.l ∧ x.l.length ≤ x.c := fun x hx => hm.el x (zci hx)
 have hRn : (m.l.take 25).length ≤ 25 := zdl _ _
 have hRm : (m.ss.take 25).length ≤ 25 := zdl _ _
 obtain ⟨l, hl⟩ : ∃ l, l = m.l.take 25 := ⟨_, rfl⟩
 obtain ⟨ss, hss⟩ : ∃ ss, ss = m.ss.take 25 := ⟨_, rfl⟩
 rw [← hl] at hRl hRe hRn hb1
 rw [← hss] at hRs hRm hb1
 refine jN (VC.sub _ hΓ (jS (jR (ja rfl (jO (jN (jS (jS (jR (jz 0 (jO (jN (jB ?_)))))))))))))
 refine VC.loop (σ := Nat × Option Addr × Nat × List Nc) (fun s => [(1, .pointer (some ⟨g1, 0, none⟩)), (2, .pointer (some ⟨g4, 0, none⟩)), (3, .slice s.2.1 s.2.2.2.length s.2.2.1), (4, .int .i64 ((s.1 : Nat) : Int))]) (fun s wr => s.1 ≤ l.length ∧ Blk wr g1 25 #[.slice m.A l.length m.c, .slice m.S ss.length m.d, .int .i64 m.v, .int .i64 m.b] ∧ Blk wr g4 25 qF.cells.toArray ∧ Own wr 45 4 s.2.1 s.2.2.2.length s.2.2.1 (NDC s.2.2.2) ∧ (∀ x ∈ s.2.2.2, OwM wr x.A x.c x.l ∧ x.l.length ≤ 129 ∧ x.nm.length ≤ 70) ∧ Ns s.2.2.2 = ((l.take s.1).map Nc.p).map mT ∧ (∀ b ∈ ob s.2.1, w.heap.size ≤ b) ∧ (∀ x ∈ s.2.2.2, ∀ b ∈ ob x.A, w.heap.size ≤ b) ∧ Frm [] w wr) (fun s => l.length - s.1) (0, none, 0, []) (js4 rfl rfl rfl rfl) ⟨zae _, hb1, hb4, Own.nil _ _ _, jp, rfl, by simp [ob], jp, K⟩ ?_
 rintro ⟨i, B, d, l'⟩ wr ⟨hi, hb1, hb4, ho, hel', hns, hob, hfa, K⟩
 dsimp only at *
 have hll : l'.length = i := by
  have h := congrArg List.length hns
  rw [bP, zah, zah, zt] at h
  omega
 refine jS (jS (jR (jm rfl (jf rfl zf rfl zaf (jl rfl zap (hb1.cell 0) (je (Run.lenS rfl zg) (jb rfl rfl (Bin.lssN _ _) (jO (jN (jv5 1 2 3 4 28 ?_))))))))))
 refine jD rfl (fun hc3 => ?_) fun hc3 => ?_
 ·
  obtain ⟨ad, had, hel⟩ := qKx hRl hc3
  have hxr := hRe _ (zaa hc3)
  have hts := lE (fun x : Nc => mT x.p) hc3
  generalize hx : l[i] = x at *
  refine jQ (jN (jv4 1 2 3 4 ?_))
  refine jS (jB (jS (jR (jf rfl zf rfl zaf (jl rfl zap (hb1.cell 0) (jm rfl (je (Run.indexS i (show _ = some (Value.slice (some ad) l.length m.c) by rw [← had]; rfl) rfl zg zq hc3) (jf rfl zy rfl zu (je (Run.loadA rfl zaz zu (cs := BVc x.v x.n x.A x.l.length x.c) (fun j v hj => by rw [Go.Proofs.YtgmbmfpfhcekiaaGreat.add_add]; exact hel _ K (1 + j) v (by rw [zeh]; exact hj)) (by first | rfl | (simp; done))) ?_)))))))))
  refine Ops.m (qV.alloc cN) rfl ?_
  rintro _ w5 ⟨rfl, hF5⟩
  have hb1 := hb1.frm hF5.frm jp
  have hb4 := hb4.frm hF5.frm jp
  have ho := ho.frm hF5.frm jp
  have hel' := fun x hx => show OwM w5 x.A x.c x.l ∧ x.l.length ≤ 129 ∧ x.nm.length ≤ 70 from ⟨(hel' x hx).1.frm hF5.frm, (hel' x hx).2⟩
  have hb5 := hF5.blk
  have hK5 := K.size
  have hl1 := hb1.lt
  have hl4 := hb4.lt
  have hne15 : g1 ≠ wr.heap.size := fun e => by have := hb1.ne hb5 jd; omega
  have hne45 : g4 ≠ wr.heap.size := fun e => by have := hb4.ne hb5 jd; omega
  have K := K.trans hF5.frm jp
  generalize hgg5 : wr.heap.size = g5 at hb5 hK5 hne15 hne45 ⊢
  have ho5 := ho.ne_blk hb5 jd
  have hb50 := hb5
  refine Ops.st (qP.storeA rfl rfl zu hb5 rfl (cR x.v x.n x.A x.l.length x.c)) ?_
  rintro w6 ⟨hb5, (hf6 : Frm [g5] _ _), hs6⟩
  have hb5 : Blk w6 g5 43 (BVc x.v x.n x.A x.l.length x.c).toArray := hb5
  have hb1 := hb1.frm hf6 (by simp; omega)
  have hb4 := hb4.frm hf6 (by simp; omega)
  have ho := ho.frm hf6 (fun y hy h => by rw [za] at h; subst h; exact ho5 hy)
  have hel' := fun x hx => show OwM w6 x.A x.c x.l ∧ x.l.length ≤ 129 ∧ x.nm.length ≤ 70 from ⟨(hel' x hx).1.blk hf6 hb50 jd jd, (hel' x hx).2⟩
  have K := K.own hf6 (fun y hy => by rw [za] at hy; omega)
  refine jO (jN (jv5 1 2 3 4 5 ?_))
  refine jS (jS ?_)
  refine VC.split1 [(1, _), (2, _), (3, _), (4, _), (5, _)] (js5 rfl rfl rfl rfl rfl) 46 (.bool (decide ((20 < x.l.length) ∧ (x.l.length ≤ 128)))) ?_ ?_
  ·
   by_cases hs0 : 20 < x.l.length
   ·
    refine jR (jf rfl zl rfl zak (jl rfl zas (hb5.cell 2) (je (Run.lenS rfl zab) (jb rfl rfl (Bin.gtrN _ 20) (jM ?_)))))
    refine jk (Run.fieldAddr rfl zl rfl zak jd) ?_
    refine jk (Run.load rfl zas (hb5.cell 2)) ?_
    refine jk (Run.lenS rfl zab) ?_
    refine jk (Run.bin rfl rfl (Bin.leqN _ 128)) ?_
    refine je (Run.pickT rfl rfl au) (jO ?_)
    refine jN ⟨(js6 (by rw [oS hs0]; rfl) rfl rfl rfl rfl rfl), rfl⟩
   refine jR (jf rfl zl rfl zak (jl rfl zas (hb5.cell 2) (je (Run.lenS rfl zab) (jb rfl rfl (Bin.gtrN _ 20) (jM ?_)))))
   refine jU ?_
   refine jU ?_
   refine jU ?_
   refine jU ?_
   refine je (Run.pickF rfl rfl au) (jO ?_)
   refine jN ⟨(js6 (by rw [oT hs0]; rfl) rfl rfl rfl rfl rfl), rfl⟩
  intro Γ hΓ
  refine jN (VC.sub _ hΓ ?_)
  refine VC.meet (σ := List Mc) (fun s => [(1, .pointer (some ⟨g1, 0, none⟩)), (2, .pointer (some ⟨g4, 0, none⟩)), (3, .slice B l'.length d), (4, .int .i64 ((i : Nat) : Int)), (5, .pointer (some ⟨g5, 0, none⟩))]) (fun s wm => s = (if 20 < x.l.length ∧ x.l.length ≤ 128 then x.l.take 20 else x.l) ∧ s.length ≤ x.c ∧ Blk wm g5 43 (BVc x.v x.n x.A s.length x.c).toArray ∧ Blk wm g1 25 #[.slice m.A l.length m.c, .slice m.S ss.length m.d, .int .i64 m.v, .int .i64 m.b] ∧ Blk wm g4 25 qF.cells.toArray ∧ Own wm 45 4 B l'.length d (NDC l') ∧ (∀ x ∈ l', OwM wm x.A x.c x.l ∧ x.l.length ≤ 129 ∧ x.nm.length ≤ 70) ∧ Frm [] w wm) ?_ ?_
  ·
   refine jD rfl (fun hc4 => ?_) fun hc4 => ?_
   ·
    refine jR (jf rfl zl rfl zak (jl rfl zas (hb5.cell 2) (je (Run.sliceS 0 20 rfl zab zam evB.none_ (evB.some_ rfl) jo jo) (jf rfl zl rfl zak ?_))))
    have ho5 := ho.ne_blk hb5 jd
    have hb50 := hb5
    refine Ops.st (qP.store rfl rfl zak hb5 rfl rfl) ?_
    rintro w7 ⟨hbn, (hf7 : Frm [g5] _ _), hs7⟩
    have hlt : (x.l.take 20).length = 20 := by rw [zt]; omega
    have hbn : Blk w7 g5 43 (BVc x.v x.n (dP x.A x.c 0 6) (20 - 0) (x.c - 0)).toArray := hbn
    rw [fX, zcb, zcb] at hbn
    have hb5 : Blk w7 g5 43 (BVc x.v x.n x.A (x.l.take 20).length x.c).toArray := by rw [hlt]; exact hbn
    have hb1 := hb1.frm hf7 (by simp; omega)
    have hb4 := hb4.frm hf7 (by simp; omega)
    have ho := ho.frm hf7 (fun y hy h => by rw [za] at h; subst h; exact ho5 hy)
    have hel' := fun x hx => show OwM w7 x.A x.c x.l ∧ x.l.length ≤ 129 ∧ x.nm.length ≤ 70 from ⟨(hel' x hx).1.blk hf7 hb50 jd jd, (hel' x hx).2⟩
    have K7 := K.own hf7 (fun y hy => by rw [za] at hy; omega)
    refine jO ?_
    refine jN ⟨(x.l.take 20), (js5 rfl rfl rfl rfl rfl), ?_⟩
    exact ⟨by rw [if_pos (by first | exact hc4 | exact of_decide_eq_true hc4)], by rw [zt]; omega, hb5, hb1, hb4, ho, hel', K7⟩
   refine jQ ?_
   refine jN ⟨x.l, (js5 rfl rfl rfl rfl rfl), ?_⟩
   exact ⟨by rw [if_neg (by first | exact hc4 | exact of_decide_eq_false hc4)], hxr.2, hb5, hb1, hb4, ho, hel', K⟩
  rintro lx w8 ⟨hlx, hlc, hb5, hb1, hb4, ho, hel', K⟩ Γ hΓ
  have hxl : RawM w8.drew x.A lx := by
   have h := (hRe x (by rw [← hx]; exact zaa hc3)).1.frm K.drew
   rw [hlx]
   split
   · exact h.take 20
   exact h
  have hnB1 := ho.ne_blk hb1 jd
  have hnB4 := ho.ne_blk hb4 jd
  have hnB5 := ho.ne_blk hb5 jd
  refine jN (VC.sub _ hΓ ?_)
  refine VC.held (fun W => Frm (ob B) w8 W) jK ?_
  have hS : Frm (ob B) w8 w8.drew := (Frm.refl _ _).drew
  have hS0 : Frm [] w8 w8.drew := (Frm.refl _ _).drew
  refine jH 0 rfl hS (fun w0 hw0 => Run.mv rfl) ?_
  refine jH 1 rfl hS (fun w0 hw0 => Run.fieldAddr rfl zf rfl zaf jd) ?_
  refine jH 2 rfl hS (fun w0 hw0 => Run.load rfl zap ((hb1.frm hw0 hnB1).cell 0)) ?_
  refine jH 3 rfl hS (fun w0 hw0 => Run.mv rfl) ?_
  refine jH 4 rfl hS (fun w0 hw0 => Run.indexS i (show _ = some (Value.slice (some ad) l.length m.c) by rw [← had]; rfl) rfl zg zq hc3) ?_
  refine jH 5 rfl hS (fun w0 hw0 => Run.fieldAddr rfl zy rfl zm jd) ?_
  refine jH 6 rfl hS (fun w0 hw0 => Run.load rfl zx (hel _ (K.own hw0 hob) 0 (encStr x.nm) rfl)) ?_
  refine jH 8 rfl hS (fun w0 hw0 => Run.loadA rfl zaz zu (fun j v hj => (hb5.frm hw0 hnB5).cells j v hj) (by first | rfl | (simp; done))) ?_
  refine qQ.cl 7 rfl jK (jE1 Tryz.call12) (kX x.nm _) trivial rfl rfl ?_
  rintro e _ ⟨rfl, rfl⟩
  refine ⟨_, rfl, hS, ?_⟩
  refine qQ.cl 9 rfl jK (jE1 Tryz.call44) (yS x.v x.n x.A x.c lx _ hxl hlc) trivial rfl rfl ?_
  rintro e w9 ⟨hf9, C, dC, lC, rfl, hoC, hMC, hCl, hCb⟩
  have hS0s := hS0.size
  have hS9 := hS.trans hf9 jp
  have hS09 := hS0.trans hf9 jp
  refine ⟨_, rfl, hS9, ?_⟩
  have hS := hS9
  have ho9 := ho.frm hS09 jp
  have hel9 := fun x hx => show OwM w9 x.A x.c x.l ∧ x.l.length ≤ 129 ∧ x.nm.length ≤ 70 from ⟨(hel' x hx).1.frm hS09, (hel' x hx).2⟩
  refine jH 10 rfl hS (fun w0 hw0 => Run.build (evs.cons rfl (evs.cons rfl evs.nil)) cJ (dL).choose_spec.1 (dL).choose_spec.2 rfl) ?_
  refine qQ.m 11 rfl jK (qV.buildS1 rfl zg zq cJ jd jd rfl rfl) trivial rfl rfl ?_
  rintro _ w10 ⟨rfl, hF10⟩
  have hr10 : Rd w10 4 (some ⟨w9.heap.size, 0, none⟩) 1 (NDC [⟨x.nm.take 70, x.v, x.n, C, dC, lC⟩]) := sG (x := ⟨x.nm.take 70, x.v, x.n, C, dC, lC⟩) hF10
  have hS010 := hS09.trans hF10.frm jp
  have hS10 := hS.trans hF10.frm jp
  refine ⟨hS10, ?_⟩
  have hS := hS10
  have ho10 := ho9.frm hF10.frm jp
  have hel10 := fun x hx => show OwM w10 x.A x.c x.l ∧ x.l.length ≤ 129 ∧ x.nm.length ≤ 70 from ⟨(hel9 x hx).1.frm hF10.frm, (hel9 x hx).2⟩
  have hoC10 := hoC.frm hF10.frm
  have K10 := K.trans hS010 jp
  have hK10 := K10.size
  have hS90 := hS09.size
  have hK8 := K.size
  refine qQ.m 12 rfl jK (qV.app rfl rfl zg (kM) rfl jd ho10 hr10 (fH _) jo jo) trivial rfl rfl ?_
  rintro _ w11 ⟨B6, c6, rfl, ho6, hf6, hob6⟩
  rw [← dJ] at ho6
  have hS11 := hS10.trans hf6 (fun y hy => .inl hy)
  refine ⟨hS11, ?_⟩
  have hS := hS11
  have hel11 : ∀ y ∈ l' ++ [⟨x.nm.take 70, x.v, x.n, C, dC, lC⟩], OwM w11 y.A y.c y.l ∧ y.l.length ≤ 129 ∧ y.nm.length ≤ 70 := fun y hy => by
   rcases zds.1 hy with h | h
   · exact ⟨(hel10 y h).1.offO hf6 ho10 jd jd, (hel10 y h).2⟩
   rw [za] at h
   subst h
   exact ⟨hoC10.offO hf6 ho10 jd jd, hCl, zdl _ _⟩
  have hob6 : ∀ b ∈ ob B6, w.heap.size ≤ b := fun b hb => by
   rcases hob6 with h | h
   · rw [h] at hb; exact hob b hb
   rw [h, za] at hb; omega
  have K11 := K10.own hf6 hob
  have hb1 := hb1.frm hS11 hnB1
  have hb4 := hb4.frm hS11 hnB4
  refine jH 13 rfl hS (fun w0 hw0 => Run.asg rfl) ?_
  refine qQ.done jK ?_
  refine qW (jN ?_)
  refine jv4 1 2 3 4 ?_
  refine jR (jm rfl (jb rfl rfl (Bin.add_i64 _ 1 jo) (ja rfl (jO ?_))))
  refine jN ⟨(i + 1, B6, c6, l' ++ [⟨x.nm.take 70, x.v, x.n, C, dC, lC⟩]), (js4 rfl rfl (by rw [zi]; rfl) rfl), ?_, ?_⟩
  ·
   refine ⟨hc3, hb1, hb4, by rw [zi]; exact ho6, hel11, ?_, hob6, fun y hy => ?_, K11⟩
   rotate_left
   ·
    rcases zds.1 hy with h | h
    · exact hfa y h
    rw [za] at h
    subst h
    exact fun b hb => by have := hCb b hb; have := hS90; have := hK8; omega
   rw [zcs] at hns
   rw [zcs]
   show Ns (l' ++ _) = List.map (fun x => mT (Nc.p x)) (l.take (i + 1))
   rw [hts]
   show (l' ++ _).map Nc.p = _
   rw [zbc]
   have hns' : l'.map Nc.p = List.map (fun x => mT (Nc.p x)) (l.take i) := hns
   rw [hns']
   congr 1
   show [Nc.p _] = [mT x.p]
   unfold Nc.p mT fewB
   dsimp only
   rw [hMC, hlx]
   congr 4
   have hml : (Ms x.l).length = x.l.length := by simp [Ms]
   rw [hml]
   split <;> simp [Ms]
  first | omega | (dsimp only; omega)
 obtain rfl : i = l.length := jo
 rw [zaq] at hns
 refine jX ?_
 refine qJ (qJ (qN ?_))
 refine jN (jv3 1 2 3 ?_)
 refine jS (jR (jm rfl (jf rfl zf rfl zaf ?_)))
 have ho1 := ho.ne_blk hb1 jd
 have hb10 := hb1
 refine Ops.st (qP.store rfl rfl zaf hb1 rfl rfl) ?_
 rintro w13 ⟨hb1, (hf13 : Frm [g1] _ _), hs13⟩
 have hb1 : Blk w13 g1 25 #[.slice B l'.length d, .slice m.S ss.length m.d, .int .i64 m.v, .int .i64 m.b] := hb1
 have hb4 := hb4.frm hf13 (by simp; omega)
 have ho := ho.frm hf13 (fun y hy h => by rw [za] at h; subst h; exact ho1 hy)
 have hel' := fun x hx => show OwM w13 x.A x.c x.l ∧ x.l.length ≤ 129 ∧ x.nm.length ≤ 70 from ⟨(hel' x hx).1.blk hf13 hb10 jd jd, (hel' x hx).2⟩
 have K := K.own hf13 (fun y hy => by rw [za] at hy; omega)
 refine jO (jN (jv2 1 2 ?_))
 refine jS (jR (ja rfl (jO (jN (jS (jS (jR (jz 0 (jO (jN (jB ?_)))))))))))
 refine VC.loop (σ := Nat × Option Addr × Nat × List Tx) (fun s => [(1, .pointer (some ⟨g1, 0, none⟩)), (2, .pointer (some ⟨g4, 0, none⟩)), (6, .slice s.2.1 s.2.2.2.length s.2.2.1), (7, .int .i64 ((s.1 : Nat) : Int))]) (fun s wr => s.1 ≤ ss.length ∧ Own wr 9 1 s.2.1 s.2.2.2.length s.2.2.1 (SB s.2.2.2) ∧ s.2.2.2 = (ss.take s.1).map (fun s => s.take 70) ∧ (∀ b ∈ ob s.2.1, w13.heap.size ≤ b) ∧ Frm [] w13 wr) (fun s => ss.length - s.1) (0, none, 0, []) (js4 rfl rfl rfl rfl) ⟨zae _, Own.nil _ _ _, rfl, by simp [ob], Frm.refl _ _⟩ ?_
 rintro ⟨k, C, e, s'⟩ wr ⟨hk, hos, hse, hoc, F⟩
 dsimp only at *
 have hsl : s'.length = k := by rw [hse, zah, zt]; omega
 have hb1r := hb1.frm F jp
 have Kr := K.trans F jp
 refine jS (jS (jR (jm rfl (jf rfl zf rfl zaj (jl rfl zar (hb1r.cell 1) (je (Run.lenS rfl zc) (jb rfl rfl (Bin.lssN _ _) (jO (jN (jv5 1 2 6 7 70 ?_))))))))))
 refine jD rfl (fun hc5 => ?_) fun hc5 => ?_
 ·
  obtain ⟨ad2, had2, hcs⟩ := mU (hRs.frm Kr jp) hc5
  have hts2 := lE (fun s : Tx => s.take 70) hc5
  generalize hq : ss[k] = q at *
  refine jQ (jN (jv4 1 2 6 7 ?_))
  refine jS (jB (jR (jm rfl (jf rfl zf rfl zaj (jl rfl zar (hb1r.cell 1) (jm rfl (je (Run.indexS k (show _ = some (Value.slice (some ad2) ss.length m.d) by rw [← had2]; rfl) rfl zc zm hc5) (jl rfl zx hcs ?_))))))))
  refine Ops.cl (jE1 Tryz.call12) (kX q _) rfl ?_
  rintro e _ ⟨rfl, rfl⟩
  refine ⟨_, rfl, ?_⟩
  refine Ops.m (qV.buildS1 rfl zc zm dI jd jd rfl rfl) rfl ?_
  rintro _ w14 ⟨rfl, hF14⟩
  have hr14 : Rd w14 1 (some ⟨wr.heap.size, 0, none⟩) 1 (SB [q.take 70]) := Rd.of_blk (n := 1) (size := 1) hF14.blk rfl
  have ho14 := hos.frm hF14.frm jp
  have F14 := F.trans hF14.frm jp
  have hFs := F14.size
  refine Ops.m (qV.app rfl rfl zc (eF) rfl jd ho14 hr14 (dS _) jo jo) rfl ?_
  rintro _ w15 ⟨C6, e6, rfl, ho6, hf6, hob6⟩
  rw [← bA] at ho6
  have hob6 : ∀ b ∈ ob C6, w13.heap.size ≤ b := fun b hb => by
   rcases hob6 with h | h
   · rw [h] at hb; exact hoc b hb
   rw [h, za] at hb; omega
  have F15 := F14.own hf6 hoc
  refine ja rfl (jO ?_)
  refine qW (jN ?_)
  refine jv4 1 2 6 7 ?_
  refine jR (jm rfl (jb rfl rfl (Bin.add_i64 _ 1 jo) (ja rfl (jO ?_))))
  refine jN ⟨(k + 1, C6, e6, s' ++ [q.take 70]), (js4 rfl rfl (by rw [zi]; rfl) rfl), ?_, ?_⟩
  · exact ⟨hc5, by rw [zi]; exact ho6, by rw [hts2, hse], hob6, F15⟩
  first | omega | (dsimp only; omega)
 obtain rfl : k = ss.length := jo
 rw [zaq] at hse
 refine jX ?_
 refine qJ (qJ (qN ?_))
 refine jN (jv3 1 2 6 ?_)
 refine jS (jR (jm rfl (jf rfl zf rfl zaj ?_)))
 have ho := ho.frm F jp
 have hb4 := hb4.frm F jp
 have hel' := fun x hx => show OwM wr x.A x.c x.l ∧ x.l.length ≤ 129 ∧ x.nm.length ≤ 70 from ⟨(hel' x hx).1.frm F, (hel' x hx).2⟩
 have ho1 := ho.ne_blk hb1r jd
 have hs1 := hos.ne_blk hb1r jd
 refine Ops.st (qP.store rfl rfl zaj hb1r rfl rfl) ?_
 rintro w16 ⟨hb1, (hf16 : Frm [g1] _ _), hs16⟩
 have hb1 : Blk w16 g1 25 (⟨B, d, l', C, e, s', m.v, m.b⟩ : MlC).cells.toArray := hb1
 have hb4 := hb4.frm hf16 (by simp; omega)
 have ho := ho.frm hf16 (fun y hy h => by rw [za] at h; subst h; exact ho1 hy)
 have hos := hos.frm hf16 (fun y hy h => by rw [za] at h; subst h; exact hs1 hy)
 have hel' := fun x hx => show OwM w16 x.A x.c x.l ∧ x.l.length ≤ 129 ∧ x.nm.length ≤ 70 from ⟨(hel' x hx).1.blk hf16 hb1r jd jd, (hel' x hx).2⟩
 have K := Kr.own hf16 (fun y hy => by rw [za] at hy; omega)
 refine jO (jN (jv2 1 2 ?_))
 refine jS (jR (je (Run.loadA rfl zo zh (hb1.cells) (by first | rfl | (simp; done))) ?_))
 have ho4 := ho.ne_blk hb4 jd
 have hs4 := hos.ne_blk hb4 jd
 have hb40 := hb4
 refine Ops.st (qP.storeA rfl rfl zh hb4 rfl (MlC.cells_one _)) ?_
 rintro w17 ⟨hb17, (hf17 : Frm [g4] _ _), hs17⟩
 have ho := ho.frm hf17 (fun y hy h => by rw [za] at h; subst h; exact ho4 hy)
 have hos := hos.frm hf17 (fun y hy h => by rw [za] at h; subst h; exact hs4 hy)
 have hel' := fun x hx => show OwM w17 x.A x.c x.l ∧ x.l.length ≤ 129 ∧ x.nm.length ≤ 70 from ⟨(hel' x hx).1.blk hf17 hb40 jd jd, (hel' x hx).2⟩
 have K := K.own hf17 (fun y hy => by rw [za] at hy; omega)
 refine jO (jN (jv1 2 ?_))
 refine jT ?_
 refine bT ?_
 refine qL rfl zo zh (fun j v hj => hb17.cells j v hj) (by first | rfl | (simp; done)) ?_
 refine bX ?_
 refine ⟨⟨B, d, l', C, e, s', m.v, m.b⟩, rfl, ?_, ⟨ho, hel', hos, by dsimp only; omega, by dsimp only; omega, fun q hq => ?_⟩, rfl, fun x hx b hb => hg1 ▸ hfa x hx b hb, K⟩
 ·
  show MailP.mk (Ns l') s' m.v m.b = qZ4 m.p
  unfold qZ4
  congr 1
  ·
   rw [hns, hl]
   show _ = ((m.l.map Nc.p).take 25).map mT
   rw [zdu]
  rw [hse, hss]
  rfl
 dsimp only at hq
 rw [hse] at hq
 obtain ⟨y, hy, rfl⟩ := List.mem_map.1 hq
 rw [zt]
 omega
end
section
open Go.RowKit Go.Sort
section
variable {H : Type} {enc : TypeId × Value → H} {w : World} {base : Nat} {spare : Nat → Bool} {held : Bool} {n : Nat} {cs : List Value} {x : DataW H × List MemPlace}
theorem qQ4 (h : DataW.trod enc Tryz.prog w base spare held n 41 cs = some x) : ∃ (A : Option Addr) (c : Nat) (l : List Mc), cs = [.slice A l.length c] ∧ l.length ≤ c ∧ RawM w A l := by
 obtain ⟨A, len, c, rfl⟩ := kI zab h
 obtain ⟨l, rfl, h1, _, h3⟩ := qKw h
 exact ⟨A, c, l, rfl, h1, h3⟩
end
theorem qZ5 {H : Type} {enc : TypeId × Value → H} {w : World} {base : Nat} {spare : Nat → Bool} {held : Bool} {n : Nat} {cs : List Value} {x : DataW H × List MemPlace} (h : DataW.trod enc Tryz.prog w base spare held n 43 cs = some x) :
  ∃ (va : Int) (na : Int) (A : Option Addr) (c : Nat) (l : List Mc), cs = ([.int .i64 va] ++ ([.int .i64 na] ++ ([.slice A l.length c] ++ [] : List Value) : List Value) : List Value) ∧ ((Lit.int .i64 va).wf = true) ∧ ((Lit.int .i64 na).wf = true) ∧ (l.length ≤ c ∧ RawM w A l) := by
 obtain ⟨hlen, n', hf⟩ := kF zl h
 have hl : cs.length = 3 := hlen.trans jK
 obtain ⟨a0, a1, a2, rfl⟩ : ∃ a0 a1 a2, cs = [a0, a1, a2] := by
  match cs, hl with
  | [a0, a1, a2], _ => exact ⟨a0, a1, a2, rfl⟩
 clear h hlen hl
 obtain ⟨y0, h0⟩ := hf 0 _ rfl
 have h0 : DataW.trod enc Tryz.prog w base spare held n' 3 ([a0, a1, a2].take (Tryz.prog.cellsOf 3)) = some y0 := h0
 rw [show Tryz.prog.cellsOf 3 = 1 by kernel_rfl] at h0
 have h0 : DataW.trod enc Tryz.prog w base spare held n' 3 [a0] = some y0 := h0
 obtain ⟨va, e0, q0⟩ := kA zac h0
 obtain ⟨y1, h1⟩ := hf 1 _ rfl
 have h1 : DataW.trod enc Tryz.prog w base spare held n' 3 ([a1, a2].take (Tryz.prog.cellsOf 3)) = some y1 := h1
 rw [show Tryz.prog.cellsOf 3 = 1 by kernel_rfl] at h1
 have h1 : DataW.trod enc Tryz.prog w base spare held n' 3 [a1] = some y1 := h1
 obtain ⟨na, e1, q1⟩ := kA zac h1
 obtain ⟨y2, h2⟩ := hf 2 _ rfl
 have h2 : DataW.trod enc Tryz.prog w base spare held n' 41 ([a2].take (Tryz.prog.cellsOf 41)) = some y2 := h2
 rw [show Tryz.prog.cellsOf 41 = 1 by kernel_rfl] at h2
 have h2 : DataW.trod enc Tryz.prog w base spare held n' 41 [a2] = some y2 := h2
 obtain ⟨A, c, l, e2, q2⟩ := qQ4 h2
 refine ⟨va, na, A, c, l, ?_, q0, q1, q2⟩
 show ([a0] ++ ([a1] ++ ([a2] ++ [] : List Value) : List Value) : List Value) = _
 rw [e0, e1, e2]
 try rfl
end
section
open Go.RowKit Go.ChangeShapes Go.WideShapes Go.Deep
theorem yB {H : Type} {enc : TypeId × Value → H} {w : World} {base : Nat} {spare : Nat → Bool} {held : Bool} {n : Nat} {cs : List Value} {x : DataW H × List MemPlace} (h : DataW.trod enc Tryz.prog w base spare held n 45 cs = some x) :
  ∃ (q : Tx) (va na : Int) (A : Option Addr) (c : Nat) (l : List Mc), cs = ([encStr q] ++ (BVc va na A l.length c ++ [] : List Value) : List Value) ∧ (q.length ≤ 9223372036854775807) ∧ ((Lit.int .i64 va).wf = true ∧ (Lit.int .i64 na).wf = true ∧ l.length ≤ c ∧ RawM w A l) := by
 obtain ⟨hlen, n', hf⟩ := kF zy h
 have hl : cs.length = 4 := hlen.trans jK
 obtain ⟨a0, a1, a2, a3, rfl⟩ : ∃ a0 a1 a2 a3, cs = [a0, a1, a2, a3] := by
  match cs, hl with
  | [a0, a1, a2, a3], _ => exact ⟨a0, a1, a2, a3, rfl⟩
 clear h hlen hl
 obtain ⟨y0, h0⟩ := hf 0 _ rfl
 have h0 : DataW.trod enc Tryz.prog w base spare held n' 9 ([a0, a1, a2, a3].take (Tryz.prog.cellsOf 9)) = some y0 := h0
 rw [show Tryz.prog.cellsOf 9 = 1 by kernel_rfl] at h0
 have h0 : DataW.trod enc Tryz.prog w base spare held n' 9 [a0] = some y0 := h0
 obtain ⟨q, e0, q0⟩ := qX0 zj h0
 obtain ⟨y1, h1⟩ := hf 1 _ rfl
 have h1 : DataW.trod enc Tryz.prog w base spare held n' 43 ([a1, a2, a3].take (Tryz.prog.cellsOf 43)) = some y1 := h1
 rw [show Tryz.prog.cellsOf 43 = 3 by kernel_rfl] at h1
 have h1 : DataW.trod enc Tryz.prog w base spare held n' 43 [a1, a2, a3] = some y1 := h1
 obtain ⟨va, na, A, c, l, e1, q1⟩ := qZ5 h1
 refine ⟨q, va, na, A, c, l, ?_, q0, q1⟩
 show ([a0] ++ ([a1, a2, a3] ++ [] : List Value) : List Value) = _
 rw [e0, e1]
 try rfl
section
variable {H : Type} {enc : TypeId × Value → H} {w : World} {base : Nat} {spare : Nat → Bool} {held : Bool}
theorem yC {n : Nat} {cs : List Value} {x : DataW H × List MemPlace} (h : DataW.trod enc Tryz.prog w base spare held n 45 cs = some x) : ∃ y : Nc, cs = y.cells ∧ RawM w y.A y.l ∧ y.l.length ≤ y.c := by
 obtain ⟨q, va, na, A, c, l, e, _, ⟨_, _, h1, h2⟩⟩ := yB h
 exact ⟨⟨q, va, na, A, c, l⟩, e, h2, h1⟩
theorem qZ6 {fuel len cap : Nat} {a : Option Addr} {x : DataW H × List MemPlace} (h : DataW.trod enc Tryz.prog w base spare held fuel 22 [.slice a len cap] = some x) :
  ∃ l : List Nc, l.length = len ∧ len ≤ cap ∧ Rd w 4 a l.length (NDC l) ∧ ∀ y ∈ l, RawM w y.A y.l ∧ y.l.length ≤ y.c := by
 have hC : Tryz.prog.cellsOf 45 = 4 := by kernel_rfl
 rcases open_slice zg h with ⟨hcs, _⟩ | ⟨ad, l, c, m, n, D, Pl, hcs, _, hl, hm, hmm, _, hi⟩
 ·
  simp only [List.cons.injEq, Value.slice.injEq, and_true] at hcs
  obtain ⟨rfl, rfl, rfl⟩ := hcs
  exact ⟨[], rfl, zw _, Rd.nil _ _ _, jp⟩
 simp only [List.cons.injEq, Value.slice.injEq, and_true] at hcs
 obtain ⟨rfl, rfl, rfl⟩ := hcs
 have hml : len ≤ m := by rw [hmm]; split <;> omega
 rw [hC] at hi
 have key : ∀ i, i < len → ∃ y : Nc, (∀ j, j < 4 → w.cell? ((ad.add (i * 4)).add j) = y.cells[j]?) ∧ RawM w y.A y.l ∧ y.l.length ≤ y.c := by
  intro i hil
  obtain ⟨cs', hc, ht'⟩ := hi i jo
  obtain ⟨_, hcl, hat⟩ := World.cells?_some hc
  obtain ⟨y, rfl, h1, h2⟩ := yC ht'
  exact ⟨y, fun j hj => hat j hj, h1, h2⟩
 obtain ⟨ls, hll, hq⟩ := fB len key
 have hcell : ∀ j u, (NDC ls)[j]? = some u → w.cell? (ad.add j) = some u := by
  intro j u hu
  rw [show NDC ls = ls.flatMap Nc.cells from rfl, gP Nc.cells 4 jo Nc.cells_len] at hu
  obtain ⟨y, hy, hu'⟩ := Option.bind_eq_some_iff.1 hu
  have := (hq _ y hy).1 (j % 4) (Nat.mod_lt _ jo)
  rw [Go.Proofs.YtgmbmfpfhcekiaaGreat.add_add, zej, Nat.div_add_mod] at this
  rw [this, hu']
 refine ⟨ls, hll, hl, ⟨by rw [eV], fun hn => ⟨ad, rfl, ?_, hcell⟩⟩, fun y hy => ?_⟩
 ·
  have h0 : 0 < (NDC ls).length := by rw [eV]; omega
  have := World.block_lt_of_cell? w _ (hcell 0 _ (zb h0))
  rwa [eT] at this
 obtain ⟨i, hi', hli⟩ := zag hy
 exact (hq i y (by rw [zb hi', hli])).2
theorem vV {n : Nat} {cs : List Value} {x : DataW H × List MemPlace} (h : DataW.trod enc Tryz.prog w base spare held n 22 cs = some x) : ∃ (A : Option Addr) (c : Nat) (l : List Nc), cs = [.slice A l.length c] ∧ l.length ≤ c ∧ Rd w 4 A l.length (NDC l) ∧ ∀ y ∈ l, RawM w y.A y.l ∧ y.l.length ≤ y.c := by
 obtain ⟨A, len, c, rfl⟩ := kI zg h
 obtain ⟨l, rfl, h1, h2, h3⟩ := qZ6 h
 exact ⟨A, c, l, rfl, h1, h2, h3⟩
theorem yD {n : Nat} {cs : List Value} {x : DataW H × List MemPlace} (h : DataW.trod enc Tryz.prog w base spare held n 23 cs = some x) : ∃ (A : Option Addr) (c : Nat) (l : List Tx), cs = [.slice A l.length c] ∧ l.length ≤ c ∧ c ≤ 9223372036854775807 ∧ Rd w 1 A l.length (SB l) := qX1 zc zj jK h
end
theorem qQ5 {H : Type} {enc : TypeId × Value → H} {w : World} {base : Nat} {spare : Nat → Bool} {held : Bool} {n : Nat} {cs : List Value} {x : DataW H × List MemPlace} (h : DataW.trod enc Tryz.prog w base spare held n 25 cs = some x) :
  ∃ (A : Option Addr) (c : Nat) (l : List Nc) (S : Option Addr) (d : Nat) (ss : List Tx) (va : Int) (bl : Int), cs = ([.slice A l.length c] ++ ([.slice S ss.length d] ++ ([.int .i64 va] ++ ([.int .i64 bl] ++ [] : List Value) : List Value) : List Value) : List Value) ∧ (l.length ≤ c ∧ Rd w 4 A l.length (NDC l) ∧ ∀ y ∈ l, RawM w y.A y.l ∧ y.l.length ≤ y.c) ∧ (ss.length ≤ d ∧ d ≤ 9223372036854775807 ∧ Rd w 1 S ss.length (SB ss)) ∧ ((Lit.int .i64 va).wf = true) ∧ ((Lit.int .i64 bl).wf = true) := by
 obtain ⟨hlen, n', hf⟩ := kF zf h
 have hl : cs.length = 4 := hlen.trans jK
 obtain ⟨a0, a1, a2, a3, rfl⟩ : ∃ a0 a1 a2 a3, cs = [a0, a1, a2, a3] := by
  match cs, hl with
  | [a0, a1, a2, a3], _ => exact ⟨a0, a1, a2, a3, rfl⟩
 clear h hlen hl
 obtain ⟨y0, h0⟩ := hf 0 _ rfl
 have h0 : DataW.trod enc Tryz.prog w base spare held n' 22 ([a0, a1, a2, a3].take (Tryz.prog.cellsOf 22)) = some y0 := h0
 rw [show Tryz.prog.cellsOf 22 = 1 by kernel_rfl] at h0
 have h0 : DataW.trod enc Tryz.prog w base spare held n' 22 [a0] = some y0 := h0
 obtain ⟨A, c, l, e0, q0⟩ := vV h0
 obtain ⟨y1, h1⟩ := hf 1 _ rfl
 have h1 : DataW.trod enc Tryz.prog w base spare held n' 23 ([a1, a2, a3].take (Tryz.prog.cellsOf 23)) = some y1 := h1
 rw [show Tryz.prog.cellsOf 23 = 1 by kernel_rfl] at h1
 have h1 : DataW.trod enc Tryz.prog w base spare held n' 23 [a1] = some y1 := h1
 obtain ⟨S, d, ss, e1, q1⟩ := yD h1
 obtain ⟨y2, h2⟩ := hf 2 _ rfl
 have h2 : DataW.trod enc Tryz.prog w base spare held n' 3 ([a2, a3].take (Tryz.prog.cellsOf 3)) = some y2 := h2
 rw [show Tryz.prog.cellsOf 3 = 1 by kernel_rfl] at h2
 have h2 : DataW.trod enc Tryz.prog w base spare held n' 3 [a2] = some y2 := h2
 obtain ⟨va, e2, q2⟩ := kA zac h2
 obtain ⟨y3, h3⟩ := hf 3 _ rfl
 have h3 : DataW.trod enc Tryz.prog w base spare held n' 3 ([a3].take (Tryz.prog.cellsOf 3)) = some y3 := h3
 rw [show Tryz.prog.cellsOf 3 = 1 by kernel_rfl] at h3
 have h3 : DataW.trod enc Tryz.prog w base spare held n' 3 [a3] = some y3 := h3
 obtain ⟨bl, e3, q3⟩ := kA zac h3
 refine ⟨A, c, l, S, d, ss, va, bl, ?_, q0, q1, q2, q3⟩
 show ([a0] ++ ([a1] ++ ([a2] ++ ([a3] ++ [] : List Value) : List Value) : List Value) : List Value) = _
 rw [e0, e1, e2, e3]
 try rfl
theorem qQ6 {H : Type} {enc : TypeId × Value → H} {w : World} {base : Nat} {spare : Nat → Bool} {held : Bool} {n : Nat} {cs : List Value} {x : DataW H × List MemPlace} (h : DataW.trod enc Tryz.prog w base spare held n 25 cs = some x) :
  ∃ m : MlC, cs = m.cells ∧ RawL w m ∧ m.b ≤ 9223372036854775807 := by
 obtain ⟨A, c, l, S, d, ss, va, bl, e, ⟨h1, h2, h3⟩, ⟨h4, _, h6⟩, _, hb⟩ := qQ5 h
 exact ⟨⟨A, c, l, S, d, ss, va, bl⟩, e, ⟨h2, h3, h6, h1, h4⟩, by simp [Lit.wf, IntKind.min, IntKind.max, IntKind.signed, IntKind.bits] at hb; dsimp only; omega⟩
theorem cD.rdl {w w' w2 : World} {m a : MlC} {F : Except Nat MailP} {k : Nat} (h : cD w w' m F a k) (f : Frm [] w' w2) (hm : RdL w' m) : RdL w2 a := by
 obtain ⟨⟨S, hS⟩, _⟩ := h
 exact (hS.now hm).frm f
end
section
open Go.RowKit Go.Sort
def yE (w : World) (y : Nat) : Prop := (∀ cs, ¬ Blk w y 60 cs) ∧ ∀ cs, ¬ Blk w y 9 cs
theorem yE.of_blk {w : World} {y : Nat} {t : TypeId} {cs : Array Value} (h : Blk w y t cs) (h1 : 60 ≠ t) (h2 : 9 ≠ t) : yE w y := ⟨fun _ hb => hb.ne h h1 rfl, fun _ hb => hb.ne h h2 rfl⟩
def Kt (w w' : World) (m m' : MlC) : Prop := ∀ w'' T, Frm T w' w'' → (∀ y ∈ T, y < w.heap.size ∧ yE w' y) → RdL w'' m → RdL w'' m'
theorem Kt.zero (w w' : World) (m : MlC) : Kt w w' m qF := fun _ _ _ _ _ => RdL.zero _
theorem qQ7 {m : MlC} {t : Tx} {i : Nat} (hr : bN m.p.l) (hi : i < m.l.length) (he : (m.l[i]).nm = t) : hU m.p.l t = some (m.l[i]).p.2 := by
 have hi2 : i < m.p.l.length := by rw [dK]; exact hi
 have := tQ (t := t) hr hi2 (by rw [cE m hi hi2]; exact he)
 rw [this, cE m hi hi2]
end
section
open Go.RowKit Go.Sort
theorem qZ7 {l : List NmP} {t : Tx} (h : ¬ atR l t < 0) : ∃ k : Nat, atR l t = (k : Int) ∧ ∃ hk : k < l.length, (l[k]).1 = t := by
 unfold atR at h ⊢
 cases he : l.findIdx? (fun x => decide (x.1 = t)) with
 | none => rw [he] at h; exact absurd jd h
 | some i =>
  rw [zdy] at he
  obtain ⟨h1, h2, _⟩ := he
  exact ⟨i, rfl, h1, of_decide_eq_true h2⟩
theorem qVn {m : MlC} {t : Tx} (h : ¬ atR (Ns m.l) t < 0) : ∃ k : Nat, atR (Ns m.l) t = (k : Int) ∧ ∃ hk : k < m.l.length, (m.l[k]).nm = t := by
 obtain ⟨k, h1, hk, h2⟩ := qZ7 h
 have hk' : k < m.l.length := by rw [bP] at hk; exact hk
 refine ⟨k, h1, hk', ?_⟩
 rw [show (Ns m.l)[k] = (m.l[k]).p from zbe _] at h2
 exact h2
end
section
open Go.RowKit Go.Sort
def dM (w : World) (m : MlC) (B : Option Addr) (d : Nat) (lm : List Mc) : Prop := OwM w B d lm ∨ ∃ x ∈ m.l, x.A = B ∧ x.l = lm
theorem dM.rdm {w : World} {m : MlC} {B : Option Addr} {d : Nat} {lm : List Mc} (h : dM w m B d lm) (hm : RdL w m) : RdM w B lm := by
 rcases h with h | ⟨x, hx, rfl, rfl⟩
 · exact h.rdm
 exact (hm.l.el x hx).rd
theorem dM.frm {w w' : World} {m : MlC} {B : Option Addr} {d : Nat} {lm : List Mc} (h : dM w m B d lm) (k : Frm [] w w') : dM w' m B d lm := by
 rcases h with h | h
 · exact .inl (h.frm k)
 exact .inr h
theorem dM.blk {w w' : World} {m : MlC} {B : Option Addr} {d g : Nat} {lm : List Mc} {t : TypeId} {cs : Array Value} (h : dM w m B d lm) (k : Frm [g] w w') (hb : Blk w g t cs) (h1 : 60 ≠ t) (h2 : 9 ≠ t) : dM w' m B d lm := by
 rcases h with h | h
 · exact .inl (h.blk k hb h1 h2)
 exact .inr h
theorem dM.own {w w' : World} {m : MlC} {B C : Option Addr} {d size n c : Nat} {lm : List Mc} {e : TypeId} {xs : List Value} (h : dM w m B d lm) (k : Frm (ob C) w w') (hC : Own w e size C n c xs) (h1 : 60 ≠ e) (h2 : 9 ≠ e) : dM w' m B d lm := by
 rcases h with h | h
 · exact .inl (h.offO k hC h1 h2)
 exact .inr h
end
section
open Go.RowKit Go.Sort
def fJ (w0 w : World) (m : MlC) (B : Option Addr) (d : Nat) (lm : List Mc) : Prop := (Own w 60 6 B lm.length d (MC lm) ∨ ∃ x ∈ m.l, x.A = B ∧ x.l = lm) ∧ ∀ y ∈ lm, y.At w0
theorem fJ.rdm {w0 w : World} {m : MlC} {B : Option Addr} {d : Nat} {lm : List Mc} (h : fJ w0 w m B d lm) (k : Frm [] w0 w) (hm : RdL w m) : RdM w B lm := by
 obtain ⟨h1, h2⟩ := h
 refine ⟨?_, fun y hy => (h2 y hy).frm k jp⟩
 rcases h1 with h | ⟨x, hx, rfl, rfl⟩
 · exact h.rd
 exact (hm.l.el x hx).rd.rd
theorem fJ.frm {w0 w w' : World} {S : List Nat} {m : MlC} {B : Option Addr} {d : Nat} {lm : List Mc} (h : fJ w0 w m B d lm) (k : Frm S w w') (hS : ∀ e, 60 = e → ∀ y ∈ S, ∀ cs, ¬ Blk w y e cs) : fJ w0 w' m B d lm := by
 refine ⟨?_, h.2⟩
 rcases h.1 with h | h
 ·
  refine .inl (h.frm k (fun y hy hyS => ?_))
  rcases h.cases with ⟨h0, _⟩ | ⟨g, cur, h0, hbb, _⟩
  · rw [h0] at hy; simp [ob] at hy
  rw [h0] at hy
  simp only [ob, za] at hy
  subst hy
  exact hS _ rfl _ hyS _ hbb
 exact .inr h
theorem fJ.nil {w0 w w' : World} {m : MlC} {B : Option Addr} {d : Nat} {lm : List Mc} (h : fJ w0 w m B d lm) (k : Frm [] w w') : fJ w0 w' m B d lm := h.frm k (fun _ _ _ hy => by cases hy)
theorem fJ.blk {w0 w w' : World} {m : MlC} {B : Option Addr} {d g : Nat} {lm : List Mc} {t : TypeId} {cs : Array Value} (h : fJ w0 w m B d lm) (k : Frm [g] w w') (hb : Blk w g t cs) (h1 : 60 ≠ t) : fJ w0 w' m B d lm :=
 h.frm k (fun e he y hy cs2 hb2 => by rw [za] at hy; subst hy; exact hb.ne hb2 (fun h => h1 (he.trans h.symm)) rfl)
theorem fJ.own {w0 w w' : World} {m : MlC} {B C : Option Addr} {d size n c : Nat} {lm : List Mc} {e : TypeId} {xs : List Value} (h : fJ w0 w m B d lm) (k : Frm (ob C) w w') (hC : Own w e size C n c xs) (h1 : e ≠ 60) : fJ w0 w' m B d lm :=
 h.frm k (fun e2 he y hy cs2 hb2 => hC.ne_blk hb2 (fun h => h1 (h.trans he.symm)) hy)
end
section
open Go.RowKit
def UB (l : List Nat) : List Value := l.map fun x : Nat => Value.int .u64 ((x : Nat) : Int)
theorem qQ8 (l : List Nat) : ∀ u ∈ UB l, u.oneCell' = true := by
 intro u hu
 obtain ⟨x, _, rfl⟩ := List.mem_map.1 hu
 rfl
theorem mC (a b : List Nat) : UB (a ++ b) = UB a ++ UB b := zbc
theorem qQ9 (l : List Nat) (k x : Nat) : (UB l).set k (.int .u64 ((x : Nat) : Int)) = UB (l.set k x) := by simp [UB, zfb]
def ltN (a b : Nat) : Bool := decide (a < b)
theorem kB : Go.Sort.SWO ltN := ⟨fun x => by simp [ltN], fun x y z h1 h2 => by simp [ltN] at *; omega, fun x y z h1 h2 => by simp [ltN] at *; omega⟩
def AO (w : World) (B : Option Addr) (c N : Nat) (d : Array Nat) : Prop := d.size = N ∧ Own w 40 1 B N c (UB d.toList)
theorem AO.frm {w w' : World} {B : Option Addr} {c N : Nat} {d : Array Nat} {S : List Nat} (h : AO w B c N d) (k : Frm S w w') (hS : ∀ x ∈ ob B, x ∉ S) : AO w' B c N d := ⟨h.1, h.2.frm k hS⟩
theorem AO.nil {w w' : World} {B : Option Addr} {c N : Nat} {d : Array Nat} (h : AO w B c N d) (k : Frm [] w w') : AO w' B c N d := h.frm k jp
theorem AO.adr {w : World} {B : Option Addr} {c N : Nat} {d : Array Nat} (h : AO w B c N d) (hN : 0 < N) : ∃ ad, B = some ad := by
 have hr : Rd w 1 B N (UB d.toList) := h.2.rd
 obtain ⟨ad, h1, _⟩ := hr.2 hN
 exact ⟨ad, h1⟩
theorem AO.at {w : World} {ad : Addr} {c N i : Nat} {d : Array Nat} (h : AO w (some ad) c N d) (hi : i < N) : w.cell? (ad.add i) = some (.int .u64 ((d[i]! : Nat) : Int)) := by
 have hr : Rd w 1 (some ad) N (UB d.toList) := h.2.rd
 obtain ⟨ad2, h1, _, hc⟩ := hr.2 jo
 cases h1
 have hs := h.1
 refine hc i _ ?_
 have h2 : i < d.size := jo
 simp [UB, h2]
theorem AO.swp {w : World} {B : Option Addr} {c N i j : Nat} {d : Array Nat} (hs : d.size = N) (h : Own w 40 1 B N c (((UB d.toList).set i (.int .u64 ((d[j]! : Nat) : Int))).set j (.int .u64 ((d[i]! : Nat) : Int)))) : AO w B c N (Go.Sort.swp d i j) := by
 refine ⟨by simp [Go.Sort.swp, hs], ?_⟩
 rw [qQ9, qQ9] at h
 simpa [Go.Sort.swp] using h
end
section
open Go.RowKit Go.Sort Go.Sort
theorem qZ8 (x : Nat) (w : World) : Calls Tryz.prog 172 #[.int .u64 ((x : Nat) : Int)] w fun e w' => e = .returned (.bool false) ∧ w = w' := by
 refine VC.calls (nt := 6) (res := #[.tmp 2]) Tryz.func172 rfl Tryz.ntmps172 Tryz.results172 rfl ?_
 refine jS (jR (ja rfl (jO (jN (jv1 0 ?_)))))
 refine jS (jR (jm rfl (jm rfl (jb rfl rfl (Bin.neqN _ _) (ja rfl (jO (jN (jv1 2 ?_))))))))
 refine jT ?_
 refine qR rfl ?_
 exact ⟨jp, rfl⟩
theorem bI (x y : Nat) (w : World) : Calls Tryz.prog 147 #[.int .u64 ((x : Nat) : Int), .int .u64 ((y : Nat) : Int)] w fun e w' => e = .returned (.bool (decide (x < y))) ∧ w = w' := by
 refine VC.calls (nt := 17) (res := #[.tmp 4]) Tryz.func147 rfl Tryz.ntmps147 Tryz.results147 rfl ?_
 refine jS (jR (ja rfl (jO (jN (jv2 0 1 ?_)))))
 refine jS (jR (jM ?_))
 refine Ops.cl (jE1 Tryz.call172) (qZ8 x _) rfl ?_
 rintro e _ ⟨rfl, rfl⟩
 refine ⟨_, rfl, ?_⟩
 refine jM ?_
 refine Ops.sk rfl (rfl) rfl ?_
 refine Ops.sk rfl (rfl) rfl ?_
 refine Ops.sk rfl (rfl) rfl ?_
 refine je (Run.pickF rfl rfl au) (jM ?_)
 refine jG ?_
 refine jG ?_
 refine jk (Run.bin rfl rfl (Bin.lssN _ _)) ?_
 refine je (Run.pickF rfl rfl au) (ja rfl (jO (jN (jv1 4 ?_))))
 refine jT ?_
 refine qR rfl ?_
 exact ⟨rfl, rfl⟩
theorem vW {a j : Nat} {d : Array Nat} (h1 : a < j) (h2 : d[j]! < d[j - 1]!) : insInner ltN a j d = insInner ltN a (j - 1) (swp d j (j - 1)) := by
 obtain ⟨k, rfl⟩ : ∃ k, j = k + 1 := ⟨j - 1, jo⟩
 rw [insInner, if_pos (by simp [ltN] at *; omega)]
 rfl
theorem sQ {a j : Nat} {d : Array Nat} (h : ¬ (a < j ∧ d[j]! < d[j - 1]!)) : insInner ltN a j d = d := by
 cases j with
 | zero => rfl
 | succ k => rw [insInner, if_neg (by simp [ltN] at *; omega)]
theorem vY {a b i : Nat} {d : Array Nat} (h : i < b) : insOuter ltN a b i d = insOuter ltN a b (i + 1) (insInner ltN a i d) := by
 conv => lhs; unfold insOuter
 rw [if_pos h]
theorem sX {a b i : Nat} {d : Array Nat} (h : ¬ i < b) : insOuter ltN a b i d = d := by
 unfold insOuter
 rw [if_neg h]
theorem qXa (B : Option Addr) (c N : Nat) (d : Array Nat) (w : World) (h : AO w B c N d) (hN : N ≤ 1000000) (a b : Nat) (ha : a ≤ N) (hb : b ≤ N) :
  Calls Tryz.prog 141 #[.slice B N c, .int .i64 ((a : Nat) : Int), .int .i64 ((b : Nat) : Int)] w fun e w' => e = .returned (.tuple #[]) ∧ AO w' B c N (insertionSort ltN d a b) ∧ Frm (ob B) w w' := by
 have hA := h
 refine VC.calls (nt := 49) (res := #[]) Tryz.func141 rfl Tryz.ntmps141 Tryz.results141 rfl ?_
 refine jS (jR (jm rfl (jb rfl rfl (Bin.add_i64 _ 1 jo) (ja rfl (jO (jN (jv4 0 1 2 6 ?_)))))))
 refine jB ?_
 refine VC.loop (σ := Nat × Array Nat) (fun s => [(0, .slice B N c), (1, .int .i64 ((a : Nat) : Int)), (2, .int .i64 ((b : Nat) : Int)), (6, .int .i64 ((s.1 : Nat) : Int))]) (fun s wr => a + 1 ≤ s.1 ∧ s.1 ≤ 1000002 ∧ AO wr B c N s.2 ∧ insOuter ltN a b s.1 s.2 = insertionSort ltN d a b ∧ Frm (ob B) w wr) (fun s => b - s.1) (a + 1, d) (js4 rfl rfl rfl rfl) ⟨zw _, jo, hA, rfl, Frm.refl _ _⟩ ?_
 rintro ⟨i, di⟩ wr ⟨hi, hi2, hA, he, K⟩
 dsimp only at *
 refine jS (jS (jR (jm rfl (jm rfl (jb rfl rfl (Bin.lssN _ _) (jO (jN (jv5 0 1 2 6 12 ?_))))))))
 refine jD rfl (fun hc1 => ?_) fun hc1 => ?_
 ·
  obtain ⟨ad, rfl⟩ := hA.adr jo
  refine jQ (jN (jv4 0 1 2 6 ?_))
  refine jS (jB (jS (jR (jm rfl (ja rfl (jO (jN (jv5 0 1 2 6 7 ?_))))))))
  refine jB ?_
  refine VC.loop (σ := Nat × Array Nat) (fun s => [(0, .slice (some ad) N c), (1, .int .i64 ((a : Nat) : Int)), (2, .int .i64 ((b : Nat) : Int)), (6, .int .i64 ((i : Nat) : Int)), (7, .int .i64 ((s.1 : Nat) : Int))]) (fun s wr => s.1 ≤ i ∧ AO wr (some ad) c N s.2 ∧ insInner ltN a s.1 s.2 = insInner ltN a i di ∧ Frm (ob (some ad)) w wr) (fun s => s.1) (i, di) (js5 rfl rfl rfl rfl rfl) ⟨zw _, hA, rfl, K⟩ ?_
  rintro ⟨j, dj⟩ wr ⟨hj, hA, he2, K⟩
  dsimp only at *
  refine jS (jS ?_)
  refine VC.meet (σ := Unit) (fun s => [(0, .slice (some ad) N c), (1, .int .i64 ((a : Nat) : Int)), (2, .int .i64 ((b : Nat) : Int)), (6, .int .i64 ((i : Nat) : Int)), (7, .int .i64 ((j : Nat) : Int)), (30, .bool (decide (a < j ∧ dj[j]! < dj[j - 1]!)))]) (fun s wz => Frm [] wr wz) ?_ ?_
  ·
   refine VC.held (fun W => Frm [] wr W) jK ?_
   have hS : Frm [] wr wr.drew := (Frm.refl _ _).drew
   refine jH 0 rfl hS (fun w0 hw0 => Run.mv rfl) ?_
   refine jH 1 rfl hS (fun w0 hw0 => Run.mv rfl) ?_
   refine jH 2 rfl hS (fun w0 hw0 => Run.bin rfl rfl (Bin.gtrN _ _)) ?_
   by_cases hs18 : a < j
   ·
    refine jH 3 rfl hS (fun w0 hw0 => Run.mv rfl) ?_
    refine qQ.take 4 rfl jK jK jK hS (fun w0 hw0 => Run.mv rfl) (Up.g rfl (by first | rfl | exact decide_eq_true hs18 | (simp [hs18]; done))) rfl rfl ?_
    refine qQ.take 5 rfl jK jK jK hS (fun w0 hw0 => Run.mv rfl) (Up.g rfl (by first | rfl | exact decide_eq_true hs18 | (simp [hs18]; done))) rfl rfl ?_
    refine qQ.take 6 rfl jK jK jK hS (fun w0 hw0 => Run.index1 _ rfl rfl ze zd jo) (Up.g rfl (by first | rfl | exact decide_eq_true hs18 | (simp [hs18]; done))) rfl rfl ?_
    refine qQ.take 7 rfl jK jK jK hS (fun w0 hw0 => Run.load rfl zk ((hA.nil hw0).at (i := j) jo)) (Up.g rfl (by first | rfl | exact decide_eq_true hs18 | (simp [hs18]; done))) rfl rfl ?_
    refine qQ.take 8 rfl jK jK jK hS (fun w0 hw0 => Run.mv rfl) (Up.g rfl (by first | rfl | exact decide_eq_true hs18 | (simp [hs18]; done))) rfl rfl ?_
    refine qQ.take 9 rfl jK jK jK hS (fun w0 hw0 => Run.mv rfl) (Up.g rfl (by first | rfl | exact decide_eq_true hs18 | (simp [hs18]; done))) rfl rfl ?_
    refine qQ.take 10 rfl jK jK jK hS (fun w0 hw0 => Run.bin rfl rfl (Bin.sub_i64 _ 1 jo jo)) (Up.g rfl (by first | rfl | exact decide_eq_true hs18 | (simp [hs18]; done))) rfl rfl ?_
    refine qQ.take 11 rfl jK jK jK hS (fun w0 hw0 => Run.index1 _ rfl rfl ze zd jo) (Up.g rfl (by first | rfl | exact decide_eq_true hs18 | (simp [hs18]; done))) rfl rfl ?_
    refine qQ.take 12 rfl jK jK jK hS (fun w0 hw0 => Run.load rfl zk ((hA.nil hw0).at (i := j - 1) jo)) (Up.g rfl (by first | rfl | exact decide_eq_true hs18 | (simp [hs18]; done))) rfl rfl ?_
    refine qQ.cl 13 rfl jK (jE2 zcn) (bI _ _ _) (Up.g rfl (by first | rfl | exact decide_eq_true hs18 | (simp [hs18]; done))) rfl rfl ?_
    rintro e _ ⟨rfl, rfl⟩
    refine ⟨_, rfl, hS, ?_⟩
    by_cases hs29 : dj[j]! < dj[j - 1]!
    ·
     refine jH 14 rfl hS (fun w0 hw0 => Run.pickT rfl rfl (by first | rfl | exact decide_eq_true hs18 | exact decide_eq_true hs29 | (simp [hs18]; done) | (simp [hs29]; done))) ?_
     refine qQ.done jK ?_
     refine jN ⟨(), (js6 rfl rfl rfl rfl rfl (jC (by grind))), ?_⟩
     exact hS
    refine jH 14 rfl hS (fun w0 hw0 => Run.pickT rfl rfl (by first | rfl | exact decide_eq_true hs18 | exact decide_eq_false hs29 | (simp [hs18]; done) | (simp [hs29]; done))) ?_
    refine qQ.done jK ?_
    refine jN ⟨(), (js6 rfl rfl rfl rfl rfl (jC (by grind))), ?_⟩
    exact hS
   refine jH 3 rfl hS (fun w0 hw0 => Run.mv rfl) ?_
   refine qQ.skip 4 rfl jK jK jK hS rfl rfl (by first | rfl | exact decide_eq_false hs18 | (simp [hs18]; done)) rfl rfl ?_
   refine qQ.skip 5 rfl jK jK jK hS rfl rfl (by first | rfl | exact decide_eq_false hs18 | (simp [hs18]; done)) rfl rfl ?_
   refine qQ.skip 6 rfl jK jK jK hS rfl rfl (by first | rfl | exact decide_eq_false hs18 | (simp [hs18]; done)) rfl rfl ?_
   refine qQ.skip 7 rfl jK jK jK hS rfl rfl (by first | rfl | exact decide_eq_false hs18 | (simp [hs18]; done)) rfl rfl ?_
   refine qQ.skip 8 rfl jK jK jK hS rfl rfl (by first | rfl | exact decide_eq_false hs18 | (simp [hs18]; done)) rfl rfl ?_
   refine qQ.skip 9 rfl jK jK jK hS rfl rfl (by first | rfl | exact decide_eq_false hs18 | (simp [hs18]; done)) rfl rfl ?_
   refine qQ.skip 10 rfl jK jK jK hS rfl rfl (by first | rfl | exact decide_eq_false hs18 | (simp [hs18]; done)) rfl rfl ?_
   refine qQ.skip 11 rfl jK jK jK hS rfl rfl (by first | rfl | exact decide_eq_false hs18 | (simp [hs18]; done)) rfl rfl ?_
   refine qQ.skip 12 rfl jK jK jK hS rfl rfl (by first | rfl | exact decide_eq_false hs18 | (simp [hs18]; done)) rfl rfl ?_
   refine qQ.skip 13 rfl jK jK jK hS rfl rfl (by first | rfl | exact decide_eq_false hs18 | (simp [hs18]; done)) rfl rfl ?_
   refine jH 14 rfl hS (fun w0 hw0 => Run.pickF rfl rfl (by first | rfl | exact decide_eq_false hs18 | (simp [hs18]; done))) ?_
   refine qQ.done jK ?_
   refine jN ⟨(), (js6 rfl rfl rfl rfl rfl (jC (by grind))), ?_⟩
   exact hS
  rintro _ wz hfz Γ hΓ
  have hA := hA.nil hfz
  have K := K.trans hfz jp
  refine jN (VC.sub _ hΓ ?_)
  refine jD rfl (fun hc2 => ?_) fun hc2 => ?_
  ·
   obtain ⟨hq1, hq2⟩ := hc2
   have hgo := vW hq1 hq2
   refine jQ (jN (jv5 0 1 2 6 7 ?_))
   refine jS (jB ?_)
   refine VC.held (fun _ => True) jK ?_
   refine jH 0 rfl trivial (fun w0 hw0 => Run.mv rfl) ?_
   refine jH 1 rfl trivial (fun w0 hw0 => Run.mv rfl) ?_
   refine jH 2 rfl trivial (fun w0 hw0 => Run.mv rfl) ?_
   refine jH 3 rfl trivial (fun w0 hw0 => Run.mv rfl) ?_
   refine jH 4 rfl trivial (fun w0 hw0 => Run.bin rfl rfl (Bin.sub_i64 _ 1 jo jo)) ?_
   refine jH 5 rfl trivial (fun w0 hw0 => Run.mv rfl) ?_
   refine jH 6 rfl trivial (fun w0 hw0 => Run.mv rfl) ?_
   refine jH 7 rfl trivial (fun w0 hw0 => Run.bin rfl rfl (Bin.sub_i64 _ 1 jo jo)) ?_
   refine jH 8 rfl trivial (fun w0 hw0 => Run.index1 _ rfl rfl ze zd jo) ?_
   refine jH 10 rfl trivial (fun w0 hw0 => Run.mv rfl) ?_
   refine jH 11 rfl trivial (fun w0 hw0 => Run.mv rfl) ?_
   refine jH 12 rfl trivial (fun w0 hw0 => Run.index1 _ rfl rfl ze zd jo) ?_
   refine qQ.r2 9 13 rfl rfl jK jK jK jK trivial rfl rfl (Run.load rfl zk ((hA.nil (qK.drew _).frm).at (i := j - 1) jo)) (Run.load rfl zk ((hA.nil (qK.drew _).frm).at (i := j) jo)) (Run.load rfl zk ((hA.nil (qK.drew _).frm).at (i := j) jo)) (Run.load rfl zk ((hA.nil (qK.drew _).frm).at (i := j - 1) jo)) rfl rfl rfl rfl rfl ?_
   refine jH 14 rfl trivial (fun w0 hw0 => Run.index1 _ rfl rfl ze zd jo) ?_
   refine qQ.st 15 rfl jK (qP.storeOwn (j) rfl rfl zd (hA.nil (qK.drew _).frm).2 rfl jo rfl) trivial rfl ?_
   rintro w2a ⟨ho_a, hf_a, hs_a⟩
   refine ⟨trivial, ?_⟩
   refine jH 16 rfl trivial (fun w0 hw0 => Run.index1 _ rfl rfl ze zd jo) ?_
   refine qQ.st 17 rfl jK (qP.storeOwn (j - 1) rfl rfl zd ho_a rfl jo rfl) trivial rfl ?_
   rintro w2 ⟨ho_b, hf_b, hs_b⟩
   have hAs := AO.swp hA.1 ho_b
   have hKs := ((qK.drew _).frm.mono (T := ob (some ad)) jp).trans (hf_a.trans hf_b (fun x hx => .inl hx)) (fun x hx => .inl hx)
   refine ⟨trivial, ?_⟩
   refine qQ.done jK ?_
   refine qW (jN ?_)
   refine jv5 0 1 2 6 7 ?_
   refine jR (jm rfl (jb rfl rfl (Bin.sub_i64 _ 1 jo jo) (ja rfl (jO ?_))))
   refine jN ⟨(j - 1, swp dj j (j - 1)), (js5 rfl rfl rfl rfl rfl), ?_, ?_⟩
   · exact ⟨jo, hAs, by rw [← hgo, he2], K.trans hKs (fun x hx => .inl hx)⟩
   first | omega | (dsimp only; omega)
  refine jX ?_
  refine qJ (qJ (qN ?_))
  refine qW (jN ?_)
  refine jv4 0 1 2 6 ?_
  refine jR (jm rfl (jb rfl rfl (Bin.add_i64 _ 1 jo) (ja rfl (jO ?_))))
  refine jN ⟨(i + 1, dj), (js4 rfl rfl rfl rfl), ?_, ?_⟩
  · exact ⟨jo, jo, hA, by rw [← he, vY hc1, ← he2, sQ hc2], K⟩
  first | omega | (dsimp only; omega)
 refine jX ?_
 refine qJ (qJ (qN ?_))
 refine gK ?_
 exact ⟨rfl, by rw [← he, sX hc1]; exact hA, K⟩
end
section
open Go.RowKit Go.Sort
def dO (hi first root : Nat) (d : Array Nat) : Nat := if 2 * root + 2 < hi ∧ d[first + (2 * root + 1)]! < d[first + (2 * root + 2)]! then 2 * root + 2 else 2 * root + 1
theorem qXb {hi first root : Nat} {d : Array Nat} (h : 2 * root + 1 < hi) : dO hi first root d < hi ∧ root < dO hi first root d := by
 unfold dO
 split
 · rename_i h2; omega
 omega
theorem qXc {hi first root : Nat} {d : Array Nat} (h : hi ≤ 2 * root + 1) : siftDown ltN hi first root d = d := by
 unfold siftDown
 rw [dif_pos h]
theorem qXd {hi first root : Nat} {d : Array Nat} (h : ¬ hi ≤ 2 * root + 1) : siftDown ltN hi first root d = if d[first + root]! < d[first + dO hi first root d]! then siftDown ltN hi first (dO hi first root d) (swp d (first + root) (first + dO hi first root d)) else d := by
 conv => lhs; unfold siftDown
 rw [dif_neg h]
 unfold dO
 simp only [ltN, zcc, decide_eq_true_eq, zcv, decide_eq_false_iff_not, show 2 * root + 1 + 1 = 2 * root + 2 from rfl, show first + (2 * root + 1) + 1 = first + (2 * root + 2) from rfl]
 by_cases h2 : 2 * root + 2 < hi ∧ d[first + (2 * root + 1)]! < d[first + (2 * root + 2)]!
 ·
  simp only [if_pos h2]
  by_cases h4 : d[first + root]! < d[first + (2 * root + 2)]!
  · simp only [h4, not_true_eq_false, if_false, if_true, dif_pos h2.1]
  simp only [h4, not_false_eq_true, if_false, if_true]
 simp only [if_neg h2]
 by_cases h4 : d[first + root]! < d[first + (2 * root + 1)]!
 · simp only [h4, not_true_eq_false, if_false, if_true]
 simp only [h4, not_false_eq_true, if_false, if_true]
theorem pP (B : Option Addr) (c N : Nat) (d : Array Nat) (w : World) (h : AO w B c N d) (hN : N ≤ 1000000) (lo hi first : Nat) (hf : first + hi ≤ N) (hlo : lo ≤ 1000000) (hN0 : 0 < N) :
  Calls Tryz.prog 167 #[.slice B N c, .int .i64 ((lo : Nat) : Int), .int .i64 ((hi : Nat) : Int), .int .i64 ((first : Nat) : Int)] w fun e w' => e = .returned (.tuple #[]) ∧ AO w' B c N (siftDown ltN hi first lo d) ∧ Frm (ob B) w w' := by
 obtain ⟨ad, rfl⟩ := h.adr hN0
 have hA := h
 refine VC.calls (nt := 76) (res := #[]) Tryz.func167 rfl Tryz.ntmps167 Tryz.results167 rfl ?_
 refine jS (jR (jm rfl (ja rfl (jO (jN (jv4 0 2 3 8 ?_))))))
 refine jB ?_
 refine VC.loop (σ := Nat × Array Nat) (fun s => [(0, .slice (some ad) N c), (2, .int .i64 ((hi : Nat) : Int)), (3, .int .i64 ((first : Nat) : Int)), (8, .int .i64 ((s.1 : Nat) : Int))]) (fun s wr => s.1 ≤ 1000000 ∧ AO wr (some ad) c N s.2 ∧ siftDown ltN hi first s.1 s.2 = siftDown ltN hi first lo d ∧ Frm (ob (some ad)) w wr) (fun s => hi - s.1) (lo, d) (js4 rfl rfl rfl rfl) ⟨hlo, hA, rfl, Frm.refl _ _⟩ ?_
 rintro ⟨r, dr⟩ wr ⟨hr, hA, he, K⟩
 dsimp only at *
 refine jB (jS (jR (jm rfl (jb rfl rfl (Bin.mul_i64 2 _ jo) (jb rfl rfl (Bin.add_i64 _ 1 jo) (ja rfl (jO (jN (jv5 0 2 3 8 9 ?_)))))))))
 refine jS (jS (jR (jm rfl (jm rfl (jb rfl rfl (Bin.geqN _ _) (jO (jN (jv6 0 2 3 8 9 16 ?_))))))))
 refine jD rfl (fun hc1 => ?_) fun hc1 => ?_
 ·
  have hst := qXc (first := first) (d := dr) hc1
  rw [hst] at he
  refine jX ?_
  refine qJ (gM rfl (qJ (qN ?_)))
  refine gK ?_
  exact ⟨rfl, by rw [← he]; exact hA, K⟩
 have hst := qXd (first := first) (d := dr) hc1
 have hch := qXb (first := first) (d := dr) (Nat.lt_of_not_le hc1)
 refine jQ (jN (jv5 0 2 3 8 9 ?_))
 refine jS (jS ?_)
 refine VC.meet (σ := Unit) (fun s => [(0, .slice (some ad) N c), (2, .int .i64 ((hi : Nat) : Int)), (3, .int .i64 ((first : Nat) : Int)), (8, .int .i64 ((r : Nat) : Int)), (9, .int .i64 (((2 * r + 1) : Nat) : Int)), (36, .bool (decide (2 * r + 2 < hi ∧ dr[first + (2 * r + 1)]! < dr[first + (2 * r + 2)]!)))]) (fun s wz => Frm [] wr wz) ?_ ?_
 ·
  refine VC.held (fun W => Frm [] wr W) jK ?_
  have hS : Frm [] wr wr.drew := (Frm.refl _ _).drew
  refine jH 0 rfl hS (fun w0 hw0 => Run.mv rfl) ?_
  refine jH 1 rfl hS (fun w0 hw0 => Run.bin rfl rfl (Bin.add_i64 _ 1 jo)) ?_
  refine jH 2 rfl hS (fun w0 hw0 => Run.mv rfl) ?_
  refine jH 3 rfl hS (fun w0 hw0 => Run.bin rfl rfl (Bin.lssN _ _)) ?_
  by_cases hs20 : 2 * r + 1 + 1 < hi
  ·
   refine jH 4 rfl hS (fun w0 hw0 => Run.mv rfl) ?_
   refine qQ.take 5 rfl jK jK jK hS (fun w0 hw0 => Run.mv rfl) (Up.g rfl (by first | rfl | exact decide_eq_true hs20 | (simp [hs20]; done))) rfl rfl ?_
   refine qQ.take 6 rfl jK jK jK hS (fun w0 hw0 => Run.mv rfl) (Up.g rfl (by first | rfl | exact decide_eq_true hs20 | (simp [hs20]; done))) rfl rfl ?_
   refine qQ.take 7 rfl jK jK jK hS (fun w0 hw0 => Run.mv rfl) (Up.g rfl (by first | rfl | exact decide_eq_true hs20 | (simp [hs20]; done))) rfl rfl ?_
   refine qQ.take 8 rfl jK jK jK hS (fun w0 hw0 => Run.bin rfl rfl (Bin.add_i64 _ _ jo)) (Up.g rfl (by first | rfl | exact decide_eq_true hs20 | (simp [hs20]; done))) rfl rfl ?_
   refine qQ.take 9 rfl jK jK jK hS (fun w0 hw0 => Run.index1 _ rfl rfl ze zd jo) (Up.g rfl (by first | rfl | exact decide_eq_true hs20 | (simp [hs20]; done))) rfl rfl ?_
   refine qQ.take 10 rfl jK jK jK hS (fun w0 hw0 => Run.load rfl zk ((hA.nil hw0).at (i := first + (2 * r + 1)) jo)) (Up.g rfl (by first | rfl | exact decide_eq_true hs20 | (simp [hs20]; done))) rfl rfl ?_
   refine qQ.take 11 rfl jK jK jK hS (fun w0 hw0 => Run.mv rfl) (Up.g rfl (by first | rfl | exact decide_eq_true hs20 | (simp [hs20]; done))) rfl rfl ?_
   refine qQ.take 12 rfl jK jK jK hS (fun w0 hw0 => Run.mv rfl) (Up.g rfl (by first | rfl | exact decide_eq_true hs20 | (simp [hs20]; done))) rfl rfl ?_
   refine qQ.take 13 rfl jK jK jK hS (fun w0 hw0 => Run.mv rfl) (Up.g rfl (by first | rfl | exact decide_eq_true hs20 | (simp [hs20]; done))) rfl rfl ?_
   refine qQ.take 14 rfl jK jK jK hS (fun w0 hw0 => Run.bin rfl rfl (Bin.add_i64 _ _ jo)) (Up.g rfl (by first | rfl | exact decide_eq_true hs20 | (simp [hs20]; done))) rfl rfl ?_
   refine qQ.take 15 rfl jK jK jK hS (fun w0 hw0 => Run.bin rfl rfl (Bin.add_i64 _ 1 jo)) (Up.g rfl (by first | rfl | exact decide_eq_true hs20 | (simp [hs20]; done))) rfl rfl ?_
   refine qQ.take 16 rfl jK jK jK hS (fun w0 hw0 => Run.index1 _ rfl rfl ze zd jo) (Up.g rfl (by first | rfl | exact decide_eq_true hs20 | (simp [hs20]; done))) rfl rfl ?_
   refine qQ.take 17 rfl jK jK jK hS (fun w0 hw0 => Run.load rfl zk ((hA.nil hw0).at (i := first + (2 * r + 1) + 1) jo)) (Up.g rfl (by first | rfl | exact decide_eq_true hs20 | (simp [hs20]; done))) rfl rfl ?_
   refine qQ.cl 18 rfl jK (jE2 zcn) (bI _ _ _) (Up.g rfl (by first | rfl | exact decide_eq_true hs20 | (simp [hs20]; done))) rfl rfl ?_
   rintro e _ ⟨rfl, rfl⟩
   refine ⟨_, rfl, hS, ?_⟩
   by_cases hs35 : dr[first + (2 * r + 1)]! < dr[first + (2 * r + 1) + 1]!
   ·
    refine jH 19 rfl hS (fun w0 hw0 => Run.pickT rfl rfl (by first | rfl | exact decide_eq_true hs20 | exact decide_eq_true hs35 | (simp [hs20]; done) | (simp [hs35]; done))) ?_
    refine qQ.done jK ?_
    refine jN ⟨(), (js6 rfl rfl rfl rfl rfl (jC (by rw [show first + (2 * r + 2) = first + (2 * r + 1) + 1 by omega]; grind))), ?_⟩
    exact hS
   refine jH 19 rfl hS (fun w0 hw0 => Run.pickT rfl rfl (by first | rfl | exact decide_eq_true hs20 | exact decide_eq_false hs35 | (simp [hs20]; done) | (simp [hs35]; done))) ?_
   refine qQ.done jK ?_
   refine jN ⟨(), (js6 rfl rfl rfl rfl rfl (jC (by rw [show first + (2 * r + 2) = first + (2 * r + 1) + 1 by omega]; grind))), ?_⟩
   exact hS
  refine jH 4 rfl hS (fun w0 hw0 => Run.mv rfl) ?_
  refine qQ.skip 5 rfl jK jK jK hS rfl rfl (by first | rfl | exact decide_eq_false hs20 | (simp [hs20]; done)) rfl rfl ?_
  refine qQ.skip 6 rfl jK jK jK hS rfl rfl (by first | rfl | exact decide_eq_false hs20 | (simp [hs20]; done)) rfl rfl ?_
  refine qQ.skip 7 rfl jK jK jK hS rfl rfl (by first | rfl | exact decide_eq_false hs20 | (simp [hs20]; done)) rfl rfl ?_
  refine qQ.skip 8 rfl jK jK jK hS rfl rfl (by first | rfl | exact decide_eq_false hs20 | (simp [hs20]; done)) rfl rfl ?_
  refine qQ.skip 9 rfl jK jK jK hS rfl rfl (by first | rfl | exact decide_eq_false hs20 | (simp [hs20]; done)) rfl rfl ?_
  refine qQ.skip 10 rfl jK jK jK hS rfl rfl (by first | rfl | exact decide_eq_false hs20 | (simp [hs20]; done)) rfl rfl ?_
  refine qQ.skip 11 rfl jK jK jK hS rfl rfl (by first | rfl | exact decide_eq_false hs20 | (simp [hs20]; done)) rfl rfl ?_
  refine qQ.skip 12 rfl jK jK jK hS rfl rfl (by first | rfl | exact decide_eq_false hs20 | (simp [hs20]; done)) rfl rfl ?_
  refine qQ.skip 13 rfl jK jK jK hS rfl rfl (by first | rfl | exact decide_eq_false hs20 | (simp [hs20]; done)) rfl rfl ?_
  refine qQ.skip 14 rfl jK jK jK hS rfl rfl (by first | rfl | exact decide_eq_false hs20 | (simp [hs20]; done)) rfl rfl ?_
  refine qQ.skip 15 rfl jK jK jK hS rfl rfl (by first | rfl | exact decide_eq_false hs20 | (simp [hs20]; done)) rfl rfl ?_
  refine qQ.skip 16 rfl jK jK jK hS rfl rfl (by first | rfl | exact decide_eq_false hs20 | (simp [hs20]; done)) rfl rfl ?_
  refine qQ.skip 17 rfl jK jK jK hS rfl rfl (by first | rfl | exact decide_eq_false hs20 | (simp [hs20]; done)) rfl rfl ?_
  refine qQ.skip 18 rfl jK jK jK hS rfl rfl (by first | rfl | exact decide_eq_false hs20 | (simp [hs20]; done)) rfl rfl ?_
  refine jH 19 rfl hS (fun w0 hw0 => Run.pickF rfl rfl (by first | rfl | exact decide_eq_false hs20 | (simp [hs20]; done))) ?_
  refine qQ.done jK ?_
  refine jN ⟨(), (js6 rfl rfl rfl rfl rfl (jC (by rw [show first + (2 * r + 2) = first + (2 * r + 1) + 1 by omega]; grind))), ?_⟩
  exact hS
 rintro _ wz hfz Γ hΓ
 have hA := hA.nil hfz
 have K := K.trans hfz jp
 refine jN (VC.sub _ hΓ ?_)
 refine VC.meet (σ := Unit) (fun s => [(0, .slice (some ad) N c), (2, .int .i64 ((hi : Nat) : Int)), (3, .int .i64 ((first : Nat) : Int)), (8, .int .i64 ((r : Nat) : Int)), (9, .int .i64 (((dO hi first r dr) : Nat) : Int))]) (fun s wm => AO wm (some ad) c N dr ∧ Frm (ob (some ad)) w wm) ?_ ?_
 ·
  refine jD rfl (fun hc2 => ?_) fun hc2 => ?_
  ·
   refine jR (jm rfl (jb rfl rfl (Bin.add_i64 _ 1 jo) (ja rfl (jO ?_))))
   refine jN ⟨(), (js5 rfl rfl rfl rfl (by unfold dO; rw [if_pos hc2]; rfl)), ?_⟩
   exact ⟨hA, K⟩
  refine jQ ?_
  refine jN ⟨(), (js5 rfl rfl rfl rfl (by unfold dO; rw [if_neg hc2]; rfl)), ?_⟩
  exact ⟨hA, K⟩
 rintro _ wm ⟨hA, K⟩ Γ hΓ
 obtain ⟨ch, hche⟩ : ∃ ch, ch = dO hi first r dr := ⟨_, rfl⟩
 rw [← hche] at hst hch hΓ
 refine jN (VC.sub _ hΓ (jS (jS ?_)))
 refine VC.held (fun W => Frm [] wm W) jK ?_
 have hS : Frm [] wm wm.drew := (Frm.refl _ _).drew
 refine jH 0 rfl hS (fun w0 hw0 => Run.mv rfl) ?_
 refine jH 1 rfl hS (fun w0 hw0 => Run.mv rfl) ?_
 refine jH 2 rfl hS (fun w0 hw0 => Run.mv rfl) ?_
 refine jH 3 rfl hS (fun w0 hw0 => Run.bin rfl rfl (Bin.add_i64 _ _ jo)) ?_
 refine jH 4 rfl hS (fun w0 hw0 => Run.index1 _ rfl rfl ze zd jo) ?_
 refine jH 5 rfl hS (fun w0 hw0 => Run.load rfl zk ((hA.nil hw0).at (i := first + r) jo)) ?_
 refine jH 6 rfl hS (fun w0 hw0 => Run.mv rfl) ?_
 refine jH 7 rfl hS (fun w0 hw0 => Run.mv rfl) ?_
 refine jH 8 rfl hS (fun w0 hw0 => Run.mv rfl) ?_
 refine jH 9 rfl hS (fun w0 hw0 => Run.bin rfl rfl (Bin.add_i64 _ _ jo)) ?_
 refine jH 10 rfl hS (fun w0 hw0 => Run.index1 _ rfl rfl ze zd jo) ?_
 refine jH 11 rfl hS (fun w0 hw0 => Run.load rfl zk ((hA.nil hw0).at (i := first + ch) jo)) ?_
 refine qQ.cl 12 rfl jK (jE2 zcn) (bI _ _ _) trivial rfl rfl ?_
 rintro e _ ⟨rfl, rfl⟩
 refine ⟨_, rfl, hS, ?_⟩
 refine jH 13 rfl hS (fun w0 hw0 => Run.not rfl) ?_
 refine qQ.done jK ?_
 refine jN (jv6 0 2 3 8 9 52 ?_)
 refine VC.condB rfl (fun hc3 => ?_) (fun hc3 => ?_)
 ·
  have hc3 : ¬ dr[first + r]! < dr[first + ch]! := by simpa using hc3
  rw [if_neg hc3] at hst
  have hA := hA.nil hS
  have K := K.trans hS jp
  refine jT ?_
  refine qZ (qH (qZ (qH (wL ?_))))
  exact ⟨rfl, by rw [← he, hst]; exact hA, K⟩
 have hc3 : dr[first + r]! < dr[first + ch]! := by simpa using hc3
 rw [if_pos hc3] at hst
 have hA := hA.nil hS
 have K := K.trans hS jp
 refine jQ (jN (jv5 0 2 3 8 9 ?_))
 refine jS ?_
 refine VC.held (fun _ => True) jK ?_
 refine jH 0 rfl trivial (fun w0 hw0 => Run.mv rfl) ?_
 refine jH 1 rfl trivial (fun w0 hw0 => Run.mv rfl) ?_
 refine jH 2 rfl trivial (fun w0 hw0 => Run.mv rfl) ?_
 refine jH 3 rfl trivial (fun w0 hw0 => Run.bin rfl rfl (Bin.add_i64 _ _ jo)) ?_
 refine jH 4 rfl trivial (fun w0 hw0 => Run.mv rfl) ?_
 refine jH 5 rfl trivial (fun w0 hw0 => Run.mv rfl) ?_
 refine jH 6 rfl trivial (fun w0 hw0 => Run.mv rfl) ?_
 refine jH 7 rfl trivial (fun w0 hw0 => Run.bin rfl rfl (Bin.add_i64 _ _ jo)) ?_
 refine jH 8 rfl trivial (fun w0 hw0 => Run.mv rfl) ?_
 refine jH 9 rfl trivial (fun w0 hw0 => Run.mv rfl) ?_
 refine jH 10 rfl trivial (fun w0 hw0 => Run.mv rfl) ?_
 refine jH 11 rfl trivial (fun w0 hw0 => Run.bin rfl rfl (Bin.add_i64 _ _ jo)) ?_
 refine jH 12 rfl trivial (fun w0 hw0 => Run.index1 _ rfl rfl ze zd jo) ?_
 refine jH 14 rfl trivial (fun w0 hw0 => Run.mv rfl) ?_
 refine jH 15 rfl trivial (fun w0 hw0 => Run.mv rfl) ?_
 refine jH 16 rfl trivial (fun w0 hw0 => Run.mv rfl) ?_
 refine jH 17 rfl trivial (fun w0 hw0 => Run.bin rfl rfl (Bin.add_i64 _ _ jo)) ?_
 refine jH 18 rfl trivial (fun w0 hw0 => Run.index1 _ rfl rfl ze zd jo) ?_
 refine qQ.r2 13 19 rfl rfl jK jK jK jK trivial rfl rfl (Run.load rfl zk ((hA.nil (qK.drew _).frm).at (i := first + ch) jo)) (Run.load rfl zk ((hA.nil (qK.drew _).frm).at (i := first + r) jo)) (Run.load rfl zk ((hA.nil (qK.drew _).frm).at (i := first + r) jo)) (Run.load rfl zk ((hA.nil (qK.drew _).frm).at (i := first + ch) jo)) rfl rfl rfl rfl rfl ?_
 refine jH 20 rfl trivial (fun w0 hw0 => Run.index1 _ rfl rfl ze zd jo) ?_
 refine qQ.st 21 rfl jK (qP.storeOwn (first + r) rfl rfl zd (hA.nil (qK.drew _).frm).2 rfl jo rfl) trivial rfl ?_
 rintro w2a ⟨ho_a, hf_a, hs_a⟩
 refine ⟨trivial, ?_⟩
 refine jH 22 rfl trivial (fun w0 hw0 => Run.index1 _ rfl rfl ze zd jo) ?_
 refine qQ.st 23 rfl jK (qP.storeOwn (first + ch) rfl rfl zd ho_a rfl jo rfl) trivial rfl ?_
 rintro w2 ⟨ho_b, hf_b, hs_b⟩
 have hAs := AO.swp hA.1 ho_b
 have hKs := ((qK.drew _).frm.mono (T := ob (some ad)) jp).trans (hf_a.trans hf_b (fun x hx => .inl hx)) (fun x hx => .inl hx)
 refine ⟨trivial, ?_⟩
 refine qQ.done jK ?_
 refine jN (jv4 0 2 3 9 ?_)
 refine jR (jm rfl (ja rfl (jO ?_)))
 refine qW (jN ⟨(ch, swp dr (first + r) (first + ch)), (js4 rfl rfl rfl rfl), ?_, ?_⟩)
 · exact ⟨jo, hAs, by rw [← he, hst], K.trans hKs (fun x hx => .inl hx)⟩
 first | omega | (dsimp only; omega)
theorem tC {hi first k : Nat} {d : Array Nat} (h : 0 < k) : heapBuild ltN hi first k d = heapBuild ltN hi first (k - 1) (siftDown ltN hi first (k - 1) d) := by
 obtain ⟨j, rfl⟩ : ∃ j, k = j + 1 := ⟨k - 1, jo⟩
 rfl
theorem yF {first k : Nat} {d : Array Nat} (h : 0 < k) : heapPop ltN first k d = heapPop ltN first (k - 1) (siftDown ltN (k - 1) first 0 (swp d first (first + (k - 1)))) := by
 obtain ⟨j, rfl⟩ : ∃ j, k = j + 1 := ⟨k - 1, jo⟩
 rfl
theorem yA {i j : Nat} {d : Array Nat} (h : i < j) : reverseLoop i j d = reverseLoop (i + 1) (j - 1) (swp d i j) := by
 conv => lhs; unfold reverseLoop
 rw [if_pos h]
theorem tD {i j : Nat} {d : Array Nat} (h : ¬ i < j) : reverseLoop i j d = d := by
 unfold reverseLoop
 rw [if_neg h]
theorem yI (B : Option Addr) (c N : Nat) (d : Array Nat) (w : World) (h : AO w B c N d) (hN : N ≤ 1000000) (a b : Nat) (ha : a < b) (hb : b ≤ N) :
  Calls Tryz.prog 142 #[.slice B N c, .int .i64 ((a : Nat) : Int), .int .i64 ((b : Nat) : Int)] w fun e w' => e = .returned (.tuple #[]) ∧ AO w' B c N (heapSort ltN d a b) ∧ Frm (ob B) w w' := by
 obtain ⟨ad, rfl⟩ := h.adr jo
 have hA := h
 refine VC.calls (nt := 56) (res := #[]) Tryz.func142 rfl Tryz.ntmps142 Tryz.results142 rfl ?_
 refine jS (jR (jm rfl (ja rfl (jO (jN (jv4 0 1 2 6 ?_))))))
 refine jS (jR (jz 0 (jO (jN (jS (jR (jm rfl (jm rfl (jb rfl rfl (Bin.sub_i64 _ _ jo jo) (ja rfl (jO (jN (jv4 0 6 7 8 ?_)))))))))))))
 refine jS (jS (jR (jm rfl (jb rfl rfl (Bin.sub_i64 _ 1 jo jo) (jb rfl rfl (Bin.quo_i64 _ 2 jo jo) (ja rfl (jO (jN (jv5 0 6 7 8 9 ?_)))))))))
 refine jB ?_
 refine VC.loop (σ := Nat × Array Nat) (fun s => [(0, .slice (some ad) N c), (6, .int .i64 ((a : Nat) : Int)), (7, .int .i64 ((0 : Nat) : Int)), (8, .int .i64 (((b - a) : Nat) : Int)), (9, .int .i64 (((s.1 : Nat) : Int) - 1))]) (fun s wr => s.1 ≤ (b - a - 1) / 2 + 1 ∧ AO wr (some ad) c N s.2 ∧ heapBuild ltN (b - a) a s.1 s.2 = heapBuild ltN (b - a) a ((b - a - 1) / 2 + 1) d ∧ Frm (ob (some ad)) w wr) (fun s => s.1) ((b - a - 1) / 2 + 1, d) (js5 rfl rfl rfl rfl (by show some (Value.int .i64 (((b - a - 1) / 2 : Nat) : Int)) = some (Value.int .i64 ((((b - a - 1) / 2 + 1 : Nat) : Int) - 1)); rw [show (((b - a - 1) / 2 : Nat) : Int) = (((b - a - 1) / 2 + 1 : Nat) : Int) - 1 by omega])) ⟨zw _, hA, rfl, Frm.refl _ _⟩ ?_
 rintro ⟨k, dk⟩ wr ⟨hk, hA, he, K⟩
 dsimp only at *
 refine jS (jS (jR (jm rfl (jb rfl rfl (Bin.geq _ 0) (jO (jN (jv6 0 6 7 8 9 19 ?_)))))))
 refine jD rfl (fun hc1 => ?_) fun hc1 => ?_
 ·
  have hk0 : 0 < k := by simp at hc1; omega
  have hgo := tC (hi := b - a) (first := a) (d := dk) hk0
  have hkz : ((k : Nat) : Int) - 1 = ((k - 1 : Nat) : Int) := jo
  rw [hkz]
  refine jQ (jN (jv5 0 6 7 8 9 ?_))
  refine jS (jB (jR (jm rfl (jm rfl (jm rfl (jM ?_))))))
  refine Ops.cl (jE4 Tryz.call167) (pP (some ad) c N dk _ hA hN (k - 1) (b - a) a jo jo jo) rfl ?_
  rintro e w2 ⟨rfl, hA2, hf2⟩
  have K2 := K.trans hf2 (fun x hx => .inl hx)
  refine ⟨_, rfl, ?_⟩
  refine jO ?_
  refine qW (jN ?_)
  refine jv5 0 6 7 8 9 ?_
  refine jR (jm rfl (jb rfl rfl (Bin.subZ _ 1 jo jo) (ja rfl (jO ?_))))
  refine jN ⟨(k - 1, siftDown ltN (b - a) a (k - 1) dk), (js5 rfl rfl rfl rfl rfl), ?_, ?_⟩
  · exact ⟨by dsimp only; omega, hA2, by rw [← he, hgo], K2⟩
  first | omega | (dsimp only; omega)
 refine jX ?_
 refine qJ (qJ (qN ?_))
 refine jN (jv4 0 6 7 8 ?_)
 refine jS (jR (jm rfl (jb rfl rfl (Bin.sub_i64 _ 1 jo jo) (ja rfl (jO (jN (jv4 0 6 7 10 ?_)))))))
 refine jB ?_
 obtain rfl : k = 0 := by simp at hc1; omega
 refine VC.loop (σ := Nat × Array Nat) (fun s => [(0, .slice (some ad) N c), (6, .int .i64 ((a : Nat) : Int)), (7, .int .i64 ((0 : Nat) : Int)), (10, .int .i64 (((s.1 : Nat) : Int) - 1))]) (fun s wr => s.1 ≤ b - a ∧ AO wr (some ad) c N s.2 ∧ heapPop ltN a s.1 s.2 = heapSort ltN d a b ∧ Frm (ob (some ad)) w wr) (fun s => s.1) (b - a, dk) (js4 rfl rfl rfl (by show some (Value.int .i64 ((b - a - 1 : Nat) : Int)) = some (Value.int .i64 (((b - a : Nat) : Int) - 1)); rw [show ((b - a - 1 : Nat) : Int) = ((b - a : Nat) : Int) - 1 by omega])) ⟨zw _, hA, by unfold heapSort; rw [← he]; rfl, K⟩ ?_
 rintro ⟨k, dk⟩ wr ⟨hk, hA, he, K⟩
 dsimp only at *
 refine jS (jS (jR (jm rfl (jb rfl rfl (Bin.geq _ 0) (jO (jN (jv5 0 6 7 10 30 ?_)))))))
 refine jD rfl (fun hc2 => ?_) fun hc2 => ?_
 ·
  have hk0 : 0 < k := by simp at hc2; omega
  have hgo := yF (first := a) (d := dk) hk0
  have hkz : ((k : Nat) : Int) - 1 = ((k - 1 : Nat) : Int) := jo
  rw [hkz]
  refine jQ (jN (jv4 0 6 7 10 ?_))
  refine jS (jB (jS ?_))
  refine VC.held (fun _ => True) jK ?_
  refine jH 0 rfl trivial (fun w0 hw0 => Run.mv rfl) ?_
  refine jH 1 rfl trivial (fun w0 hw0 => Run.mv rfl) ?_
  refine jH 2 rfl trivial (fun w0 hw0 => Run.mv rfl) ?_
  refine jH 3 rfl trivial (fun w0 hw0 => Run.mv rfl) ?_
  refine jH 4 rfl trivial (fun w0 hw0 => Run.mv rfl) ?_
  refine jH 5 rfl trivial (fun w0 hw0 => Run.bin rfl rfl (Bin.addZ _ _ jo jo)) ?_
  refine jH 6 rfl trivial (fun w0 hw0 => Run.mv rfl) ?_
  refine jH 7 rfl trivial (fun w0 hw0 => Run.mv rfl) ?_
  refine jH 8 rfl trivial (fun w0 hw0 => Run.mv rfl) ?_
  refine jH 9 rfl trivial (fun w0 hw0 => Run.bin rfl rfl (Bin.addZ _ _ jo jo)) ?_
  refine jH 10 rfl trivial (fun w0 hw0 => Run.index1 _ rfl rfl ze zd jo) ?_
  refine jH 12 rfl trivial (fun w0 hw0 => Run.mv rfl) ?_
  refine jH 13 rfl trivial (fun w0 hw0 => Run.mv rfl) ?_
  refine jH 14 rfl trivial (fun w0 hw0 => Run.index1 _ rfl rfl ze zd jo) ?_
  refine qQ.r2 11 15 rfl rfl jK jK jK jK trivial rfl rfl (Run.load rfl zk ((hA.nil (qK.drew _).frm).at (i := a + (k - 1)) jo)) (Run.load rfl zk ((hA.nil (qK.drew _).frm).at (i := a) jo)) (Run.load rfl zk ((hA.nil (qK.drew _).frm).at (i := a) jo)) (Run.load rfl zk ((hA.nil (qK.drew _).frm).at (i := a + (k - 1)) jo)) rfl rfl rfl rfl rfl ?_
  refine jH 16 rfl trivial (fun w0 hw0 => Run.index1 _ rfl rfl ze zd jo) ?_
  refine qQ.st 17 rfl jK (qP.storeOwn (a) rfl rfl zd (hA.nil (qK.drew _).frm).2 rfl jo rfl) trivial rfl ?_
  rintro w3a ⟨ho_a, hf_a, hs_a⟩
  refine ⟨trivial, ?_⟩
  refine jH 18 rfl trivial (fun w0 hw0 => Run.index1 _ rfl rfl ze zd jo) ?_
  refine qQ.st 19 rfl jK (qP.storeOwn (a + (k - 1)) rfl rfl zd ho_a rfl jo rfl) trivial rfl ?_
  rintro w3 ⟨ho_b, hf_b, hs_b⟩
  have hAs := AO.swp hA.1 ho_b
  have hKs := ((qK.drew _).frm.mono (T := ob (some ad)) jp).trans (hf_a.trans hf_b (fun x hx => .inl hx)) (fun x hx => .inl hx)
  refine ⟨trivial, ?_⟩
  refine qQ.done jK ?_
  refine jN (jv4 0 6 7 10 ?_)
  refine jR (jm rfl (jm rfl (jm rfl (jM ?_))))
  refine Ops.cl (jE4 Tryz.call167) (pP (some ad) c N (swp dk a (a + (k - 1))) _ hAs hN 0 (k - 1) a jo jo jo) rfl ?_
  rintro e w4 ⟨rfl, hA4, hf4⟩
  have K4 := (K.trans hKs (fun x hx => .inl hx)).trans hf4 (fun x hx => .inl hx)
  refine ⟨_, rfl, ?_⟩
  refine jO ?_
  refine qW (jN ?_)
  refine jv4 0 6 7 10 ?_
  refine jR (jm rfl (jb rfl rfl (Bin.subZ _ 1 jo jo) (ja rfl (jO ?_))))
  refine jN ⟨(k - 1, siftDown ltN (k - 1) a 0 (swp dk a (a + (k - 1)))), (js4 rfl rfl rfl rfl), ?_, ?_⟩
  · exact ⟨by dsimp only; omega, hA4, by rw [← he, hgo], K4⟩
  first | omega | (dsimp only; omega)
 refine jX ?_
 refine qJ (qJ (qN ?_))
 refine gK ?_
 obtain rfl : k = 0 := by simp at hc2; omega
 exact ⟨rfl, by rw [← he]; exact hA, K⟩
theorem qXe (B : Option Addr) (c N : Nat) (d : Array Nat) (w : World) (h : AO w B c N d) (hN : N ≤ 1000000) (a b : Nat) (ha : a < b) (hb : b ≤ N) :
  Calls Tryz.prog 145 #[.slice B N c, .int .i64 ((a : Nat) : Int), .int .i64 ((b : Nat) : Int)] w fun e w' => e = .returned (.tuple #[]) ∧ AO w' B c N (reverseRange d a b) ∧ Frm (ob B) w w' := by
 obtain ⟨ad, rfl⟩ := h.adr jo
 have hA := h
 refine VC.calls (nt := 32) (res := #[]) Tryz.func145 rfl Tryz.ntmps145 Tryz.results145 rfl ?_
 refine jS (jR (jm rfl (ja rfl (jO (jN (jv3 0 2 6 ?_))))))
 refine jS (jR (jm rfl (jb rfl rfl (Bin.sub_i64 _ 1 jo jo) (ja rfl (jO (jN (jv3 0 6 7 ?_)))))))
 refine jB ?_
 refine VC.loop (σ := Nat × Nat × Array Nat) (fun s => [(0, .slice (some ad) N c), (6, .int .i64 ((s.1 : Nat) : Int)), (7, .int .i64 ((s.2.1 : Nat) : Int))]) (fun s wr => s.1 ≤ N ∧ s.2.1 < N ∧ AO wr (some ad) c N s.2.2 ∧ reverseLoop s.1 s.2.1 s.2.2 = reverseRange d a b ∧ Frm (ob (some ad)) w wr) (fun s => s.2.1 + 1 - s.1) (a, b - 1, d) (js3 rfl rfl rfl) ⟨by dsimp only; omega, by dsimp only; omega, hA, rfl, Frm.refl _ _⟩ ?_
 rintro ⟨i, j, dj⟩ wr ⟨hi, hj, hA, he, K⟩
 dsimp only at *
 refine jS (jS (jR (jm rfl (jm rfl (jb rfl rfl (Bin.lssN _ _) (jO (jN (jv4 0 6 7 13 ?_))))))))
 refine jD rfl (fun hc1 => ?_) fun hc1 => ?_
 ·
  refine jQ (jN (jv3 0 6 7 ?_))
  refine jB (jS ?_)
  refine VC.held (fun _ => True) jK ?_
  refine jH 0 rfl trivial (fun w0 hw0 => Run.mv rfl) ?_
  refine jH 1 rfl trivial (fun w0 hw0 => Run.mv rfl) ?_
  refine jH 2 rfl trivial (fun w0 hw0 => Run.mv rfl) ?_
  refine jH 3 rfl trivial (fun w0 hw0 => Run.mv rfl) ?_
  refine jH 4 rfl trivial (fun w0 hw0 => Run.mv rfl) ?_
  refine jH 5 rfl trivial (fun w0 hw0 => Run.mv rfl) ?_
  refine jH 6 rfl trivial (fun w0 hw0 => Run.index1 _ rfl rfl ze zd jo) ?_
  refine jH 8 rfl trivial (fun w0 hw0 => Run.mv rfl) ?_
  refine jH 9 rfl trivial (fun w0 hw0 => Run.mv rfl) ?_
  refine jH 10 rfl trivial (fun w0 hw0 => Run.index1 _ rfl rfl ze zd jo) ?_
  refine qQ.r2 7 11 rfl rfl jK jK jK jK trivial rfl rfl (Run.load rfl zk ((hA.nil (qK.drew _).frm).at (i := j) jo)) (Run.load rfl zk ((hA.nil (qK.drew _).frm).at (i := i) jo)) (Run.load rfl zk ((hA.nil (qK.drew _).frm).at (i := i) jo)) (Run.load rfl zk ((hA.nil (qK.drew _).frm).at (i := j) jo)) rfl rfl rfl rfl rfl ?_
  refine jH 12 rfl trivial (fun w0 hw0 => Run.index1 _ rfl rfl ze zd jo) ?_
  refine qQ.st 13 rfl jK (qP.storeOwn (i) rfl rfl zd (hA.nil (qK.drew _).frm).2 rfl jo rfl) trivial rfl ?_
  rintro w2a ⟨ho_a, hf_a, hs_a⟩
  refine ⟨trivial, ?_⟩
  refine jH 14 rfl trivial (fun w0 hw0 => Run.index1 _ rfl rfl ze zd jo) ?_
  refine qQ.st 15 rfl jK (qP.storeOwn (j) rfl rfl zd ho_a rfl jo rfl) trivial rfl ?_
  rintro w2 ⟨ho_b, hf_b, hs_b⟩
  have hAs := AO.swp hA.1 ho_b
  have hKs := ((qK.drew _).frm.mono (T := ob (some ad)) jp).trans (hf_a.trans hf_b (fun x hx => .inl hx)) (fun x hx => .inl hx)
  refine ⟨trivial, ?_⟩
  refine qQ.done jK ?_
  refine jN (jv3 0 6 7 ?_)
  refine jS (jR (jm rfl (jb rfl rfl (Bin.add_i64 _ 1 jo) (ja rfl (jO (jN (jv3 0 6 7 ?_)))))))
  refine jR (jm rfl (jb rfl rfl (Bin.sub_i64 _ 1 jo jo) (ja rfl (jO ?_))))
  refine qW (jN ⟨(i + 1, j - 1, swp dj i j), (js3 rfl rfl rfl), ?_, ?_⟩)
  · exact ⟨by dsimp only; omega, by dsimp only; omega, hAs, by rw [← he, yA hc1], K.trans hKs (fun x hx => .inl hx)⟩
  first | omega | (dsimp only; omega)
 refine jX ?_
 refine qJ (qJ (qN ?_))
 refine gK ?_
 exact ⟨rfl, by rw [← he, tD hc1]; exact hA, K⟩
end
section
open Go.RowKit Go.Sort
theorem mD {p : Nat → Bool} {d : Array Nat} {i j : Nat} (h : i ≤ j ∧ p d[i]! = true) : scanUp p d j i = scanUp p d j (i + 1) := by
 conv => lhs; unfold scanUp
 rw [if_pos (by simp [h.1, h.2])]
theorem kZ {p : Nat → Bool} {d : Array Nat} {i j : Nat} (h : ¬ (i ≤ j ∧ p d[i]! = true)) : scanUp p d j i = i := by
 unfold scanUp
 rw [if_neg (by simpa using h)]
theorem kJ {p : Nat → Bool} {d : Array Nat} {i j : Nat} (h0 : 0 < j) (h : i ≤ j ∧ p d[j]! = true) : scanDown p d i j = scanDown p d i (j - 1) := by
 obtain ⟨k, rfl⟩ : ∃ k, j = k + 1 := ⟨j - 1, jo⟩
 conv => lhs; unfold scanDown
 rw [if_pos (by simp [h.1, h.2])]
 rfl
theorem gZ {p : Nat → Bool} {d : Array Nat} {i j : Nat} (h : ¬ (i ≤ j ∧ p d[j]! = true)) : scanDown p d i j = j := by
 cases j with
 | zero => rfl
 | succ k =>
  unfold scanDown
  rw [if_neg (by simpa using h)]
theorem sZ {a i j i2 j2 : Nat} {d : Array Nat} (h1 : scanUp (fun x => ltN x d[a]!) d j i = i2) (h2 : scanDown (fun x => !ltN x d[a]!) d i2 j = j2) (h : j2 < i2) : partLoop ltN a i j d = (j2, d) := by
 unfold partLoop
 rw [h1]
 dsimp only
 rw [h2]
 try dsimp only
 rw [if_pos h]
theorem vG {a i j i2 j2 : Nat} {d : Array Nat} (h1 : scanUp (fun x => ltN x d[a]!) d j i = i2) (h2 : scanDown (fun x => !ltN x d[a]!) d i2 j = j2) (h : ¬ j2 < i2) (hi : i ≤ i2) (hj : j2 ≤ j) (h0 : 0 < j2) : partLoop ltN a i j d = partLoop ltN a (i2 + 1) (j2 - 1) (swp d i2 j2) := by
 conv => lhs; unfold partLoop
 rw [h1]
 dsimp only
 rw [h2]
 try dsimp only
 rw [if_neg h, dif_pos jo]
theorem vH {a i j i2 j2 : Nat} {d : Array Nat} (h1 : scanUp (fun x => !ltN d[a]! x) d j i = i2) (h2 : scanDown (fun x => ltN d[a]! x) d i2 j = j2) (h : j2 < i2) : partEqLoop ltN a i j d = (i2, d) := by
 unfold partEqLoop
 rw [h1]
 dsimp only
 rw [h2]
 try dsimp only
 rw [if_pos h]
theorem qXf {a i j i2 j2 : Nat} {d : Array Nat} (h1 : scanUp (fun x => !ltN d[a]! x) d j i = i2) (h2 : scanDown (fun x => ltN d[a]! x) d i2 j = j2) (h : ¬ j2 < i2) (hi : i ≤ i2) (hj : j2 ≤ j) (h0 : 0 < j2) : partEqLoop ltN a i j d = partEqLoop ltN a (i2 + 1) (j2 - 1) (swp d i2 j2) := by
 conv => lhs; unfold partEqLoop
 rw [h1]
 dsimp only
 rw [h2]
 try dsimp only
 rw [if_neg h, dif_pos jo]
theorem qZ9 {a b pivot i j : Nat} {d d1 : Array Nat} (hd : swp d a pivot = d1) (h1 : scanUp (fun x => ltN x d1[a]!) d1 (b - 1) (a + 1) = i) (h2 : scanDown (fun x => !ltN x d1[a]!) d1 i (b - 1) = j) (h : j < i) : partition ltN d a b pivot = (j, true, swp d1 j a) := by
 subst hd h1 h2
 unfold partition
 dsimp only
 rw [if_pos h]
theorem qJa {a b pivot i j : Nat} {d d1 : Array Nat} (hd : swp d a pivot = d1) (h1 : scanUp (fun x => ltN x d1[a]!) d1 (b - 1) (a + 1) = i) (h2 : scanDown (fun x => !ltN x d1[a]!) d1 i (b - 1) = j) (h : ¬ j < i) {r : Nat × Array Nat} (hr : partLoop ltN a (i + 1) (j - 1) (swp d1 i j) = r) : partition ltN d a b pivot = (r.1, false, swp r.2 r.1 a) := by
 subst hd h1 h2 hr
 unfold partition
 dsimp only
 rw [if_neg h]
set_option maxHeartbeats 1000000 in
theorem yL (B : Option Addr) (c N : Nat) (d : Array Nat) (w : World) (h : AO w B c N d) (hN : N ≤ 1000000) (a b pivot : Nat) (hp1 : a ≤ pivot) (hp2 : pivot < b) (hb : b ≤ N) :
  Calls Tryz.prog 149 #[.slice B N c, .int .i64 ((a : Nat) : Int), .int .i64 ((b : Nat) : Int), .int .i64 ((pivot : Nat) : Int)] w fun e w' => e = .returned (.tuple #[.int .i64 (((partition ltN d a b pivot).1 : Nat) : Int), .bool (partition ltN d a b pivot).2.1]) ∧ AO w' B c N (partition ltN d a b pivot).2.2 ∧ Frm (ob B) w w' := by
 obtain ⟨ad, rfl⟩ := h.adr jo
 have hA := h
 refine VC.calls (nt := 168) (res := #[.tmp 8, .tmp 9]) Tryz.func149 rfl Tryz.ntmps149 Tryz.results149 rfl ?_
 refine jS (jR (jz 0 (ja rfl (jO (jN (jv4 0 1 2 3 ?_))))))
 refine jS ?_
 refine VC.held (fun _ => True) jK ?_
 refine jH 0 rfl trivial (fun w0 hw0 => Run.mv rfl) ?_
 refine jH 1 rfl trivial (fun w0 hw0 => Run.mv rfl) ?_
 refine jH 2 rfl trivial (fun w0 hw0 => Run.mv rfl) ?_
 refine jH 3 rfl trivial (fun w0 hw0 => Run.mv rfl) ?_
 refine jH 4 rfl trivial (fun w0 hw0 => Run.mv rfl) ?_
 refine jH 5 rfl trivial (fun w0 hw0 => Run.mv rfl) ?_
 refine jH 6 rfl trivial (fun w0 hw0 => Run.index1 _ rfl rfl ze zd jo) ?_
 refine jH 8 rfl trivial (fun w0 hw0 => Run.mv rfl) ?_
 refine jH 9 rfl trivial (fun w0 hw0 => Run.mv rfl) ?_
 refine jH 10 rfl trivial (fun w0 hw0 => Run.index1 _ rfl rfl ze zd jo) ?_
 refine qQ.r2 7 11 rfl rfl jK jK jK jK trivial rfl rfl (Run.load rfl zk ((hA.nil (qK.drew _).frm).at (i := pivot) jo)) (Run.load rfl zk ((hA.nil (qK.drew _).frm).at (i := a) jo)) (Run.load rfl zk ((hA.nil (qK.drew _).frm).at (i := a) jo)) (Run.load rfl zk ((hA.nil (qK.drew _).frm).at (i := pivot) jo)) rfl rfl rfl rfl rfl ?_
 refine jH 12 rfl trivial (fun w0 hw0 => Run.index1 _ rfl rfl ze zd jo) ?_
 refine qQ.st 13 rfl jK (qP.storeOwn (a) rfl rfl zd (hA.nil (qK.drew _).frm).2 rfl jo rfl) trivial rfl ?_
 rintro w1a ⟨ho_a, hf_a, hs_a⟩
 refine ⟨trivial, ?_⟩
 refine jH 14 rfl trivial (fun w0 hw0 => Run.index1 _ rfl rfl ze zd jo) ?_
 refine qQ.st 15 rfl jK (qP.storeOwn (pivot) rfl rfl zd ho_a rfl jo rfl) trivial rfl ?_
 rintro w1 ⟨ho_b, hf_b, hs_b⟩
 have hAs := AO.swp hA.1 ho_b
 have hKs := ((qK.drew _).frm.mono (T := ob (some ad)) jp).trans (hf_a.trans hf_b (fun x hx => .inl hx)) (fun x hx => .inl hx)
 refine ⟨trivial, ?_⟩
 refine qQ.done jK ?_
 refine jN (jv3 0 1 2 ?_)
 refine jS (jR (jm rfl (jb rfl rfl (Bin.add_i64 _ 1 jo) (jm rfl (jb rfl rfl (Bin.sub_i64 _ 1 jo jo) (ja rfl (ja rfl (jO (jN (jv4 0 1 10 11 ?_))))))))))
 refine jS (jB ?_)
 have hA := hAs
 have K := hKs
 obtain ⟨d1, hd1⟩ : ∃ d1, swp d a pivot = d1 := ⟨_, rfl⟩
 rw [hd1] at hA
 refine VC.loop (σ := Nat) (fun s => [(0, .slice (some ad) N c), (1, .int .i64 ((a : Nat) : Int)), (10, .int .i64 ((s : Nat) : Int)), (11, .int .i64 (((b - 1) : Nat) : Int))]) (fun s wr => a + 1 ≤ s ∧ s ≤ b ∧ AO wr (some ad) c N d1 ∧ scanUp (fun x => ltN x d1[a]!) d1 (b - 1) s = scanUp (fun x => ltN x d1[a]!) d1 (b - 1) (a + 1) ∧ Frm (ob (some ad)) w wr) (fun s => b - s) (a + 1) (js4 rfl rfl rfl rfl) ⟨zw _, jo, hA, rfl, K⟩ ?_
 rintro i wr ⟨hi, hi2, hA, he, K⟩
 refine jS (jS ?_)
 refine VC.meet (σ := Unit) (fun s => [(0, .slice (some ad) N c), (1, .int .i64 ((a : Nat) : Int)), (10, .int .i64 ((i : Nat) : Int)), (11, .int .i64 (((b - 1) : Nat) : Int)), (43, .bool (decide (i ≤ b - 1 ∧ d1[i]! < d1[a]!)))]) (fun s wz => Frm [] wr wz) ?_ ?_
 ·
  refine VC.held (fun W => Frm [] wr W) jK ?_
  have hS : Frm [] wr wr.drew := (Frm.refl _ _).drew
  refine jH 0 rfl hS (fun w0 hw0 => Run.mv rfl) ?_
  refine jH 1 rfl hS (fun w0 hw0 => Run.mv rfl) ?_
  refine jH 2 rfl hS (fun w0 hw0 => Run.bin rfl rfl (Bin.leqN _ _)) ?_
  by_cases hs32 : i ≤ b - 1
  ·
   refine jH 3 rfl hS (fun w0 hw0 => Run.mv rfl) ?_
   refine qQ.take 4 rfl jK jK jK hS (fun w0 hw0 => Run.mv rfl) (Up.g rfl (by first | rfl | exact decide_eq_true hs32 | (simp [hs32]; done))) rfl rfl ?_
   refine qQ.take 5 rfl jK jK jK hS (fun w0 hw0 => Run.mv rfl) (Up.g rfl (by first | rfl | exact decide_eq_true hs32 | (simp [hs32]; done))) rfl rfl ?_
   refine qQ.take 6 rfl jK jK jK hS (fun w0 hw0 => Run.index1 _ rfl rfl ze zd jo) (Up.g rfl (by first | rfl | exact decide_eq_true hs32 | (simp [hs32]; done))) rfl rfl ?_
   refine qQ.take 7 rfl jK jK jK hS (fun w0 hw0 => Run.load rfl zk ((hA.nil hw0).at (i := i) jo)) (Up.g rfl (by first | rfl | exact decide_eq_true hs32 | (simp [hs32]; done))) rfl rfl ?_
   refine qQ.take 8 rfl jK jK jK hS (fun w0 hw0 => Run.mv rfl) (Up.g rfl (by first | rfl | exact decide_eq_true hs32 | (simp [hs32]; done))) rfl rfl ?_
   refine qQ.take 9 rfl jK jK jK hS (fun w0 hw0 => Run.mv rfl) (Up.g rfl (by first | rfl | exact decide_eq_true hs32 | (simp [hs32]; done))) rfl rfl ?_
   refine qQ.take 10 rfl jK jK jK hS (fun w0 hw0 => Run.index1 _ rfl rfl ze zd jo) (Up.g rfl (by first | rfl | exact decide_eq_true hs32 | (simp [hs32]; done))) rfl rfl ?_
   refine qQ.take 11 rfl jK jK jK hS (fun w0 hw0 => Run.load rfl zk ((hA.nil hw0).at (i := a) jo)) (Up.g rfl (by first | rfl | exact decide_eq_true hs32 | (simp [hs32]; done))) rfl rfl ?_
   refine qQ.cl 12 rfl jK (jE2 zcn) (bI _ _ _) (Up.g rfl (by first | rfl | exact decide_eq_true hs32 | (simp [hs32]; done))) rfl rfl ?_
   rintro e _ ⟨rfl, rfl⟩
   refine ⟨_, rfl, hS, ?_⟩
   by_cases hs42 : d1[i]! < d1[a]!
   ·
    refine jH 13 rfl hS (fun w0 hw0 => Run.pickT rfl rfl (by first | rfl | exact decide_eq_true hs32 | exact decide_eq_true hs42 | (simp [hs32]; done) | (simp [hs42]; done))) ?_
    refine qQ.done jK ?_
    refine jN ⟨(), (js5 rfl rfl rfl rfl (jC (by grind))), ?_⟩
    exact hS
   refine jH 13 rfl hS (fun w0 hw0 => Run.pickT rfl rfl (by first | rfl | exact decide_eq_true hs32 | exact decide_eq_false hs42 | (simp [hs32]; done) | (simp [hs42]; done))) ?_
   refine qQ.done jK ?_
   refine jN ⟨(), (js5 rfl rfl rfl rfl (jC (by grind))), ?_⟩
   exact hS
  refine jH 3 rfl hS (fun w0 hw0 => Run.mv rfl) ?_
  refine qQ.skip 4 rfl jK jK jK hS rfl rfl (by first | rfl | exact decide_eq_false hs32 | (simp [hs32]; done)) rfl rfl ?_
  refine qQ.skip 5 rfl jK jK jK hS rfl rfl (by first | rfl | exact decide_eq_false hs32 | (simp [hs32]; done)) rfl rfl ?_
  refine qQ.skip 6 rfl jK jK jK hS rfl rfl (by first | rfl | exact decide_eq_false hs32 | (simp [hs32]; done)) rfl rfl ?_
  refine qQ.skip 7 rfl jK jK jK hS rfl rfl (by first | rfl | exact decide_eq_false hs32 | (simp [hs32]; done)) rfl rfl ?_
  refine qQ.skip 8 rfl jK jK jK hS rfl rfl (by first | rfl | exact decide_eq_false hs32 | (simp [hs32]; done)) rfl rfl ?_
  refine qQ.skip 9 rfl jK jK jK hS rfl rfl (by first | rfl | exact decide_eq_false hs32 | (simp [hs32]; done)) rfl rfl ?_
  refine qQ.skip 10 rfl jK jK jK hS rfl rfl (by first | rfl | exact decide_eq_false hs32 | (simp [hs32]; done)) rfl rfl ?_
  refine qQ.skip 11 rfl jK jK jK hS rfl rfl (by first | rfl | exact decide_eq_false hs32 | (simp [hs32]; done)) rfl rfl ?_
  refine qQ.skip 12 rfl jK jK jK hS rfl rfl (by first | rfl | exact decide_eq_false hs32 | (simp [hs32]; done)) rfl rfl ?_
  refine jH 13 rfl hS (fun w0 hw0 => Run.pickF rfl rfl (by first | rfl | exact decide_eq_false hs32 | (simp [hs32]; done))) ?_
  refine qQ.done jK ?_
  refine jN ⟨(), (js5 rfl rfl rfl rfl (jC (by grind))), ?_⟩
  exact hS
 rintro _ wz hfz Γ hΓ
 have hA := hA.nil hfz
 have K := K.trans hfz jp
 refine jN (VC.sub _ hΓ ?_)
 refine jD rfl (fun hc1 => ?_) fun hc1 => ?_
 ·
  refine jQ (jN (jv4 0 1 10 11 ?_))
  refine jB (jR (jm rfl (jb rfl rfl (Bin.add_i64 _ 1 jo) (ja rfl (jO ?_)))))
  refine qW (jN ⟨(i + 1), (js4 rfl rfl rfl rfl), ?_, ?_⟩)
  · exact ⟨jo, jo, hA, by rw [← he]; exact (mD ⟨hc1.1, by simp [ltN]; exact hc1.2⟩).symm, K⟩
  first | omega | (dsimp only; omega)
 have hI : scanUp (fun x => ltN x d1[a]!) d1 (b - 1) (a + 1) = i := by rw [← he]; exact kZ (fun h => hc1 ⟨h.1, by simpa [ltN] using h.2⟩)
 refine jX ?_
 refine qJ (qJ (qN ?_))
 refine jN (jv4 0 1 10 11 ?_)
 refine jS (jB ?_)
 refine VC.loop (σ := Nat) (fun s => [(0, .slice (some ad) N c), (1, .int .i64 ((a : Nat) : Int)), (10, .int .i64 ((i : Nat) : Int)), (11, .int .i64 ((s : Nat) : Int))]) (fun s wr => a ≤ s ∧ s ≤ b - 1 ∧ AO wr (some ad) c N d1 ∧ scanDown (fun x => !ltN x d1[a]!) d1 i s = scanDown (fun x => !ltN x d1[a]!) d1 i (b - 1) ∧ Frm (ob (some ad)) w wr) (fun s => s) (b - 1) (js4 rfl rfl rfl rfl) ⟨jo, zw _, hA, rfl, K⟩ ?_
 rintro j wr ⟨hj, hj2, hA, he2, K⟩
 refine jS (jS ?_)
 refine VC.meet (σ := Unit) (fun s => [(0, .slice (some ad) N c), (1, .int .i64 ((a : Nat) : Int)), (10, .int .i64 ((i : Nat) : Int)), (11, .int .i64 ((j : Nat) : Int)), (60, .bool (decide (i ≤ j ∧ ¬ d1[j]! < d1[a]!)))]) (fun s wz => Frm [] wr wz) ?_ ?_
 ·
  refine VC.held (fun W => Frm [] wr W) jK ?_
  have hS : Frm [] wr wr.drew := (Frm.refl _ _).drew
  refine jH 0 rfl hS (fun w0 hw0 => Run.mv rfl) ?_
  refine jH 1 rfl hS (fun w0 hw0 => Run.mv rfl) ?_
  refine jH 2 rfl hS (fun w0 hw0 => Run.bin rfl rfl (Bin.leqN _ _)) ?_
  by_cases hs48 : i ≤ j
  ·
   refine jH 3 rfl hS (fun w0 hw0 => Run.mv rfl) ?_
   refine qQ.take 4 rfl jK jK jK hS (fun w0 hw0 => Run.mv rfl) (Up.g rfl (by first | rfl | exact decide_eq_true hs48 | (simp [hs48]; done))) rfl rfl ?_
   refine qQ.take 5 rfl jK jK jK hS (fun w0 hw0 => Run.mv rfl) (Up.g rfl (by first | rfl | exact decide_eq_true hs48 | (simp [hs48]; done))) rfl rfl ?_
   refine qQ.take 6 rfl jK jK jK hS (fun w0 hw0 => Run.index1 _ rfl rfl ze zd jo) (Up.g rfl (by first | rfl | exact decide_eq_true hs48 | (simp [hs48]; done))) rfl rfl ?_
   refine qQ.take 7 rfl jK jK jK hS (fun w0 hw0 => Run.load rfl zk ((hA.nil hw0).at (i := j) jo)) (Up.g rfl (by first | rfl | exact decide_eq_true hs48 | (simp [hs48]; done))) rfl rfl ?_
   refine qQ.take 8 rfl jK jK jK hS (fun w0 hw0 => Run.mv rfl) (Up.g rfl (by first | rfl | exact decide_eq_true hs48 | (simp [hs48]; done))) rfl rfl ?_
   refine qQ.take 9 rfl jK jK jK hS (fun w0 hw0 => Run.mv rfl) (Up.g rfl (by first | rfl | exact decide_eq_true hs48 | (simp [hs48]; done))) rfl rfl ?_
   refine qQ.take 10 rfl jK jK jK hS (fun w0 hw0 => Run.index1 _ rfl rfl ze zd jo) (Up.g rfl (by first | rfl | exact decide_eq_true hs48 | (simp [hs48]; done))) rfl rfl ?_
   refine qQ.take 11 rfl jK jK jK hS (fun w0 hw0 => Run.load rfl zk ((hA.nil hw0).at (i := a) jo)) (Up.g rfl (by first | rfl | exact decide_eq_true hs48 | (simp [hs48]; done))) rfl rfl ?_
   refine qQ.cl 12 rfl jK (jE2 zcn) (bI _ _ _) (Up.g rfl (by first | rfl | exact decide_eq_true hs48 | (simp [hs48]; done))) rfl rfl ?_
   rintro e _ ⟨rfl, rfl⟩
   refine ⟨_, rfl, hS, ?_⟩
   by_cases hs58 : d1[j]! < d1[a]!
   ·
    refine qQ.take 13 rfl jK jK jK hS (fun w0 hw0 => Run.not rfl) (Up.g rfl (by first | rfl | exact decide_eq_true hs48 | exact decide_eq_true hs58 | (simp [hs48]; done) | (simp [hs58]; done))) rfl rfl ?_
    refine jH 14 rfl hS (fun w0 hw0 => Run.pickT rfl rfl (by first | rfl | exact decide_eq_true hs48 | exact decide_eq_true hs58 | (simp [hs48]; done) | (simp [hs58]; done))) ?_
    refine qQ.done jK ?_
    refine jN ⟨(), (js5 rfl rfl rfl rfl (jC (by grind))), ?_⟩
    exact hS
   refine qQ.take 13 rfl jK jK jK hS (fun w0 hw0 => Run.not rfl) (Up.g rfl (by first | rfl | exact decide_eq_true hs48 | exact decide_eq_false hs58 | (simp [hs48]; done) | (simp [hs58]; done))) rfl rfl ?_
   refine jH 14 rfl hS (fun w0 hw0 => Run.pickT rfl rfl (by first | rfl | exact decide_eq_true hs48 | exact decide_eq_false hs58 | (simp [hs48]; done) | (simp [hs58]; done))) ?_
   refine qQ.done jK ?_
   refine jN ⟨(), (js5 rfl rfl rfl rfl (jC (by grind))), ?_⟩
   exact hS
  refine jH 3 rfl hS (fun w0 hw0 => Run.mv rfl) ?_
  refine qQ.skip 4 rfl jK jK jK hS rfl rfl (by first | rfl | exact decide_eq_false hs48 | (simp [hs48]; done)) rfl rfl ?_
  refine qQ.skip 5 rfl jK jK jK hS rfl rfl (by first | rfl | exact decide_eq_false hs48 | (simp [hs48]; done)) rfl rfl ?_
  refine qQ.skip 6 rfl jK jK jK hS rfl rfl (by first | rfl | exact decide_eq_false hs48 | (simp [hs48]; done)) rfl rfl ?_
  refine qQ.skip 7 rfl jK jK jK hS rfl rfl (by first | rfl | exact decide_eq_false hs48 | (simp [hs48]; done)) rfl rfl ?_
  refine qQ.skip 8 rfl jK jK jK hS rfl rfl (by first | rfl | exact decide_eq_false hs48 | (simp [hs48]; done)) rfl rfl ?_
  refine qQ.skip 9 rfl jK jK jK hS rfl rfl (by first | rfl | exact decide_eq_false hs48 | (simp [hs48]; done)) rfl rfl ?_
  refine qQ.skip 10 rfl jK jK jK hS rfl rfl (by first | rfl | exact decide_eq_false hs48 | (simp [hs48]; done)) rfl rfl ?_
  refine qQ.skip 11 rfl jK jK jK hS rfl rfl (by first | rfl | exact decide_eq_false hs48 | (simp [hs48]; done)) rfl rfl ?_
  refine qQ.skip 12 rfl jK jK jK hS rfl rfl (by first | rfl | exact decide_eq_false hs48 | (simp [hs48]; done)) rfl rfl ?_
  refine qQ.skip 13 rfl jK jK jK hS rfl rfl (by first | rfl | exact decide_eq_false hs48 | (simp [hs48]; done)) rfl rfl ?_
  refine jH 14 rfl hS (fun w0 hw0 => Run.pickF rfl rfl (by first | rfl | exact decide_eq_false hs48 | (simp [hs48]; done))) ?_
  refine qQ.done jK ?_
  refine jN ⟨(), (js5 rfl rfl rfl rfl (jC (by grind))), ?_⟩
  exact hS
 rintro _ wz hfz Γ hΓ
 have hA := hA.nil hfz
 have K := K.trans hfz jp
 refine jN (VC.sub _ hΓ ?_)
 refine jD rfl (fun hc2 => ?_) fun hc2 => ?_
 ·
  refine jQ (jN (jv4 0 1 10 11 ?_))
  refine jB (jR (jm rfl (jb rfl rfl (Bin.sub_i64 _ 1 jo jo) (ja rfl (jO ?_)))))
  refine qW (jN ⟨(j - 1), (js4 rfl rfl rfl rfl), ?_, ?_⟩)
  · exact ⟨jo, jo, hA, by rw [← he2]; exact (kJ jo ⟨hc2.1, by simp [ltN]; omega⟩).symm, K⟩
  first | omega | (dsimp only; omega)
 have hJ : scanDown (fun x => !ltN x d1[a]!) d1 i (b - 1) = j := by rw [← he2]; exact gZ (fun h => hc2 ⟨h.1, by simpa [ltN] using h.2⟩)
 refine jX ?_
 refine qJ (qJ (qN ?_))
 refine jN (jv4 0 1 10 11 ?_)
 refine jS (jS (jR (jm rfl (jm rfl (jb rfl rfl (Bin.gtrN _ _) (jO (jN (jv5 0 1 10 11 65 ?_))))))))
 refine jD rfl (fun hc3 => ?_) fun hc3 => ?_
 ·
  have hF := qZ9 hd1 hI hJ hc3
  refine jS ?_
  refine VC.held (fun _ => True) jK ?_
  refine jH 0 rfl trivial (fun w0 hw0 => Run.mv rfl) ?_
  refine jH 1 rfl trivial (fun w0 hw0 => Run.mv rfl) ?_
  refine jH 2 rfl trivial (fun w0 hw0 => Run.mv rfl) ?_
  refine jH 3 rfl trivial (fun w0 hw0 => Run.mv rfl) ?_
  refine jH 4 rfl trivial (fun w0 hw0 => Run.mv rfl) ?_
  refine jH 5 rfl trivial (fun w0 hw0 => Run.mv rfl) ?_
  refine jH 6 rfl trivial (fun w0 hw0 => Run.index1 _ rfl rfl ze zd jo) ?_
  refine jH 8 rfl trivial (fun w0 hw0 => Run.mv rfl) ?_
  refine jH 9 rfl trivial (fun w0 hw0 => Run.mv rfl) ?_
  refine jH 10 rfl trivial (fun w0 hw0 => Run.index1 _ rfl rfl ze zd jo) ?_
  refine qQ.r2 7 11 rfl rfl jK jK jK jK trivial rfl rfl (Run.load rfl zk ((hA.nil (qK.drew _).frm).at (i := a) jo)) (Run.load rfl zk ((hA.nil (qK.drew _).frm).at (i := j) jo)) (Run.load rfl zk ((hA.nil (qK.drew _).frm).at (i := j) jo)) (Run.load rfl zk ((hA.nil (qK.drew _).frm).at (i := a) jo)) rfl rfl rfl rfl rfl ?_
  refine jH 12 rfl trivial (fun w0 hw0 => Run.index1 _ rfl rfl ze zd jo) ?_
  refine qQ.st 13 rfl jK (qP.storeOwn (j) rfl rfl zd (hA.nil (qK.drew _).frm).2 rfl jo rfl) trivial rfl ?_
  rintro w3a ⟨ho_a, hf_a, hs_a⟩
  refine ⟨trivial, ?_⟩
  refine jH 14 rfl trivial (fun w0 hw0 => Run.index1 _ rfl rfl ze zd jo) ?_
  refine qQ.st 15 rfl jK (qP.storeOwn (a) rfl rfl zd ho_a rfl jo rfl) trivial rfl ?_
  rintro w3 ⟨ho_b, hf_b, hs_b⟩
  have hAs := AO.swp hA.1 ho_b
  have hKs := ((qK.drew _).frm.mono (T := ob (some ad)) jp).trans (hf_a.trans hf_b (fun x hx => .inl hx)) (fun x hx => .inl hx)
  refine ⟨trivial, ?_⟩
  refine qQ.done jK ?_
  refine jN (jv1 11 ?_)
  refine jS (jR (jm rfl (ja rfl (ja rfl (jO (jN (jv2 8 9 ?_)))))))
  refine jT ?_
  refine qZ (cF rfl rfl ?_)
  rw [hF]
  exact ⟨rfl, hAs, K.trans hKs (fun x hx => .inl hx)⟩
 have hF := fun r => qJa (r := r) hd1 hI hJ hc3
 refine jQ (jN (jv4 0 1 10 11 ?_))
 refine jS ?_
 refine VC.held (fun _ => True) jK ?_
 refine jH 0 rfl trivial (fun w0 hw0 => Run.mv rfl) ?_
 refine jH 1 rfl trivial (fun w0 hw0 => Run.mv rfl) ?_
 refine jH 2 rfl trivial (fun w0 hw0 => Run.mv rfl) ?_
 refine jH 3 rfl trivial (fun w0 hw0 => Run.mv rfl) ?_
 refine jH 4 rfl trivial (fun w0 hw0 => Run.mv rfl) ?_
 refine jH 5 rfl trivial (fun w0 hw0 => Run.mv rfl) ?_
 refine jH 6 rfl trivial (fun w0 hw0 => Run.index1 _ rfl rfl ze zd jo) ?_
 refine jH 8 rfl trivial (fun w0 hw0 => Run.mv rfl) ?_
 refine jH 9 rfl trivial (fun w0 hw0 => Run.mv rfl) ?_
 refine jH 10 rfl trivial (fun w0 hw0 => Run.index1 _ rfl rfl ze zd jo) ?_
 refine qQ.r2 7 11 rfl rfl jK jK jK jK trivial rfl rfl (Run.load rfl zk ((hA.nil (qK.drew _).frm).at (i := j) jo)) (Run.load rfl zk ((hA.nil (qK.drew _).frm).at (i := i) jo)) (Run.load rfl zk ((hA.nil (qK.drew _).frm).at (i := i) jo)) (Run.load rfl zk ((hA.nil (qK.drew _).frm).at (i := j) jo)) rfl rfl rfl rfl rfl ?_
 refine jH 12 rfl trivial (fun w0 hw0 => Run.index1 _ rfl rfl ze zd jo) ?_
 refine qQ.st 13 rfl jK (qP.storeOwn (i) rfl rfl zd (hA.nil (qK.drew _).frm).2 rfl jo rfl) trivial rfl ?_
 rintro w4a ⟨ho_a, hf_a, hs_a⟩
 refine ⟨trivial, ?_⟩
 refine jH 14 rfl trivial (fun w0 hw0 => Run.index1 _ rfl rfl ze zd jo) ?_
 refine qQ.st 15 rfl jK (qP.storeOwn (j) rfl rfl zd ho_a rfl jo rfl) trivial rfl ?_
 rintro w4 ⟨ho_b, hf_b, hs_b⟩
 have hAs := AO.swp hA.1 ho_b
 have hKs := ((qK.drew _).frm.mono (T := ob (some ad)) jp).trans (hf_a.trans hf_b (fun x hx => .inl hx)) (fun x hx => .inl hx)
 refine ⟨trivial, ?_⟩
 refine qQ.done jK ?_
 refine jN (jv4 0 1 10 11 ?_)
 refine jS (jR (jm rfl (jb rfl rfl (Bin.add_i64 _ 1 jo) (ja rfl (jO (jN (jv4 0 1 10 11 ?_)))))))
 refine jS (jR (jm rfl (jb rfl rfl (Bin.sub_i64 _ 1 jo jo) (ja rfl (jO (jN (jv4 0 1 10 11 ?_)))))))
 refine jS (jB ?_)
 refine VC.loop (σ := Nat × Nat × Array Nat) (fun s => [(0, .slice (some ad) N c), (1, .int .i64 ((a : Nat) : Int)), (10, .int .i64 ((s.1 : Nat) : Int)), (11, .int .i64 ((s.2.1 : Nat) : Int))]) (fun s wr => a + 1 ≤ s.1 ∧ s.1 ≤ b ∧ a ≤ s.2.1 ∧ s.2.1 ≤ b - 1 ∧ AO wr (some ad) c N s.2.2 ∧ partLoop ltN a s.1 s.2.1 s.2.2 = partLoop ltN a (i + 1) (j - 1) (swp d1 i j) ∧ Frm (ob (some ad)) w wr) (fun s => s.2.1 + 1 - s.1) (i + 1, j - 1, swp d1 i j) (js4 rfl rfl rfl rfl) ⟨by dsimp only; omega, by dsimp only; omega, by dsimp only; omega, by dsimp only; omega, hAs, rfl, K.trans hKs (fun x hx => .inl hx)⟩ ?_
 rintro ⟨i3, j3, d3⟩ wr ⟨q1, q2, q3, q4, hA, he3, K⟩
 dsimp only at *
 refine jB (jS (jB ?_))
 refine VC.loop (σ := Nat) (fun s => [(0, .slice (some ad) N c), (1, .int .i64 ((a : Nat) : Int)), (10, .int .i64 ((s : Nat) : Int)), (11, .int .i64 ((j3 : Nat) : Int))]) (fun s wr => i3 ≤ s ∧ s ≤ b ∧ AO wr (some ad) c N d3 ∧ scanUp (fun x => ltN x d3[a]!) d3 j3 s = scanUp (fun x => ltN x d3[a]!) d3 j3 i3 ∧ Frm (ob (some ad)) w wr) (fun s => b - s) i3 (js4 rfl rfl rfl rfl) ⟨zw _, q2, hA, rfl, K⟩ ?_
 rintro i4 wr ⟨q5, q6, hA, he4, K⟩
 refine jS (jS ?_)
 refine VC.meet (σ := Unit) (fun s => [(0, .slice (some ad) N c), (1, .int .i64 ((a : Nat) : Int)), (10, .int .i64 ((i4 : Nat) : Int)), (11, .int .i64 ((j3 : Nat) : Int)), (112, .bool (decide (i4 ≤ j3 ∧ d3[i4]! < d3[a]!)))]) (fun s wz => Frm [] wr wz) ?_ ?_
 ·
  refine VC.held (fun W => Frm [] wr W) jK ?_
  have hS : Frm [] wr wr.drew := (Frm.refl _ _).drew
  refine jH 0 rfl hS (fun w0 hw0 => Run.mv rfl) ?_
  refine jH 1 rfl hS (fun w0 hw0 => Run.mv rfl) ?_
  refine jH 2 rfl hS (fun w0 hw0 => Run.bin rfl rfl (Bin.leqN _ _)) ?_
  by_cases hs101 : i4 ≤ j3
  ·
   refine jH 3 rfl hS (fun w0 hw0 => Run.mv rfl) ?_
   refine qQ.take 4 rfl jK jK jK hS (fun w0 hw0 => Run.mv rfl) (Up.g rfl (by first | rfl | exact decide_eq_true hs101 | (simp [hs101]; done))) rfl rfl ?_
   refine qQ.take 5 rfl jK jK jK hS (fun w0 hw0 => Run.mv rfl) (Up.g rfl (by first | rfl | exact decide_eq_true hs101 | (simp [hs101]; done))) rfl rfl ?_
   refine qQ.take 6 rfl jK jK jK hS (fun w0 hw0 => Run.index1 _ rfl rfl ze zd jo) (Up.g rfl (by first | rfl | exact decide_eq_true hs101 | (simp [hs101]; done))) rfl rfl ?_
   refine qQ.take 7 rfl jK jK jK hS (fun w0 hw0 => Run.load rfl zk ((hA.nil hw0).at (i := i4) jo)) (Up.g rfl (by first | rfl | exact decide_eq_true hs101 | (simp [hs101]; done))) rfl rfl ?_
   refine qQ.take 8 rfl jK jK jK hS (fun w0 hw0 => Run.mv rfl) (Up.g rfl (by first | rfl | exact decide_eq_true hs101 | (simp [hs101]; done))) rfl rfl ?_
   refine qQ.take 9 rfl jK jK jK hS (fun w0 hw0 => Run.mv rfl) (Up.g rfl (by first | rfl | exact decide_eq_true hs101 | (simp [hs101]; done))) rfl rfl ?_
   refine qQ.take 10 rfl jK jK jK hS (fun w0 hw0 => Run.index1 _ rfl rfl ze zd jo) (Up.g rfl (by first | rfl | exact decide_eq_true hs101 | (simp [hs101]; done))) rfl rfl ?_
   refine qQ.take 11 rfl jK jK jK hS (fun w0 hw0 => Run.load rfl zk ((hA.nil hw0).at (i := a) jo)) (Up.g rfl (by first | rfl | exact decide_eq_true hs101 | (simp [hs101]; done))) rfl rfl ?_
   refine qQ.cl 12 rfl jK (jE2 zcn) (bI _ _ _) (Up.g rfl (by first | rfl | exact decide_eq_true hs101 | (simp [hs101]; done))) rfl rfl ?_
   rintro e _ ⟨rfl, rfl⟩
   refine ⟨_, rfl, hS, ?_⟩
   by_cases hs111 : d3[i4]! < d3[a]!
   ·
    refine jH 13 rfl hS (fun w0 hw0 => Run.pickT rfl rfl (by first | rfl | exact decide_eq_true hs101 | exact decide_eq_true hs111 | (simp [hs101]; done) | (simp [hs111]; done))) ?_
    refine qQ.done jK ?_
    refine jN ⟨(), (js5 rfl rfl rfl rfl (jC (by grind))), ?_⟩
    exact hS
   refine jH 13 rfl hS (fun w0 hw0 => Run.pickT rfl rfl (by first | rfl | exact decide_eq_true hs101 | exact decide_eq_false hs111 | (simp [hs101]; done) | (simp [hs111]; done))) ?_
   refine qQ.done jK ?_
   refine jN ⟨(), (js5 rfl rfl rfl rfl (jC (by grind))), ?_⟩
   exact hS
  refine jH 3 rfl hS (fun w0 hw0 => Run.mv rfl) ?_
  refine qQ.skip 4 rfl jK jK jK hS rfl rfl (by first | rfl | exact decide_eq_false hs101 | (simp [hs101]; done)) rfl rfl ?_
  refine qQ.skip 5 rfl jK jK jK hS rfl rfl (by first | rfl | exact decide_eq_false hs101 | (simp [hs101]; done)) rfl rfl ?_
  refine qQ.skip 6 rfl jK jK jK hS rfl rfl (by first | rfl | exact decide_eq_false hs101 | (simp [hs101]; done)) rfl rfl ?_
  refine qQ.skip 7 rfl jK jK jK hS rfl rfl (by first | rfl | exact decide_eq_false hs101 | (simp [hs101]; done)) rfl rfl ?_
  refine qQ.skip 8 rfl jK jK jK hS rfl rfl (by first | rfl | exact decide_eq_false hs101 | (simp [hs101]; done)) rfl rfl ?_
  refine qQ.skip 9 rfl jK jK jK hS rfl rfl (by first | rfl | exact decide_eq_false hs101 | (simp [hs101]; done)) rfl rfl ?_
  refine qQ.skip 10 rfl jK jK jK hS rfl rfl (by first | rfl | exact decide_eq_false hs101 | (simp [hs101]; done)) rfl rfl ?_
  refine qQ.skip 11 rfl jK jK jK hS rfl rfl (by first | rfl | exact decide_eq_false hs101 | (simp [hs101]; done)) rfl rfl ?_
  refine qQ.skip 12 rfl jK jK jK hS rfl rfl (by first | rfl | exact decide_eq_false hs101 | (simp [hs101]; done)) rfl rfl ?_
  refine jH 13 rfl hS (fun w0 hw0 => Run.pickF rfl rfl (by first | rfl | exact decide_eq_false hs101 | (simp [hs101]; done))) ?_
  refine qQ.done jK ?_
  refine jN ⟨(), (js5 rfl rfl rfl rfl (jC (by grind))), ?_⟩
  exact hS
 rintro _ wz hfz Γ hΓ
 have hA := hA.nil hfz
 have K := K.trans hfz jp
 refine jN (VC.sub _ hΓ ?_)
 refine jD rfl (fun hc4 => ?_) fun hc4 => ?_
 ·
  refine jQ (jN (jv4 0 1 10 11 ?_))
  refine jB (jR (jm rfl (jb rfl rfl (Bin.add_i64 _ 1 jo) (ja rfl (jO ?_)))))
  refine qW (jN ⟨(i4 + 1), (js4 rfl rfl rfl rfl), ?_, ?_⟩)
  · exact ⟨jo, jo, hA, by rw [← he4]; exact (mD ⟨hc4.1, by simp [ltN]; exact hc4.2⟩).symm, K⟩
  first | omega | (dsimp only; omega)
 have hI3 : scanUp (fun x => ltN x d3[a]!) d3 j3 i3 = i4 := by rw [← he4]; exact kZ (fun h => hc4 ⟨h.1, by simpa [ltN] using h.2⟩)
 refine jX ?_
 refine qJ (qJ (qN ?_))
 refine jN (jv4 0 1 10 11 ?_)
 refine jS (jB ?_)
 refine VC.loop (σ := Nat) (fun s => [(0, .slice (some ad) N c), (1, .int .i64 ((a : Nat) : Int)), (10, .int .i64 ((i4 : Nat) : Int)), (11, .int .i64 ((s : Nat) : Int))]) (fun s wr => a ≤ s ∧ s ≤ j3 ∧ AO wr (some ad) c N d3 ∧ scanDown (fun x => !ltN x d3[a]!) d3 i4 s = scanDown (fun x => !ltN x d3[a]!) d3 i4 j3 ∧ Frm (ob (some ad)) w wr) (fun s => s) j3 (js4 rfl rfl rfl rfl) ⟨q3, zw _, hA, rfl, K⟩ ?_
 rintro j4 wr ⟨q7, q8, hA, he5, K⟩
 refine jS (jS ?_)
 refine VC.meet (σ := Unit) (fun s => [(0, .slice (some ad) N c), (1, .int .i64 ((a : Nat) : Int)), (10, .int .i64 ((i4 : Nat) : Int)), (11, .int .i64 ((j4 : Nat) : Int)), (129, .bool (decide (i4 ≤ j4 ∧ ¬ d3[j4]! < d3[a]!)))]) (fun s wz => Frm [] wr wz) ?_ ?_
 ·
  refine VC.held (fun W => Frm [] wr W) jK ?_
  have hS : Frm [] wr wr.drew := (Frm.refl _ _).drew
  refine jH 0 rfl hS (fun w0 hw0 => Run.mv rfl) ?_
  refine jH 1 rfl hS (fun w0 hw0 => Run.mv rfl) ?_
  refine jH 2 rfl hS (fun w0 hw0 => Run.bin rfl rfl (Bin.leqN _ _)) ?_
  by_cases hs117 : i4 ≤ j4
  ·
   refine jH 3 rfl hS (fun w0 hw0 => Run.mv rfl) ?_
   refine qQ.take 4 rfl jK jK jK hS (fun w0 hw0 => Run.mv rfl) (Up.g rfl (by first | rfl | exact decide_eq_true hs117 | (simp [hs117]; done))) rfl rfl ?_
   refine qQ.take 5 rfl jK jK jK hS (fun w0 hw0 => Run.mv rfl) (Up.g rfl (by first | rfl | exact decide_eq_true hs117 | (simp [hs117]; done))) rfl rfl ?_
   refine qQ.take 6 rfl jK jK jK hS (fun w0 hw0 => Run.index1 _ rfl rfl ze zd jo) (Up.g rfl (by first | rfl | exact decide_eq_true hs117 | (simp [hs117]; done))) rfl rfl ?_
   refine qQ.take 7 rfl jK jK jK hS (fun w0 hw0 => Run.load rfl zk ((hA.nil hw0).at (i := j4) jo)) (Up.g rfl (by first | rfl | exact decide_eq_true hs117 | (simp [hs117]; done))) rfl rfl ?_
   refine qQ.take 8 rfl jK jK jK hS (fun w0 hw0 => Run.mv rfl) (Up.g rfl (by first | rfl | exact decide_eq_true hs117 | (simp [hs117]; done))) rfl rfl ?_
   refine qQ.take 9 rfl jK jK jK hS (fun w0 hw0 => Run.mv rfl) (Up.g rfl (by first | rfl | exact decide_eq_true hs117 | (simp [hs117]; done))) rfl rfl ?_
   refine qQ.take 10 rfl jK jK jK hS (fun w0 hw0 => Run.index1 _ rfl rfl ze zd jo) (Up.g rfl (by first | rfl | exact decide_eq_true hs117 | (simp [hs117]; done))) rfl rfl ?_
   refine qQ.take 11 rfl jK jK jK hS (fun w0 hw0 => Run.load rfl zk ((hA.nil hw0).at (i := a) jo)) (Up.g rfl (by first | rfl | exact decide_eq_true hs117 | (simp [hs117]; done))) rfl rfl ?_
   refine qQ.cl 12 rfl jK (jE2 zcn) (bI _ _ _) (Up.g rfl (by first | rfl | exact decide_eq_true hs117 | (simp [hs117]; done))) rfl rfl ?_
   rintro e _ ⟨rfl, rfl⟩
   refine ⟨_, rfl, hS, ?_⟩
   by_cases hs127 : d3[j4]! < d3[a]!
   ·
    refine qQ.take 13 rfl jK jK jK hS (fun w0 hw0 => Run.not rfl) (Up.g rfl (by first | rfl | exact decide_eq_true hs117 | exact decide_eq_true hs127 | (simp [hs117]; done) | (simp [hs127]; done))) rfl rfl ?_
    refine jH 14 rfl hS (fun w0 hw0 => Run.pickT rfl rfl (by first | rfl | exact decide_eq_true hs117 | exact decide_eq_true hs127 | (simp [hs117]; done) | (simp [hs127]; done))) ?_
    refine qQ.done jK ?_
    refine jN ⟨(), (js5 rfl rfl rfl rfl (jC (by grind))), ?_⟩
    exact hS
   refine qQ.take 13 rfl jK jK jK hS (fun w0 hw0 => Run.not rfl) (Up.g rfl (by first | rfl | exact decide_eq_true hs117 | exact decide_eq_false hs127 | (simp [hs117]; done) | (simp [hs127]; done))) rfl rfl ?_
   refine jH 14 rfl hS (fun w0 hw0 => Run.pickT rfl rfl (by first | rfl | exact decide_eq_true hs117 | exact decide_eq_false hs127 | (simp [hs117]; done) | (simp [hs127]; done))) ?_
   refine qQ.done jK ?_
   refine jN ⟨(), (js5 rfl rfl rfl rfl (jC (by grind))), ?_⟩
   exact hS
  refine jH 3 rfl hS (fun w0 hw0 => Run.mv rfl) ?_
  refine qQ.skip 4 rfl jK jK jK hS rfl rfl (by first | rfl | exact decide_eq_false hs117 | (simp [hs117]; done)) rfl rfl ?_
  refine qQ.skip 5 rfl jK jK jK hS rfl rfl (by first | rfl | exact decide_eq_false hs117 | (simp [hs117]; done)) rfl rfl ?_
  refine qQ.skip 6 rfl jK jK jK hS rfl rfl (by first | rfl | exact decide_eq_false hs117 | (simp [hs117]; done)) rfl rfl ?_
  refine qQ.skip 7 rfl jK jK jK hS rfl rfl (by first | rfl | exact decide_eq_false hs117 | (simp [hs117]; done)) rfl rfl ?_
  refine qQ.skip 8 rfl jK jK jK hS rfl rfl (by first | rfl | exact decide_eq_false hs117 | (simp [hs117]; done)) rfl rfl ?_
  refine qQ.skip 9 rfl jK jK jK hS rfl rfl (by first | rfl | exact decide_eq_false hs117 | (simp [hs117]; done)) rfl rfl ?_
  refine qQ.skip 10 rfl jK jK jK hS rfl rfl (by first | rfl | exact decide_eq_false hs117 | (simp [hs117]; done)) rfl rfl ?_
  refine qQ.skip 11 rfl jK jK jK hS rfl rfl (by first | rfl | exact decide_eq_false hs117 | (simp [hs117]; done)) rfl rfl ?_
  refine qQ.skip 12 rfl jK jK jK hS rfl rfl (by first | rfl | exact decide_eq_false hs117 | (simp [hs117]; done)) rfl rfl ?_
  refine qQ.skip 13 rfl jK jK jK hS rfl rfl (by first | rfl | exact decide_eq_false hs117 | (simp [hs117]; done)) rfl rfl ?_
  refine jH 14 rfl hS (fun w0 hw0 => Run.pickF rfl rfl (by first | rfl | exact decide_eq_false hs117 | (simp [hs117]; done))) ?_
  refine qQ.done jK ?_
  refine jN ⟨(), (js5 rfl rfl rfl rfl (jC (by grind))), ?_⟩
  exact hS
 rintro _ wz hfz Γ hΓ
 have hA := hA.nil hfz
 have K := K.trans hfz jp
 refine jN (VC.sub _ hΓ ?_)
 refine jD rfl (fun hc5 => ?_) fun hc5 => ?_
 ·
  refine jQ (jN (jv4 0 1 10 11 ?_))
  refine jB (jR (jm rfl (jb rfl rfl (Bin.sub_i64 _ 1 jo jo) (ja rfl (jO ?_)))))
  refine qW (jN ⟨(j4 - 1), (js4 rfl rfl rfl rfl), ?_, ?_⟩)
  · exact ⟨jo, jo, hA, by rw [← he5]; exact (kJ jo ⟨hc5.1, by simp [ltN]; omega⟩).symm, K⟩
  first | omega | (dsimp only; omega)
 have hJ3 : scanDown (fun x => !ltN x d3[a]!) d3 i4 j3 = j4 := by rw [← he5]; exact gZ (fun h => hc5 ⟨h.1, by simpa [ltN] using h.2⟩)
 refine jX ?_
 refine qJ (qJ (qN ?_))
 refine jN (jv4 0 1 10 11 ?_)
 refine jS (jS (jR (jm rfl (jm rfl (jb rfl rfl (Bin.gtrN _ _) (jO (jN (jv5 0 1 10 11 134 ?_))))))))
 refine jD rfl (fun hc6 => ?_) fun hc6 => ?_
 ·
  have hst := sZ hI3 hJ3 hc6
  rw [hst] at he3
  have hF := hF _ he3.symm
  refine jX ?_
  refine qJ (gM rfl (qJ (qN ?_)))
  refine jN (jv3 0 1 11 ?_)
  refine jS ?_
  refine VC.held (fun _ => True) jK ?_
  refine jH 0 rfl trivial (fun w0 hw0 => Run.mv rfl) ?_
  refine jH 1 rfl trivial (fun w0 hw0 => Run.mv rfl) ?_
  refine jH 2 rfl trivial (fun w0 hw0 => Run.mv rfl) ?_
  refine jH 3 rfl trivial (fun w0 hw0 => Run.mv rfl) ?_
  refine jH 4 rfl trivial (fun w0 hw0 => Run.mv rfl) ?_
  refine jH 5 rfl trivial (fun w0 hw0 => Run.mv rfl) ?_
  refine jH 6 rfl trivial (fun w0 hw0 => Run.index1 _ rfl rfl ze zd jo) ?_
  refine jH 8 rfl trivial (fun w0 hw0 => Run.mv rfl) ?_
  refine jH 9 rfl trivial (fun w0 hw0 => Run.mv rfl) ?_
  refine jH 10 rfl trivial (fun w0 hw0 => Run.index1 _ rfl rfl ze zd jo) ?_
  refine qQ.r2 7 11 rfl rfl jK jK jK jK trivial rfl rfl (Run.load rfl zk ((hA.nil (qK.drew _).frm).at (i := a) jo)) (Run.load rfl zk ((hA.nil (qK.drew _).frm).at (i := j4) jo)) (Run.load rfl zk ((hA.nil (qK.drew _).frm).at (i := j4) jo)) (Run.load rfl zk ((hA.nil (qK.drew _).frm).at (i := a) jo)) rfl rfl rfl rfl rfl ?_
  refine jH 12 rfl trivial (fun w0 hw0 => Run.index1 _ rfl rfl ze zd jo) ?_
  refine qQ.st 13 rfl jK (qP.storeOwn (j4) rfl rfl zd (hA.nil (qK.drew _).frm).2 rfl jo rfl) trivial rfl ?_
  rintro w7a ⟨ho_a, hf_a, hs_a⟩
  refine ⟨trivial, ?_⟩
  refine jH 14 rfl trivial (fun w0 hw0 => Run.index1 _ rfl rfl ze zd jo) ?_
  refine qQ.st 15 rfl jK (qP.storeOwn (a) rfl rfl zd ho_a rfl jo rfl) trivial rfl ?_
  rintro w7 ⟨ho_b, hf_b, hs_b⟩
  have hAs := AO.swp hA.1 ho_b
  have hKs := ((qK.drew _).frm.mono (T := ob (some ad)) jp).trans (hf_a.trans hf_b (fun x hx => .inl hx)) (fun x hx => .inl hx)
  refine ⟨trivial, ?_⟩
  refine qQ.done jK ?_
  refine jN (jv1 11 ?_)
  refine jS (jR (jm rfl (ja rfl (ja rfl (jO (jN (jv2 8 9 ?_)))))))
  refine jT ?_
  refine cF rfl rfl ?_
  rw [hF]
  exact ⟨rfl, hAs, K.trans hKs (fun x hx => .inl hx)⟩
 have hst := vG hI3 hJ3 hc6 q5 q8 jo
 refine jQ (jN (jv4 0 1 10 11 ?_))
 refine jS ?_
 refine VC.held (fun _ => True) jK ?_
 refine jH 0 rfl trivial (fun w0 hw0 => Run.mv rfl) ?_
 refine jH 1 rfl trivial (fun w0 hw0 => Run.mv rfl) ?_
 refine jH 2 rfl trivial (fun w0 hw0 => Run.mv rfl) ?_
 refine jH 3 rfl trivial (fun w0 hw0 => Run.mv rfl) ?_
 refine jH 4 rfl trivial (fun w0 hw0 => Run.mv rfl) ?_
 refine jH 5 rfl trivial (fun w0 hw0 => Run.mv rfl) ?_
 refine jH 6 rfl trivial (fun w0 hw0 => Run.index1 _ rfl rfl ze zd jo) ?_
 refine jH 8 rfl trivial (fun w0 hw0 => Run.mv rfl) ?_
 refine jH 9 rfl trivial (fun w0 hw0 => Run.mv rfl) ?_
 refine jH 10 rfl trivial (fun w0 hw0 => Run.index1 _ rfl rfl ze zd jo) ?_
 refine qQ.r2 7 11 rfl rfl jK jK jK jK trivial rfl rfl (Run.load rfl zk ((hA.nil (qK.drew _).frm).at (i := j4) jo)) (Run.load rfl zk ((hA.nil (qK.drew _).frm).at (i := i4) jo)) (Run.load rfl zk ((hA.nil (qK.drew _).frm).at (i := i4) jo)) (Run.load rfl zk ((hA.nil (qK.drew _).frm).at (i := j4) jo)) rfl rfl rfl rfl rfl ?_
 refine jH 12 rfl trivial (fun w0 hw0 => Run.index1 _ rfl rfl ze zd jo) ?_
 refine qQ.st 13 rfl jK (qP.storeOwn (i4) rfl rfl zd (hA.nil (qK.drew _).frm).2 rfl jo rfl) trivial rfl ?_
 rintro w6a ⟨ho_a, hf_a, hs_a⟩
 refine ⟨trivial, ?_⟩
 refine jH 14 rfl trivial (fun w0 hw0 => Run.index1 _ rfl rfl ze zd jo) ?_
 refine qQ.st 15 rfl jK (qP.storeOwn (j4) rfl rfl zd ho_a rfl jo rfl) trivial rfl ?_
 rintro w6 ⟨ho_b, hf_b, hs_b⟩
 have hAs := AO.swp hA.1 ho_b
 have hKs := ((qK.drew _).frm.mono (T := ob (some ad)) jp).trans (hf_a.trans hf_b (fun x hx => .inl hx)) (fun x hx => .inl hx)
 refine ⟨trivial, ?_⟩
 refine qQ.done jK ?_
 refine jN (jv4 0 1 10 11 ?_)
 refine jS (jR (jm rfl (jb rfl rfl (Bin.add_i64 _ 1 jo) (ja rfl (jO (jN (jv4 0 1 10 11 ?_)))))))
 refine jR (jm rfl (jb rfl rfl (Bin.sub_i64 _ 1 jo jo) (ja rfl (jO ?_))))
 refine qW (jN ⟨(i4 + 1, j4 - 1, swp d3 i4 j4), (js4 rfl rfl rfl rfl), ?_, ?_⟩)
 · exact ⟨by dsimp only; omega, by dsimp only; omega, by dsimp only; omega, by dsimp only; omega, hAs, by rw [← he3, hst], K.trans hKs (fun x hx => .inl hx)⟩
 first | omega | (dsimp only; omega)
set_option maxHeartbeats 1000000 in
theorem qXg (B : Option Addr) (c N : Nat) (d : Array Nat) (w : World) (h : AO w B c N d) (hN : N ≤ 1000000) (a b pivot : Nat) (hp1 : a ≤ pivot) (hp2 : pivot < b) (hb : b ≤ N) :
  Calls Tryz.prog 148 #[.slice B N c, .int .i64 ((a : Nat) : Int), .int .i64 ((b : Nat) : Int), .int .i64 ((pivot : Nat) : Int)] w fun e w' => e = .returned (.int .i64 (((partitionEqual ltN d a b pivot).1 : Nat) : Int)) ∧ AO w' B c N (partitionEqual ltN d a b pivot).2 ∧ Frm (ob B) w w' := by
 obtain ⟨ad, rfl⟩ := h.adr jo
 have hA := h
 refine VC.calls (nt := 84) (res := #[.tmp 8]) Tryz.func148 rfl Tryz.ntmps148 Tryz.results148 rfl ?_
 refine jS (jR (jz 0 (jO (jN (jv4 0 1 2 3 ?_)))))
 refine jS ?_
 refine VC.held (fun _ => True) jK ?_
 refine jH 0 rfl trivial (fun w0 hw0 => Run.mv rfl) ?_
 refine jH 1 rfl trivial (fun w0 hw0 => Run.mv rfl) ?_
 refine jH 2 rfl trivial (fun w0 hw0 => Run.mv rfl) ?_
 refine jH 3 rfl trivial (fun w0 hw0 => Run.mv rfl) ?_
 refine jH 4 rfl trivial (fun w0 hw0 => Run.mv rfl) ?_
 refine jH 5 rfl trivial (fun w0 hw0 => Run.mv rfl) ?_
 refine jH 6 rfl trivial (fun w0 hw0 => Run.index1 _ rfl rfl ze zd jo) ?_
 refine jH 8 rfl trivial (fun w0 hw0 => Run.mv rfl) ?_
 refine jH 9 rfl trivial (fun w0 hw0 => Run.mv rfl) ?_
 refine jH 10 rfl trivial (fun w0 hw0 => Run.index1 _ rfl rfl ze zd jo) ?_
 refine qQ.r2 7 11 rfl rfl jK jK jK jK trivial rfl rfl (Run.load rfl zk ((hA.nil (qK.drew _).frm).at (i := pivot) jo)) (Run.load rfl zk ((hA.nil (qK.drew _).frm).at (i := a) jo)) (Run.load rfl zk ((hA.nil (qK.drew _).frm).at (i := a) jo)) (Run.load rfl zk ((hA.nil (qK.drew _).frm).at (i := pivot) jo)) rfl rfl rfl rfl rfl ?_
 refine jH 12 rfl trivial (fun w0 hw0 => Run.index1 _ rfl rfl ze zd jo) ?_
 refine qQ.st 13 rfl jK (qP.storeOwn (a) rfl rfl zd (hA.nil (qK.drew _).frm).2 rfl jo rfl) trivial rfl ?_
 rintro w1a ⟨ho_a, hf_a, hs_a⟩
 refine ⟨trivial, ?_⟩
 refine jH 14 rfl trivial (fun w0 hw0 => Run.index1 _ rfl rfl ze zd jo) ?_
 refine qQ.st 15 rfl jK (qP.storeOwn (pivot) rfl rfl zd ho_a rfl jo rfl) trivial rfl ?_
 rintro w1 ⟨ho_b, hf_b, hs_b⟩
 have hAs := AO.swp hA.1 ho_b
 have hKs := ((qK.drew _).frm.mono (T := ob (some ad)) jp).trans (hf_a.trans hf_b (fun x hx => .inl hx)) (fun x hx => .inl hx)
 refine ⟨trivial, ?_⟩
 refine qQ.done jK ?_
 refine jN (jv3 0 1 2 ?_)
 refine jS (jR (jm rfl (jb rfl rfl (Bin.add_i64 _ 1 jo) (jm rfl (jb rfl rfl (Bin.sub_i64 _ 1 jo jo) (ja rfl (ja rfl (jO (jN (jv4 0 1 9 10 ?_))))))))))
 refine jS (jB ?_)
 have hA := hAs
 have K := hKs
 refine VC.loop (σ := Nat × Nat × Array Nat) (fun s => [(0, .slice (some ad) N c), (1, .int .i64 ((a : Nat) : Int)), (9, .int .i64 ((s.1 : Nat) : Int)), (10, .int .i64 ((s.2.1 : Nat) : Int))]) (fun s wr => a + 1 ≤ s.1 ∧ s.1 ≤ b ∧ a ≤ s.2.1 ∧ s.2.1 ≤ b - 1 ∧ AO wr (some ad) c N s.2.2 ∧ partEqLoop ltN a s.1 s.2.1 s.2.2 = partitionEqual ltN d a b pivot ∧ Frm (ob (some ad)) w wr) (fun s => s.2.1 + 1 - s.1) (a + 1, b - 1, swp d a pivot) (js4 rfl rfl rfl rfl) ⟨by dsimp only; omega, by dsimp only; omega, by dsimp only; omega, by dsimp only; omega, hA, rfl, K⟩ ?_
 rintro ⟨i3, j3, d3⟩ wr ⟨q1, q2, q3, q4, hA, he3, K⟩
 dsimp only at *
 refine jB (jS (jB ?_))
 refine VC.loop (σ := Nat) (fun s => [(0, .slice (some ad) N c), (1, .int .i64 ((a : Nat) : Int)), (9, .int .i64 ((s : Nat) : Int)), (10, .int .i64 ((j3 : Nat) : Int))]) (fun s wr => i3 ≤ s ∧ s ≤ b ∧ AO wr (some ad) c N d3 ∧ scanUp (fun x => !ltN d3[a]! x) d3 j3 s = scanUp (fun x => !ltN d3[a]! x) d3 j3 i3 ∧ Frm (ob (some ad)) w wr) (fun s => b - s) i3 (js4 rfl rfl rfl rfl) ⟨zw _, q2, hA, rfl, K⟩ ?_
 rintro i4 wr ⟨q5, q6, hA, he4, K⟩
 refine jS (jS ?_)
 refine VC.meet (σ := Unit) (fun s => [(0, .slice (some ad) N c), (1, .int .i64 ((a : Nat) : Int)), (9, .int .i64 ((i4 : Nat) : Int)), (10, .int .i64 ((j3 : Nat) : Int)), (43, .bool (decide (i4 ≤ j3 ∧ ¬ d3[a]! < d3[i4]!)))]) (fun s wz => Frm [] wr wz) ?_ ?_
 ·
  refine VC.held (fun W => Frm [] wr W) jK ?_
  have hS : Frm [] wr wr.drew := (Frm.refl _ _).drew
  refine jH 0 rfl hS (fun w0 hw0 => Run.mv rfl) ?_
  refine jH 1 rfl hS (fun w0 hw0 => Run.mv rfl) ?_
  refine jH 2 rfl hS (fun w0 hw0 => Run.bin rfl rfl (Bin.leqN _ _)) ?_
  by_cases hs31 : i4 ≤ j3
  ·
   refine jH 3 rfl hS (fun w0 hw0 => Run.mv rfl) ?_
   refine qQ.take 4 rfl jK jK jK hS (fun w0 hw0 => Run.mv rfl) (Up.g rfl (by first | rfl | exact decide_eq_true hs31 | (simp [hs31]; done))) rfl rfl ?_
   refine qQ.take 5 rfl jK jK jK hS (fun w0 hw0 => Run.mv rfl) (Up.g rfl (by first | rfl | exact decide_eq_true hs31 | (simp [hs31]; done))) rfl rfl ?_
   refine qQ.take 6 rfl jK jK jK hS (fun w0 hw0 => Run.index1 _ rfl rfl ze zd jo) (Up.g rfl (by first | rfl | exact decide_eq_true hs31 | (simp [hs31]; done))) rfl rfl ?_
   refine qQ.take 7 rfl jK jK jK hS (fun w0 hw0 => Run.load rfl zk ((hA.nil hw0).at (i := a) jo)) (Up.g rfl (by first | rfl | exact decide_eq_true hs31 | (simp [hs31]; done))) rfl rfl ?_
   refine qQ.take 8 rfl jK jK jK hS (fun w0 hw0 => Run.mv rfl) (Up.g rfl (by first | rfl | exact decide_eq_true hs31 | (simp [hs31]; done))) rfl rfl ?_
   refine qQ.take 9 rfl jK jK jK hS (fun w0 hw0 => Run.mv rfl) (Up.g rfl (by first | rfl | exact decide_eq_true hs31 | (simp [hs31]; done))) rfl rfl ?_
   refine qQ.take 10 rfl jK jK jK hS (fun w0 hw0 => Run.index1 _ rfl rfl ze zd jo) (Up.g rfl (by first | rfl | exact decide_eq_true hs31 | (simp [hs31]; done))) rfl rfl ?_
   refine qQ.take 11 rfl jK jK jK hS (fun w0 hw0 => Run.load rfl zk ((hA.nil hw0).at (i := i4) jo)) (Up.g rfl (by first | rfl | exact decide_eq_true hs31 | (simp [hs31]; done))) rfl rfl ?_
   refine qQ.cl 12 rfl jK (jE2 zcn) (bI _ _ _) (Up.g rfl (by first | rfl | exact decide_eq_true hs31 | (simp [hs31]; done))) rfl rfl ?_
   rintro e _ ⟨rfl, rfl⟩
   refine ⟨_, rfl, hS, ?_⟩
   by_cases hs41 : d3[a]! < d3[i4]!
   ·
    refine qQ.take 13 rfl jK jK jK hS (fun w0 hw0 => Run.not rfl) (Up.g rfl (by first | rfl | exact decide_eq_true hs31 | exact decide_eq_true hs41 | (simp [hs31]; done) | (simp [hs41]; done))) rfl rfl ?_
    refine jH 14 rfl hS (fun w0 hw0 => Run.pickT rfl rfl (by first | rfl | exact decide_eq_true hs31 | exact decide_eq_true hs41 | (simp [hs31]; done) | (simp [hs41]; done))) ?_
    refine qQ.done jK ?_
    refine jN ⟨(), (js5 rfl rfl rfl rfl (jC (by grind))), ?_⟩
    exact hS
   refine qQ.take 13 rfl jK jK jK hS (fun w0 hw0 => Run.not rfl) (Up.g rfl (by first | rfl | exact decide_eq_true hs31 | exact decide_eq_false hs41 | (simp [hs31]; done) | (simp [hs41]; done))) rfl rfl ?_
   refine jH 14 rfl hS (fun w0 hw0 => Run.pickT rfl rfl (by first | rfl | exact decide_eq_true hs31 | exact decide_eq_false hs41 | (simp [hs31]; done) | (simp [hs41]; done))) ?_
   refine qQ.done jK ?_
   refine jN ⟨(), (js5 rfl rfl rfl rfl (jC (by grind))), ?_⟩
   exact hS
  refine jH 3 rfl hS (fun w0 hw0 => Run.mv rfl) ?_
  refine qQ.skip 4 rfl jK jK jK hS rfl rfl (by first | rfl | exact decide_eq_false hs31 | (simp [hs31]; done)) rfl rfl ?_
  refine qQ.skip 5 rfl jK jK jK hS rfl rfl (by first | rfl | exact decide_eq_false hs31 | (simp [hs31]; done)) rfl rfl ?_
  refine qQ.skip 6 rfl jK jK jK hS rfl rfl (by first | rfl | exact decide_eq_false hs31 | (simp [hs31]; done)) rfl rfl ?_
  refine qQ.skip 7 rfl jK jK jK hS rfl rfl (by first | rfl | exact decide_eq_false hs31 | (simp [hs31]; done)) rfl rfl ?_
  refine qQ.skip 8 rfl jK jK jK hS rfl rfl (by first | rfl | exact decide_eq_false hs31 | (simp [hs31]; done)) rfl rfl ?_
  refine qQ.skip 9 rfl jK jK jK hS rfl rfl (by first | rfl | exact decide_eq_false hs31 | (simp [hs31]; done)) rfl rfl ?_
  refine qQ.skip 10 rfl jK jK jK hS rfl rfl (by first | rfl | exact decide_eq_false hs31 | (simp [hs31]; done)) rfl rfl ?_
  refine qQ.skip 11 rfl jK jK jK hS rfl rfl (by first | rfl | exact decide_eq_false hs31 | (simp [hs31]; done)) rfl rfl ?_
  refine qQ.skip 12 rfl jK jK jK hS rfl rfl (by first | rfl | exact decide_eq_false hs31 | (simp [hs31]; done)) rfl rfl ?_
  refine qQ.skip 13 rfl jK jK jK hS rfl rfl (by first | rfl | exact decide_eq_false hs31 | (simp [hs31]; done)) rfl rfl ?_
  refine jH 14 rfl hS (fun w0 hw0 => Run.pickF rfl rfl (by first | rfl | exact decide_eq_false hs31 | (simp [hs31]; done))) ?_
  refine qQ.done jK ?_
  refine jN ⟨(), (js5 rfl rfl rfl rfl (jC (by grind))), ?_⟩
  exact hS
 rintro _ wz hfz Γ hΓ
 have hA := hA.nil hfz
 have K := K.trans hfz jp
 refine jN (VC.sub _ hΓ ?_)
 refine jD rfl (fun hc1 => ?_) fun hc1 => ?_
 ·
  refine jQ (jN (jv4 0 1 9 10 ?_))
  refine jB (jR (jm rfl (jb rfl rfl (Bin.add_i64 _ 1 jo) (ja rfl (jO ?_)))))
  refine qW (jN ⟨(i4 + 1), (js4 rfl rfl rfl rfl), ?_, ?_⟩)
  · exact ⟨jo, jo, hA, by rw [← he4]; exact (mD ⟨hc1.1, by simp [ltN]; omega⟩).symm, K⟩
  first | omega | (dsimp only; omega)
 have hI3 : scanUp (fun x => !ltN d3[a]! x) d3 j3 i3 = i4 := by rw [← he4]; exact kZ (fun h => hc1 ⟨h.1, by simpa [ltN] using h.2⟩)
 refine jX ?_
 refine qJ (qJ (qN ?_))
 refine jN (jv4 0 1 9 10 ?_)
 refine jS (jB ?_)
 refine VC.loop (σ := Nat) (fun s => [(0, .slice (some ad) N c), (1, .int .i64 ((a : Nat) : Int)), (9, .int .i64 ((i4 : Nat) : Int)), (10, .int .i64 ((s : Nat) : Int))]) (fun s wr => a ≤ s ∧ s ≤ j3 ∧ AO wr (some ad) c N d3 ∧ scanDown (fun x => ltN d3[a]! x) d3 i4 s = scanDown (fun x => ltN d3[a]! x) d3 i4 j3 ∧ Frm (ob (some ad)) w wr) (fun s => s) j3 (js4 rfl rfl rfl rfl) ⟨q3, zw _, hA, rfl, K⟩ ?_
 rintro j4 wr ⟨q7, q8, hA, he5, K⟩
 refine jS (jS ?_)
 refine VC.meet (σ := Unit) (fun s => [(0, .slice (some ad) N c), (1, .int .i64 ((a : Nat) : Int)), (9, .int .i64 ((i4 : Nat) : Int)), (10, .int .i64 ((j4 : Nat) : Int)), (59, .bool (decide (i4 ≤ j4 ∧ d3[a]! < d3[j4]!)))]) (fun s wz => Frm [] wr wz) ?_ ?_
 ·
  refine VC.held (fun W => Frm [] wr W) jK ?_
  have hS : Frm [] wr wr.drew := (Frm.refl _ _).drew
  refine jH 0 rfl hS (fun w0 hw0 => Run.mv rfl) ?_
  refine jH 1 rfl hS (fun w0 hw0 => Run.mv rfl) ?_
  refine jH 2 rfl hS (fun w0 hw0 => Run.bin rfl rfl (Bin.leqN _ _)) ?_
  by_cases hs48 : i4 ≤ j4
  ·
   refine jH 3 rfl hS (fun w0 hw0 => Run.mv rfl) ?_
   refine qQ.take 4 rfl jK jK jK hS (fun w0 hw0 => Run.mv rfl) (Up.g rfl (by first | rfl | exact decide_eq_true hs48 | (simp [hs48]; done))) rfl rfl ?_
   refine qQ.take 5 rfl jK jK jK hS (fun w0 hw0 => Run.mv rfl) (Up.g rfl (by first | rfl | exact decide_eq_true hs48 | (simp [hs48]; done))) rfl rfl ?_
   refine qQ.take 6 rfl jK jK jK hS (fun w0 hw0 => Run.index1 _ rfl rfl ze zd jo) (Up.g rfl (by first | rfl | exact decide_eq_true hs48 | (simp [hs48]; done))) rfl rfl ?_
   refine qQ.take 7 rfl jK jK jK hS (fun w0 hw0 => Run.load rfl zk ((hA.nil hw0).at (i := a) jo)) (Up.g rfl (by first | rfl | exact decide_eq_true hs48 | (simp [hs48]; done))) rfl rfl ?_
   refine qQ.take 8 rfl jK jK jK hS (fun w0 hw0 => Run.mv rfl) (Up.g rfl (by first | rfl | exact decide_eq_true hs48 | (simp [hs48]; done))) rfl rfl ?_
   refine qQ.take 9 rfl jK jK jK hS (fun w0 hw0 => Run.mv rfl) (Up.g rfl (by first | rfl | exact decide_eq_true hs48 | (simp [hs48]; done))) rfl rfl ?_
   refine qQ.take 10 rfl jK jK jK hS (fun w0 hw0 => Run.index1 _ rfl rfl ze zd jo) (Up.g rfl (by first | rfl | exact decide_eq_true hs48 | (simp [hs48]; done))) rfl rfl ?_
   refine qQ.take 11 rfl jK jK jK hS (fun w0 hw0 => Run.load rfl zk ((hA.nil hw0).at (i := j4) jo)) (Up.g rfl (by first | rfl | exact decide_eq_true hs48 | (simp [hs48]; done))) rfl rfl ?_
   refine qQ.cl 12 rfl jK (jE2 zcn) (bI _ _ _) (Up.g rfl (by first | rfl | exact decide_eq_true hs48 | (simp [hs48]; done))) rfl rfl ?_
   rintro e _ ⟨rfl, rfl⟩
   refine ⟨_, rfl, hS, ?_⟩
   by_cases hs58 : d3[a]! < d3[j4]!
   ·
    refine jH 13 rfl hS (fun w0 hw0 => Run.pickT rfl rfl (by first | rfl | exact decide_eq_true hs48 | exact decide_eq_true hs58 | (simp [hs48]; done) | (simp [hs58]; done))) ?_
    refine qQ.done jK ?_
    refine jN ⟨(), (js5 rfl rfl rfl rfl (jC (by grind))), ?_⟩
    exact hS
   refine jH 13 rfl hS (fun w0 hw0 => Run.pickT rfl rfl (by first | rfl | exact decide_eq_true hs48 | exact decide_eq_false hs58 | (simp [hs48]; done) | (simp [hs58]; done))) ?_
   refine qQ.done jK ?_
   refine jN ⟨(), (js5 rfl rfl rfl rfl (jC (by grind))), ?_⟩
   exact hS
  refine jH 3 rfl hS (fun w0 hw0 => Run.mv rfl) ?_
  refine qQ.skip 4 rfl jK jK jK hS rfl rfl (by first | rfl | exact decide_eq_false hs48 | (simp [hs48]; done)) rfl rfl ?_
  refine qQ.skip 5 rfl jK jK jK hS rfl rfl (by first | rfl | exact decide_eq_false hs48 | (simp [hs48]; done)) rfl rfl ?_
  refine qQ.skip 6 rfl jK jK jK hS rfl rfl (by first | rfl | exact decide_eq_false hs48 | (simp [hs48]; done)) rfl rfl ?_
  refine qQ.skip 7 rfl jK jK jK hS rfl rfl (by first | rfl | exact decide_eq_false hs48 | (simp [hs48]; done)) rfl rfl ?_
  refine qQ.skip 8 rfl jK jK jK hS rfl rfl (by first | rfl | exact decide_eq_false hs48 | (simp [hs48]; done)) rfl rfl ?_
  refine qQ.skip 9 rfl jK jK jK hS rfl rfl (by first | rfl | exact decide_eq_false hs48 | (simp [hs48]; done)) rfl rfl ?_
  refine qQ.skip 10 rfl jK jK jK hS rfl rfl (by first | rfl | exact decide_eq_false hs48 | (simp [hs48]; done)) rfl rfl ?_
  refine qQ.skip 11 rfl jK jK jK hS rfl rfl (by first | rfl | exact decide_eq_false hs48 | (simp [hs48]; done)) rfl rfl ?_
  refine qQ.skip 12 rfl jK jK jK hS rfl rfl (by first | rfl | exact decide_eq_false hs48 | (simp [hs48]; done)) rfl rfl ?_
  refine jH 13 rfl hS (fun w0 hw0 => Run.pickF rfl rfl (by first | rfl | exact decide_eq_false hs48 | (simp [hs48]; done))) ?_
  refine qQ.done jK ?_
  refine jN ⟨(), (js5 rfl rfl rfl rfl (jC (by grind))), ?_⟩
  exact hS
 rintro _ wz hfz Γ hΓ
 have hA := hA.nil hfz
 have K := K.trans hfz jp
 refine jN (VC.sub _ hΓ ?_)
 refine jD rfl (fun hc2 => ?_) fun hc2 => ?_
 ·
  refine jQ (jN (jv4 0 1 9 10 ?_))
  refine jB (jR (jm rfl (jb rfl rfl (Bin.sub_i64 _ 1 jo jo) (ja rfl (jO ?_)))))
  refine qW (jN ⟨(j4 - 1), (js4 rfl rfl rfl rfl), ?_, ?_⟩)
  · exact ⟨jo, jo, hA, by rw [← he5]; exact (kJ jo ⟨hc2.1, by simp [ltN]; exact hc2.2⟩).symm, K⟩
  first | omega | (dsimp only; omega)
 have hJ3 : scanDown (fun x => ltN d3[a]! x) d3 i4 j3 = j4 := by rw [← he5]; exact gZ (fun h => hc2 ⟨h.1, by simpa [ltN] using h.2⟩)
 refine jX ?_
 refine qJ (qJ (qN ?_))
 refine jN (jv4 0 1 9 10 ?_)
 refine jS (jS (jR (jm rfl (jm rfl (jb rfl rfl (Bin.gtrN _ _) (jO (jN (jv5 0 1 9 10 64 ?_))))))))
 refine jD rfl (fun hc3 => ?_) fun hc3 => ?_
 ·
  have hst := vH hI3 hJ3 hc3
  rw [hst] at he3
  refine jX ?_
  refine qJ (gM rfl (qJ (qN ?_)))
  refine jN (jv1 9 ?_)
  refine jS (jR (jm rfl (ja rfl (jO (jN (jv1 8 ?_))))))
  refine jT ?_
  refine qR rfl ?_
  rw [← he3]
  exact ⟨rfl, hA, K⟩
 have hst := qXf hI3 hJ3 hc3 q5 q8 jo
 refine jQ (jN (jv4 0 1 9 10 ?_))
 refine jS ?_
 refine VC.held (fun _ => True) jK ?_
 refine jH 0 rfl trivial (fun w0 hw0 => Run.mv rfl) ?_
 refine jH 1 rfl trivial (fun w0 hw0 => Run.mv rfl) ?_
 refine jH 2 rfl trivial (fun w0 hw0 => Run.mv rfl) ?_
 refine jH 3 rfl trivial (fun w0 hw0 => Run.mv rfl) ?_
 refine jH 4 rfl trivial (fun w0 hw0 => Run.mv rfl) ?_
 refine jH 5 rfl trivial (fun w0 hw0 => Run.mv rfl) ?_
 refine jH 6 rfl trivial (fun w0 hw0 => Run.index1 _ rfl rfl ze zd jo) ?_
 refine jH 8 rfl trivial (fun w0 hw0 => Run.mv rfl) ?_
 refine jH 9 rfl trivial (fun w0 hw0 => Run.mv rfl) ?_
 refine jH 10 rfl trivial (fun w0 hw0 => Run.index1 _ rfl rfl ze zd jo) ?_
 refine qQ.r2 7 11 rfl rfl jK jK jK jK trivial rfl rfl (Run.load rfl zk ((hA.nil (qK.drew _).frm).at (i := j4) jo)) (Run.load rfl zk ((hA.nil (qK.drew _).frm).at (i := i4) jo)) (Run.load rfl zk ((hA.nil (qK.drew _).frm).at (i := i4) jo)) (Run.load rfl zk ((hA.nil (qK.drew _).frm).at (i := j4) jo)) rfl rfl rfl rfl rfl ?_
 refine jH 12 rfl trivial (fun w0 hw0 => Run.index1 _ rfl rfl ze zd jo) ?_
 refine qQ.st 13 rfl jK (qP.storeOwn (i4) rfl rfl zd (hA.nil (qK.drew _).frm).2 rfl jo rfl) trivial rfl ?_
 rintro w6a ⟨ho_a, hf_a, hs_a⟩
 refine ⟨trivial, ?_⟩
 refine jH 14 rfl trivial (fun w0 hw0 => Run.index1 _ rfl rfl ze zd jo) ?_
 refine qQ.st 15 rfl jK (qP.storeOwn (j4) rfl rfl zd ho_a rfl jo rfl) trivial rfl ?_
 rintro w6 ⟨ho_b, hf_b, hs_b⟩
 have hAs := AO.swp hA.1 ho_b
 have hKs := ((qK.drew _).frm.mono (T := ob (some ad)) jp).trans (hf_a.trans hf_b (fun x hx => .inl hx)) (fun x hx => .inl hx)
 refine ⟨trivial, ?_⟩
 refine qQ.done jK ?_
 refine jN (jv4 0 1 9 10 ?_)
 refine jS (jR (jm rfl (jb rfl rfl (Bin.add_i64 _ 1 jo) (ja rfl (jO (jN (jv4 0 1 9 10 ?_)))))))
 refine jR (jm rfl (jb rfl rfl (Bin.sub_i64 _ 1 jo jo) (ja rfl (jO ?_))))
 refine qW (jN ⟨(i4 + 1, j4 - 1, swp d3 i4 j4), (js4 rfl rfl rfl rfl), ?_, ?_⟩)
 · exact ⟨by dsimp only; omega, by dsimp only; omega, by dsimp only; omega, by dsimp only; omega, hAs, by rw [← he3, hst], K.trans hKs (fun x hx => .inl hx)⟩
 first | omega | (dsimp only; omega)
end
section
open Go.RowKit Go.Sort
theorem sJ {b i : Nat} {d : Array Nat} (h : i < b ∧ ¬ d[i]! < d[i - 1]!) : scanSorted ltN d b i = scanSorted ltN d b (i + 1) := by
 conv => lhs; unfold scanSorted
 rw [if_pos (by simp [ltN]; omega)]
theorem pR {b i : Nat} {d : Array Nat} (h : ¬ (i < b ∧ ¬ d[i]! < d[i - 1]!)) : scanSorted ltN d b i = i := by
 unfold scanSorted
 rw [if_neg (by simp [ltN]; omega)]
theorem tE {j : Nat} {d : Array Nat} (h0 : 0 < j) (h : d[j]! < d[j - 1]!) : shiftDown ltN j d = shiftDown ltN (j - 1) (swp d j (j - 1)) := by
 obtain ⟨k, rfl⟩ : ∃ k, j = k + 1 := ⟨j - 1, jo⟩
 rw [shiftDown, if_neg (by simp [ltN] at *; omega)]
 rfl
theorem pO {j : Nat} {d : Array Nat} (h : ¬ d[j]! < d[j - 1]!) : shiftDown ltN j d = d := by
 cases j with
 | zero => rfl
 | succ k => rw [shiftDown, if_pos (by simp [ltN] at *; omega)]
theorem yO {b j : Nat} {d : Array Nat} (h0 : j < b) (h : d[j]! < d[j - 1]!) : shiftUp ltN b j d = shiftUp ltN b (j + 1) (swp d j (j - 1)) := by
 conv => lhs; unfold shiftUp
 rw [if_pos h0, if_neg (by simp [ltN]; omega)]
theorem mE {b j : Nat} {d : Array Nat} (h : ¬ (j < b ∧ d[j]! < d[j - 1]!)) : shiftUp ltN b j d = d := by
 unfold shiftUp
 split
 ·
  rename_i h1
  rw [if_pos (by simp [ltN]; omega)]
 rfl
theorem qXh {a b s i : Nat} {d : Array Nat} (h : scanSorted ltN d b i = b) : partialIns ltN a b (s + 1) i d = (d, true) := by
 rw [partialIns]
 dsimp only
 rw [h, if_pos rfl]
theorem zQ {a b s i i2 : Nat} {d : Array Nat} (h : scanSorted ltN d b i = i2) (h2 : i2 ≠ b) (h3 : b - a < 50) : partialIns ltN a b (s + 1) i d = (d, false) := by
 rw [partialIns]
 dsimp only
 rw [h, if_neg h2, if_pos h3]
theorem qKy {a b s i i2 : Nat} {d d2 d3 : Array Nat} (h : scanSorted ltN d b i = i2) (h2 : i2 ≠ b) (h3 : ¬ b - a < 50) (e2 : d2 = if 2 ≤ i2 - a then shiftDown ltN (i2 - 1) (swp d i2 (i2 - 1)) else swp d i2 (i2 - 1)) (e3 : d3 = if 2 ≤ b - i2 then shiftUp ltN b (i2 + 1) d2 else d2) : partialIns ltN a b (s + 1) i d = partialIns ltN a b s i2 d3 := by
 conv => lhs; rw [partialIns]
 dsimp only
 rw [h, if_neg h2, if_neg h3, e3, e2]
set_option maxHeartbeats 1000000 in
theorem zX (B : Option Addr) (c N : Nat) (d : Array Nat) (w : World) (h : AO w B c N d) (hN : N ≤ 1000000) (a b : Nat) (ha : a < b) (hb : b ≤ N) :
  Calls Tryz.prog 146 #[.slice B N c, .int .i64 ((a : Nat) : Int), .int .i64 ((b : Nat) : Int)] w fun e w' => e = .returned (.bool (partialInsertionSort ltN d a b).2) ∧ AO w' B c N (partialInsertionSort ltN d a b).1 ∧ Frm (ob B) w w' := by
 obtain ⟨ad, rfl⟩ := h.adr jo
 have hA := h
 refine VC.calls (nt := 133) (res := #[.tmp 6]) Tryz.func146 rfl Tryz.ntmps146 Tryz.results146 rfl ?_
 refine jS (jR (ja rfl (jO (jN (jv3 0 1 2 ?_)))))
 refine jS (jR (jm rfl (jb rfl rfl (Bin.add_i64 _ 1 jo) (ja rfl (jO (jN (jv4 0 1 2 7 ?_)))))))
 refine jS (jS (jR (jz 0 (jO (jN (jB ?_))))))
 refine VC.loop (σ := Nat × Nat × Array Nat) (fun s => [(0, .slice (some ad) N c), (1, .int .i64 ((a : Nat) : Int)), (2, .int .i64 ((b : Nat) : Int)), (7, .int .i64 ((s.2.1 : Nat) : Int)), (8, .int .i64 ((s.1 : Nat) : Int))]) (fun s wr => s.1 ≤ 5 ∧ a + 1 ≤ s.2.1 ∧ s.2.1 ≤ b ∧ AO wr (some ad) c N s.2.2 ∧ partialIns ltN a b (5 - s.1) s.2.1 s.2.2 = partialInsertionSort ltN d a b ∧ Frm (ob (some ad)) w wr) (fun s => 5 - s.1) (0, a + 1, d) (js5 rfl rfl rfl rfl rfl) ⟨by dsimp only; omega, by dsimp only; omega, by dsimp only; omega, hA, rfl, Frm.refl _ _⟩ ?_
 rintro ⟨n, i, di⟩ wr ⟨q1, q2, q3, hA, he, K⟩
 dsimp only at *
 refine jS (jS (jR (jm rfl (jb rfl rfl (Bin.lssN _ 5) (jO (jN (jv6 0 1 2 7 8 14 ?_)))))))
 refine jD rfl (fun hc1 => ?_) fun hc1 => ?_
 ·
  obtain ⟨s, hs⟩ : ∃ s, 5 - n = s + 1 := ⟨5 - n - 1, jo⟩
  rw [hs] at he
  have hs2 : 5 - (n + 1) = s := jo
  refine jQ (jN (jv5 0 1 2 7 8 ?_))
  refine jS (jB (jS (jB ?_)))
  refine VC.loop (σ := Nat) (fun s => [(0, .slice (some ad) N c), (1, .int .i64 ((a : Nat) : Int)), (2, .int .i64 ((b : Nat) : Int)), (7, .int .i64 ((s : Nat) : Int)), (8, .int .i64 ((n : Nat) : Int))]) (fun s wr => i ≤ s ∧ s ≤ b ∧ AO wr (some ad) c N di ∧ scanSorted ltN di b s = scanSorted ltN di b i ∧ Frm (ob (some ad)) w wr) (fun s => b - s) i (js5 rfl rfl rfl rfl rfl) ⟨zw _, q3, hA, rfl, K⟩ ?_
  rintro k wr ⟨q4, q5, hA, he2, K⟩
  refine jS (jS ?_)
  refine VC.meet (σ := Unit) (fun s => [(0, .slice (some ad) N c), (1, .int .i64 ((a : Nat) : Int)), (2, .int .i64 ((b : Nat) : Int)), (7, .int .i64 ((k : Nat) : Int)), (8, .int .i64 ((n : Nat) : Int)), (32, .bool (decide (k < b ∧ ¬ di[k]! < di[k - 1]!)))]) (fun s wz => Frm [] wr wz) ?_ ?_
  ·
   refine VC.held (fun W => Frm [] wr W) jK ?_
   have hS : Frm [] wr wr.drew := (Frm.refl _ _).drew
   refine jH 0 rfl hS (fun w0 hw0 => Run.mv rfl) ?_
   refine jH 1 rfl hS (fun w0 hw0 => Run.mv rfl) ?_
   refine jH 2 rfl hS (fun w0 hw0 => Run.bin rfl rfl (Bin.lssN _ _)) ?_
   by_cases hs19 : k < b
   ·
    refine jH 3 rfl hS (fun w0 hw0 => Run.mv rfl) ?_
    refine qQ.take 4 rfl jK jK jK hS (fun w0 hw0 => Run.mv rfl) (Up.g rfl (by first | rfl | exact decide_eq_true hs19 | (simp [hs19]; done))) rfl rfl ?_
    refine qQ.take 5 rfl jK jK jK hS (fun w0 hw0 => Run.mv rfl) (Up.g rfl (by first | rfl | exact decide_eq_true hs19 | (simp [hs19]; done))) rfl rfl ?_
    refine qQ.take 6 rfl jK jK jK hS (fun w0 hw0 => Run.index1 _ rfl rfl ze zd jo) (Up.g rfl (by first | rfl | exact decide_eq_true hs19 | (simp [hs19]; done))) rfl rfl ?_
    refine qQ.take 7 rfl jK jK jK hS (fun w0 hw0 => Run.load rfl zk ((hA.nil hw0).at (i := k) jo)) (Up.g rfl (by first | rfl | exact decide_eq_true hs19 | (simp [hs19]; done))) rfl rfl ?_
    refine qQ.take 8 rfl jK jK jK hS (fun w0 hw0 => Run.mv rfl) (Up.g rfl (by first | rfl | exact decide_eq_true hs19 | (simp [hs19]; done))) rfl rfl ?_
    refine qQ.take 9 rfl jK jK jK hS (fun w0 hw0 => Run.mv rfl) (Up.g rfl (by first | rfl | exact decide_eq_true hs19 | (simp [hs19]; done))) rfl rfl ?_
    refine qQ.take 10 rfl jK jK jK hS (fun w0 hw0 => Run.bin rfl rfl (Bin.sub_i64 _ 1 jo jo)) (Up.g rfl (by first | rfl | exact decide_eq_true hs19 | (simp [hs19]; done))) rfl rfl ?_
    refine qQ.take 11 rfl jK jK jK hS (fun w0 hw0 => Run.index1 _ rfl rfl ze zd jo) (Up.g rfl (by first | rfl | exact decide_eq_true hs19 | (simp [hs19]; done))) rfl rfl ?_
    refine qQ.take 12 rfl jK jK jK hS (fun w0 hw0 => Run.load rfl zk ((hA.nil hw0).at (i := k - 1) jo)) (Up.g rfl (by first | rfl | exact decide_eq_true hs19 | (simp [hs19]; done))) rfl rfl ?_
    refine qQ.cl 13 rfl jK (jE2 zcn) (bI _ _ _) (Up.g rfl (by first | rfl | exact decide_eq_true hs19 | (simp [hs19]; done))) rfl rfl ?_
    rintro e _ ⟨rfl, rfl⟩
    refine ⟨_, rfl, hS, ?_⟩
    by_cases hs30 : di[k]! < di[k - 1]!
    ·
     refine qQ.take 14 rfl jK jK jK hS (fun w0 hw0 => Run.not rfl) (Up.g rfl (by first | rfl | exact decide_eq_true hs19 | exact decide_eq_true hs30 | (simp [hs19]; done) | (simp [hs30]; done))) rfl rfl ?_
     refine jH 15 rfl hS (fun w0 hw0 => Run.pickT rfl rfl (by first | rfl | exact decide_eq_true hs19 | exact decide_eq_true hs30 | (simp [hs19]; done) | (simp [hs30]; done))) ?_
     refine qQ.done jK ?_
     refine jN ⟨(), (js6 rfl rfl rfl rfl rfl (jC (by grind))), ?_⟩
     exact hS
    refine qQ.take 14 rfl jK jK jK hS (fun w0 hw0 => Run.not rfl) (Up.g rfl (by first | rfl | exact decide_eq_true hs19 | exact decide_eq_false hs30 | (simp [hs19]; done) | (simp [hs30]; done))) rfl rfl ?_
    refine jH 15 rfl hS (fun w0 hw0 => Run.pickT rfl rfl (by first | rfl | exact decide_eq_true hs19 | exact decide_eq_false hs30 | (simp [hs19]; done) | (simp [hs30]; done))) ?_
    refine qQ.done jK ?_
    refine jN ⟨(), (js6 rfl rfl rfl rfl rfl (jC (by grind))), ?_⟩
    exact hS
   refine jH 3 rfl hS (fun w0 hw0 => Run.mv rfl) ?_
   refine qQ.skip 4 rfl jK jK jK hS rfl rfl (by first | rfl | exact decide_eq_false hs19 | (simp [hs19]; done)) rfl rfl ?_
   refine qQ.skip 5 rfl jK jK jK hS rfl rfl (by first | rfl | exact decide_eq_false hs19 | (simp [hs19]; done)) rfl rfl ?_
   refine qQ.skip 6 rfl jK jK jK hS rfl rfl (by first | rfl | exact decide_eq_false hs19 | (simp [hs19]; done)) rfl rfl ?_
   refine qQ.skip 7 rfl jK jK jK hS rfl rfl (by first | rfl | exact decide_eq_false hs19 | (simp [hs19]; done)) rfl rfl ?_
   refine qQ.skip 8 rfl jK jK jK hS rfl rfl (by first | rfl | exact decide_eq_false hs19 | (simp [hs19]; done)) rfl rfl ?_
   refine qQ.skip 9 rfl jK jK jK hS rfl rfl (by first | rfl | exact decide_eq_false hs19 | (simp [hs19]; done)) rfl rfl ?_
   refine qQ.skip 10 rfl jK jK jK hS rfl rfl (by first | rfl | exact decide_eq_false hs19 | (simp [hs19]; done)) rfl rfl ?_
   refine qQ.skip 11 rfl jK jK jK hS rfl rfl (by first | rfl | exact decide_eq_false hs19 | (simp [hs19]; done)) rfl rfl ?_
   refine qQ.skip 12 rfl jK jK jK hS rfl rfl (by first | rfl | exact decide_eq_false hs19 | (simp [hs19]; done)) rfl rfl ?_
   refine qQ.skip 13 rfl jK jK jK hS rfl rfl (by first | rfl | exact decide_eq_false hs19 | (simp [hs19]; done)) rfl rfl ?_
   refine qQ.skip 14 rfl jK jK jK hS rfl rfl (by first | rfl | exact decide_eq_false hs19 | (simp [hs19]; done)) rfl rfl ?_
   refine jH 15 rfl hS (fun w0 hw0 => Run.pickF rfl rfl (by first | rfl | exact decide_eq_false hs19 | (simp [hs19]; done))) ?_
   refine qQ.done jK ?_
   refine jN ⟨(), (js6 rfl rfl rfl rfl rfl (jC (by grind))), ?_⟩
   exact hS
  rintro _ wz hfz Γ hΓ
  have hA := hA.nil hfz
  have K := K.trans hfz jp
  refine jN (VC.sub _ hΓ ?_)
  refine jD rfl (fun hc2 => ?_) fun hc2 => ?_
  ·
   refine jQ (jN (jv5 0 1 2 7 8 ?_))
   refine jB (jR (jm rfl (jb rfl rfl (Bin.add_i64 _ 1 jo) (ja rfl (jO ?_)))))
   refine qW (jN ⟨(k + 1), (js5 rfl rfl rfl rfl rfl), ?_, ?_⟩)
   · exact ⟨jo, jo, hA, by rw [← he2]; exact (sJ hc2).symm, K⟩
   first | omega | (dsimp only; omega)
  have hI : scanSorted ltN di b i = k := by rw [← he2]; exact pR hc2
  refine jX ?_
  refine qJ (qJ (qN ?_))
  refine jN (jv5 0 1 2 7 8 ?_)
  refine jS (jS (jR (jm rfl (jm rfl (jb rfl rfl (Bin.eqlN _ _) (jO (jN (jv6 0 1 2 7 8 37 ?_))))))))
  refine jD rfl (fun hc3 => ?_) fun hc3 => ?_
  ·
   have hF := qXh (a := a) (s := s) (hI.trans hc3)
   rw [hF] at he
   rw [← he]
   refine jS (jR (ja rfl (jO (jN (jv1 6 ?_)))))
   refine jT ?_
   refine qZ (qH (qZ (qZ (qH (qZ (qR rfl ?_))))))
   exact ⟨rfl, hA, K⟩
  refine jQ (jN (jv5 0 1 2 7 8 ?_))
  refine jS (jS (jR (jm rfl (jm rfl (jb rfl rfl (Bin.sub_i64 _ _ jo jo) (jb rfl rfl (Bin.lssN _ 50) (jO (jN (jv6 0 1 2 7 8 41 ?_)))))))))
  refine jD rfl (fun hc4 => ?_) fun hc4 => ?_
  ·
   have hF := zQ (a := a) (s := s) hI hc3 hc4
   rw [hF] at he
   rw [← he]
   refine jS (jR (ja rfl (jO (jN (jv1 6 ?_)))))
   refine jT ?_
   refine qZ (qH (qZ (qZ (qH (qZ (qR rfl ?_))))))
   exact ⟨rfl, hA, K⟩
  refine jQ (jN (jv5 0 1 2 7 8 ?_))
  refine jS ?_
  refine VC.held (fun _ => True) jK ?_
  refine jH 0 rfl trivial (fun w0 hw0 => Run.mv rfl) ?_
  refine jH 1 rfl trivial (fun w0 hw0 => Run.mv rfl) ?_
  refine jH 2 rfl trivial (fun w0 hw0 => Run.mv rfl) ?_
  refine jH 3 rfl trivial (fun w0 hw0 => Run.mv rfl) ?_
  refine jH 4 rfl trivial (fun w0 hw0 => Run.bin rfl rfl (Bin.sub_i64 _ 1 jo jo)) ?_
  refine jH 5 rfl trivial (fun w0 hw0 => Run.mv rfl) ?_
  refine jH 6 rfl trivial (fun w0 hw0 => Run.mv rfl) ?_
  refine jH 7 rfl trivial (fun w0 hw0 => Run.bin rfl rfl (Bin.sub_i64 _ 1 jo jo)) ?_
  refine jH 8 rfl trivial (fun w0 hw0 => Run.index1 _ rfl rfl ze zd jo) ?_
  refine jH 10 rfl trivial (fun w0 hw0 => Run.mv rfl) ?_
  refine jH 11 rfl trivial (fun w0 hw0 => Run.mv rfl) ?_
  refine jH 12 rfl trivial (fun w0 hw0 => Run.index1 _ rfl rfl ze zd jo) ?_
  refine qQ.r2 9 13 rfl rfl jK jK jK jK trivial rfl rfl (Run.load rfl zk ((hA.nil (qK.drew _).frm).at (i := k - 1) jo)) (Run.load rfl zk ((hA.nil (qK.drew _).frm).at (i := k) jo)) (Run.load rfl zk ((hA.nil (qK.drew _).frm).at (i := k) jo)) (Run.load rfl zk ((hA.nil (qK.drew _).frm).at (i := k - 1) jo)) rfl rfl rfl rfl rfl ?_
  refine jH 14 rfl trivial (fun w0 hw0 => Run.index1 _ rfl rfl ze zd jo) ?_
  refine qQ.st 15 rfl jK (qP.storeOwn (k) rfl rfl zd (hA.nil (qK.drew _).frm).2 rfl jo rfl) trivial rfl ?_
  rintro w1a ⟨ho_a, hf_a, hs_a⟩
  refine ⟨trivial, ?_⟩
  refine jH 16 rfl trivial (fun w0 hw0 => Run.index1 _ rfl rfl ze zd jo) ?_
  refine qQ.st 17 rfl jK (qP.storeOwn (k - 1) rfl rfl zd ho_a rfl jo rfl) trivial rfl ?_
  rintro w1 ⟨ho_b, hf_b, hs_b⟩
  have hAs := AO.swp hA.1 ho_b
  have hKs := ((qK.drew _).frm.mono (T := ob (some ad)) jp).trans (hf_a.trans hf_b (fun x hx => .inl hx)) (fun x hx => .inl hx)
  refine ⟨trivial, ?_⟩
  refine qQ.done jK ?_
  refine jN (jv5 0 1 2 7 8 ?_)
  refine jS (jS (jR (jm rfl (jm rfl (jb rfl rfl (Bin.sub_i64 _ _ jo jo) (jb rfl rfl (Bin.geqN _ 2) (jO (jN (jv6 0 1 2 7 8 61 ?_)))))))))
  refine VC.meet (σ := Array Nat) (fun s => [(0, .slice (some ad) N c), (1, .int .i64 ((a : Nat) : Int)), (2, .int .i64 ((b : Nat) : Int)), (7, .int .i64 ((k : Nat) : Int)), (8, .int .i64 ((n : Nat) : Int))]) (fun s wm => s = (if 2 ≤ k - a then shiftDown ltN (k - 1) (swp di k (k - 1)) else swp di k (k - 1)) ∧ AO wm (some ad) c N s ∧ Frm (ob (some ad)) w wm) ?_ ?_
  ·
   refine jD rfl (fun hc5 => ?_) fun hc5 => ?_
   ·
    refine jS (jR (jm rfl (jb rfl rfl (Bin.sub_i64 _ 1 jo jo) (ja rfl (jO (jN (jv6 0 1 2 7 8 9 ?_)))))))
    refine jB ?_
    have hA := hAs
    have K := K.trans hKs (fun x hx => .inl hx)
    refine VC.loop (σ := Nat × Array Nat) (fun s => [(0, .slice (some ad) N c), (1, .int .i64 ((a : Nat) : Int)), (2, .int .i64 ((b : Nat) : Int)), (7, .int .i64 ((k : Nat) : Int)), (8, .int .i64 ((n : Nat) : Int)), (9, .int .i64 ((s.1 : Nat) : Int))]) (fun s wr => s.1 ≤ k - 1 ∧ AO wr (some ad) c N s.2 ∧ shiftDown ltN s.1 s.2 = shiftDown ltN (k - 1) (swp di k (k - 1)) ∧ Frm (ob (some ad)) w wr) (fun s => s.1) (k - 1, swp di k (k - 1)) (js6 rfl rfl rfl rfl rfl rfl) ⟨zw _, hA, rfl, K⟩ ?_
    rintro ⟨j, dj⟩ wr ⟨q6, hA, he3, K⟩
    dsimp only at *
    refine jS (jS (jR (jm rfl (jb rfl rfl (Bin.geqN _ 1) (jO (jN (jv7 0 1 2 7 8 9 65 ?_)))))))
    refine jD rfl (fun hc6 => ?_) fun hc6 => ?_
    ·
     refine jQ (jN (jv6 0 1 2 7 8 9 ?_))
     refine jS (jB (jS (jS ?_)))
     refine VC.held (fun W => Frm [] wr W) jK ?_
     have hS : Frm [] wr wr.drew := (Frm.refl _ _).drew
     refine jH 0 rfl hS (fun w0 hw0 => Run.mv rfl) ?_
     refine jH 1 rfl hS (fun w0 hw0 => Run.mv rfl) ?_
     refine jH 2 rfl hS (fun w0 hw0 => Run.index1 _ rfl rfl ze zd jo) ?_
     refine jH 3 rfl hS (fun w0 hw0 => Run.load rfl zk ((hA.nil hw0).at (i := j) jo)) ?_
     refine jH 4 rfl hS (fun w0 hw0 => Run.mv rfl) ?_
     refine jH 5 rfl hS (fun w0 hw0 => Run.mv rfl) ?_
     refine jH 6 rfl hS (fun w0 hw0 => Run.bin rfl rfl (Bin.sub_i64 _ 1 jo jo)) ?_
     refine jH 7 rfl hS (fun w0 hw0 => Run.index1 _ rfl rfl ze zd jo) ?_
     refine jH 8 rfl hS (fun w0 hw0 => Run.load rfl zk ((hA.nil hw0).at (i := j - 1) jo)) ?_
     refine qQ.cl 9 rfl jK (jE2 zcn) (bI _ _ _) trivial rfl rfl ?_
     rintro e _ ⟨rfl, rfl⟩
     refine ⟨_, rfl, hS, ?_⟩
     refine jH 10 rfl hS (fun w0 hw0 => Run.not rfl) ?_
     refine qQ.done jK ?_
     refine jN (jv7 0 1 2 7 8 9 78 ?_)
     refine VC.condB rfl (fun hc7 => ?_) (fun hc7 => ?_)
     ·
      have hc7 : ¬ dj[j]! < dj[j - 1]! := by simpa using hc7
      have hA := hA.nil hS
      have K := K.trans hS jp
      refine jX ?_
      refine qJ (gM rfl (qJ (qJ (qN ?_))))
      refine jN ⟨dj, (js5 rfl rfl rfl rfl rfl), ?_⟩
      exact ⟨by rw [if_pos hc5, ← he3, pO hc7], hA, K⟩
     have hc7 : dj[j]! < dj[j - 1]! := by simpa using hc7
     have hA := hA.nil hS
     have K := K.trans hS jp
     refine jQ (jN (jv6 0 1 2 7 8 9 ?_))
     refine VC.held (fun _ => True) jK ?_
     refine jH 0 rfl trivial (fun w0 hw0 => Run.mv rfl) ?_
     refine jH 1 rfl trivial (fun w0 hw0 => Run.mv rfl) ?_
     refine jH 2 rfl trivial (fun w0 hw0 => Run.mv rfl) ?_
     refine jH 3 rfl trivial (fun w0 hw0 => Run.mv rfl) ?_
     refine jH 4 rfl trivial (fun w0 hw0 => Run.bin rfl rfl (Bin.sub_i64 _ 1 jo jo)) ?_
     refine jH 5 rfl trivial (fun w0 hw0 => Run.mv rfl) ?_
     refine jH 6 rfl trivial (fun w0 hw0 => Run.mv rfl) ?_
     refine jH 7 rfl trivial (fun w0 hw0 => Run.bin rfl rfl (Bin.sub_i64 _ 1 jo jo)) ?_
     refine jH 8 rfl trivial (fun w0 hw0 => Run.index1 _ rfl rfl ze zd jo) ?_
     refine jH 10 rfl trivial (fun w0 hw0 => Run.mv rfl) ?_
     refine jH 11 rfl trivial (fun w0 hw0 => Run.mv rfl) ?_
     refine jH 12 rfl trivial (fun w0 hw0 => Run.index1 _ rfl rfl ze zd jo) ?_
     refine qQ.r2 9 13 rfl rfl jK jK jK jK trivial rfl rfl (Run.load rfl zk ((hA.nil (qK.drew _).frm).at (i := j - 1) jo)) (Run.load rfl zk ((hA.nil (qK.drew _).frm).at (i := j) jo)) (Run.load rfl zk ((hA.nil (qK.drew _).frm).at (i := j) jo)) (Run.load rfl zk ((hA.nil (qK.drew _).frm).at (i := j - 1) jo)) rfl rfl rfl rfl rfl ?_
     refine jH 14 rfl trivial (fun w0 hw0 => Run.index1 _ rfl rfl ze zd jo) ?_
     refine qQ.st 15 rfl jK (qP.storeOwn (j) rfl rfl zd (hA.nil (qK.drew _).frm).2 rfl jo rfl) trivial rfl ?_
     rintro w2a ⟨ho_a, hf_a, hs_a⟩
     refine ⟨trivial, ?_⟩
     refine jH 16 rfl trivial (fun w0 hw0 => Run.index1 _ rfl rfl ze zd jo) ?_
     refine qQ.st 17 rfl jK (qP.storeOwn (j - 1) rfl rfl zd ho_a rfl jo rfl) trivial rfl ?_
     rintro w2 ⟨ho_b, hf_b, hs_b⟩
     have hAs := AO.swp hA.1 ho_b
     have hKs := ((qK.drew _).frm.mono (T := ob (some ad)) jp).trans (hf_a.trans hf_b (fun x hx => .inl hx)) (fun x hx => .inl hx)
     refine ⟨trivial, ?_⟩
     refine qQ.done jK ?_
     refine qW (jN ?_)
     refine jv6 0 1 2 7 8 9 ?_
     refine jR (jm rfl (jb rfl rfl (Bin.sub_i64 _ 1 jo jo) (ja rfl (jO ?_))))
     refine jN ⟨(j - 1, swp dj j (j - 1)), (js6 rfl rfl rfl rfl rfl rfl), ?_, ?_⟩
     · exact ⟨by dsimp only; omega, hAs, by rw [← he3, tE jo hc7], K.trans hKs (fun x hx => .inl hx)⟩
     first | omega | (dsimp only; omega)
    refine jX ?_
    refine qJ (qJ (qN ?_))
    refine jN ⟨dj, (js5 rfl rfl rfl rfl rfl), ?_⟩
    exact ⟨by rw [if_pos hc5, ← he3, show j = 0 by omega]; rfl, hA, K⟩
   refine jQ ?_
   refine jN ⟨(swp di k (k - 1)), (js5 rfl rfl rfl rfl rfl), ?_⟩
   exact ⟨by rw [if_neg hc5], hAs, K.trans hKs (fun x hx => .inl hx)⟩
  rintro d2 wm ⟨e2, hA, K⟩ Γ hΓ
  refine jN (VC.sub _ hΓ (jS (jR (jm rfl (jm rfl (jb rfl rfl (Bin.sub_i64 _ _ jo jo) (jb rfl rfl (Bin.geqN _ 2) (jO (jN (jv6 0 1 2 7 8 98 ?_))))))))))
  refine VC.meet (σ := Array Nat) (fun s => [(0, .slice (some ad) N c), (1, .int .i64 ((a : Nat) : Int)), (2, .int .i64 ((b : Nat) : Int)), (7, .int .i64 ((k : Nat) : Int)), (8, .int .i64 ((n : Nat) : Int))]) (fun s wm2 => s = (if 2 ≤ b - k then shiftUp ltN b (k + 1) d2 else d2) ∧ AO wm2 (some ad) c N s ∧ Frm (ob (some ad)) w wm2) ?_ ?_
  ·
   refine jD rfl (fun hc8 => ?_) fun hc8 => ?_
   ·
    refine jS (jR (jm rfl (jb rfl rfl (Bin.add_i64 _ 1 jo) (ja rfl (jO (jN (jv6 0 1 2 7 8 10 ?_)))))))
    refine jB ?_
    refine VC.loop (σ := Nat × Array Nat) (fun s => [(0, .slice (some ad) N c), (1, .int .i64 ((a : Nat) : Int)), (2, .int .i64 ((b : Nat) : Int)), (7, .int .i64 ((k : Nat) : Int)), (8, .int .i64 ((n : Nat) : Int)), (10, .int .i64 ((s.1 : Nat) : Int))]) (fun s wr => k + 1 ≤ s.1 ∧ s.1 ≤ b ∧ AO wr (some ad) c N s.2 ∧ shiftUp ltN b s.1 s.2 = shiftUp ltN b (k + 1) d2 ∧ Frm (ob (some ad)) w wr) (fun s => b - s.1) (k + 1, d2) (js6 rfl rfl rfl rfl rfl rfl) ⟨zw _, by dsimp only; omega, hA, rfl, K⟩ ?_
    rintro ⟨j, dj⟩ wr ⟨q6, q7, hA, he3, K⟩
    dsimp only at *
    refine jS (jS (jR (jm rfl (jm rfl (jb rfl rfl (Bin.lssN _ _) (jO (jN (jv7 0 1 2 7 8 10 103 ?_))))))))
    refine jD rfl (fun hc9 => ?_) fun hc9 => ?_
    ·
     refine jQ (jN (jv6 0 1 2 7 8 10 ?_))
     refine jS (jB (jS (jS ?_)))
     refine VC.held (fun W => Frm [] wr W) jK ?_
     have hS : Frm [] wr wr.drew := (Frm.refl _ _).drew
     refine jH 0 rfl hS (fun w0 hw0 => Run.mv rfl) ?_
     refine jH 1 rfl hS (fun w0 hw0 => Run.mv rfl) ?_
     refine jH 2 rfl hS (fun w0 hw0 => Run.index1 _ rfl rfl ze zd jo) ?_
     refine jH 3 rfl hS (fun w0 hw0 => Run.load rfl zk ((hA.nil hw0).at (i := j) jo)) ?_
     refine jH 4 rfl hS (fun w0 hw0 => Run.mv rfl) ?_
     refine jH 5 rfl hS (fun w0 hw0 => Run.mv rfl) ?_
     refine jH 6 rfl hS (fun w0 hw0 => Run.bin rfl rfl (Bin.sub_i64 _ 1 jo jo)) ?_
     refine jH 7 rfl hS (fun w0 hw0 => Run.index1 _ rfl rfl ze zd jo) ?_
     refine jH 8 rfl hS (fun w0 hw0 => Run.load rfl zk ((hA.nil hw0).at (i := j - 1) jo)) ?_
     refine qQ.cl 9 rfl jK (jE2 zcn) (bI _ _ _) trivial rfl rfl ?_
     rintro e _ ⟨rfl, rfl⟩
     refine ⟨_, rfl, hS, ?_⟩
     refine jH 10 rfl hS (fun w0 hw0 => Run.not rfl) ?_
     refine qQ.done jK ?_
     refine jN (jv7 0 1 2 7 8 10 116 ?_)
     refine VC.condB rfl (fun hc10 => ?_) (fun hc10 => ?_)
     ·
      have hc10 : ¬ dj[j]! < dj[j - 1]! := by simpa using hc10
      have hA := hA.nil hS
      have K := K.trans hS jp
      refine jX ?_
      refine qJ (gM rfl (qJ (qJ (qN ?_))))
      refine jN ⟨dj, (js5 rfl rfl rfl rfl rfl), ?_⟩
      exact ⟨by rw [if_pos hc8, ← he3, mE (fun h => hc10 h.2)], hA, K⟩
     have hc10 : dj[j]! < dj[j - 1]! := by simpa using hc10
     have hA := hA.nil hS
     have K := K.trans hS jp
     refine jQ (jN (jv6 0 1 2 7 8 10 ?_))
     refine VC.held (fun _ => True) jK ?_
     refine jH 0 rfl trivial (fun w0 hw0 => Run.mv rfl) ?_
     refine jH 1 rfl trivial (fun w0 hw0 => Run.mv rfl) ?_
     refine jH 2 rfl trivial (fun w0 hw0 => Run.mv rfl) ?_
     refine jH 3 rfl trivial (fun w0 hw0 => Run.mv rfl) ?_
     refine jH 4 rfl trivial (fun w0 hw0 => Run.bin rfl rfl (Bin.sub_i64 _ 1 jo jo)) ?_
     refine jH 5 rfl trivial (fun w0 hw0 => Run.mv rfl) ?_
     refine jH 6 rfl trivial (fun w0 hw0 => Run.mv rfl) ?_
     refine jH 7 rfl trivial (fun w0 hw0 => Run.bin rfl rfl (Bin.sub_i64 _ 1 jo jo)) ?_
     refine jH 8 rfl trivial (fun w0 hw0 => Run.index1 _ rfl rfl ze zd jo) ?_
     refine jH 10 rfl trivial (fun w0 hw0 => Run.mv rfl) ?_
     refine jH 11 rfl trivial (fun w0 hw0 => Run.mv rfl) ?_
     refine jH 12 rfl trivial (fun w0 hw0 => Run.index1 _ rfl rfl ze zd jo) ?_
     refine qQ.r2 9 13 rfl rfl jK jK jK jK trivial rfl rfl (Run.load rfl zk ((hA.nil (qK.drew _).frm).at (i := j - 1) jo)) (Run.load rfl zk ((hA.nil (qK.drew _).frm).at (i := j) jo)) (Run.load rfl zk ((hA.nil (qK.drew _).frm).at (i := j) jo)) (Run.load rfl zk ((hA.nil (qK.drew _).frm).at (i := j - 1) jo)) rfl rfl rfl rfl rfl ?_
     refine jH 14 rfl trivial (fun w0 hw0 => Run.index1 _ rfl rfl ze zd jo) ?_
     refine qQ.st 15 rfl jK (qP.storeOwn (j) rfl rfl zd (hA.nil (qK.drew _).frm).2 rfl jo rfl) trivial rfl ?_
     rintro w3a ⟨ho_a, hf_a, hs_a⟩
     refine ⟨trivial, ?_⟩
     refine jH 16 rfl trivial (fun w0 hw0 => Run.index1 _ rfl rfl ze zd jo) ?_
     refine qQ.st 17 rfl jK (qP.storeOwn (j - 1) rfl rfl zd ho_a rfl jo rfl) trivial rfl ?_
     rintro w3 ⟨ho_b, hf_b, hs_b⟩
     have hAs := AO.swp hA.1 ho_b
     have hKs := ((qK.drew _).frm.mono (T := ob (some ad)) jp).trans (hf_a.trans hf_b (fun x hx => .inl hx)) (fun x hx => .inl hx)
     refine ⟨trivial, ?_⟩
     refine qQ.done jK ?_
     refine qW (jN ?_)
     refine jv6 0 1 2 7 8 10 ?_
     refine jR (jm rfl (jb rfl rfl (Bin.add_i64 _ 1 jo) (ja rfl (jO ?_))))
     refine jN ⟨(j + 1, swp dj j (j - 1)), (js6 rfl rfl rfl rfl rfl rfl), ?_, ?_⟩
     · exact ⟨by dsimp only; omega, by dsimp only; omega, hAs, by rw [← he3, yO hc9 hc10], K.trans hKs (fun x hx => .inl hx)⟩
     first | omega | (dsimp only; omega)
    refine jX ?_
    refine qJ (qJ (qN ?_))
    refine jN ⟨dj, (js5 rfl rfl rfl rfl rfl), ?_⟩
    exact ⟨by rw [if_pos hc8, ← he3, mE (fun h => hc9 h.1)], hA, K⟩
   refine jQ ?_
   refine jN ⟨d2, (js5 rfl rfl rfl rfl rfl), ?_⟩
   exact ⟨by rw [if_neg hc8], hA, K⟩
  rintro d3 wm2 ⟨e3, hA, K⟩ Γ hΓ
  refine qW (jN (VC.sub _ hΓ ?_))
  refine jR (jm rfl (jb rfl rfl (Bin.add_i64 _ 1 jo) (ja rfl (jO ?_))))
  refine jN ⟨(n + 1, k, d3), (js5 rfl rfl rfl rfl rfl), ?_, ?_⟩
  · exact ⟨by dsimp only; omega, by dsimp only; omega, by dsimp only; omega, hA, by rw [← he, hs2, qKy hI hc3 hc4 e2 e3], K⟩
  first | omega | (dsimp only; omega)
 rw [show 5 - n = 0 by omega] at he
 have he : (di, false) = partialInsertionSort ltN d a b := he
 rw [← he]
 refine jX ?_
 refine qJ (qJ (qN ?_))
 refine jN ?_
 refine VC.sub [] .nil ?_
 refine jS (jR (ja rfl (jO (jN (jT ?_)))))
 refine qR rfl ?_
 exact ⟨rfl, hA, K⟩
end
section
open Go.RowKit Go.Sort
theorem pS : ∀ f x, x < 2 ^ f → 0 < x → x < 2 ^ Go.Lib.bitLenAux f x ∧ 2 ^ Go.Lib.bitLenAux f x ≤ 2 * x ∧ Go.Lib.bitLenAux f x ≤ f
 | 0, x, h, h0 => by rw [Nat.pow_zero] at h; omega
 | f + 1, x, h, h0 => by
  rw [Go.Lib.bitLenAux, if_neg jo, zeh, Nat.pow_succ]
  by_cases h1 : x / 2 = 0
  ·
   have e : Go.Lib.bitLenAux f (x / 2) = 0 := by rw [h1]; cases f <;> simp [Go.Lib.bitLenAux]
   rw [e]
   omega
  have ih := pS f (x / 2) (by rw [Nat.pow_succ] at h; omega) jo
  omega
theorem lR {n : Nat} (h : n ≤ 1000000) (h0 : 0 < n) : n < 2 ^ Go.Lib.bitLen n ∧ 2 ^ Go.Lib.bitLen n ≤ 2 * n ∧ Go.Lib.bitLen n ≤ 64 := pS 64 n (Nat.lt_of_le_of_lt h jd) h0
theorem zZ {a b : Nat} (ha : a ≤ 18446744073709551615) (hb : b ≤ 18446744073709551615) : a ^^^ b ≤ 18446744073709551615 := by
 have := Nat.xor_lt_two_pow (n := 64) (x := a) (y := b) jo jo
 omega
theorem qJ3 {a k : Nat} (ha : a ≤ 18446744073709551615) : a / k ≤ 18446744073709551615 := zax (Nat.div_le_self _ _) ha
theorem sM (a : Nat) : a % 18446744073709551616 ≤ 18446744073709551615 := jo
theorem AO.one {w w' : World} {B : Option Addr} {c N g : Nat} {d : Array Nat} {t : TypeId} {cs : Array Value} (h : AO w B c N d) (k : Frm [g] w w') (hb : Blk w g t cs) (h1 : 40 ≠ t) : AO w' B c N d := h.frm k (fun y hy h2 => by rw [za] at h2; subst h2; exact h.2.ne_blk hb h1 hy)
theorem zJ (g v : Nat) (w : World) (hv : v ≤ 18446744073709551615) (hb : Blk w g 182 #[.int .u64 ((v : Nat) : Int)]) :
  Calls Tryz.prog 169 #[.pointer (some ⟨g, 0, none⟩)] w fun e w' => ∃ v' : Nat, e = .returned (.int .u64 ((v' : Nat) : Int)) ∧ v' ≤ 18446744073709551615 ∧ Blk w' g 182 #[.int .u64 ((v' : Nat) : Int)] ∧ Frm [g] w w' := by
 have K := Frm.refl [g] w
 refine VC.calls (nt := 33) (res := #[.tmp 2]) Tryz.func169 rfl Tryz.ntmps169 Tryz.results169 rfl ?_
 refine jS (jR ?_)
 refine jy .u64 0 ?_
 refine jO (jN (jv1 0 ?_))
 refine jS ?_
 refine VC.heldL 9 (fun W => Blk W g 182 #[.int .u64 ((v : Nat) : Int)]) jK ?_
 have hS : (fun W => Blk W g 182 #[.int .u64 ((v : Nat) : Int)]) w.drew := hb.drawn (qK.drew _)
 have hb := hb.drawn (qK.drew w)
 have K := K.trans (qK.drew w).frm jp
 refine jH 0 rfl hS (fun w0 hw0 => Run.mv rfl) ?_
 refine jH 1 rfl hS (fun w0 hw0 => Run.nilck rfl) ?_
 refine jH 2 rfl hS (fun w0 hw0 => Run.load rfl zdt (by first | exact Blk.cell hw0 0 | exact Blk.cell hS 0)) ?_
 refine qQ.r1 3 rfl jK hS (Run.mv rfl) trivial rfl rfl ?_
 refine qQ.r1 4 rfl jK hS (Run.nilck rfl) trivial rfl rfl ?_
 refine qQ.r1 5 rfl jK hS (Run.load rfl zdt (by first | exact Blk.cell hw0 0 | exact Blk.cell hS 0)) trivial rfl rfl ?_
 refine qQ.r1 6 rfl jK hS (Run.bin rfl rfl (Bin.shlU v 13)) trivial rfl rfl ?_
 refine qQ.r1 7 rfl jK hS (Run.bin rfl rfl (Bin.xorN (k := .u64) v (v * 2 ^ 13 % 18446744073709551616) hv (sM _))) trivial rfl rfl ?_
 refine qQ.r1 8 rfl jK hS (Run.nilck rfl) trivial rfl rfl ?_
 refine qQ.stL rfl jK (qP.store rfl rfl zfe hb rfl rfl) trivial rfl ?_
 rintro w1 ⟨hbn, (hfw1 : Frm [g] _ _), hsw1⟩
 have hb : Blk w1 g 182 #[.int .u64 (((v ^^^ (v * 2 ^ 13 % 18446744073709551616)) : Nat) : Int)] := hbn
 have K := K.trans hfw1 (fun x hx => .inl hx)
 obtain ⟨v1, hv1⟩ : ∃ v1, v1 = (v ^^^ (v * 2 ^ 13 % 18446744073709551616)) := ⟨_, rfl⟩
 have hv1l : v1 ≤ 18446744073709551615 := by rw [hv1]; exact zZ hv (sM _)
 rw [← hv1] at hb
 refine qQ.done jK ?_
 refine jN (jv1 0 ?_)
 refine jS ?_
 refine VC.heldL 9 (fun W => Blk W g 182 #[.int .u64 ((v1 : Nat) : Int)]) jK ?_
 have hS : (fun W => Blk W g 182 #[.int .u64 ((v1 : Nat) : Int)]) w1.drew := hb.drawn (qK.drew _)
 have hb := hb.drawn (qK.drew w1)
 have K := K.trans (qK.drew w1).frm jp
 refine jH 0 rfl hS (fun w0 hw0 => Run.mv rfl) ?_
 refine jH 1 rfl hS (fun w0 hw0 => Run.nilck rfl) ?_
 refine jH 2 rfl hS (fun w0 hw0 => Run.load rfl zdt (by first | exact Blk.cell hw0 0 | exact Blk.cell hS 0)) ?_
 refine qQ.r1 3 rfl jK hS (Run.mv rfl) trivial rfl rfl ?_
 refine qQ.r1 4 rfl jK hS (Run.nilck rfl) trivial rfl rfl ?_
 refine qQ.r1 5 rfl jK hS (Run.load rfl zdt (by first | exact Blk.cell hw0 0 | exact Blk.cell hS 0)) trivial rfl rfl ?_
 refine qQ.r1 6 rfl jK hS (Run.bin rfl rfl (Bin.shrN (k := .u64) v1 7 hv1l)) trivial rfl rfl ?_
 refine qQ.r1 7 rfl jK hS (Run.bin rfl rfl (Bin.xorN (k := .u64) v1 (v1 / 2 ^ 7) hv1l (qJ3 hv1l))) trivial rfl rfl ?_
 refine qQ.r1 8 rfl jK hS (Run.nilck rfl) trivial rfl rfl ?_
 refine qQ.stL rfl jK (qP.store rfl rfl zfe hb rfl rfl) trivial rfl ?_
 rintro w2 ⟨hbn, (hfw2 : Frm [g] _ _), hsw2⟩
 have hb : Blk w2 g 182 #[.int .u64 (((v1 ^^^ (v1 / 2 ^ 7)) : Nat) : Int)] := hbn
 have K := K.trans hfw2 (fun x hx => .inl hx)
 obtain ⟨v2, hv2⟩ : ∃ v2, v2 = (v1 ^^^ (v1 / 2 ^ 7)) := ⟨_, rfl⟩
 have hv2l : v2 ≤ 18446744073709551615 := by rw [hv2]; exact zZ hv1l (qJ3 hv1l)
 rw [← hv2] at hb
 refine qQ.done jK ?_
 refine jN (jv1 0 ?_)
 refine jS ?_
 refine VC.heldL 9 (fun W => Blk W g 182 #[.int .u64 ((v2 : Nat) : Int)]) jK ?_
 have hS : (fun W => Blk W g 182 #[.int .u64 ((v2 : Nat) : Int)]) w2.drew := hb.drawn (qK.drew _)
 have hb := hb.drawn (qK.drew w2)
 have K := K.trans (qK.drew w2).frm jp
 refine jH 0 rfl hS (fun w0 hw0 => Run.mv rfl) ?_
 refine jH 1 rfl hS (fun w0 hw0 => Run.nilck rfl) ?_
 refine jH 2 rfl hS (fun w0 hw0 => Run.load rfl zdt (by first | exact Blk.cell hw0 0 | exact Blk.cell hS 0)) ?_
 refine qQ.r1 3 rfl jK hS (Run.mv rfl) trivial rfl rfl ?_
 refine qQ.r1 4 rfl jK hS (Run.nilck rfl) trivial rfl rfl ?_
 refine qQ.r1 5 rfl jK hS (Run.load rfl zdt (by first | exact Blk.cell hw0 0 | exact Blk.cell hS 0)) trivial rfl rfl ?_
 refine qQ.r1 6 rfl jK hS (Run.bin rfl rfl (Bin.shlU v2 17)) trivial rfl rfl ?_
 refine qQ.r1 7 rfl jK hS (Run.bin rfl rfl (Bin.xorN (k := .u64) v2 (v2 * 2 ^ 17 % 18446744073709551616) hv2l (sM _))) trivial rfl rfl ?_
 refine qQ.r1 8 rfl jK hS (Run.nilck rfl) trivial rfl rfl ?_
 refine qQ.stL rfl jK (qP.store rfl rfl zfe hb rfl rfl) trivial rfl ?_
 rintro w3 ⟨hbn, (hfw3 : Frm [g] _ _), hsw3⟩
 have hb : Blk w3 g 182 #[.int .u64 (((v2 ^^^ (v2 * 2 ^ 17 % 18446744073709551616)) : Nat) : Int)] := hbn
 have K := K.trans hfw3 (fun x hx => .inl hx)
 obtain ⟨v3, hv3⟩ : ∃ v3, v3 = (v2 ^^^ (v2 * 2 ^ 17 % 18446744073709551616)) := ⟨_, rfl⟩
 have hv3l : v3 ≤ 18446744073709551615 := by rw [hv3]; exact zZ hv2l (sM _)
 rw [← hv3] at hb
 refine qQ.done jK ?_
 refine jN (jv1 0 ?_)
 refine jS (jR (jm rfl (je (Run.nilck rfl) (jl rfl zdt (hb.cell 0) (ja rfl (jO (jN (jv1 2 ?_))))))))
 refine jT ?_
 refine qR rfl ?_
 exact ⟨v3, rfl, hv3l, hb, K⟩
theorem qXi (n : Nat) (w : World) (hn : n ≤ 1000000) (h0 : 0 < n) :
  Calls Tryz.prog 168 #[.int .i64 ((n : Nat) : Int)] w fun e w' => e = .returned (.int .u64 ((2 ^ Go.Lib.bitLen n : Nat) : Int)) ∧ w = w' := by
 obtain ⟨h1, h2, h3⟩ := lR hn h0
 refine VC.calls (nt := 7) (res := #[.tmp 2]) Tryz.func168 rfl Tryz.ntmps168 Tryz.results168 rfl ?_
 refine jS (jR ?_)
 refine jy .u64 0 ?_
 refine jO (jN (jv1 0 ?_))
 refine jS (jR (jm rfl (je (Run.convN _ rfl zac zcq (by simp only [bmax]; omega)) ?_)))
 refine Ops.cl (jE1 Tryz.call115) (Tryz.bits_Len ((n : Nat) : Int) _ jo jo) rfl ?_
 rintro e _ ⟨rfl, rfl⟩
 rw [zdj]
 refine ⟨_, rfl, ?_⟩
 refine jb rfl rfl (Bin.shlN (k := .u64) 1 (Go.Lib.bitLen n) h3 (by simp only [bmax]; omega)) ?_
 rw [Nat.one_mul]
 refine ja rfl (jO (jN (jv1 2 ?_)))
 refine jT ?_
 refine qR rfl ?_
 exact ⟨rfl, rfl⟩
theorem mF (B : Option Addr) (c N : Nat) (d : Array Nat) (w : World) (h : AO w B c N d) (hN : N ≤ 1000000) (a b g k : Nat) (ha : a < N) (hb2 : b < N) (hk : k ≤ 1000) (hb : Blk w g 3 #[.int .i64 ((k : Nat) : Int)]) :
  Calls Tryz.prog 184 #[.slice B N c, .int .i64 ((a : Nat) : Int), .int .i64 ((b : Nat) : Int), .pointer (some ⟨g, 0, none⟩)] w fun e w' => ∃ x y k' : Nat, e = .returned (.tuple #[.int .i64 ((x : Nat) : Int), .int .i64 ((y : Nat) : Int)]) ∧ ((x = a ∧ y = b) ∨ (x = b ∧ y = a)) ∧ k' ≤ k + 1 ∧ Blk w' g 3 #[.int .i64 ((k' : Nat) : Int)] ∧ Frm [g] w w' := by
 obtain ⟨ad, rfl⟩ := h.adr jo
 have hA := h
 refine VC.calls (nt := 28) (res := #[.tmp 8, .tmp 9]) Tryz.func184 rfl Tryz.ntmps184 Tryz.results184 rfl ?_
 refine jS (jR (jz 0 (jz 0 (jO (jN (jv4 0 1 2 3 ?_))))))
 refine jS (jS ?_)
 refine VC.held (fun W => Frm [] w W) jK ?_
 have hS : Frm [] w w.drew := (Frm.refl _ _).drew
 refine jH 0 rfl hS (fun w0 hw0 => Run.mv rfl) ?_
 refine jH 1 rfl hS (fun w0 hw0 => Run.mv rfl) ?_
 refine jH 2 rfl hS (fun w0 hw0 => Run.index1 _ rfl rfl ze zd jo) ?_
 refine jH 3 rfl hS (fun w0 hw0 => Run.load rfl zk ((hA.nil hw0).at (i := b) jo)) ?_
 refine jH 4 rfl hS (fun w0 hw0 => Run.mv rfl) ?_
 refine jH 5 rfl hS (fun w0 hw0 => Run.mv rfl) ?_
 refine jH 6 rfl hS (fun w0 hw0 => Run.index1 _ rfl rfl ze zd jo) ?_
 refine jH 7 rfl hS (fun w0 hw0 => Run.load rfl zk ((hA.nil hw0).at (i := a) jo)) ?_
 refine qQ.cl 8 rfl jK (jE2 zcn) (bI _ _ _) trivial rfl rfl ?_
 rintro e _ ⟨rfl, rfl⟩
 refine ⟨_, rfl, hS, ?_⟩
 refine qQ.done jK ?_
 refine jN (jv4 1 2 3 18 ?_)
 refine VC.condB rfl (fun hc1 => ?_) (fun hc1 => ?_)
 ·
  have hb := hb.frm hS jp
  refine jS (jR (jm rfl (je (Run.nilck rfl) (jl rfl zp (hb.cell 0) (jb rfl rfl (Bin.add_i64 _ 1 jo) (je (Run.nilck rfl) ?_))))))
  refine Ops.st (qP.store rfl rfl zn hb rfl rfl) ?_
  rintro w1 ⟨hbn, (hf1 : Frm [g] _ _), hs1⟩
  have hb : Blk w1 g 3 #[.int .i64 (((k + 1) : Nat) : Int)] := hbn
  refine jO (jN (jv2 1 2 ?_))
  refine jS (jR (jm rfl (jm rfl (ja rfl (ja rfl (jO (jN (jv2 8 9 ?_))))))))
  refine jT ?_
  refine qZ (cF rfl rfl ?_)
  exact ⟨b, a, k + 1, rfl, .inr ⟨rfl, rfl⟩, zw _, hb, (hS.mono jp).trans hf1 (fun x hx => .inl hx)⟩
 refine jQ (jN (jv2 1 2 ?_))
 refine jS (jR (jm rfl (jm rfl (ja rfl (ja rfl (jO (jN (jv2 8 9 ?_))))))))
 refine jT ?_
 refine cF rfl rfl ?_
 exact ⟨a, b, k, rfl, .inl ⟨rfl, rfl⟩, jo, hb.frm hS jp, hS.mono jp⟩
theorem rE (B : Option Addr) (c N : Nat) (d : Array Nat) (w : World) (h : AO w B c N d) (hN : N ≤ 1000000) (a b e2 g k : Nat) (ha : a < N) (hb2 : b < N) (he2 : e2 < N) (hk : k ≤ 900) (hb : Blk w g 3 #[.int .i64 ((k : Nat) : Int)]) :
  Calls Tryz.prog 171 #[.slice B N c, .int .i64 ((a : Nat) : Int), .int .i64 ((b : Nat) : Int), .int .i64 ((e2 : Nat) : Int), .pointer (some ⟨g, 0, none⟩)] w fun e w' => ∃ m k' : Nat, e = .returned (.int .i64 ((m : Nat) : Int)) ∧ (m = a ∨ m = b ∨ m = e2) ∧ k' ≤ k + 3 ∧ Blk w' g 3 #[.int .i64 ((k' : Nat) : Int)] ∧ Frm [g] w w' := by
 obtain ⟨ad, rfl⟩ := h.adr jo
 have hA := h
 have K := Frm.refl [g] w
 have hbo := hb
 refine VC.calls (nt := 36) (res := #[.tmp 10]) Tryz.func171 rfl Tryz.ntmps171 Tryz.results171 rfl ?_
 refine jS (jR (jz 0 (jO (jN (jv5 0 1 2 3 4 ?_)))))
 refine jS (jR (jm rfl (jm rfl (jm rfl (jM ?_)))))
 refine Ops.cl (jE4 Tryz.call184) (mF (some ad) c N d _ hA hN (a) (b) g k jo jo jo hb) rfl ?_
 rintro e w1 ⟨x1, y1, k1, rfl, hok1, hkk1, hb, hfw1⟩
 have K := K.trans hfw1 (fun x hx => .inl hx)
 have hA := hA.one hfw1 hbo jd
 have hbo := hb
 refine ⟨_, rfl, ?_⟩
 refine jm rfl (je (Run.extract rfl rfl) (je (Run.extract rfl rfl) (ja rfl (ja rfl (jO (jN (jv5 0 1 2 3 4 ?_)))))))
 refine jS (jR (jm rfl (jm rfl (jm rfl (jM ?_)))))
 refine Ops.cl (jE4 Tryz.call184) (mF (some ad) c N d _ hA hN (y1) (e2) g k1 jo jo jo hb) rfl ?_
 rintro e w2 ⟨x2, y2, k2, rfl, hok2, hkk2, hb, hfw2⟩
 have K := K.trans hfw2 (fun x hx => .inl hx)
 have hA := hA.one hfw2 hbo jd
 have hbo := hb
 refine ⟨_, rfl, ?_⟩
 refine jm rfl (je (Run.extract rfl rfl) (je (Run.extract rfl rfl) (ja rfl (ja rfl (jO (jN (jv4 0 1 2 4 ?_)))))))
 refine jS (jR (jm rfl (jm rfl (jm rfl (jM ?_)))))
 refine Ops.cl (jE4 Tryz.call184) (mF (some ad) c N d _ hA hN (x1) (x2) g k2 jo jo jo hb) rfl ?_
 rintro e w3 ⟨x3, y3, k3, rfl, hok3, hkk3, hb, hfw3⟩
 have K := K.trans hfw3 (fun x hx => .inl hx)
 have hA := hA.one hfw3 hbo jd
 have hbo := hb
 refine ⟨_, rfl, ?_⟩
 refine jm rfl (je (Run.extract rfl rfl) (je (Run.extract rfl rfl) (ja rfl (ja rfl (jO (jN (jv1 2 ?_)))))))
 refine jS (jR (jm rfl (ja rfl (jO (jN (jv1 10 ?_))))))
 refine jT ?_
 refine qR rfl ?_
 exact ⟨y3, k3, rfl, jo, jo, hb, K⟩
theorem lS (B : Option Addr) (c N : Nat) (d : Array Nat) (w : World) (h : AO w B c N d) (hN : N ≤ 1000000) (a g k : Nat) (ha0 : 0 < a) (ha : a + 1 < N) (hk : k ≤ 900) (hb : Blk w g 3 #[.int .i64 ((k : Nat) : Int)]) :
  Calls Tryz.prog 170 #[.slice B N c, .int .i64 ((a : Nat) : Int), .pointer (some ⟨g, 0, none⟩)] w fun e w' => ∃ m k' : Nat, e = .returned (.int .i64 ((m : Nat) : Int)) ∧ (a - 1 ≤ m ∧ m ≤ a + 1) ∧ k' ≤ k + 3 ∧ Blk w' g 3 #[.int .i64 ((k' : Nat) : Int)] ∧ Frm [g] w w' := by
 refine VC.calls (nt := 15) (res := #[.tmp 6]) Tryz.func170 rfl Tryz.ntmps170 Tryz.results170 rfl ?_
 refine jS (jR (jz 0 (jO (jN (jv3 0 1 2 ?_)))))
 refine jS (jR (jm rfl (jm rfl (jb rfl rfl (Bin.sub_i64 _ 1 jo jo) (jm rfl (jm rfl (jb rfl rfl (Bin.add_i64 _ 1 jo) (jM ?_))))))))
 refine Ops.cl (jE5 Tryz.call171) (rE B c N d _ h hN (a - 1) a (a + 1) g k jo jo jo hk hb) rfl ?_
 rintro e w1 ⟨m, k', rfl, hm, hk', hb, hf⟩
 refine ⟨_, rfl, ?_⟩
 refine ja rfl (jO (jN (jv1 6 ?_)))
 refine jT ?_
 refine qR rfl ?_
 exact ⟨m, k', rfl, jo, hk', hb, hf⟩
end
section
open Go.RowKit Go.Sort
theorem qXj (B : Option Addr) (c N : Nat) (d : Array Nat) (w : World) (h : AO w B c N d) (hN : N ≤ 1000000) (a b : Nat) (ha : a < b) (hb2 : b ≤ N) :
  Calls Tryz.prog 144 #[.slice B N c, .int .i64 ((a : Nat) : Int), .int .i64 ((b : Nat) : Int)] w fun e w' => ∃ p q : Nat, e = .returned (.tuple #[.int .i64 ((p : Nat) : Int), .int .i64 ((q : Nat) : Int)]) ∧ (a ≤ p ∧ p < b) ∧ q ≤ 2 ∧ Frm [] w w' := by
 refine VC.calls (nt := 57) (res := #[.tmp 6, .tmp 7]) Tryz.func144 rfl Tryz.ntmps144 Tryz.results144 rfl ?_
 refine jS (jR (jz 0 (jz 0 (jO (jN (jv3 0 1 2 ?_))))))
 refine jS (jR (jm rfl (jm rfl (jb rfl rfl (Bin.sub_i64 _ _ jo jo) (ja rfl (jO (jN (jv3 0 1 8 ?_))))))))
 refine jS (jR ?_)
 refine Ops.m (qV.alloc qV0) rfl ?_
 rintro _ w1 ⟨rfl, hF1⟩
 have hb : Blk w1 w.heap.size 3 #[.int .i64 ((0 : Nat) : Int)] := hF1.blk
 have K := hF1.frm
 have hA := h.nil hF1.frm
 have hg9 : w.heap.size ≤ w.heap.size := zw _
 generalize hg9e : w.heap.size = g9 at hb hg9 ⊢
 have hbo := hb
 obtain ⟨l, hl⟩ : ∃ l, l = b - a := ⟨_, rfl⟩
 rw [← hl]
 refine jO (jN (jS (jR (jm rfl (jm rfl (jb rfl rfl (Bin.quo_i64 _ 4 jo jo) (jb rfl rfl (Bin.mul_i64 _ 1 jo) (jb rfl rfl (Bin.add_i64 _ _ jo) (ja rfl (jO (jN (jv5 0 1 8 9 10 ?_))))))))))))
 refine jS (jR (jm rfl (jm rfl (jb rfl rfl (Bin.quo_i64 _ 4 jo jo) (jb rfl rfl (Bin.mul_i64 _ 2 jo) (jb rfl rfl (Bin.add_i64 _ _ jo) (ja rfl (jO (jN (jv6 0 1 8 9 10 11 ?_))))))))))
 refine jS (jR (jm rfl (jm rfl (jb rfl rfl (Bin.quo_i64 _ 4 jo jo) (jb rfl rfl (Bin.mul_i64 _ 3 jo) (jb rfl rfl (Bin.add_i64 _ _ jo) (ja rfl (jO (jN (jv6 0 8 9 10 11 12 ?_))))))))))
 refine jS (jS (jR (jm rfl (jb rfl rfl (Bin.geqN _ 8) (jO (jN (jv7 0 8 9 10 11 12 32 ?_)))))))
 refine VC.meet (σ := Nat × Nat) (fun s => [(9, .pointer (some ⟨g9, 0, none⟩)), (11, .int .i64 ((s.1 : Nat) : Int))]) (fun s wm1 => (a ≤ s.1 ∧ s.1 < b) ∧ Blk wm1 g9 3 #[.int .i64 ((s.2 : Nat) : Int)] ∧ Frm [] w wm1) ?_ ?_
 ·
  refine jD rfl (fun hc1 => ?_) fun hc1 => ?_
  ·
   refine jS (jS (jR (jm rfl (jb rfl rfl (Bin.geqN _ 50) (jO (jN (jv6 0 9 10 11 12 34 ?_)))))))
   refine VC.meet (σ := Nat × Nat × Nat × Nat) (fun s => [(0, .slice B N c), (9, .pointer (some ⟨g9, 0, none⟩)), (10, .int .i64 ((s.1 : Nat) : Int)), (11, .int .i64 ((s.2.1 : Nat) : Int)), (12, .int .i64 ((s.2.2.1 : Nat) : Int))]) (fun s wm => ((a ≤ s.1 ∧ s.1 < b) ∧ (a ≤ s.2.1 ∧ s.2.1 < b) ∧ (a ≤ s.2.2.1 ∧ s.2.2.1 < b) ∧ s.2.2.2 ≤ 900) ∧ AO wm B c N d ∧ Blk wm g9 3 #[.int .i64 ((s.2.2.2 : Nat) : Int)] ∧ Frm [] w wm) ?_ ?_
   ·
    refine jD rfl (fun hc2 => ?_) fun hc2 => ?_
    ·
     refine jS (jR (jm rfl (jM ?_)))
     refine Ops.cl (jE3 Tryz.call170) (lS B c N d _ hA hN (a + l / 4 * 1) g9 0 jo jo jo hb) rfl ?_
     rintro e w2 ⟨m1, k1, rfl, hmm1, hkk1, hb, hfw2⟩
     have K := K.own hfw2 (fun y hy => by rw [za] at hy; omega)
     have hA := hA.one hfw2 hbo jd
     have hbo := hb
     refine ⟨_, rfl, ?_⟩
     refine ja rfl (jO (jN (jv5 0 9 10 11 12 ?_)))
     refine jS (jR (jm rfl (jM ?_)))
     refine Ops.cl (jE3 Tryz.call170) (lS B c N d _ hA hN (a + l / 4 * 2) g9 k1 jo jo jo hb) rfl ?_
     rintro e w3 ⟨m2, k2, rfl, hmm2, hkk2, hb, hfw3⟩
     have K := K.own hfw3 (fun y hy => by rw [za] at hy; omega)
     have hA := hA.one hfw3 hbo jd
     have hbo := hb
     refine ⟨_, rfl, ?_⟩
     refine ja rfl (jO (jN (jv5 0 9 10 11 12 ?_)))
     refine jR (jm rfl (jM ?_))
     refine Ops.cl (jE3 Tryz.call170) (lS B c N d _ hA hN (a + l / 4 * 3) g9 k2 jo jo jo hb) rfl ?_
     rintro e w4 ⟨m3, k3, rfl, hmm3, hkk3, hb, hfw4⟩
     have K := K.own hfw4 (fun y hy => by rw [za] at hy; omega)
     have hA := hA.one hfw4 hbo jd
     have hbo := hb
     refine ⟨_, rfl, ?_⟩
     refine ja rfl (jO ?_)
     refine jN ⟨(m1, m2, m3, k3), (js5 rfl rfl rfl rfl rfl), ?_⟩
     exact ⟨⟨by dsimp only; omega, by dsimp only; omega, by dsimp only; omega, by dsimp only; omega⟩, hA, hb, K⟩
    refine jQ ?_
    refine jN ⟨(a + l / 4 * 1, a + l / 4 * 2, a + l / 4 * 3, 0), (js5 rfl rfl rfl rfl rfl), ?_⟩
    exact ⟨⟨by dsimp only; omega, by dsimp only; omega, by dsimp only; omega, by dsimp only; omega⟩, hA, hb, K⟩
   rintro ⟨i, j, k, sw⟩ wm ⟨⟨q1, q2, q3, q4⟩, hA, hb, K⟩ Γ hΓ
   dsimp only at *
   refine jN (VC.sub _ hΓ (jR (jm rfl (jm rfl (jm rfl (jM ?_))))))
   refine Ops.cl (jE5 Tryz.call171) (rE B c N d _ hA hN i j k g9 sw jo jo jo jo hb) rfl ?_
   rintro e w5 ⟨m, k5, rfl, hm, hk5, hb5, hf5⟩
   have K := K.own hf5 (fun y hy => by rw [za] at hy; omega)
   refine ⟨_, rfl, ?_⟩
   refine ja rfl (jO ?_)
   refine jN ⟨(m, k5), (js2 rfl rfl), ?_⟩
   exact ⟨by dsimp only; omega, hb5, K⟩
  refine jQ ?_
  refine jN ⟨(a + l / 4 * 2, 0), (js2 rfl rfl), ?_⟩
  exact ⟨by dsimp only; omega, hb, K⟩
 rintro ⟨p, sw⟩ wm1 ⟨hp, hb, K⟩ Γ hΓ
 dsimp only at *
 refine jN (VC.sub _ hΓ (jS (jR (jl rfl zp (hb.cell 0) (jO (jN (jv2 11 49 ?_)))))))
 refine jB (jS (jR (jb rfl rfl (Bin.eqlN _ 0) (ja rfl (jO (jN (jv3 11 49 51 ?_)))))))
 refine jD rfl (fun hc3 => ?_) fun hc3 => ?_
 ·
  refine jS (jR (jm rfl (ja rfl (jz 1 (jO (jN (jv2 6 7 ?_)))))))
  refine jT ?_
  refine qH (cF rfl rfl ?_)
  exact ⟨p, 1, rfl, hp, jo, K⟩
 refine jS (jR (jb rfl rfl (Bin.eqlN _ 12) (ja rfl (jO (jN (jv2 11 54 ?_))))))
 refine jD rfl (fun hc4 => ?_) fun hc4 => ?_
 ·
  refine jS (jR (jm rfl (ja rfl (jz 2 (jO (jN (jv2 6 7 ?_)))))))
  refine jT ?_
  refine qH (cF rfl rfl ?_)
  exact ⟨p, 2, rfl, hp, jo, K⟩
 refine jS (jR (jm rfl (ja rfl (jz 0 (jO (jN (jv2 6 7 ?_)))))))
 refine jT ?_
 refine qH (cF rfl rfl ?_)
 exact ⟨p, 0, rfl, hp, jo, K⟩
set_option maxHeartbeats 1000000 in
theorem qXk (B : Option Addr) (c N : Nat) (d : Array Nat) (w : World) (h : AO w B c N d) (hN : N ≤ 1000000) (a b : Nat) (ha : a < b) (hb2 : b ≤ N) :
  Calls Tryz.prog 143 #[.slice B N c, .int .i64 ((a : Nat) : Int), .int .i64 ((b : Nat) : Int)] w fun e w' => ∃ d', e = .returned (.tuple #[]) ∧ AO w' B c N d' ∧ PermIn a b d d' ∧ Frm (ob B) w w' := by
 obtain ⟨ad, rfl⟩ := h.adr jo
 obtain ⟨l, hl⟩ : ∃ l, l = b - a := ⟨_, rfl⟩
 obtain ⟨hw1, hw2, hw3⟩ := lR (n := l) jo jo
 refine VC.calls (nt := 65) (res := #[]) Tryz.func143 rfl Tryz.ntmps143 Tryz.results143 rfl ?_
 refine jS (jR (jm rfl (jm rfl (jb rfl rfl (Bin.sub_i64 _ _ jo jo) ?_))))
 rw [← hl]
 refine ja rfl (jO (jN (jv3 0 1 6 ?_)))
 refine jS (jR (jm rfl (jb rfl rfl (Bin.geqN _ 8) (jO (jN (jv4 0 1 6 15 ?_))))))
 refine jD rfl (fun hc1 => ?_) fun hc1 => ?_
 ·
  refine jS (jR (jm rfl (je (Run.convN _ rfl zac Tryz.underlying182 (by simp only [bmax]; omega)) ?_)))
  refine Ops.m (qV.alloc qJ9) rfl ?_
  rintro _ w1 ⟨rfl, hF1⟩
  have hb := hF1.blk
  have K : Frm (ob (some ad)) w w1 := hF1.frm.mono jp
  have hA := h.nil hF1.frm
  have hg7 : w.heap.size ≤ w.heap.size := zw _
  generalize hg7e : w.heap.size = g7 at hb hg7 ⊢
  have hbo := hb
  refine Ops.st (qP.store rfl rfl zfe hb rfl rfl) ?_
  rintro w2 ⟨hbn, (hf2 : Frm [g7] _ _), hs2⟩
  have hb : Blk w2 g7 182 #[.int .u64 ((l : Nat) : Int)] := hbn
  have hA := hA.one hf2 hbo jd
  have K := K.trans hf2 (fun y hy => .inr (by rw [za] at hy; omega))
  refine jO (jN (jv4 0 1 6 7 ?_))
  refine jS (jR (jM ?_))
  refine Ops.cl (jE1 Tryz.call168) (qXi l _ jo jo) rfl ?_
  rintro e _ ⟨rfl, rfl⟩
  refine ⟨_, rfl, ?_⟩
  have hone : 1 ≤ 2 ^ Go.Lib.bitLen l := Nat.one_le_two_pow
  have hmx : 2 ^ Go.Lib.bitLen l ≤ 18446744073709551615 := jo
  refine ja rfl (jO (jN (jv5 0 1 6 7 8 ?_)))
  refine jS (jR (jm rfl (jm rfl (jb rfl rfl (Bin.quo_i64 _ 4 jo jo) (jb rfl rfl (Bin.mul_i64 _ 2 jo) (jb rfl rfl (Bin.add_i64 _ _ jo) (jb rfl rfl (Bin.sub_i64 _ 1 jo jo) (ja rfl (jO (jN (jv6 0 1 6 7 8 9 ?_)))))))))))
  refine jB ?_
  refine VC.loop (σ := Nat × Nat × Array Nat) (fun s => [(0, .slice (some ad) N c), (1, .int .i64 ((a : Nat) : Int)), (6, .int .i64 ((l : Nat) : Int)), (7, .pointer (some ⟨g7, 0, none⟩)), (8, .int .u64 ((2 ^ Go.Lib.bitLen l : Nat) : Int)), (9, .int .i64 (((a + l / 4 * 2 - 1 + s.1) : Nat) : Int))]) (fun s wr => s.1 ≤ 3 ∧ s.2.1 ≤ 18446744073709551615 ∧ AO wr (some ad) c N s.2.2 ∧ Blk wr g7 182 #[.int .u64 ((s.2.1 : Nat) : Int)] ∧ PermIn a b d s.2.2 ∧ Frm (ob (some ad)) w wr) (fun s => 3 - s.1) (0, l, d) (js6 rfl rfl rfl rfl rfl rfl) ⟨by dsimp only; omega, by dsimp only; omega, hA, hb, permIn_refl _ _ _, K⟩ ?_
  rintro ⟨t, v, dt⟩ wr ⟨q1, q2, hA, hb, hP, K⟩
  dsimp only at *
  refine jS (jS (jR (jm rfl (jm rfl (jm rfl (jb rfl rfl (Bin.quo_i64 _ 4 jo jo) (jb rfl rfl (Bin.mul_i64 _ 2 jo) (jb rfl rfl (Bin.add_i64 _ _ jo) (jb rfl rfl (Bin.add_i64 _ 1 jo) (jb rfl rfl (Bin.leqN _ _) (jO (jN (jv7 0 1 6 7 8 9 33 ?_)))))))))))))
  refine jD rfl (fun hc2 => ?_) fun hc2 => ?_
  ·
   refine jQ (jN (jv6 0 1 6 7 8 9 ?_))
   refine jS (jB (jS (jR ?_)))
   refine Ops.cl (jE1 Tryz.call169) (zJ g7 v _ q2 hb) rfl ?_
   rintro e w3 ⟨v2, rfl, hv2, hb3, hf3⟩
   have hA := hA.one hf3 hb jd
   have K := K.trans hf3 (fun y hy => .inr (by rw [za] at hy; omega))
   refine ⟨_, rfl, ?_⟩
   refine jm rfl (jb rfl rfl (Bin.sub_u64 _ 1 jo jo) (jb rfl rfl (Bin.andN (k := .u64) v2 (2 ^ Go.Lib.bitLen l - 1) hv2 (by simp only [bmax]; omega)) ?_))
   obtain ⟨o, ho⟩ : ∃ o, o = v2 &&& (2 ^ Go.Lib.bitLen l - 1) := ⟨_, rfl⟩
   have hol : o ≤ 2 ^ Go.Lib.bitLen l - 1 := by rw [ho]; exact Nat.and_le_right
   rw [← ho]
   refine je (Run.convN _ rfl zcq zac (by simp only [bmax]; omega)) (ja rfl (jO (jN (jv7 0 1 6 7 8 9 10 ?_))))
   refine jS (jS (jR (jm rfl (jm rfl (jb rfl rfl (Bin.geqN _ _) (jO (jN (jv8 0 1 6 7 8 9 10 43 ?_))))))))
   refine VC.meet (σ := Nat) (fun s => [(0, .slice (some ad) N c), (1, .int .i64 ((a : Nat) : Int)), (6, .int .i64 ((l : Nat) : Int)), (7, .pointer (some ⟨g7, 0, none⟩)), (8, .int .u64 ((2 ^ Go.Lib.bitLen l : Nat) : Int)), (9, .int .i64 (((a + l / 4 * 2 - 1 + t) : Nat) : Int)), (10, .int .i64 ((s : Nat) : Int))]) (fun s wm => s < l ∧ wm = w3) ?_ ?_
   ·
    refine jD rfl (fun hc3 => ?_) fun hc3 => ?_
    ·
     refine jR (jm rfl (jm rfl (jb rfl rfl (Bin.sub_i64 _ _ jo jo) (ja rfl (jO ?_)))))
     refine jN ⟨(o - l), (js7 rfl rfl rfl rfl rfl rfl rfl), ?_⟩
     exact ⟨jo, rfl⟩
    refine jQ ?_
    refine jN ⟨o, (js7 rfl rfl rfl rfl rfl rfl rfl), ?_⟩
    exact ⟨jo, rfl⟩
   rintro o2 _ ⟨ho2, rfl⟩ Γ hΓ
   refine jN (VC.sub _ hΓ ?_)
   refine VC.held (fun _ => True) jK ?_
   refine jH 0 rfl trivial (fun w0 hw0 => Run.mv rfl) ?_
   refine jH 1 rfl trivial (fun w0 hw0 => Run.mv rfl) ?_
   refine jH 2 rfl trivial (fun w0 hw0 => Run.mv rfl) ?_
   refine jH 3 rfl trivial (fun w0 hw0 => Run.mv rfl) ?_
   refine jH 4 rfl trivial (fun w0 hw0 => Run.mv rfl) ?_
   refine jH 5 rfl trivial (fun w0 hw0 => Run.bin rfl rfl (Bin.add_i64 _ _ jo)) ?_
   refine jH 6 rfl trivial (fun w0 hw0 => Run.mv rfl) ?_
   refine jH 7 rfl trivial (fun w0 hw0 => Run.mv rfl) ?_
   refine jH 8 rfl trivial (fun w0 hw0 => Run.mv rfl) ?_
   refine jH 9 rfl trivial (fun w0 hw0 => Run.bin rfl rfl (Bin.add_i64 _ _ jo)) ?_
   refine jH 10 rfl trivial (fun w0 hw0 => Run.index1 _ rfl rfl ze zd jo) ?_
   refine jH 12 rfl trivial (fun w0 hw0 => Run.mv rfl) ?_
   refine jH 13 rfl trivial (fun w0 hw0 => Run.mv rfl) ?_
   refine jH 14 rfl trivial (fun w0 hw0 => Run.index1 _ rfl rfl ze zd jo) ?_
   refine qQ.r2 11 15 rfl rfl jK jK jK jK trivial rfl rfl (Run.load rfl zk ((hA.nil (qK.drew _).frm).at (i := a + o2) jo)) (Run.load rfl zk ((hA.nil (qK.drew _).frm).at (i := a + l / 4 * 2 - 1 + t) jo)) (Run.load rfl zk ((hA.nil (qK.drew _).frm).at (i := a + l / 4 * 2 - 1 + t) jo)) (Run.load rfl zk ((hA.nil (qK.drew _).frm).at (i := a + o2) jo)) rfl rfl rfl rfl rfl ?_
   refine jH 16 rfl trivial (fun w0 hw0 => Run.index1 _ rfl rfl ze zd jo) ?_
   refine qQ.st 17 rfl jK (qP.storeOwn (a + l / 4 * 2 - 1 + t) rfl rfl zd (hA.nil (qK.drew _).frm).2 rfl jo rfl) trivial rfl ?_
   rintro w4a ⟨ho_a, hf_a, hs_a⟩
   refine ⟨trivial, ?_⟩
   refine jH 18 rfl trivial (fun w0 hw0 => Run.index1 _ rfl rfl ze zd jo) ?_
   refine qQ.st 19 rfl jK (qP.storeOwn (a + o2) rfl rfl zd ho_a rfl jo rfl) trivial rfl ?_
   rintro w4 ⟨ho_b, hf_b, hs_b⟩
   have hAs := AO.swp hA.1 ho_b
   have hKs := ((qK.drew _).frm.mono (T := ob (some ad)) jp).trans (hf_a.trans hf_b (fun x hx => .inl hx)) (fun x hx => .inl hx)
   refine ⟨trivial, ?_⟩
   refine qQ.done jK ?_
   refine qW (jN ?_)
   refine jv6 0 1 6 7 8 9 ?_
   refine jR (jm rfl (jb rfl rfl (Bin.add_i64 _ 1 jo) (ja rfl (jO ?_))))
   refine jN ⟨(t + 1, v2, swp dt (a + l / 4 * 2 - 1 + t) (a + o2)), (js6 rfl rfl rfl rfl rfl rfl), ?_, ?_⟩
   · exact ⟨by dsimp only; omega, hv2, hAs, hb3.frm hKs (hA.2.ne_blk hb3 jd), permIn_trans _ _ _ a b hP (swp_permIn dt a b _ _ jo jo jo jo (by rw [hA.1]; exact hb2)), K.trans hKs (fun x hx => .inl hx)⟩
   first | omega | (dsimp only; omega)
  refine jX ?_
  refine qJ (qJ (qN ?_))
  refine gK ?_
  exact ⟨dt, rfl, hA, hP, K⟩
 refine jQ ?_
 refine gK ?_
 exact ⟨d, rfl, h, permIn_refl _ _ _, Frm.refl _ _⟩
end
section
open Go.RowKit Go.Sort
def tF (a0 b0 : Nat) (d0 : Array Nat) (a b : Nat) (d : Array Nat) : Prop := ∀ R, PermIn a b d R → SortedIn ltN a b R → PermIn a0 b0 d0 R ∧ SortedIn ltN a0 b0 R
theorem tF.perm {a0 b0 a b : Nat} {d0 d d' : Array Nat} (h : tF a0 b0 d0 a b d) (hp : PermIn a b d d') : tF a0 b0 d0 a b d' := fun R h1 h2 => h R (permIn_trans _ _ _ a b hp h1) h2
def zK (M : Nat) : Prop := ∀ (B : Option Addr) (c N : Nat) (d : Array Nat) (w : World) (a b lim : Nat), AO w B c N d → N ≤ 1000000 → a ≤ b → b ≤ N → Below ltN a b d → b - a < M → lim ≤ 1000 →
  Calls Tryz.prog 114 #[.slice B N c, .int .i64 ((a : Nat) : Int), .int .i64 ((b : Nat) : Int), .int .i64 ((lim : Nat) : Int)] w fun e w' => ∃ R, e = .returned (.tuple #[]) ∧ AO w' B c N R ∧ PermIn a b d R ∧ SortedIn ltN a b R ∧ Frm (ob B) w w'
set_option maxHeartbeats 2000000 in
theorem qXl (M : Nat) (hrec : zK M) : zK (M + 1) := by
 intro B c N d0 w a0 b0 lim0 h hN hab0 hb0 hB0 hM hlim0
 have hA := h
 refine VC.calls (nt := 134) (res := #[]) Tryz.func114 rfl Tryz.ntmps114 Tryz.results114 rfl ?_
 refine jS (jR (ja rfl (jO (jN (jS (jR (ja rfl (jO (jN (jB ?_))))))))))
 refine VC.loop (σ := Nat × Nat × Nat × Bool × Bool × Array Nat) (fun s => [(0, .slice B N c), (1, .int .i64 ((s.1 : Nat) : Int)), (2, .int .i64 ((s.2.1 : Nat) : Int)), (3, .int .i64 ((s.2.2.1 : Nat) : Int)), (8, .bool s.2.2.2.1), (9, .bool s.2.2.2.2.1)]) (fun s wr => (s.1 ≤ s.2.1 ∧ s.2.1 ≤ N ∧ s.2.1 - s.1 ≤ b0 - a0 ∧ s.2.2.1 ≤ 1000) ∧ AO wr B c N s.2.2.2.2.2 ∧ Below ltN s.1 s.2.1 s.2.2.2.2.2 ∧ tF a0 b0 d0 s.1 s.2.1 s.2.2.2.2.2 ∧ Frm (ob B) w wr) (fun s => s.2.1 - s.1) (a0, b0, lim0, true, true, d0) (js6 rfl rfl rfl rfl rfl rfl) ⟨⟨hab0, hb0, zw _, hlim0⟩, hA, hB0, fun R h1 h2 => ⟨h1, h2⟩, Frm.refl _ _⟩ ?_
 rintro ⟨a, b, lim, wb, wp, d⟩ wr ⟨⟨q1, q2, q3, q4⟩, hA, hB, hG, K⟩
 dsimp only at *
 refine jB (jS (jR (jm rfl (jm rfl (jb rfl rfl (Bin.sub_i64 _ _ jo jo) (ja rfl (jO (jN (jv7 0 1 2 3 8 9 10 ?_)))))))))
 refine jS (jS (jR (jm rfl (jb rfl rfl (Bin.leqN _ 12) (jO (jN (jv8 0 1 2 3 8 9 10 23 ?_)))))))
 refine jD rfl (fun hc1 => ?_) fun hc1 => ?_
 ·
  refine jS (jR (jm rfl (jm rfl (jM ?_))))
  refine Ops.cl (jE3 Tryz.call141) (qXa B c N d _ hA hN a b jo jo) rfl ?_
  rintro e w1 ⟨rfl, hA1, hf1⟩
  have K := K.trans hf1 (fun x hx => .inl hx)
  obtain ⟨hp, hs⟩ := insertionSort_holds kB d a b q1 (by rw [hA.1]; exact q2)
  obtain ⟨hp, hs⟩ := hG _ hp hs
  refine ⟨_, rfl, ?_⟩
  refine jO (jN ?_)
  refine VC.sub [] .nil ?_
  refine jT ?_
  refine qZ (qH (qZ (qH (wL ?_))))
  exact ⟨_, rfl, hA1, hp, hs, K⟩
 refine jQ (jN (jv7 0 1 2 3 8 9 10 ?_))
 refine jS (jS (jR (jm rfl (jb rfl rfl (Bin.eqlN _ 0) (jO (jN (jv8 0 1 2 3 8 9 10 29 ?_)))))))
 refine jD rfl (fun hc2 => ?_) fun hc2 => ?_
 ·
  refine jS (jR (jm rfl (jm rfl (jM ?_))))
  refine Ops.cl (jE3 Tryz.call142) (yI B c N d _ hA hN a b jo jo) rfl ?_
  rintro e w1 ⟨rfl, hA1, hf1⟩
  have K := K.trans hf1 (fun x hx => .inl hx)
  obtain ⟨hp, hs⟩ := heapSort_holds kB d a b q1 (by rw [hA.1]; exact q2)
  obtain ⟨hp, hs⟩ := hG _ hp hs
  refine ⟨_, rfl, ?_⟩
  refine jO (jN ?_)
  refine VC.sub [] .nil ?_
  refine jT ?_
  refine qZ (qH (qZ (qH (wL ?_))))
  exact ⟨_, rfl, hA1, hp, hs, K⟩
 refine jQ (jN (jv7 0 1 2 3 8 9 10 ?_))
 refine jS (jS (jR (jm rfl (je (Run.not rfl) (jO (jN (jv8 0 1 2 3 8 9 10 35 ?_)))))))
 refine VC.meet (σ := Nat × Array Nat) (fun s => [(0, .slice B N c), (1, .int .i64 ((a : Nat) : Int)), (2, .int .i64 ((b : Nat) : Int)), (3, .int .i64 ((s.1 : Nat) : Int)), (8, .bool wb), (9, .bool wp), (10, .int .i64 (((b - a) : Nat) : Int))]) (fun s wm => s.1 ≤ 1000 ∧ AO wm B c N s.2 ∧ PermIn a b d s.2 ∧ Frm (ob B) w wm) ?_ ?_
 ·
  refine VC.condB rfl (fun hc3 => ?_) (fun hc3 => ?_)
  ·
   refine jS (jR (jm rfl (jm rfl (jM ?_))))
   refine Ops.cl (jE3 Tryz.call143) (qXk B c N d _ hA hN a b jo jo) rfl ?_
   rintro e w1 ⟨d1, rfl, hA1, hp1, hf1⟩
   have K := K.trans hf1 (fun x hx => .inl hx)
   refine ⟨_, rfl, ?_⟩
   refine jO (jN (jv7 0 1 2 3 8 9 10 ?_))
   refine jR (jm rfl (jb rfl rfl (Bin.sub_i64 _ 1 jo jo) (ja rfl (jO ?_))))
   refine jN ⟨(lim - 1, d1), (js7 rfl rfl rfl rfl rfl rfl rfl), ?_⟩
   exact ⟨by dsimp only; omega, hA1, hp1, K⟩
  refine jQ ?_
  refine jN ⟨(lim, d), (js7 rfl rfl rfl rfl rfl rfl rfl), ?_⟩
  exact ⟨q4, hA, permIn_refl _ _ _, K⟩
 rintro ⟨lim3, d1⟩ wm ⟨hl3, hA1, hp1, K⟩ Γ hΓ
 dsimp only at *
 have hsz : b ≤ d.size := by rw [hA.1]; exact q2
 have hB := hB.permA permIn_all hsz hp1
 have hG := hG.perm hp1
 have hA := hA1
 refine jN (VC.sub _ hΓ (jS (jR (jm rfl (jm rfl (jM ?_))))))
 refine Ops.cl (jE3 Tryz.call144) (qXj B c N d1 _ hA hN a b jo jo) rfl ?_
 rintro e w2 ⟨p, q, rfl, hp, hq, hf2⟩
 have hA := hA.nil hf2
 have K := K.trans hf2 jp
 refine ⟨_, rfl, ?_⟩
 refine jm rfl (je (Run.extract rfl rfl) (je (Run.extract rfl rfl) (ja rfl (ja rfl (jO (jN (jv9 0 1 2 3 8 9 10 11 12 ?_)))))))
 refine jS (jS (jR (jm rfl (jb rfl rfl (Bin.eqlN _ 2) (jO (jN (jv10 0 1 2 3 8 9 10 11 12 50 ?_)))))))
 refine VC.meet (σ := Nat × Nat × Array Nat) (fun s => [(0, .slice B N c), (1, .int .i64 ((a : Nat) : Int)), (2, .int .i64 ((b : Nat) : Int)), (3, .int .i64 ((lim3 : Nat) : Int)), (8, .bool wb), (9, .bool wp), (10, .int .i64 (((b - a) : Nat) : Int)), (11, .int .i64 ((s.1 : Nat) : Int)), (12, .int .i64 ((s.2.1 : Nat) : Int))]) (fun s wm2 => (a ≤ s.1 ∧ s.1 < b) ∧ AO wm2 B c N s.2.2 ∧ PermIn a b d1 s.2.2 ∧ Frm (ob B) w wm2) ?_ ?_
 ·
  refine jD rfl (fun hc4 => ?_) fun hc4 => ?_
  ·
   refine jS (jR (jm rfl (jm rfl (jM ?_))))
   refine Ops.cl (jE3 Tryz.call145) (qXe B c N d1 _ hA hN a b jo jo) rfl ?_
   rintro e w3 ⟨rfl, hA2, hf3⟩
   have K := K.trans hf3 (fun x hx => .inl hx)
   refine ⟨_, rfl, ?_⟩
   refine jO (jN (jv8 0 1 2 3 8 9 10 11 ?_))
   refine jS (jR (jm rfl (jb rfl rfl (Bin.sub_i64 _ 1 jo jo) (jm rfl (jm rfl (jb rfl rfl (Bin.sub_i64 _ _ jo jo) (jb rfl rfl (Bin.sub_i64 _ _ jo jo) (ja rfl (jO (jN (jv8 0 1 2 3 8 9 10 11 ?_)))))))))))
   refine jR (jz 1 (jO ?_))
   refine jN ⟨(b - 1 - (p - a), 1, reverseRange d1 a b), (js9 rfl rfl rfl rfl rfl rfl rfl rfl rfl), ?_⟩
   exact ⟨by dsimp only; omega, hA2, reverseRange_holds d1 a b jo (by rw [hA.1]; exact q2), K⟩
  refine jQ ?_
  refine jN ⟨(p, q, d1), (js9 rfl rfl rfl rfl rfl rfl rfl rfl rfl), ?_⟩
  exact ⟨hp, hA, permIn_refl _ _ _, K⟩
 rintro ⟨pv, hi, d2⟩ wm2 ⟨hpv, hA2, hp2, K⟩ Γ hΓ
 dsimp only at *
 have hsz : b ≤ d1.size := by rw [hA1.1]; exact q2
 have hB := hB.permA permIn_all hsz hp2
 have hG := hG.perm hp2
 have hA := hA2
 refine jN (VC.sub _ hΓ (jS (jS ?_)))
 refine VC.split1 [(0, _), (1, _), (2, _), (3, _), (8, _), (9, _), (10, _), (11, _)] (js8 rfl rfl rfl rfl rfl rfl rfl rfl) 68 (.bool (decide (wb = true ∧ wp = true ∧ hi = 1))) ?_ ?_
 ·
  refine jR (jM ?_)
  by_cases hs61 : wb = true
  ·
   refine jM ?_
   refine jG ?_
   by_cases hs63 : wp = true
   ·
    refine je (Run.pickT rfl rfl au) (jM ?_)
    refine jG ?_
    refine jk (Run.bin rfl rfl (Bin.eqlN _ 1)) ?_
    by_cases hs67 : hi = 1
    ·
     refine je (Run.pickT rfl rfl au) (jO ?_)
     refine jN ⟨(js9 (jC (by grind)) rfl rfl rfl rfl rfl rfl rfl rfl), rfl⟩
    refine je (Run.pickT rfl rfl au) (jO ?_)
    refine jN ⟨(js9 (jC (by grind)) rfl rfl rfl rfl rfl rfl rfl rfl), rfl⟩
   refine je (Run.pickT rfl rfl au) (jM ?_)
   refine jU ?_
   refine jU ?_
   refine je (Run.pickF rfl rfl au) (jO ?_)
   refine jN ⟨(js9 (jC (by grind)) rfl rfl rfl rfl rfl rfl rfl rfl), rfl⟩
  refine jM ?_
  refine jU ?_
  refine je (Run.pickF rfl rfl au) (jM ?_)
  refine jU ?_
  refine jU ?_
  refine je (Run.pickF rfl rfl au) (jO ?_)
  refine jN ⟨(js9 (jC (by grind)) rfl rfl rfl rfl rfl rfl rfl rfl), rfl⟩
 intro Γ hΓ
 refine jN (VC.sub _ hΓ ?_)
 refine VC.meet (σ := Array Nat) (fun s => [(0, .slice B N c), (1, .int .i64 ((a : Nat) : Int)), (2, .int .i64 ((b : Nat) : Int)), (3, .int .i64 ((lim3 : Nat) : Int)), (8, .bool wb), (9, .bool wp), (10, .int .i64 (((b - a) : Nat) : Int)), (11, .int .i64 ((pv : Nat) : Int))]) (fun s wm3 => AO wm3 B c N s ∧ PermIn a b d2 s ∧ Frm (ob B) w wm3) ?_ ?_
 ·
  refine jD rfl (fun hc5 => ?_) fun hc5 => ?_
  ·
   refine jS (jR (jm rfl (jm rfl (jM ?_))))
   refine Ops.cl (jE3 Tryz.call146) (zX B c N d2 _ hA hN a b jo jo) rfl ?_
   rintro e w4 ⟨rfl, hA3, hf4⟩
   have K := K.trans hf4 (fun x hx => .inl hx)
   obtain ⟨hp3, hs3⟩ := partialInsertionSort_holds kB d2 a b jo (by rw [hA.1]; exact q2) hB
   obtain ⟨d3, ok, hpi⟩ : ∃ d3 ok, partialInsertionSort ltN d2 a b = (d3, ok) := ⟨_, _, rfl⟩
   rw [hpi] at hA3 hp3 hs3
   rw [hpi]
   dsimp only at *
   refine ⟨_, rfl, ?_⟩
   refine jO (jN (jv9 0 1 2 3 8 9 10 11 72 ?_))
   refine VC.condB rfl (fun hc6 => ?_) (fun hc6 => ?_)
   ·
    obtain ⟨h1, h2⟩ := hG _ hp3 (hs3 (by first | exact hc6 | simpa using hc6))
    refine jT ?_
    refine qZ (qZ (qH (qZ (qH (wL ?_)))))
    exact ⟨d3, rfl, hA3, h1, h2, K⟩
   refine jQ ?_
   refine jN ⟨d3, (js8 rfl rfl rfl rfl rfl rfl rfl rfl), ?_⟩
   exact ⟨hA3, hp3, K⟩
  refine jQ ?_
  refine jN ⟨d2, (js8 rfl rfl rfl rfl rfl rfl rfl rfl), ?_⟩
  exact ⟨hA, permIn_refl _ _ _, K⟩
 rintro d3 wm3 ⟨hA3, hp3, K⟩ Γ hΓ
 have hsz : b ≤ d2.size := by rw [hA2.1]; exact q2
 have hB := hB.permA permIn_all hsz hp3
 have hG := hG.perm hp3
 have hA := hA3
 have hsz3 : b ≤ d3.size := by rw [hA.1]; exact q2
 obtain ⟨ad, rfl⟩ := hA.adr jo
 refine jN (VC.sub _ hΓ (jS (jS ?_)))
 refine VC.meet (σ := Unit) (fun s => [(0, .slice (some ad) N c), (1, .int .i64 ((a : Nat) : Int)), (2, .int .i64 ((b : Nat) : Int)), (3, .int .i64 ((lim3 : Nat) : Int)), (8, .bool wb), (9, .bool wp), (10, .int .i64 (((b - a) : Nat) : Int)), (11, .int .i64 ((pv : Nat) : Int)), (87, .bool (decide (0 < a ∧ ¬ d3[a - 1]! < d3[pv]!)))]) (fun s wz => Frm [] wm3 wz) ?_ ?_
 ·
  refine VC.held (fun W => Frm [] wm3 W) jK ?_
  have hS : Frm [] wm3 wm3.drew := (Frm.refl _ _).drew
  refine jH 0 rfl hS (fun w0 hw0 => Run.mv rfl) ?_
  refine jH 1 rfl hS (fun w0 hw0 => Run.bin rfl rfl (Bin.gtrN _ 0)) ?_
  by_cases hs74 : 0 < a
  ·
   refine jH 2 rfl hS (fun w0 hw0 => Run.mv rfl) ?_
   refine qQ.take 3 rfl jK jK jK hS (fun w0 hw0 => Run.mv rfl) (Up.g rfl (by first | rfl | exact decide_eq_true hs74 | (simp [hs74]; done))) rfl rfl ?_
   refine qQ.take 4 rfl jK jK jK hS (fun w0 hw0 => Run.mv rfl) (Up.g rfl (by first | rfl | exact decide_eq_true hs74 | (simp [hs74]; done))) rfl rfl ?_
   refine qQ.take 5 rfl jK jK jK hS (fun w0 hw0 => Run.bin rfl rfl (Bin.sub_i64 _ 1 jo jo)) (Up.g rfl (by first | rfl | exact decide_eq_true hs74 | (simp [hs74]; done))) rfl rfl ?_
   refine qQ.take 6 rfl jK jK jK hS (fun w0 hw0 => Run.index1 _ rfl rfl ze zd jo) (Up.g rfl (by first | rfl | exact decide_eq_true hs74 | (simp [hs74]; done))) rfl rfl ?_
   refine qQ.take 7 rfl jK jK jK hS (fun w0 hw0 => Run.load rfl zk ((hA.nil hw0).at (i := a - 1) jo)) (Up.g rfl (by first | rfl | exact decide_eq_true hs74 | (simp [hs74]; done))) rfl rfl ?_
   refine qQ.take 8 rfl jK jK jK hS (fun w0 hw0 => Run.mv rfl) (Up.g rfl (by first | rfl | exact decide_eq_true hs74 | (simp [hs74]; done))) rfl rfl ?_
   refine qQ.take 9 rfl jK jK jK hS (fun w0 hw0 => Run.mv rfl) (Up.g rfl (by first | rfl | exact decide_eq_true hs74 | (simp [hs74]; done))) rfl rfl ?_
   refine qQ.take 10 rfl jK jK jK hS (fun w0 hw0 => Run.index1 _ rfl rfl ze zd jo) (Up.g rfl (by first | rfl | exact decide_eq_true hs74 | (simp [hs74]; done))) rfl rfl ?_
   refine qQ.take 11 rfl jK jK jK hS (fun w0 hw0 => Run.load rfl zk ((hA.nil hw0).at (i := pv) jo)) (Up.g rfl (by first | rfl | exact decide_eq_true hs74 | (simp [hs74]; done))) rfl rfl ?_
   refine qQ.cl 12 rfl jK (jE2 zcn) (bI _ _ _) (Up.g rfl (by first | rfl | exact decide_eq_true hs74 | (simp [hs74]; done))) rfl rfl ?_
   rintro e _ ⟨rfl, rfl⟩
   refine ⟨_, rfl, hS, ?_⟩
   by_cases hs85 : d3[a - 1]! < d3[pv]!
   ·
    refine qQ.take 13 rfl jK jK jK hS (fun w0 hw0 => Run.not rfl) (Up.g rfl (by first | rfl | exact decide_eq_true hs74 | exact decide_eq_true hs85 | (simp [hs74]; done) | (simp [hs85]; done))) rfl rfl ?_
    refine jH 14 rfl hS (fun w0 hw0 => Run.pickT rfl rfl (by first | rfl | exact decide_eq_true hs74 | exact decide_eq_true hs85 | (simp [hs74]; done) | (simp [hs85]; done))) ?_
    refine qQ.done jK ?_
    refine jN ⟨(), (js9 rfl rfl rfl rfl rfl rfl rfl rfl (jC (by grind))), ?_⟩
    exact hS
   refine qQ.take 13 rfl jK jK jK hS (fun w0 hw0 => Run.not rfl) (Up.g rfl (by first | rfl | exact decide_eq_true hs74 | exact decide_eq_false hs85 | (simp [hs74]; done) | (simp [hs85]; done))) rfl rfl ?_
   refine jH 14 rfl hS (fun w0 hw0 => Run.pickT rfl rfl (by first | rfl | exact decide_eq_true hs74 | exact decide_eq_false hs85 | (simp [hs74]; done) | (simp [hs85]; done))) ?_
   refine qQ.done jK ?_
   refine jN ⟨(), (js9 rfl rfl rfl rfl rfl rfl rfl rfl (jC (by grind))), ?_⟩
   exact hS
  refine jH 2 rfl hS (fun w0 hw0 => Run.mv rfl) ?_
  refine qQ.skip 3 rfl jK jK jK hS rfl rfl (by first | rfl | exact decide_eq_false hs74 | (simp [hs74]; done)) rfl rfl ?_
  refine qQ.skip 4 rfl jK jK jK hS rfl rfl (by first | rfl | exact decide_eq_false hs74 | (simp [hs74]; done)) rfl rfl ?_
  refine qQ.skip 5 rfl jK jK jK hS rfl rfl (by first | rfl | exact decide_eq_false hs74 | (simp [hs74]; done)) rfl rfl ?_
  refine qQ.skip 6 rfl jK jK jK hS rfl rfl (by first | rfl | exact decide_eq_false hs74 | (simp [hs74]; done)) rfl rfl ?_
  refine qQ.skip 7 rfl jK jK jK hS rfl rfl (by first | rfl | exact decide_eq_false hs74 | (simp [hs74]; done)) rfl rfl ?_
  refine qQ.skip 8 rfl jK jK jK hS rfl rfl (by first | rfl | exact decide_eq_false hs74 | (simp [hs74]; done)) rfl rfl ?_
  refine qQ.skip 9 rfl jK jK jK hS rfl rfl (by first | rfl | exact decide_eq_false hs74 | (simp [hs74]; done)) rfl rfl ?_
  refine qQ.skip 10 rfl jK jK jK hS rfl rfl (by first | rfl | exact decide_eq_false hs74 | (simp [hs74]; done)) rfl rfl ?_
  refine qQ.skip 11 rfl jK jK jK hS rfl rfl (by first | rfl | exact decide_eq_false hs74 | (simp [hs74]; done)) rfl rfl ?_
  refine qQ.skip 12 rfl jK jK jK hS rfl rfl (by first | rfl | exact decide_eq_false hs74 | (simp [hs74]; done)) rfl rfl ?_
  refine qQ.skip 13 rfl jK jK jK hS rfl rfl (by first | rfl | exact decide_eq_false hs74 | (simp [hs74]; done)) rfl rfl ?_
  refine jH 14 rfl hS (fun w0 hw0 => Run.pickF rfl rfl (by first | rfl | exact decide_eq_false hs74 | (simp [hs74]; done))) ?_
  refine qQ.done jK ?_
  refine jN ⟨(), (js9 rfl rfl rfl rfl rfl rfl rfl rfl (jC (by grind))), ?_⟩
  exact hS
 rintro _ wz hfz Γ hΓ
 have hA := hA.nil hfz
 have K := K.trans hfz jp
 refine jN (VC.sub _ hΓ ?_)
 refine jD rfl (fun hc7 => ?_) fun hc7 => ?_
 ·
  refine jS (jR (jm rfl (jm rfl (jm rfl (jM ?_)))))
  refine Ops.cl (jE4 Tryz.call148) (qXg (some ad) c N d3 _ hA hN a b pv hpv.1 hpv.2 q2) rfl ?_
  rintro e w5 ⟨rfl, hA, hf5⟩
  have K := K.trans hf5 (fun x hx => .inl hx)
  obtain ⟨mid, d4, hpe⟩ : ∃ mid d4, partitionEqual ltN d3 a b pv = (mid, d4) := ⟨_, _, rfl⟩
  obtain ⟨m1, m2, msz, mB, mG⟩ := round_eq kB (partitionEqual_holds ltN) hc7.1 hpv.1 hpv.2 hsz3 hB (by simp [ltN]; omega) hpe
  rw [hpe] at hA ⊢
  dsimp only at *
  refine ⟨_, rfl, ?_⟩
  refine ja rfl (jO (jN (jv6 0 2 3 8 9 13 ?_)))
  refine jS (jR (jm rfl (ja rfl (jO (jN (jv6 0 1 2 3 8 9 ?_))))))
  refine jX ?_
  refine qJ (qN ?_)
  refine jN ⟨(mid, b, lim3, wb, wp, d4), (js6 rfl rfl rfl rfl rfl rfl), ?_, ?_⟩
  · exact ⟨⟨m2, q2, by dsimp only; omega, hl3⟩, hA, mB, fun R h1 h2 => by obtain ⟨h3, h4⟩ := mG R h1 h2; exact hG R h3 h4, K⟩
  first | omega | (dsimp only; omega)
 refine jQ (jN (jv6 0 1 2 3 10 11 ?_))
 refine jS (jR (jm rfl (jm rfl (jm rfl (jM ?_)))))
 refine Ops.cl (jE4 Tryz.call149) (yL (some ad) c N d3 _ hA hN a b pv hpv.1 hpv.2 q2) rfl ?_
 rintro e w5 ⟨rfl, hA, hf5⟩
 have K := K.trans hf5 (fun x hx => .inl hx)
 obtain ⟨mid, ap, d4, hpt⟩ : ∃ mid ap d4, partition ltN d3 a b pv = (mid, ap, d4) := ⟨_, _, _, rfl⟩
 obtain ⟨m1, m2, msz, mBl, mBr, mL, mR⟩ := round_part kB (partition_holds ltN) hpv.1 hpv.2 hsz3 hB hpt
 rw [hpt] at hA ⊢
 dsimp only at *
 refine ⟨_, rfl, ?_⟩
 refine jm rfl (je (Run.extract rfl rfl) (je (Run.extract rfl rfl) (ja rfl (ja rfl (jO (jN (jv7 0 1 2 3 10 14 15 ?_)))))))
 refine jS (jR (jm rfl (ja rfl (jO (jN (jv7 0 1 2 3 9 10 14 ?_))))))
 refine jS (jR (jm rfl (jm rfl (jb rfl rfl (Bin.sub_i64 _ _ jo jo) (jm rfl (jm rfl (jb rfl rfl (Bin.sub_i64 _ _ jo jo) (ja rfl (ja rfl (jO (jN (jv9 0 1 2 3 9 10 14 16 17 ?_))))))))))))
 refine jS (jR (jm rfl (jb rfl rfl (Bin.quo_i64 _ 8 jo jo) (ja rfl (jO (jN (jv9 0 1 2 3 9 14 16 17 18 ?_)))))))
 refine jS (jR (jm rfl (jm rfl (jb rfl rfl (Bin.lssN _ _) (jO (jN (jv10 0 1 2 3 9 14 16 17 18 113 ?_)))))))
 refine VC.meet (σ := Nat × Nat × Bool × Array Nat) (fun s => [(0, .slice (some ad) N c), (1, .int .i64 ((s.1 : Nat) : Int)), (2, .int .i64 ((s.2.1 : Nat) : Int)), (3, .int .i64 ((lim3 : Nat) : Int)), (8, .bool s.2.2.1), (9, .bool ap)]) (fun s wm8 => (s.1 ≤ s.2.1 ∧ s.2.1 ≤ N ∧ s.2.1 - s.1 < b - a) ∧ AO wm8 (some ad) c N s.2.2.2 ∧ Below ltN s.1 s.2.1 s.2.2.2 ∧ tF a b d3 s.1 s.2.1 s.2.2.2 ∧ Frm (ob (some ad)) w wm8) ?_ ?_
 ·
  refine jD rfl (fun hc8 => ?_) fun hc8 => ?_
  ·
   refine jS (jR (jm rfl (jm rfl (jb rfl rfl (Bin.geqN _ _) (ja rfl (jO (jN (jv7 0 1 2 3 8 9 14 ?_))))))))
   refine jS (jR (jm rfl (jm rfl (jm rfl (jM ?_)))))
   refine Ops.cl (jE4 Tryz.call114) (hrec (some ad) c N d4 _ a mid lim3 hA hN jo jo mBl jo jo) rfl ?_
   rintro e w6 ⟨R, rfl, hA, hPR, hSR, hf6⟩
   have K := K.trans hf6 (fun x hx => .inl hx)
   obtain ⟨hBl, hGl⟩ := mL R hPR hSR
   refine ⟨_, rfl, ?_⟩
   refine jO (jN (jv6 0 2 3 8 9 14 ?_))
   refine jR (jm rfl (jb rfl rfl (Bin.add_i64 _ 1 jo) (ja rfl (jO ?_))))
   refine jN ⟨(mid + 1, b, _, R), (js6 rfl rfl rfl rfl rfl rfl), ?_⟩
   exact ⟨⟨by dsimp only; omega, q2, by dsimp only; omega⟩, hA, hBl, hGl, K⟩
  refine jS (jR (jm rfl (jm rfl (jb rfl rfl (Bin.geqN _ _) (ja rfl (jO (jN (jv7 0 1 2 3 8 9 14 ?_))))))))
  refine jS (jR (jm rfl (jm rfl (jb rfl rfl (Bin.add_i64 _ 1 jo) (jm rfl (jM ?_))))))
  refine Ops.cl (jE4 Tryz.call114) (hrec (some ad) c N d4 _ (mid + 1) b lim3 hA hN jo jo mBr jo jo) rfl ?_
  rintro e w6 ⟨R, rfl, hA, hPR, hSR, hf6⟩
  have K := K.trans hf6 (fun x hx => .inl hx)
  obtain ⟨hBl, hGl⟩ := mR R hPR hSR
  refine ⟨_, rfl, ?_⟩
  refine jO (jN (jv6 0 1 3 8 9 14 ?_))
  refine jR (jm rfl (ja rfl (jO ?_)))
  refine jN ⟨(a, mid, _, R), (js6 rfl rfl rfl rfl rfl rfl), ?_⟩
  exact ⟨⟨m1, by dsimp only; omega, by dsimp only; omega⟩, hA, hBl, hGl, K⟩
 rintro ⟨a2, b2, wb2, R⟩ wm8 ⟨⟨z1, z2, z3⟩, hA, hBl, hGl, K⟩ Γ hΓ
 dsimp only at *
 refine qW (jN ⟨(a2, b2, lim3, wb2, ap, R), (js6 (hΓ.get _ _ rfl) (hΓ.get _ _ rfl) (hΓ.get _ _ rfl) (hΓ.get _ _ rfl) (hΓ.get _ _ rfl) (hΓ.get _ _ rfl)), ?_, ?_⟩)
 · exact ⟨⟨z1, z2, by dsimp only; omega, hl3⟩, hA, hBl, fun R2 h1 h2 => by obtain ⟨h3, h4⟩ := hGl R2 h1 h2; exact hG R2 h3 h4, K⟩
 first | omega | (dsimp only; omega)
theorem tA : ∀ M, zK M
 | 0 => fun B c N d w a b lim _ _ _ _ _ h => jo
 | M + 1 => qXl M (tA M)
theorem zV (B : Option Addr) (c N : Nat) (d : Array Nat) (w : World) (h : AO w B c N d) (hN : N ≤ 1000000) :
  Calls Tryz.prog 64 #[.slice B N c] w fun e w' => ∃ R, e = .returned (.tuple #[]) ∧ AO w' B c N R ∧ PermIn 0 N d R ∧ SortedIn ltN 0 N R ∧ Frm (ob B) w w' := by
 refine VC.calls (nt := 11) (res := #[]) Tryz.func64 rfl Tryz.ntmps64 Tryz.results64 rfl ?_
 refine jS (jR (jm rfl (je (Run.lenS rfl ze) (ja rfl (jO (jN (jv2 0 2 ?_)))))))
 refine jR (jm rfl (jm rfl (jm rfl (je (Run.convN _ rfl zac zcq (by simp only [bmax]; omega)) ?_))))
 refine Ops.cl (jE1 Tryz.call115) (Tryz.bits_Len ((N : Nat) : Int) _ jo jo) rfl ?_
 rintro e _ ⟨rfl, rfl⟩
 rw [zdj]
 have hbl : Go.Lib.bitLen N ≤ 64 := by
  rcases zch N with h0 | h0
  · rw [h0]; decide
  exact (lR hN h0).2.2
 refine ⟨_, rfl, ?_⟩
 refine Ops.cl (jE4 Tryz.call114) (tA (N + 1) B c N d _ 0 N (Go.Lib.bitLen N) h hN jo jo (Or.inl rfl) jo jo) rfl ?_
 rintro e w1 ⟨R, rfl, hA, hP, hS, hf⟩
 refine ⟨_, rfl, ?_⟩
 refine jO ?_
 refine gK ?_
 exact ⟨R, rfl, hA, hP, hS, hf⟩
end
section
open Go.RowKit Go.Sort
def dF (x : Nat) : Value := .int .u64 ((x : Nat) : Int)
theorem qJb {w : World} {base g cap n : Nat} {e : TypeId} {os : Array Obj} {cur : Array Value} {ss ts : List Nat} (hl : ts.length = ss.length) (hbase : base ≤ g) (hb : w.heap[g]? = some (.cells cur e (0, 0)))
  (h1 : ss.length ≤ cap) (h2 : cap ≤ maxLen) (h3 : cur.size = cap * 1) :
  (grow (putRow dF (Sort.ahead w n) g 0 ts.toArray) os).ownsRow base e 1 (.slice (some ⟨g, 0, none⟩) ss.length cap) ss.length (UB ts) := by
 have ht : (putCells dF 0 ts.toArray cur).toList.take ts.length = UB ts := by
  apply zcl
  intro j
  by_cases hj : j < ts.length
  ·
   rw [zbo hj, zeq]
   simp [putCells, UB, dF, hj, show j < cur.size by omega]
  rw [List.getElem?_take_eq_none jo, zbl (by simp [UB]; omega)]
 have hh : (grow (putRow dF (Sort.ahead w n) g 0 ts.toArray) os).heap[g]? = some (.cells (putCells dF 0 ts.toArray cur) e (0, 0)) := by
  have hlt : g < w.heap.size := Array.getElem?_eq_some_iff.1 hb |>.1
  rw [heap_grow_old _ _ (by simpa using hlt)]
  simp [putRow, mapBlock, Sort.ahead, zep, hb, onCells]
 exact ⟨by simp [UB, hl], .inr ⟨g, cap, _, rfl, hbase, hh, h1, h2, by simp [putCells, h3], by rw [zbq, ← hl]; exact ht⟩⟩
theorem qJc {w : World} {g n : Nat} {os : Array Obj} (d : Array Nat) : w.grownBy (grow (putRow dF (Sort.ahead w n) g 0 d) os) (some g) := by
 refine ⟨rfl, rfl, rfl, jp, fun k hk hne => ?_⟩
 rw [heap_grow_old _ _ (by simpa using hk)]
 have : g ≠ k := fun e => hne (by rw [e])
 simp [putRow, mapBlock, Sort.ahead, zep, this]
theorem Own.putU {w : World} {g c m : Nat} {e : TypeId} {os : Array Obj} {ss ts : List Nat} (h : Own w e 1 (some ⟨g, 0, none⟩) ss.length c (UB ss)) (hl : ts.length = ss.length) :
  Own (grow (putRow dF (Sort.ahead w m) g 0 ts.toArray) os) e 1 (some ⟨g, 0, none⟩) ss.length c (UB ts) ∧ Frm [g] w (grow (putRow dF (Sort.ahead w m) g 0 ts.toArray) os) := by
 rcases h.cases with ⟨h0, _⟩ | ⟨g', cur, hA, hb, h1, h2, h3, h4⟩
 · cases h0
 cases hA
 refine ⟨qJb hl (zae _) hb h1 h2 (by simpa using h3), ?_⟩
 have := Frm.grown (qJc (w := w) (g := g) (n := m) (os := os) ts.toArray)
 simpa using this
theorem Own.holdsU {w : World} {g c : Nat} {e : TypeId} {ss : List Nat} (h : Own w e 1 (some ⟨g, 0, none⟩) ss.length c (UB ss)) : Holds dF w g 0 ss.toArray ∧ g < w.heap.size := by
 rcases h.cases with ⟨h0, _⟩ | ⟨g', cur, hA, hb, h1, h2, h3, h4⟩
 · cases h0
 cases hA
 refine ⟨?_, hb.lt⟩
 rw [zbq] at h4
 intro j hj
 have hj' : j < ss.length := by simpa using hj
 have hb' : w.heap[g]? = some (.cells cur e (0, 0)) := hb
 refine ⟨?_, by simp [World.frozen?, hb']⟩
 have h5 : (cur.toList.take ss.length)[j]? = (UB ss)[j]? := by rw [h4]
 rw [zbo hj'] at h5
 simp only [World.cell?, hb', zei]
 simp only [Option.isSome_none, zbz, if_false]
 rw [← zeq, h5]
 simp [UB, dF, hj']
theorem wY (x y : Nat) : ((x : Int) == (y : Int)) = decide (x = y) := by
 rw [zbt]
 simp only [beq_iff_eq, decide_eq_true_eq]
 omega
theorem eqlU (P : Program) (T : TypeId) : EqlAt P T dF (fun x y => decide (x = y)) := ⟨fun x y w => by simp [binOp, Op.intCmp, dF, wY], fun op a b x y w => GuardAt.int P T .u64 op a b x y w⟩
theorem neqU (P : Program) (T : TypeId) : NeqAt P T dF (fun x y => decide (x = y)) := ⟨fun x y w => by simp [binOp, Op.intCmp, dF, bne, wY], fun op a b x y w => GuardAt.int P T .u64 op a b x y w⟩
theorem oneU : OneCell dF := fun _ => rfl
theorem vM (ss : List Nat) : (Lib.compact ss).length ≤ ss.length := by
 unfold Lib.compact Lib.compactUpTo
 rw [zah]
 refine zax (zce _ _) ?_
 simp
theorem qWc (w : World) : (zeroValue 40).run Tryz.prog w = .ok (dF 0) w := sS w
theorem sK (g c : Nat) (ss : List Nat) (w : World) (h : Own w 40 1 (some ⟨g, 0, none⟩) ss.length c (UB ss)) (hs : ss.length ≤ 1000000) :
  Calls Tryz.prog 65 #[.slice (some ⟨g, 0, none⟩) ss.length c] w fun e w' => e = .returned (.slice (some ⟨g, 0, none⟩) (Lib.compact ss).length c) ∧ Own w' 40 1 (some ⟨g, 0, none⟩) (Lib.compact ss).length c (UB (Lib.compact ss)) ∧ Frm [g] w w' := by
 obtain ⟨h1, h2⟩ := h.holdsU
 have hsz : ss.toArray.size = ss.length := jp
 have key := Tryz.slices_Compact_f65 dF oneU (eqlU _ _) (neqU _ _) 0 qWc g 0 c ss.toArray w h1 (by rw [hsz]; omega) (by rw [hsz]; exact h.le)
 rw [hsz] at key
 refine key.mono fun e w' ⟨he, m, hw⟩ => ?_
 have hle := vM ss
 have hcp : Lib.compactUpTo ss.toArray ss.length = Lib.compact ss := rfl
 rw [hcp] at he hw
 obtain ⟨h3, h4⟩ := h.putU (m := m) (os := #[]) (ts := Lib.compact ss ++ List.replicate (ss.length - (Lib.compact ss).length) 0) (by simp; omega)
 have hg : grow (putRow dF (Sort.ahead w m) g 0 (Lib.compact ss ++ List.replicate (ss.length - (Lib.compact ss).length) 0).toArray) #[] = w' := by rw [hw, sR]
 rw [hg] at h3 h4
 refine ⟨he, ?_, h4⟩
 have h5 := h3.short (k := (Lib.compact ss).length) hle
 simpa [mC, UB, List.take_append] using h5
end
section
open Go.RowKit Go.Sort
theorem jV {d : Array Nat} (hd : ∀ i j, i ≤ j → j < d.size → d[i]! ≤ d[j]!) : ∀ m, m ≤ d.size →
  (Lib.compactUpTo d m).Pairwise (· < ·) ∧ (∀ x, x ∈ Lib.compactUpTo d m ↔ ∃ j, j < m ∧ d[j]! = x)
 | 0, _ => by simp [Lib.compactUpTo]
 | m + 1, hm => by
  obtain ⟨h1, h2⟩ := jV hd m jo
  rw [Lib.compactUpTo_succ]
  by_cases hk : Lib.keeps d m = true
  ·
   rw [if_pos hk]
   refine ⟨List.pairwise_append.2 ⟨h1, jp, fun x hx y hy => ?_⟩, fun x => ?_⟩
   ·
    simp only [za] at hy
    subst hy
    obtain ⟨j, hj, rfl⟩ := (h2 x).1 hx
    have h3 := hd j (m - 1) jo jo
    have h4 := hd (m - 1) m jo jo
    unfold Lib.keeps at hk
    rw [decide_eq_true_eq] at hk
    have h5 : d[m - 1]! < d[m]! := Nat.lt_of_le_of_ne h4 (by rcases hk with h | h; omega; exact fun e => h e.symm)
    omega
   rw [zds, h2, za]
   constructor
   ·
    rintro (⟨j, hj, rfl⟩ | rfl)
    · exact ⟨j, jo, rfl⟩
    exact ⟨m, jo, rfl⟩
   rintro ⟨j, hj, rfl⟩
   rcases zby j m with h | h
   · exact .inl ⟨j, h, rfl⟩
   have : j = m := jo
   subst this
   exact .inr rfl
  rw [if_neg hk, zbs]
  refine ⟨h1, fun x => ?_⟩
  rw [h2]
  unfold Lib.keeps at hk
  rw [decide_eq_true_eq] at hk
  constructor
  ·
   rintro ⟨j, hj, rfl⟩
   exact ⟨j, jo, rfl⟩
  rintro ⟨j, hj, rfl⟩
  rcases zby j m with h | h
  · exact ⟨j, h, rfl⟩
  have : j = m := jo
  subst this
  have hne : j ≠ 0 := fun h => hk (.inl h)
  have heq : d[j]! = d[j - 1]! := Classical.not_not.1 fun h => hk (.inr h)
  exact ⟨j - 1, jo, heq.symm⟩
theorem wG : ∀ {a b : List Nat}, a.Pairwise (· < ·) → b.Pairwise (· < ·) → (∀ x, x ∈ a ↔ x ∈ b) → a = b
 | [], [], _, _, _ => rfl
 | [], y :: b, _, _, h => absurd ((h y).2 jp) jp
 | x :: a, [], _, _, h => absurd ((h x).1 jp) jp
 | x :: a, y :: b, ha, hb, h => by
  have ha := List.pairwise_cons.1 ha
  have hb := List.pairwise_cons.1 hb
  have hxy : x = y := by
   rcases zbh.1 ((h x).1 jp) with h1 | h1
   · exact h1
   rcases zbh.1 ((h y).2 jp) with h2 | h2
   · exact h2.symm
   have := hb.1 x h1
   have := ha.1 y h2
   omega
  subst hxy
  rw [wG ha.2 hb.2]
  intro z
  constructor
  ·
   intro hz
   rcases zbh.1 ((h z).1 (zdh _ hz)) with h1 | h1
   · subst h1; have := ha.1 z hz; omega
   exact h1
  intro hz
  rcases zbh.1 ((h z).2 (zdh _ hz)) with h1 | h1
  · subst h1; have := hb.1 z hz; omega
  exact h1
def lT (l out : List Nat) : Prop := out.Pairwise (· < ·) ∧ ∀ x, x ∈ out ↔ x ∈ l
theorem lT.ext {l a b : List Nat} (h : lT l a) (k : lT l b) : a = b := wG h.1 k.1 (fun x => (h.2 x).trans (k.2 x).symm)
theorem qVo {l : List Nat} {R : Array Nat} (hP : Go.Sort.PermIn 0 l.length l.toArray R) (hS : Go.Sort.SortedIn ltN 0 l.length R) : R.toList.length = l.length ∧ lT l (Lib.compact R.toList) := by
 have hsz : R.size = l.length := by rw [hP.1]; simp
 have hlen : R.toList.length = l.length := by simp [hsz]
 have hd : ∀ i j, i ≤ j → j < R.size → R[i]! ≤ R[j]! := fun i j hij hj => by
  rcases zby i j with h | h
  ·
   have := hS i j (zae _) h jo
   simp [ltN] at this
   exact this
  rw [show i = j by omega]
  exact zw _
 obtain ⟨h1, h2⟩ := jV hd R.size (zw _)
 have hperm : R.toList.Perm l := by
  have h3 := hP.2.2
  have e1 : (R.extract 0 l.length).toList = R.toList := by rw [← hsz]; simp
  have e2 : (l.toArray.extract 0 l.length).toList = l := jp
  rw [e1, e2] at h3
  exact h3
 have hc : Lib.compact R.toList = Lib.compactUpTo R R.size := by unfold Lib.compact; rw [Array.toArray_toList, hlen, hsz]
 refine ⟨hlen, by rw [hc]; exact h1, fun x => ?_⟩
 rw [hc, h2, ← hperm.mem_iff]
 constructor
 ·
  rintro ⟨j, hj, rfl⟩
  rw [getElem!_pos _ j hj]
  exact Array.getElem_mem_toList hj
 intro hx
 obtain ⟨j, hj, rfl⟩ := zag hx
 have hj' : j < R.size := by simpa using hj
 exact ⟨j, hj', by rw [getElem!_pos _ j hj']; simp⟩
def eQ (m : MailP) : List Nat := m.l.flatMap fun x => x.2.l.map MsgP.blob
theorem vN (A : Option Addr) (c n : Nat) (w : World) (hn : n < 2) :
  Calls Tryz.prog 65 #[.slice A n c] w fun e w' => e = .returned (.slice A n c) ∧ w = w' := by
 refine VC.calls (nt := 61) (res := #[.tmp 2]) Tryz.func65 rfl Tryz.ntmps65 Tryz.results65 rfl ?_
 refine jS (jR (ja rfl (jO (jN (jv1 0 ?_)))))
 refine jS (jS (jR (jm rfl (je (Run.lenS rfl ze) (jb rfl rfl (Bin.lssN _ 2) (jO (jN (jv2 0 8 ?_))))))))
 refine VC.condT rfl (decide_eq_true jo) ?_
 refine jS (jR (jm rfl (ja rfl (jO (jN (jv1 2 ?_))))))
 refine jT ?_
 refine qZ (qR rfl ?_)
 exact ⟨rfl, rfl⟩
theorem sV (A : Option Addr) (c : Nat) (ss : List Nat) (w : World) (h : Own w 40 1 A ss.length c (UB ss)) (hs : ss.length ≤ 1000000) :
  Calls Tryz.prog 65 #[.slice A ss.length c] w fun e w' => e = .returned (.slice A (Lib.compact ss).length c) ∧ Own w' 40 1 A (Lib.compact ss).length c (UB (Lib.compact ss)) ∧ Frm (ob A) w w' := by
 cases A with
 | none =>
  have h0 : ss = [] := by
   rcases h.cases with ⟨_, h1, _⟩ | ⟨g, cur, h1, _⟩
   · exact zai h1
   cases h1
  subst h0
  refine Calls.mono (vN none c 0 w jd) (fun e w' hq => ?_)
  obtain ⟨he, rfl⟩ := hq
  exact ⟨he, h, Frm.refl _ _⟩
 | some ad =>
  obtain ⟨g, rfl⟩ : ∃ g, ad = ⟨g, 0, none⟩ := by
   rcases h.cases with ⟨h1, _⟩ | ⟨g, cur, h1, _⟩
   · cases h1
   cases h1; exact ⟨g, rfl⟩
  exact sK g c ss w h hs
set_option maxHeartbeats 1000000 in
theorem vP (m : MlC) (w : World) (hm : RdL w m) (hv : cQ w) :
  Calls Tryz.prog 20 #[m.val] w fun e w' => ∃ B c ls, e = .returned (.slice B ls.length c) ∧ Own w' 40 1 B ls.length c (UB ls) ∧ (bV m.p → lT (eQ m.p) ls) ∧ (¬ bV m.p → ls = []) ∧ Frm [] w w' := by
 refine VC.calls (nt := 37) (res := #[.tmp 2]) Tryz.func20 rfl Tryz.ntmps20 Tryz.results20 rfl ?_
 refine jS (jR ?_)
 refine Ops.m (qV.box rfl) rfl ?_
 rintro _ w1 ⟨rfl, hF_w1⟩
 have hb1 : Blk w1 w.heap.size 25 #[.slice m.A m.l.length m.c, .slice m.S m.ss.length m.d, .int .i64 m.v, .int .i64 m.b] := hF_w1.blk
 have K := hF_w1.frm
 generalize hg1 : w.heap.size = g1 at hb1 ⊢
 refine ja rfl (jO (jN (jv1 1 ?_)))
 refine jS (jS (jR (je (Run.loadA rfl zo zh hb1.cells (by first | rfl | (simp; done))) ?_)))
 refine Ops.cl (jE1 zdo) (cO m _ (hm.frm K) (hv.frm K)) rfl ?_
 rintro e w2 ⟨rfl, hf2⟩
 refine ⟨_, rfl, ?_⟩
 have hb1 := hb1.frm hf2 jp
 have K := K.trans hf2 jp
 refine je (Run.not rfl) (jO (jN (jv2 1 10 ?_)))
 refine VC.condB rfl (fun hc1 => ?_) (fun hc1 => ?_)
 ·
  have hc1 : ¬ bV m.p := by simpa using hc1
  refine jS (jR (ja rfl (jO (jN (jv1 2 ?_)))))
  refine jT ?_
  refine qZ (qR rfl ?_)
  exact ⟨none, 0, [], rfl, Own.nil _ _ _, fun h => absurd h hc1, fun _ => rfl, K⟩
 have hc1 : bV m.p := by simpa using hc1
 obtain ⟨hm24, _⟩ := eB hc1
 have hpl := dK m
 refine jQ (jN (jv1 1 ?_))
 refine jS (jR (ja rfl (jO (jN (jS (jS (jR (jf rfl zf rfl zaf (jl rfl zap (hb1.cell 0) (je (Run.lenS rfl zg) ?_))))))))))
 refine jx .i64 0 ?_
 refine jO (jN (jv4 3 12 13 14 ?_))
 refine jB ?_
 refine VC.loop (σ := Nat × Option Addr × Nat × List Nat) (fun s => [(3, .slice s.2.1 s.2.2.2.length s.2.2.1), (12, .slice m.A m.l.length m.c), (13, .int .i64 ((m.l.length : Nat) : Int)), (14, .int .i64 ((s.1 : Nat) : Int))]) (fun s wr => s.1 ≤ m.l.length ∧ Own wr 40 1 s.2.1 s.2.2.2.length s.2.2.1 (UB s.2.2.2) ∧ s.2.2.2 = (m.l.take s.1).flatMap (fun x => (Ms x.l).map MsgP.blob) ∧ s.2.2.2.length ≤ 128 * s.1 ∧ (∀ b ∈ ob s.2.1, w.heap.size ≤ b) ∧ Frm [] w wr) (fun s => m.l.length - s.1) (0, none, 0, []) (js4 rfl rfl rfl rfl) ⟨zae _, Own.nil _ _ _, rfl, jp, by simp [ob], K⟩ ?_
 rintro ⟨i, B, d, L⟩ wr ⟨hi, ho, hL, hLl, hob, K⟩
 dsimp only at *
 refine jS (jR (jb rfl rfl (Bin.lssN _ _) (jO (jN (jS ?_)))))
 refine jD rfl (fun hc2 => ?_) fun hc2 => ?_
 ·
  obtain ⟨ad, hA, hel⟩ := (hm.l.frm K).elem hc2
  have hxa := hm.l.el _ (zaa hc2)
  have hxl : (m.l[i]).l.length ≤ 128 := by
   have h1 := (hc1.2 i jo).1.1.2.2.2.2
   rw [cE m hc2 jo] at h1
   rwa [show (m.l[i]).p.2.l.length = (m.l[i]).l.length from zah _] at h1
  have hts : (m.l.take (i + 1)).flatMap (fun x => (Ms x.l).map MsgP.blob) = L ++ (Ms (m.l[i]).l).map MsgP.blob := by rw [zan, zb hc2, zeb, hL]; simp
  generalize hx : m.l[i] = x at *
  refine jQ (jN (jv4 3 12 13 14 ?_))
  refine jS (jB (jS (jR (je (Run.indexS i (show _ = some (Value.slice (some ad) m.l.length m.c) by rw [← hA]; rfl) rfl zg zq hc2) (je (Run.loadA rfl zde zq hel (by first | rfl | (simp; done))) ?_)))))
  refine Ops.m (qV.alloc cJ) rfl ?_
  rintro _ w3 ⟨rfl, hF3⟩
  refine Ops.st (qP.storeA rfl rfl zq hF3.blk rfl x.cells_one) ?_
  rintro w4 ⟨hb5, hf4, hs4⟩
  have hb5 : Blk w4 wr.heap.size 45 x.cells.toArray := hb5
  have K4 : Frm [] wr w4 := hF3.frm.trans hf4 jp
  have hkk := K.size
  have K := K.trans K4 jp
  have ho := ho.frm K4 jp
  generalize hg5e : wr.heap.size = g5 at hb5 hkk ⊢
  refine jO (jN (jv5 3 5 12 13 14 ?_))
  refine jS (jR (jf rfl zy rfl zu (jf rfl zl rfl zak (jl rfl zas (hb5.cell 3) (je (Run.lenS rfl zab) ?_)))))
  refine jx .i64 0 ?_
  refine jO (jN (jv7 3 12 13 14 20 21 22 ?_))
  refine jB ?_
  refine VC.loop (σ := Nat × Option Addr × Nat × List Nat) (fun s => [(3, .slice s.2.1 s.2.2.2.length s.2.2.1), (12, .slice m.A m.l.length m.c), (13, .int .i64 ((m.l.length : Nat) : Int)), (14, .int .i64 ((i : Nat) : Int)), (20, .slice x.A x.l.length x.c), (21, .int .i64 ((x.l.length : Nat) : Int)), (22, .int .i64 ((s.1 : Nat) : Int))]) (fun s wr => s.1 ≤ x.l.length ∧ Own wr 40 1 s.2.1 s.2.2.2.length s.2.2.1 (UB s.2.2.2) ∧ s.2.2.2 = L ++ ((Ms x.l).take s.1).map MsgP.blob ∧ (∀ b ∈ ob s.2.1, w.heap.size ≤ b) ∧ Frm [] w wr) (fun s => x.l.length - s.1) (0, B, d, L) (js7 rfl rfl rfl rfl rfl rfl rfl) ⟨zae _, ho, jp, hob, K⟩ ?_
  rintro ⟨k, B2, d2, L2⟩ wr2 ⟨hk, ho, hL2, hob, K⟩
  dsimp only at *
  have hL2l : L2.length = L.length + k := by rw [hL2, zi, zah, zt, zah]; omega
  refine jS (jR (jb rfl rfl (Bin.lssN _ _) (jO (jN (jS ?_)))))
  refine jD rfl (fun hc3 => ?_) fun hc3 => ?_
  ·
   obtain ⟨ad2, hA2, hel2⟩ := (hxa.rd.frm K).elem hc3
   have hts2 : L ++ ((Ms x.l).take (k + 1)).map MsgP.blob = L2 ++ [(x.l[k]).m.blob] := by rw [hL2, zan, zcm, zb hc3, zbc, zbf]; rfl
   generalize hy : x.l[k] = y at *
   refine jQ (jN (jv7 3 12 13 14 20 21 22 ?_))
   refine jS (jB (jS (jR (je (Run.indexS k (show _ = some (Value.slice (some ad2) x.l.length x.c) by rw [← hA2]; rfl) rfl zab zam hc3) (je (Run.loadA rfl zdb zam hel2 (by first | rfl | (simp; done))) ?_)))))
   refine Ops.m (qV.alloc eA) rfl ?_
   rintro _ w5 ⟨rfl, hF5⟩
   refine Ops.st (qP.storeA rfl rfl zam hF5.blk rfl y.cells_one) ?_
   rintro w6 ⟨hb7, hf6, hs6⟩
   have hb7 : Blk w6 wr2.heap.size 60 y.cells.toArray := hb7
   have K6 : Frm [] wr2 w6 := hF5.frm.trans hf6 jp
   have K := K.trans K6 jp
   have ho := ho.frm K6 jp
   refine jO (jN (jv8 3 7 12 13 14 20 21 22 ?_))
   refine jR (jm rfl (jf rfl zad rfl zd (jl rfl zk (hb7.cell 4) ?_)))
   refine Ops.m (qV.buildS1 rfl ze zd sS jd jd rfl rfl) rfl ?_
   rintro _ w7 ⟨rfl, hF7⟩
   have hr7 : Rd w7 1 (some ⟨w6.heap.size, 0, none⟩) 1 (UB [y.m.blob]) := Rd.of_blk (n := 1) (size := 1) hF7.blk rfl
   have hk7 := K.size
   have K := K.trans hF7.frm jp
   have ho := ho.frm hF7.frm jp
   refine Ops.m (qV.app rfl rfl ze (zD) rfl jd ho hr7 (qQ8 _) jo jo) rfl ?_
   rintro _ w8 ⟨B5, d5, rfl, ho5, hf5, hob5⟩
   rw [← mC] at ho5
   have hk8 := hF7.size
   have K5 := K.own hf5 hob
   have hob6 : ∀ b ∈ ob B5, w.heap.size ≤ b := fun b hb => by
    rcases hob5 with h | h
    · rw [h] at hb; exact hob b hb
    rw [h, za] at hb; omega
   refine ja rfl (jO ?_)
   refine qW (jN ?_)
   refine jv7 3 12 13 14 20 21 22 ?_
   refine jR (jb rfl rfl (Bin.add_i64 _ 1 jo) (jm rfl (jO ?_)))
   refine jN ⟨(k + 1, B5, d5, L2 ++ [y.m.blob]), (js7 (by rw [zi]; rfl) rfl rfl rfl rfl rfl rfl), ?_, ?_⟩
   · exact ⟨hc3, by rw [zi]; exact ho5, hts2.symm, hob6, K5⟩
   first | omega | (dsimp only; omega)
  refine jX ?_
  refine qJ (qJ (qN ?_))
  refine qW (jN ?_)
  refine jv4 3 12 13 14 ?_
  refine jR (jb rfl rfl (Bin.add_i64 _ 1 jo) (jm rfl (jO ?_)))
  refine jN ⟨(i + 1, B2, d2, L2), (js4 rfl rfl rfl rfl), ?_, ?_⟩
  ·
   obtain rfl : k = x.l.length := jo
   rw [zv (by rw [zah]; omega)] at hL2
   exact ⟨hc2, ho, by rw [hts, hL2], by dsimp only; omega, hob, K⟩
  first | omega | (dsimp only; omega)
 obtain rfl : i = m.l.length := jo
 rw [zv (zw _)] at hL
 have hbl : eQ m.p = L := by rw [hL]; unfold eQ; rw [show m.p.l = m.l.map Nc.p from rfl, List.flatMap_map]; rfl
 refine jX ?_
 refine qJ (qJ (qN ?_))
 refine jN (jv1 3 ?_)
 refine jS (jR (jM ?_))
 refine Ops.cl (jE1 Tryz.call64) (zV B d L.length L.toArray _ (show AO _ B d L.length L.toArray from ⟨jp, by simpa using ho⟩) jo) rfl ?_
 rintro e w9 ⟨R, rfl, hAR, hPR, hSR, hf9⟩
 obtain ⟨hRl, hnub⟩ := qVo hPR hSR
 have hoR := hAR.2
 rw [← hRl] at hoR
 have K := K.own hf9 hob
 refine ⟨_, rfl, ?_⟩
 rw [← hRl]
 refine jO (jN (jv1 3 ?_))
 refine jS (jR (jM ?_))
 refine Ops.cl (jE1 Tryz.call65) (sV B d R.toList _ hoR jo) rfl ?_
 rintro e w10 ⟨rfl, hoC, hf10⟩
 have K := K.own hf10 hob
 refine ⟨_, rfl, ?_⟩
 refine ja rfl (jO (jN (jv1 2 ?_)))
 refine jT ?_
 refine qR rfl ?_
 exact ⟨B, d, Lib.compact R.toList, rfl, hoC, fun _ => by rw [hbl]; exact hnub, fun h => absurd hc1 h, K⟩
end
section
open Go.RowKit
def mtL : Tx → Tx → Bool
 | s, [] => s.isEmpty
 | [], c :: p => decide (bO c) && mtL [] p
 | x :: s, c :: p => if bO c then mtL (x :: s) p || (decide (c.toNat = 42 ∨ x.toNat ≠ 47) && mtL s (c :: p)) else decide (x = c) && mtL s p
termination_by s p => s.length + p.length
theorem qKz (s : Tx) : mtL s [] = s.isEmpty := by cases s <;> simp [mtL]
theorem tI (c : UInt8) (p : Tx) : mtL [] (c :: p) = (decide (bO c) && mtL [] p) := by rw [mtL]
theorem tL (x c : UInt8) (s p : Tx) : mtL (x :: s) (c :: p) = if bO c then mtL (x :: s) p || (decide (c.toNat = 42 ∨ x.toNat ≠ 47) && mtL s (c :: p)) else decide (x = c) && mtL s p := by rw [mtL]
def mtA (s p : Tx) (i k : Nat) : Bool := mtL (s.drop i) (p.drop k)
theorem rQ {s p : Tx} {i k : Nat} (hi : i ≤ s.length) (hk : p.length ≤ k) : mtA s p i k = decide (i = s.length) := by
 unfold mtA
 rw [List.drop_of_length_le hk, qKz, zbt, List.isEmpty_iff, decide_eq_true_iff, List.drop_eq_nil_iff]
 omega
theorem gI {s p : Tx} {i k : Nat} (hk : k < p.length) (hw : bO p[k]) : mtA s p i k = true ↔ mtA s p i (k + 1) = true ∨ ∃ h : i < s.length, (p[k].toNat = 42 ∨ s[i].toNat ≠ 47) ∧ mtA s p (i + 1) k = true := by
 unfold mtA
 rw [zav hk]
 rcases zby i s.length with h | h
 ·
  rw [zav h, tL, if_pos hw]
  simp only [Bool.or_eq_true, zcc, decide_eq_true_eq]
  constructor
  ·
   rintro (q | ⟨q1, q2⟩)
   · exact .inl q
   exact .inr ⟨h, q1, q2⟩
  rintro (q | ⟨_, q1, q2⟩)
  · exact .inl q
  exact .inr ⟨q1, q2⟩
 rw [List.drop_of_length_le h, tI]
 simp only [zcc, decide_eq_true_eq]
 constructor
 ·
  rintro ⟨_, q⟩
  exact .inl q
 rintro (q | ⟨h2, _⟩)
 · exact ⟨hw, q⟩
 omega
theorem oN {s p : Tx} {i k : Nat} (hk : k < p.length) (hw : ¬ bO p[k]) : mtA s p i k = true ↔ ∃ h : i < s.length, s[i] = p[k] ∧ mtA s p (i + 1) (k + 1) = true := by
 unfold mtA
 rw [zav hk]
 rcases zby i s.length with h | h
 ·
  rw [zav h, tL, if_neg hw]
  simp only [zcc, decide_eq_true_eq]
  exact ⟨fun q => ⟨h, q⟩, fun ⟨_, q⟩ => q⟩
 rw [List.drop_of_length_le h, tI]
 simp only [zcc, decide_eq_true_eq]
 constructor
 ·
  rintro ⟨q, _⟩
  exact absurd q hw
 rintro ⟨h2, _⟩
 omega
theorem fI {t : Tx} {row : List Bool} {c : UInt8} {j : Nat} (hj : j ≤ t.length) : atB (stM t row c) j = nxM t row c j := by
 unfold atB stM
 simp [List.getD, zcm, List.getElem?_range (jo : j < t.length + 1)]
theorem nW {t : Tx} {k : Nat} (h : k < t.length) : eH t[k]? = t[k].toNat := by rw [zb h]; rfl
theorem qJd {t p : Tx} {row : List Bool} {k : Nat} (hk : k < p.length) :
  (∃ j, j ≤ t.length ∧ atB row j = true ∧ mtA t p j k = true) ↔ ∃ j, j ≤ t.length ∧ atB (stM t row p[k]) j = true ∧ mtA t p j (k + 1) = true := by
 by_cases hw : bO p[k]
 ·
  have up : ∀ n j, t.length - j = n → j ≤ t.length → atB (stM t row p[k]) j = true → mtA t p j k = true → ∃ j, j ≤ t.length ∧ atB (stM t row p[k]) j = true ∧ mtA t p j (k + 1) = true := by
   intro n
   induction n with
   | zero =>
    intro j hn hj hr hm
    rcases (gI hk hw).1 hm with q | ⟨h, _⟩
    · exact ⟨j, hj, hr, q⟩
    omega
   | succ n ih =>
    intro j hn hj hr hm
    rcases (gI hk hw).1 hm with q | ⟨h, h1, h2⟩
    · exact ⟨j, hj, hr, q⟩
    refine ih (j + 1) jo jo ?_ h2
    rw [fI jo, nxM, if_pos hw]
    rw [fI hj] at hr
    rw [nW h]
    exact decide_eq_true (.inr ⟨hr, h1⟩)
  have down : ∀ j, j ≤ t.length → atB (stM t row p[k]) j = true → mtA t p j k = true → ∃ j, j ≤ t.length ∧ atB row j = true ∧ mtA t p j k = true := by
   intro j
   induction j with
   | zero =>
    intro hj hr hm
    rw [fI hj, nxM] at hr
    exact ⟨0, hj, (of_decide_eq_true hr).1, hm⟩
   | succ j ih =>
    intro hj hr hm
    rw [fI hj, nxM, if_pos hw] at hr
    rcases of_decide_eq_true hr with q | ⟨q1, q2⟩
    · exact ⟨j + 1, hj, q, hm⟩
    rw [nW (jo : j < t.length)] at q2
    exact ih jo (by rw [fI jo]; exact q1) ((gI hk hw).2 (.inr ⟨jo, q2, hm⟩))
  constructor
  ·
   rintro ⟨j, hj, hr, hm⟩
   refine up _ j rfl hj ?_ hm
   rw [fI hj]
   cases j with
   | zero => rw [nxM]; exact decide_eq_true ⟨hr, hw⟩
   | succ j => rw [nxM, if_pos hw]; exact decide_eq_true (.inl hr)
  rintro ⟨j, hj, hr, hm⟩
  exact down j hj hr ((gI hk hw).2 (.inl hm))
 constructor
 ·
  rintro ⟨j, hj, hr, hm⟩
  obtain ⟨h, h1, h2⟩ := (oN hk hw).1 hm
  refine ⟨j + 1, jo, ?_, h2⟩
  rw [fI jo, nxM, if_neg hw, nW h, h1]
  exact decide_eq_true ⟨hr, rfl⟩
 rintro ⟨j, hj, hr, hm⟩
 rw [fI hj] at hr
 cases j with
 | zero => rw [nxM] at hr; exact absurd (of_decide_eq_true hr).2 hw
 | succ j =>
  rw [nxM, if_neg hw] at hr
  obtain ⟨q1, q2⟩ := of_decide_eq_true hr
  rw [nW (jo : j < t.length)] at q2
  exact ⟨j, jo, q1, (oN hk hw).2 ⟨jo, UInt8.toNat_inj.1 q2, hm⟩⟩
theorem wH {t p : Tx} : ∀ k, k ≤ p.length → (mtA t p 0 0 = true ↔ ∃ j, j ≤ t.length ∧ atB ((p.take k).foldl (stM t) (jI t)) j = true ∧ mtA t p j k = true)
 | 0, _ => by
  constructor
  · exact fun h => ⟨0, zae _, rfl, h⟩
  rintro ⟨j, hj, hr, hm⟩
  cases j with
  | zero => exact hm
  | succ j =>
   have : atB (jI t) (j + 1) = false := by
    unfold atB jI
    simp [List.getD, zff]
    split <;> rfl
   simp only [zdm, List.foldl_nil] at hr
   rw [this] at hr
   cases hr
 | k + 1, hk => by
  rw [wH k jo, qJd (jo : k < p.length), pG t p k (zb (jo : k < p.length))]
theorem qVp (t p : Tx) : atB (qZp t p) t.length = mtA t p 0 0 := by
 have h := wH (t := t) (p := p) p.length (zw _)
 rw [zaq] at h
 rw [zbt, h]
 constructor
 ·
  intro hr
  exact ⟨t.length, zw _, hr, by rw [rQ (zw _) (zw _)]; exact decide_eq_true rfl⟩
 rintro ⟨j, hj, hr, hm⟩
 rw [rQ hj (zw _)] at hm
 obtain rfl := of_decide_eq_true hm
 exact hr
end
section
open Go.RowKit
section
variable {P : Program} {Γ : Env} {w : World} {dst : Option Tmp} {pos : String} {after : Array Edge} {g : Option (Nat × Bool)} {T : TypeId}
theorem Own.based {w : World} {e size n c B : Nat} {A : Option Addr} {xs : List Value} (h : Own w e size A n c xs) (hA : ∀ x ∈ ob A, B ≤ x) : w.ownsRow B e size (.slice A n c) n xs := by
 refine ⟨h.1, ?_⟩
 rcases h.cases with ⟨rfl, h1, h2, _⟩ | ⟨g, cur, rfl, h1, h2, h3, h4, h5⟩
 · exact .inl ⟨by rw [h1, h2], h1⟩
 exact .inr ⟨g, c, cur, rfl, hA g (by simp [ob]), h1, h2, h3, h4, h5⟩
theorem qV.appStr {t u e : TypeId} {x y : Operand} {n cap : Nat} (B : Nat) {A : Option Addr} {xs : List Value} {q : List UInt8} (hx : ev? Γ x = some (.slice A n cap)) (hy : ev? Γ y = some (encStr q))
  (ht : P.underlying t = some (.slice e)) (hu : P.underlying u = some .string) (hi : (P.info? e).map (fun i => (i.zero, i.size, i.bytes)) = some (some (.int .u8 0), 1, 1))
  (ho : Own w e 1 A n cap xs) (hA : ∀ x ∈ ob A, B ≤ x) (hB : B ≤ w.heap.size) (hb : n + q.length ≤ 140737488355328) :
  qV P ⟨dst, .call ⟨.builtin .append, #[x, y], #[t, u]⟩, T, pos, after, g⟩ Γ w
   (fun r w' => ∃ A' c', r = .slice A' (n + q.length) c' ∧ Own w' e 1 A' (n + q.length) c' (xs ++ U8 q) ∧ Frm (ob A) w w' ∧ ∀ x ∈ ob A', B ≤ x) := fun ρ hρ => by
 obtain ⟨i0, hi0, hz0, hz1, hz2⟩ := info_parts hi
 have ex : (execOp ρ ⟨dst, .call ⟨.builtin .append, #[x, y], #[t, u]⟩, T, pos, after, g⟩).run P w = ((Builtin.append_ #[t, u] T #[.slice A n cap, .string ⟨q.toArray⟩]).run P w).andThen fun a w => .ok (.value a) w := by
  simp [execOp, resolve, invoke, builtin, hρ _ _ hx, hρ _ _ hy, encStr]
 have hsz : (⟨q.toArray⟩ : ByteArray).size = q.length := by show q.toArray.size = _; simp
 obtain ⟨v', w', hrun, hown, hgr, hnil⟩ := Lib.run_append_own_string (P := P) (w := w) B t u T e i0 ht hu hi0 hz0 hz1 hz2 (.slice A n cap) n xs (ho.based hA) ⟨q.toArray⟩ (by rw [hsz]; unfold maxLen; omega) (by rw [hsz]; exact hb) hB
 rw [hsz] at hown
 have hc : Lib.strCells ⟨q.toArray⟩ = U8 q := by simp [Lib.strCells, U8]
 rw [hc] at hown
 have hblk : ∀ (X : Option Addr) (p q : Nat), (Value.slice X p q).ownBlock.toList = ob X := by intro X p q; cases X <;> rfl
 have hfr : Frm (ob A) w w' := by
  have := Frm.grown hgr
  rwa [hblk] at this
 rcases hown.2 with ⟨rfl, h0⟩ | ⟨g', cap', cur', rfl, h1, h2, h3, h4, h5, h6⟩
 · refine ⟨_, w', by rw [ex, hrun]; rfl, none, 0, by rw [h0], ⟨hown.1, .inl ⟨by rw [h0], h0⟩⟩, hfr, by simp [ob]⟩
 exact ⟨_, w', by rw [ex, hrun]; rfl, some ⟨g', 0, none⟩, cap', rfl, ⟨hown.1, .inr ⟨g', cap', cur', rfl, zae _, h2, h3, h4, h5, h6⟩⟩, hfr, by simp [ob]; exact h1⟩
end
end
section
open Go.RowKit
theorem qXm (l : List Nat) : ∀ u ∈ NB l, u.oneCell' = true := by
 intro u hu
 obtain ⟨b, _, rfl⟩ := List.mem_map.1 hu
 rfl
theorem mI (a b : List Nat) : NB (a ++ b) = NB a ++ NB b := by simp [NB]
theorem qXn (a : List Nat) (i : Nat) (h : i < a.length) : (NB a)[i]? = some (.int .u8 ((a.getD i 0 : Nat) : Int)) := by
 simp [NB, h]
theorem qJe {w : World} {A : Option Addr} {n : Nat} {bs : List Nat} (hr : Rd w 1 A n (NB bs)) (hn : bs.length = n) {i : Nat} (hi : i < n) : ∃ ad, A = some ad ∧ w.cell? (ad.add i) = some (.int .u8 ((bs.getD i 0 : Nat) : Int)) := by
 obtain ⟨ad, h1, _, hc⟩ := hr.2 jo
 exact ⟨ad, h1, hc i _ (qXn bs i jo)⟩
end
end Go.Proofs.YtgmbmfpfhcekiaaGreat
