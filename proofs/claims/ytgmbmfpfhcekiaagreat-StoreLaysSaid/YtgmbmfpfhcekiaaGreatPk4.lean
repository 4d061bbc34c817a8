/-
  Lemmas on the way, joined: BoxZ, StoZb, BoxL0, StoQ0, StoZd, StoZf, StoZg, StoZh, StoZi, StoZj, StoZk.
-/
import Derived.Test.YtgmbmfpfhcekiaaGreatPk3
set_option maxRecDepth 100000
set_option linter.unusedVariables false
set_option linter.unusedSimpArgs false
namespace Go.Proofs.YtgmbmfpfhcekiaaGreat
section
open Go.RowKit Go.ChangeShapes Go.WideShapes Go.Deep
section
variable {H : Type} {enc : TypeId × Value → H} {w : World} {base : Nat} {spare : Nat → Bool} {held : Bool}
theorem sE {n : Nat} {cs : List Value} {x : DataW H × List MemPlace} (h : DataW.trod enc Tryz.prog w base spare held n 60 cs = some x) :
  ∃ y : Mc, cs = y.cells ∧ Rd w 1 y.A y.m.flags.length (SB y.m.flags) ∧ y.m.flags.length ≤ y.c := by
 obtain ⟨xs, n', _, _, hlen, hxl, hf⟩ := DataW.trod_struct zac h
 have hl : cs.length = 6 := hlen.trans jK
 obtain ⟨a0, a1, a2, a3, a4, a5, rfl⟩ : ∃ a0 a1 a2 a3 a4 a5, cs = [a0, a1, a2, a3, a4, a5] := by
  match cs, hl with
  | [a0, a1, a2, a3, a4, a5], _ => exact ⟨a0, a1, a2, a3, a4, a5, rfl⟩
 have hget : ∀ i, i < 5 → ∃ y, xs[i]? = some y := fun i hi => ⟨xs[i]'(by rw [hxl]; exact hi), zc _⟩
 have h0 := hf 0 _ rfl
 have h1 := hf 1 _ rfl
 have h2 := hf 2 _ rfl
 have h3 := hf 3 _ rfl
 have h4 := hf 4 _ rfl
 obtain ⟨y0, e0⟩ := hget 0 jd
 obtain ⟨y1, e1⟩ := hget 1 jd
 obtain ⟨y2, e2⟩ := hget 2 jd
 obtain ⟨y3, e3⟩ := hget 3 jd
 obtain ⟨y4, e4⟩ := hget 4 jd
 rw [e0] at h0
 rw [e1] at h1
 rw [e2] at h2
 rw [e3] at h3
 rw [e4] at h4
 have c1 : Tryz.prog.cellsOf 3 = 1 := by kernel_rfl
 have c2 : Tryz.prog.cellsOf 58 = 2 := by kernel_rfl
 have c3 : Tryz.prog.cellsOf 40 = 1 := by kernel_rfl
 have c4 : Tryz.prog.cellsOf 23 = 1 := by kernel_rfl
 have h0 : DataW.trod enc Tryz.prog w base spare held n' 3 ([a0, a1, a2, a3, a4, a5].take (Tryz.prog.cellsOf 3)) = some y0 := h0
 have h1 : DataW.trod enc Tryz.prog w base spare held n' 58 ([a1, a2, a3, a4, a5].take (Tryz.prog.cellsOf 58)) = some y1 := h1
 have h2 : DataW.trod enc Tryz.prog w base spare held n' 3 ([a3, a4, a5].take (Tryz.prog.cellsOf 3)) = some y2 := h2
 have h3 : DataW.trod enc Tryz.prog w base spare held n' 40 ([a4, a5].take (Tryz.prog.cellsOf 40)) = some y3 := h3
 have h4 : DataW.trod enc Tryz.prog w base spare held n' 23 ([a5].take (Tryz.prog.cellsOf 23)) = some y4 := h4
 rw [c1] at h0 h2
 rw [c2] at h1
 rw [c3] at h3
 rw [c4] at h4
 obtain ⟨z0, g0, _⟩ := DataW.trod_int zan h0
 obtain ⟨z2, g2, _⟩ := DataW.trod_int zan h2
 obtain ⟨z3, g3, _, w3⟩ := DataW.trod_int zdl h3
 obtain ⟨xd, nd, _, _, _, hxd, hfd⟩ := DataW.trod_struct zbj h1
 have d0 := hfd 0 _ rfl
 have d1 := hfd 1 _ rfl
 have hgd : ∀ i, i < 2 → ∃ y, xd[i]? = some y := fun i hi => ⟨xd[i]'(by rw [hxd]; exact hi), zc _⟩
 obtain ⟨u0, f0⟩ := hgd 0 jd
 obtain ⟨u1, f1⟩ := hgd 1 jd
 rw [f0] at d0
 rw [f1] at d1
 have c5 : Tryz.prog.cellsOf 2 = 1 := by kernel_rfl
 have d0 : DataW.trod enc Tryz.prog w base spare held nd 2 ([a1, a2].take (Tryz.prog.cellsOf 2)) = some u0 := d0
 have d1 : DataW.trod enc Tryz.prog w base spare held nd 3 ([a2].take (Tryz.prog.cellsOf 3)) = some u1 := d1
 rw [c5] at d0
 rw [c1] at d1
 obtain ⟨zs, gs, _⟩ := DataW.trod_int Tryz.underlying2 d0
 obtain ⟨zz, gz, _⟩ := DataW.trod_int zan d1
 simp only [zcx, zdt, List.cons.injEq, and_true] at g0 g2 g3 gs gz
 subst g0 g2 g3 gs gz
 have h4 : DataW.trod enc Tryz.prog w base spare held n' 23 [a5] = some y4 := h4
 have hv : ∃ A l c, a5 = .slice A l c := by
  rcases open_slice1 zh jK h4 with ⟨hcs, _⟩ | ⟨ad, l, c, _, _, _, _, _, hcs, _⟩
  · exact ⟨_, _, _, by simpa using hcs⟩
  exact ⟨_, _, _, by simpa using hcs⟩
 obtain ⟨A, len, c, rfl⟩ := hv
 obtain ⟨fl, rfl, hlc, _, hrd⟩ := qZf zh zl jK h4
 have hz3 := bounds_u64 w3
 refine ⟨⟨⟨z0, zs, zz, z2, z3.toNat, fl⟩, A, c⟩, ?_, hrd, hlc⟩
 simp only [Mc.cells]
 rw [Int.toNat_of_nonneg hz3.1]
theorem qXv {fuel len cap : Nat} {a : Option Addr} {x : DataW H × List MemPlace} (h : DataW.trod enc Tryz.prog w base spare held fuel 41 [.slice a len cap] = some x) :
  ∃ l : List Mc, l.length = len ∧ len ≤ cap ∧ cap ≤ 9223372036854775807 ∧ RawM w a l := by
 have hC : Tryz.prog.cellsOf 60 = 6 := by kernel_rfl
 rcases open_slice zk h with ⟨hcs, _⟩ | ⟨ad, l, c, m, n, D, Pl, hcs, _, hl, hm, hmm, _, hi⟩
 ·
  simp only [List.cons.injEq, Value.slice.injEq, and_true] at hcs
  obtain ⟨rfl, rfl, rfl⟩ := hcs
  exact ⟨[], rfl, zaj _, jo, Rd.nil _ _ _, jp⟩
 simp only [List.cons.injEq, Value.slice.injEq, and_true] at hcs
 obtain ⟨rfl, rfl, rfl⟩ := hcs
 have hml : len ≤ m := by rw [hmm]; split <;> omega
 rw [hC] at hi
 have key : ∀ i, i < len → ∃ y : Mc, (∀ j, j < 6 → w.cell? ((ad.add (i * 6)).add j) = y.cells[j]?) ∧ Rd w 1 y.A y.m.flags.length (SB y.m.flags) ∧ y.m.flags.length ≤ y.c := by
  intro i hil
  obtain ⟨cs', hc, ht'⟩ := hi i jo
  obtain ⟨_, hcl, hat⟩ := World.cells?_some hc
  obtain ⟨y, rfl, h1, h2⟩ := sE ht'
  exact ⟨y, fun j hj => hat j hj, h1, h2⟩
 obtain ⟨ls, hll, hq⟩ := gZ len key
 have hcell : ∀ j u, (MC ls)[j]? = some u → w.cell? (ad.add j) = some u := by
  intro j u hu
  rw [show MC ls = ls.flatMap Mc.cells from rfl, gF Mc.cells 6 jo Mc.cells_len] at hu
  obtain ⟨y, hy, hu'⟩ := Option.bind_eq_some_iff.1 hu
  have := (hq _ y hy).1 (j % 6) (Nat.mod_lt _ jo)
  rw [Go.Proofs.YtgmbmfpfhcekiaaGreat.add_add, Nat.mul_comm, Nat.div_add_mod] at this
  rw [this, hu']
 refine ⟨ls, hll, hl, by simpa [maxLen] using hm, ⟨by rw [mV], fun hn => ⟨ad, rfl, ?_, hcell⟩⟩, fun y hy => ?_⟩
 ·
  have h0 : 0 < (MC ls).length := by rw [mV]; omega
  have := World.block_lt_of_cell? w _ (hcell 0 _ (zc h0))
  rwa [eY] at this
 obtain ⟨i, hi', hli⟩ := zaf hy
 exact (hq i y (by rw [zc hi', hli])).2
end
end
section
open Go.RowKit Go.Sort
def pR (l : List MsgP) : List MsgP := gM (if 20 < l.length ∧ l.length ≤ 128 then l.take 20 else l)
def gN (x : NmP) : NmP := (x.1.take 70, ⟨x.2.valid, x.2.next, pR x.2.l⟩)
def mT (m : MailP) : MailP := ⟨(m.l.take 25).map gN, (m.subs.take 25).map (fun s => s.take 70), m.valid, m.blob⟩
theorem tL (l : List Tx) : cX (cX l) = cX l := by
 obtain ⟨h1, h2⟩ := lT l
 have e : cX (cX l) = ((cX l).take 24).map fun x => x.take 30 := rfl
 rw [e, zw h1]
 exact (zdx (g := id) fun x hx => zw (h2 x hx)).trans (List.map_id _)
theorem lU (l : List MsgP) : (gM l).length = min 129 l.length := by unfold gM; simp
theorem nM (l : List MsgP) : gM (gM l) = gM l := by
 have e : gM (gM l) = ((gM l).take 129).map fun m => { m with flags := cX m.flags } := rfl
 rw [e, zw (by rw [lU]; omega)]
 unfold gM
 rw [zcl]
 exact zdx fun m _ => by simp only [Function.comp, tL]
theorem yD (l : List MsgP) : pR (pR l) = pR l := by
 unfold pR
 by_cases h : 20 < l.length ∧ l.length ≤ 128
 · rw [if_pos h, if_neg (by rw [lU, zq]; omega), nM]
 rw [if_neg h, if_neg (by rw [lU]; omega), nM]
theorem yE (m : MailP) : mT (mT m) = mT m := by
 unfold mT
 congr 1
 ·
  rw [zw (by simp; omega), zcl]
  refine zdx fun x _ => ?_
  show gN (gN x) = gN x
  unfold gN
  dsimp only
  rw [yD, zdh, Nat.min_self]
 rw [zw (by simp; omega), zcl]
 refine zdx fun x _ => ?_
 show (x.take 70).take 70 = x.take 70
 rw [zdh, Nat.min_self]
structure RawL (w : World) (m : MlC) : Prop where
 l : Rd w 4 m.A m.l.length (NDC m.l)
 el : ∀ x ∈ m.l, RawM w x.A x.l ∧ x.l.length ≤ x.c
 s : Rd w 1 m.S m.ss.length (SB m.ss)
 lc : m.l.length ≤ m.c
 sc : m.ss.length ≤ m.d
theorem RawL.frm {w w' : World} {m : MlC} (h : RawL w m) (k : Frm [] w w') : RawL w' m := ⟨h.l.frm k jp, fun x hx => ⟨(h.el x hx).1.frm k, (h.el x hx).2⟩, h.s.frm k jp, h.lc, h.sc⟩
theorem RawL.takeL {w : World} {m : MlC} (h : RawL w m) (k : Nat) : Rd w 4 m.A (m.l.take k).length (NDC (m.l.take k)) := by
 rcases Nat.le_total k m.l.length with hm | hm
 ·
  have h1 := h.l.cut (cap := m.l.length) (zam k) hm (zaj _)
  rw [fT, zbu, Nat.zero_mul, zcd, hG m.l k hm] at h1
  rw [zq, zaq hm]
  exact h1
 rw [zw hm]
 exact h.l
theorem RawL.takeS {w : World} {m : MlC} (h : RawL w m) (k : Nat) : Rd w 1 m.S (m.ss.take k).length (SB (m.ss.take k)) := by
 rcases Nat.le_total k m.ss.length with hm | hm
 ·
  have h1 := h.s.cut (cap := m.ss.length) (zam k) hm (zaj _)
  rw [fT, zbu, Nat.zero_mul, zcd, zbm, show (SB m.ss).take k = SB (m.ss.take k) by simp [SB, zdg]] at h1
  rw [zq, zaq hm]
  exact h1
 rw [zw hm]
 exact h.s
theorem qXw {w : World} {A : Option Addr} {l : List Nc} {k : Nat} (h : Rd w 4 A l.length (NDC l)) (hk : k < l.length) : ∃ ad, A = some ad ∧ ∀ W, Frm [] w W → ∀ j v, (l[k]).cells[j]? = some v → W.cell? ((ad.add (k * 4)).add j) = some v := by
 obtain ⟨ad, rfl, hc⟩ := h.elem hk
 refine ⟨ad, rfl, fun W hW j v hj => ?_⟩
 obtain ⟨ad', e, hc'⟩ := (h.frm hW jp).elem hk
 cases e
 exact hc' j v (by rw [fF Nc.cells 4 Nc.cells_len l k hk]; exact hj)
theorem OwM.offO {w w' : World} {A B : Option Addr} {d size n c : Nat} {l : List Mc} {e : TypeId} {xs : List Value} (h : OwM w A d l) (k : Frm (ob B) w w') (hB : Own w e size B n c xs) (h1 : 60 ≠ e) (h2 : 9 ≠ e) : OwM w' A d l :=
 ⟨h.own.frm k (fun y hy => h.own.ne_own hB h1 y hy), fun x hx => (h.fl x hx).frm k (fun y hy => (h.fl x hx).ne_own hB h2 y hy), h.fit⟩
theorem OwM.at27 {w : World} {x : Nc} (h : OwM w x.A x.c x.l) (h1 : x.l.length ≤ 129) (h2 : x.nm.length ≤ 70) : x.At w := ⟨h.rdm, jo, jo⟩
structure OwL (w : World) (m : MlC) : Prop where
 l : Own w 45 4 m.A m.l.length m.c (NDC m.l)
 el : ∀ x ∈ m.l, OwM w x.A x.c x.l ∧ x.l.length ≤ 129 ∧ x.nm.length ≤ 70
 s : Own w 9 1 m.S m.ss.length m.d (SB m.ss)
 ln : m.l.length ≤ 25
 sn : m.ss.length ≤ 25
 sq : ∀ q ∈ m.ss, q.length ≤ 70
theorem OwL.frm {w w' : World} {m : MlC} (h : OwL w m) (k : Frm [] w w') : OwL w' m := ⟨h.l.frm k jp, fun x hx => ⟨(h.el x hx).1.frm k, (h.el x hx).2⟩, h.s.frm k jp, h.ln, h.sn, h.sq⟩
theorem OwL.rdl {w : World} {m : MlC} (h : OwL w m) : RdL w m := ⟨⟨h.l.rd, fun x hx => (h.el x hx).1.at27 (h.el x hx).2.1 (h.el x hx).2.2⟩, h.s.rd, h.l.le, h.s.le, by have := h.ln; omega, by have := h.sn; omega, fun q hq => by have := h.sq q hq; omega⟩
theorem OwL.raw {w : World} {m : MlC} (h : OwL w m) : RawL w m := ⟨h.l.rd, fun x hx => ⟨(h.el x hx).1.raw, (h.el x hx).1.own.le⟩, h.s.rd, h.l.le, h.s.le⟩
theorem OwL.blk {w w' : World} {m : MlC} {g : Nat} {t : TypeId} {cs : Array Value} (h : OwL w m) (k : Frm [g] w w') (hb : Blk w g t cs) (h0 : 45 ≠ t) (h1 : 60 ≠ t) (h2 : 9 ≠ t) : OwL w' m :=
 ⟨h.l.frm k (fun y hy h' => by rw [za] at h'; subst h'; exact h.l.ne_blk hb h0 hy), fun x hx => ⟨(h.el x hx).1.blk k hb h1 h2, (h.el x hx).2⟩, h.s.frm k (fun y hy h' => by rw [za] at h'; subst h'; exact h.s.ne_blk hb h2 hy), h.ln, h.sn, h.sq⟩
theorem qZh {w : World} {A : Option Addr} {l : List Tx} {k : Nat} (h : Rd w 1 A l.length (SB l)) (hk : k < l.length) : ∃ ad, A = some ad ∧ w.cell? ((ad.add (k * 1)).add 0) = some (encStr l[k]) := by
 obtain ⟨ad, hA, hc⟩ := h.elem hk
 exact ⟨ad, hA, hc 0 _ (by simp [SB, zc hk])⟩
theorem lE {α β : Type} (f : α → β) {l : List α} {i : Nat} (h : i < l.length) : (l.take (i + 1)).map f = (l.take i).map f ++ [f l[i]] := by rw [zar, zc h, zaw]; rfl
set_option maxHeartbeats 1000000 in
theorem pX (m : MlC) (w : World) (hm : RawL w m) : Calls Tryz.prog 11 #[m.val] w fun e w' => ∃ m' : MlC, e = .returned m'.val ∧ m'.p = mT m.p ∧ OwL w' m' ∧ m'.b = m.b ∧ (∀ x ∈ m'.l, ∀ b ∈ ob x.A, w.heap.size ≤ b) ∧ Frm [] w w' := by
 have hlc := hm.lc
 have hsc := hm.sc
 refine VC.calls (nt := 85) (res := #[.cell 2 25]) Tryz.func11 rfl Tryz.ntmps11 Tryz.results11 rfl ?_
 refine jS (jR ?_)
 refine Ops.m (qJ.box rfl) rfl ?_
 rintro _ w1 ⟨rfl, hF_w1⟩
 have hb1 : Blk w1 w.heap.size 25 #[.slice m.A m.l.length m.c, .slice m.S m.ss.length m.d, .int .i64 m.v, .int .i64 m.b] := hF_w1.blk
 have K := hF_w1.frm
 generalize hg1 : w.heap.size = g1 at hb1 ⊢
 refine Ops.m (qJ.alloc qI) rfl ?_
 rintro _ w2 ⟨rfl, hF2⟩
 have hb4 := hF2.blk
 have hg4 : w.heap.size ≤ w1.heap.size := K.size
 have hb1 := hb1.frm hF2.frm jp
 have hl1 := hb1.lt
 have hl4 := hb4.lt
 have K := K.trans hF2.frm jp
 have hne14 : g1 ≠ w1.heap.size := by have := hF_w1.size; omega
 have hg1s : w.heap.size ≤ g1 := jo
 generalize hg4' : w1.heap.size = g4 at hb4 hg4 hne14 hl4 ⊢
 refine jO (jN (jv2 1 2 ?_))
 refine jS (jS (jR (jf rfl zd rfl zx (jl rfl zah (hb1.cell 0) (je (Run.lenS rfl ze) (jb rfl rfl (Bin.gtrN _ 25) (jO (jN (jv3 1 2 11 ?_)))))))))
 refine VC.meet (σ := Unit) (fun s => [(1, .pointer (some ⟨g1, 0, none⟩)), (2, .pointer (some ⟨g4, 0, none⟩))]) (fun s wm => Blk wm g1 25 #[.slice m.A (m.l.take 25).length m.c, .slice m.S m.ss.length m.d, .int .i64 m.v, .int .i64 m.b] ∧ Blk wm g4 25 qP.cells.toArray ∧ Frm [] w wm) ?_ ?_
 ·
  refine jD rfl (fun hc1 => ?_) fun hc1 => ?_
  ·
   refine jR (jf rfl zd rfl zx (jl rfl zah (hb1.cell 0) (je (Run.sliceS 0 25 rfl ze zo evB.none_ (evB.some_ rfl) jo jo) (jf rfl zd rfl zx ?_))))
   refine Ops.st (qW.store rfl rfl zx hb1 rfl rfl) ?_
   rintro w3 ⟨hbn, (hfw3 : Frm [g1] _ _), hsw3⟩
   have hlt : (m.l.take 25).length = 25 := by rw [zq]; omega
   have hbn : Blk w3 g1 25 #[.slice (dB m.A m.c 0 4) (25 - 0) (m.c - 0), .slice m.S m.ss.length m.d, .int .i64 m.v, .int .i64 m.b] := hbn
   rw [fT, zbu, zbu] at hbn
   have hb1 : Blk w3 g1 25 #[.slice m.A (m.l.take 25).length m.c, .slice m.S m.ss.length m.d, .int .i64 m.v, .int .i64 m.b] := by rw [hlt]; exact hbn
   have hb4 := hb4.frm hfw3 (by simp; omega)
   have K := K.own hfw3 (fun y hy => by rw [za] at hy; omega)
   refine jO ?_
   refine jN ⟨(), (js2 rfl rfl), ?_⟩
   exact ⟨hb1, hb4, K⟩
  refine jQ ?_
  refine jN ⟨(), (js2 rfl rfl), ?_⟩
  have hlt : (m.l.take 25).length = m.l.length := by rw [zq]; omega
  exact ⟨by rw [hlt]; exact hb1, hb4, K⟩
 rintro _ w3 ⟨hb1, hb4, K⟩ Γ hΓ
 refine jN (VC.sub _ hΓ (jS (jS (jR (jf rfl zd rfl zae (jl rfl zas (hb1.cell 1) (je (Run.lenS rfl zh) (jb rfl rfl (Bin.gtrN _ 25) (jO (jN (jv3 1 2 19 ?_)))))))))))
 refine VC.meet (σ := Unit) (fun s => [(1, .pointer (some ⟨g1, 0, none⟩)), (2, .pointer (some ⟨g4, 0, none⟩))]) (fun s wm => Blk wm g1 25 #[.slice m.A (m.l.take 25).length m.c, .slice m.S (m.ss.take 25).length m.d, .int .i64 m.v, .int .i64 m.b] ∧ Blk wm g4 25 qP.cells.toArray ∧ Frm [] w wm) ?_ ?_
 ·
  refine jD rfl (fun hc2 => ?_) fun hc2 => ?_
  ·
   refine jR (jf rfl zd rfl zae (jl rfl zas (hb1.cell 1) (je (Run.sliceS 0 25 rfl zh zp evB.none_ (evB.some_ rfl) jo jo) (jf rfl zd rfl zae ?_))))
   refine Ops.st (qW.store rfl rfl zae hb1 rfl rfl) ?_
   rintro w4 ⟨hbn, (hfw4 : Frm [g1] _ _), hsw4⟩
   have hst : (m.ss.take 25).length = 25 := by rw [zq]; omega
   have hbn : Blk w4 g1 25 #[.slice m.A (m.l.take 25).length m.c, .slice (dB m.S m.d 0 1) (25 - 0) (m.d - 0), .int .i64 m.v, .int .i64 m.b] := hbn
   rw [fT, zbu, zbu] at hbn
   have hb1 : Blk w4 g1 25 #[.slice m.A (m.l.take 25).length m.c, .slice m.S (m.ss.take 25).length m.d, .int .i64 m.v, .int .i64 m.b] := by rw [hst]; exact hbn
   have hb4 := hb4.frm hfw4 (by simp; omega)
   have K := K.own hfw4 (fun y hy => by rw [za] at hy; omega)
   refine jO ?_
   refine jN ⟨(), (js2 rfl rfl), ?_⟩
   exact ⟨hb1, hb4, K⟩
  refine jQ ?_
  refine jN ⟨(), (js2 rfl rfl), ?_⟩
  have hst : (m.ss.take 25).length = m.ss.length := by rw [zq]; omega
  exact ⟨by rw [hst]; exact hb1, hb4, K⟩
 rintro _ w4 ⟨hb1, hb4, K⟩ Γ hΓ
 have hRl := hm.takeL 25
 have hRs := hm.takeS 25
 have hRe : ∀ x ∈ m.l.take 25, RawM w x.A x.l ∧ x.l.length ≤ x.c := fun x hx => hm.el x (zdn hx)
 have hRn : (m.l.take 25).length ≤ 25 := zco _ _
 have hRm : (m.ss.take 25).length ≤ 25 := zco _ _
 obtain ⟨l, hl⟩ : ∃ l, l = m.l.take 25 := ⟨_, rfl⟩
 obtain ⟨ss, hss⟩ : ∃ ss, ss = m.ss.take 25 := ⟨_, rfl⟩
 rw [← hl] at hRl hRe hRn hb1
 rw [← hss] at hRs hRm hb1
 refine jN (VC.sub _ hΓ (jS (jR (ja rfl (jO (jN (jS (jS (jR (jz 0 (jO (jN (jB ?_)))))))))))))
 refine VC.loop (σ := Nat × Option Addr × Nat × List Nc) (fun s => [(1, .pointer (some ⟨g1, 0, none⟩)), (2, .pointer (some ⟨g4, 0, none⟩)), (3, .slice s.2.1 s.2.2.2.length s.2.2.1), (4, .int .i64 ((s.1 : Nat) : Int))]) (fun s wr => s.1 ≤ l.length ∧ Blk wr g1 25 #[.slice m.A l.length m.c, .slice m.S ss.length m.d, .int .i64 m.v, .int .i64 m.b] ∧ Blk wr g4 25 qP.cells.toArray ∧ Own wr 45 4 s.2.1 s.2.2.2.length s.2.2.1 (NDC s.2.2.2) ∧ (∀ x ∈ s.2.2.2, OwM wr x.A x.c x.l ∧ x.l.length ≤ 129 ∧ x.nm.length ≤ 70) ∧ Ns s.2.2.2 = ((l.take s.1).map Nc.p).map gN ∧ (∀ b ∈ ob s.2.1, w.heap.size ≤ b) ∧ (∀ x ∈ s.2.2.2, ∀ b ∈ ob x.A, w.heap.size ≤ b) ∧ Frm [] w wr) (fun s => l.length - s.1) (0, none, 0, []) (js4 rfl rfl rfl rfl) ⟨zam _, hb1, hb4, Own.nil _ _ _, jp, rfl, by simp [ob], jp, K⟩ ?_
 rintro ⟨i, B, d, l'⟩ wr ⟨hi, hb1, hb4, ho, hel', hns, hob, hfa, K⟩
 dsimp only at *
 have hll : l'.length = i := by
  have h := congrArg List.length hns
  rw [bC, zba, zba, zq] at h
  omega
 refine jS (jS (jR (jm rfl (jf rfl zd rfl zx (jl rfl zah (hb1.cell 0) (je (Run.lenS rfl ze) (jb rfl rfl (Bin.lssN _ _) (jO (jN (jv5 1 2 3 4 28 ?_))))))))))
 refine jD rfl (fun hc3 => ?_) fun hc3 => ?_
 ·
  obtain ⟨ad, had, hel⟩ := qXw hRl hc3
  have hxr := hRe _ (zr hc3)
  have hts := lE (fun x : Nc => gN x.p) hc3
  generalize hx : l[i] = x at *
  refine jQ (jN (jv4 1 2 3 4 ?_))
  refine jS (jB (jS (jR (jf rfl zd rfl zx (jl rfl zah (hb1.cell 0) (jm rfl (je (Run.indexS i (show _ = some (Value.slice (some ad) l.length m.c) by rw [← had]; rfl) rfl ze zo hc3) (jf rfl zy rfl zf (je (Run.loadA rfl zad zf (cs := BVc x.v x.n x.A x.l.length x.c) (fun j v hj => by rw [Go.Proofs.YtgmbmfpfhcekiaaGreat.add_add]; exact hel _ K (1 + j) v (by rw [zdb]; exact hj)) (by first | rfl | (simp; done))) ?_)))))))))
  refine Ops.m (qJ.alloc bH) rfl ?_
  rintro _ w5 ⟨rfl, hF5⟩
  have hb1 := hb1.frm hF5.frm jp
  have hb4 := hb4.frm hF5.frm jp
  have ho := ho.frm hF5.frm jp
  have hel' := fun x hx => show OwM w5 x.A x.c x.l ∧ x.l.length ≤ 129 ∧ x.nm.length ≤ 70 from ⟨(hel' x hx).1.frm hF5.frm, (hel' x hx).2⟩
  have hb5 := hF5.blk
  have hK5 := K.size
  have hl1 := hb1.lt
  have hl4 := hb4.lt
  have hne15 : g1 ≠ wr.heap.size := fun e => by have := hb1.ne hb5 jd; omega
  have hne45 : g4 ≠ wr.heap.size := fun e => by have := hb4.ne hb5 jd; omega
  have K := K.trans hF5.frm jp
  generalize hgg5 : wr.heap.size = g5 at hb5 hK5 hne15 hne45 ⊢
  have ho5 := ho.ne_blk hb5 jd
  have hb50 := hb5
  refine Ops.st (qW.storeA rfl rfl zf hb5 rfl (bK x.v x.n x.A x.l.length x.c)) ?_
  rintro w6 ⟨hb5, (hf6 : Frm [g5] _ _), hs6⟩
  have hb5 : Blk w6 g5 43 (BVc x.v x.n x.A x.l.length x.c).toArray := hb5
  have hb1 := hb1.frm hf6 (by simp; omega)
  have hb4 := hb4.frm hf6 (by simp; omega)
  have ho := ho.frm hf6 (fun y hy h => by rw [za] at h; subst h; exact ho5 hy)
  have hel' := fun x hx => show OwM w6 x.A x.c x.l ∧ x.l.length ≤ 129 ∧ x.nm.length ≤ 70 from ⟨(hel' x hx).1.blk hf6 hb50 jd jd, (hel' x hx).2⟩
  have K := K.own hf6 (fun y hy => by rw [za] at hy; omega)
  refine jO (jN (jv5 1 2 3 4 5 ?_))
  refine jS (jS ?_)
  refine VC.split1 [(1, _), (2, _), (3, _), (4, _), (5, _)] (js5 rfl rfl rfl rfl rfl) 46 (.bool (decide ((20 < x.l.length) ∧ (x.l.length ≤ 128)))) ?_ ?_
  ·
   by_cases hs0 : 20 < x.l.length
   ·
    refine jR (jf rfl zj rfl zaa (jl rfl zao (hb5.cell 2) (je (Run.lenS rfl zk) (jb rfl rfl (Bin.gtrN _ 20) (jM ?_)))))
    refine jk (Run.fieldAddr rfl zj rfl zaa jd) ?_
    refine jk (Run.load rfl zao (hb5.cell 2)) ?_
    refine jk (Run.lenS rfl zk) ?_
    refine jk (Run.bin rfl rfl (Bin.leqN _ 128)) ?_
    refine je (Run.pickT rfl rfl au) (jO ?_)
    refine jN ⟨(js6 (by rw [oV hs0]; rfl) rfl rfl rfl rfl rfl), rfl⟩
   refine jR (jf rfl zj rfl zaa (jl rfl zao (hb5.cell 2) (je (Run.lenS rfl zk) (jb rfl rfl (Bin.gtrN _ 20) (jM ?_)))))
   refine jU ?_
   refine jU ?_
   refine jU ?_
   refine jU ?_
   refine je (Run.pickF rfl rfl au) (jO ?_)
   refine jN ⟨(js6 (by rw [oW hs0]; rfl) rfl rfl rfl rfl rfl), rfl⟩
  intro Γ hΓ
  refine jN (VC.sub _ hΓ ?_)
  refine VC.meet (σ := List Mc) (fun s => [(1, .pointer (some ⟨g1, 0, none⟩)), (2, .pointer (some ⟨g4, 0, none⟩)), (3, .slice B l'.length d), (4, .int .i64 ((i : Nat) : Int)), (5, .pointer (some ⟨g5, 0, none⟩))]) (fun s wm => s = (if 20 < x.l.length ∧ x.l.length ≤ 128 then x.l.take 20 else x.l) ∧ s.length ≤ x.c ∧ Blk wm g5 43 (BVc x.v x.n x.A s.length x.c).toArray ∧ Blk wm g1 25 #[.slice m.A l.length m.c, .slice m.S ss.length m.d, .int .i64 m.v, .int .i64 m.b] ∧ Blk wm g4 25 qP.cells.toArray ∧ Own wm 45 4 B l'.length d (NDC l') ∧ (∀ x ∈ l', OwM wm x.A x.c x.l ∧ x.l.length ≤ 129 ∧ x.nm.length ≤ 70) ∧ Frm [] w wm) ?_ ?_
  ·
   refine jD rfl (fun hc4 => ?_) fun hc4 => ?_
   ·
    refine jR (jf rfl zj rfl zaa (jl rfl zao (hb5.cell 2) (je (Run.sliceS 0 20 rfl zk zt evB.none_ (evB.some_ rfl) jo jo) (jf rfl zj rfl zaa ?_))))
    have ho5 := ho.ne_blk hb5 jd
    have hb50 := hb5
    refine Ops.st (qW.store rfl rfl zaa hb5 rfl rfl) ?_
    rintro w7 ⟨hbn, (hf7 : Frm [g5] _ _), hs7⟩
    have hlt : (x.l.take 20).length = 20 := by rw [zq]; omega
    have hbn : Blk w7 g5 43 (BVc x.v x.n (dB x.A x.c 0 6) (20 - 0) (x.c - 0)).toArray := hbn
    rw [fT, zbu, zbu] at hbn
    have hb5 : Blk w7 g5 43 (BVc x.v x.n x.A (x.l.take 20).length x.c).toArray := by rw [hlt]; exact hbn
    have hb1 := hb1.frm hf7 (by simp; omega)
    have hb4 := hb4.frm hf7 (by simp; omega)
    have ho := ho.frm hf7 (fun y hy h => by rw [za] at h; subst h; exact ho5 hy)
    have hel' := fun x hx => show OwM w7 x.A x.c x.l ∧ x.l.length ≤ 129 ∧ x.nm.length ≤ 70 from ⟨(hel' x hx).1.blk hf7 hb50 jd jd, (hel' x hx).2⟩
    have K7 := K.own hf7 (fun y hy => by rw [za] at hy; omega)
    refine jO ?_
    refine jN ⟨(x.l.take 20), (js5 rfl rfl rfl rfl rfl), ?_⟩
    exact ⟨by rw [if_pos (by first | exact hc4 | exact of_decide_eq_true hc4)], by rw [zq]; omega, hb5, hb1, hb4, ho, hel', K7⟩
   refine jQ ?_
   refine jN ⟨x.l, (js5 rfl rfl rfl rfl rfl), ?_⟩
   exact ⟨by rw [if_neg (by first | exact hc4 | exact of_decide_eq_false hc4)], hxr.2, hb5, hb1, hb4, ho, hel', K⟩
  rintro lx w8 ⟨hlx, hlc, hb5, hb1, hb4, ho, hel', K⟩ Γ hΓ
  have hxl : RawM w8.drew x.A lx := by
   have h := (hRe x (by rw [← hx]; exact zr hc3)).1.frm K.drew
   rw [hlx]
   split
   · exact h.take 20
   exact h
  have hnB1 := ho.ne_blk hb1 jd
  have hnB4 := ho.ne_blk hb4 jd
  have hnB5 := ho.ne_blk hb5 jd
  refine jN (VC.sub _ hΓ ?_)
  refine VC.held (fun W => Frm (ob B) w8 W) jK ?_
  have hS : Frm (ob B) w8 w8.drew := (Frm.refl _ _).drew
  have hS0 : Frm [] w8 w8.drew := (Frm.refl _ _).drew
  refine jH 0 rfl hS (fun w0 hw0 => Run.mv rfl) ?_
  refine jH 1 rfl hS (fun w0 hw0 => Run.fieldAddr rfl zd rfl zx jd) ?_
  refine jH 2 rfl hS (fun w0 hw0 => Run.load rfl zah ((hb1.frm hw0 hnB1).cell 0)) ?_
  refine jH 3 rfl hS (fun w0 hw0 => Run.mv rfl) ?_
  refine jH 4 rfl hS (fun w0 hw0 => Run.indexS i (show _ = some (Value.slice (some ad) l.length m.c) by rw [← had]; rfl) rfl ze zo hc3) ?_
  refine jH 5 rfl hS (fun w0 hw0 => Run.fieldAddr rfl zy rfl zp jd) ?_
  refine jH 6 rfl hS (fun w0 hw0 => Run.load rfl zab (hel _ (K.own hw0 hob) 0 (encStr x.nm) rfl)) ?_
  refine jH 8 rfl hS (fun w0 hw0 => Run.loadA rfl zad zf (fun j v hj => (hb5.frm hw0 hnB5).cells j v hj) (by first | rfl | (simp; done))) ?_
  refine qZ.cl 7 rfl jK (jE1 Tryz.call12) (gK x.nm _) trivial rfl rfl ?_
  rintro e _ ⟨rfl, rfl⟩
  refine ⟨_, rfl, hS, ?_⟩
  refine qZ.cl 9 rfl jK (jE1 Tryz.call44) (wT x.v x.n x.A x.c lx _ hxl hlc) trivial rfl rfl ?_
  rintro e w9 ⟨hf9, C, dC, lC, rfl, hoC, hMC, hCl, hCb⟩
  have hS0s := hS0.size
  have hS9 := hS.trans hf9 jp
  have hS09 := hS0.trans hf9 jp
  refine ⟨_, rfl, hS9, ?_⟩
  have hS := hS9
  have ho9 := ho.frm hS09 jp
  have hel9 := fun x hx => show OwM w9 x.A x.c x.l ∧ x.l.length ≤ 129 ∧ x.nm.length ≤ 70 from ⟨(hel' x hx).1.frm hS09, (hel' x hx).2⟩
  refine jH 10 rfl hS (fun w0 hw0 => Run.build (evs.cons rfl (evs.cons rfl evs.nil)) cN (eG).choose_spec.1 (eG).choose_spec.2 rfl) ?_
  refine qZ.m 11 rfl jK (qJ.buildS1 rfl ze zo cN jd jd rfl rfl) trivial rfl rfl ?_
  rintro _ w10 ⟨rfl, hF10⟩
  have hr10 : Rd w10 4 (some ⟨w9.heap.size, 0, none⟩) 1 (NDC [⟨x.nm.take 70, x.v, x.n, C, dC, lC⟩]) := mE (x := ⟨x.nm.take 70, x.v, x.n, C, dC, lC⟩) hF10
  have hS010 := hS09.trans hF10.frm jp
  have hS10 := hS.trans hF10.frm jp
  refine ⟨hS10, ?_⟩
  have hS := hS10
  have ho10 := ho9.frm hF10.frm jp
  have hel10 := fun x hx => show OwM w10 x.A x.c x.l ∧ x.l.length ≤ 129 ∧ x.nm.length ≤ 70 from ⟨(hel9 x hx).1.frm hF10.frm, (hel9 x hx).2⟩
  have hoC10 := hoC.frm hF10.frm
  have K10 := K.trans hS010 jp
  have hK10 := K10.size
  have hS90 := hS09.size
  have hK8 := K.size
  refine qZ.m 12 rfl jK (qJ.app rfl rfl ze (fM) rfl jd ho10 hr10 (eV _) jo jo) trivial rfl rfl ?_
  rintro _ w11 ⟨B6, c6, rfl, ho6, hf6, hob6⟩
  rw [← cQ] at ho6
  have hS11 := hS10.trans hf6 (fun y hy => .inl hy)
  refine ⟨hS11, ?_⟩
  have hS := hS11
  have hel11 : ∀ y ∈ l' ++ [⟨x.nm.take 70, x.v, x.n, C, dC, lC⟩], OwM w11 y.A y.c y.l ∧ y.l.length ≤ 129 ∧ y.nm.length ≤ 70 := fun y hy => by
   rcases zeq.1 hy with h | h
   · exact ⟨(hel10 y h).1.offO hf6 ho10 jd jd, (hel10 y h).2⟩
   rw [za] at h
   subst h
   exact ⟨hoC10.offO hf6 ho10 jd jd, hCl, zco _ _⟩
  have hob6 : ∀ b ∈ ob B6, w.heap.size ≤ b := fun b hb => by
   rcases hob6 with h | h
   · rw [h] at hb; exact hob b hb
   rw [h, za] at hb; omega
  have K11 := K10.own hf6 hob
  have hb1 := hb1.frm hS11 hnB1
  have hb4 := hb4.frm hS11 hnB4
  refine jH 13 rfl hS (fun w0 hw0 => Run.asg rfl) ?_
  refine qZ.done jK ?_
  refine qT (jN ?_)
  refine jv4 1 2 3 4 ?_
  refine jR (jm rfl (jb rfl rfl (Bin.add_i64 _ 1 jo) (ja rfl (jO ?_))))
  refine jN ⟨(i + 1, B6, c6, l' ++ [⟨x.nm.take 70, x.v, x.n, C, dC, lC⟩]), (js4 rfl rfl (by rw [zm]; rfl) rfl), ?_, ?_⟩
  ·
   refine ⟨hc3, hb1, hb4, by rw [zm]; exact ho6, hel11, ?_, hob6, fun y hy => ?_, K11⟩
   rotate_left
   ·
    rcases zeq.1 hy with h | h
    · exact hfa y h
    rw [za] at h
    subst h
    exact fun b hb => by have := hCb b hb; have := hS90; have := hK8; omega
   rw [zcl] at hns
   rw [zcl]
   show Ns (l' ++ _) = List.map (fun x => gN (Nc.p x)) (l.take (i + 1))
   rw [hts]
   show (l' ++ _).map Nc.p = _
   rw [zaw]
   have hns' : l'.map Nc.p = List.map (fun x => gN (Nc.p x)) (l.take i) := hns
   rw [hns']
   congr 1
   show [Nc.p _] = [gN x.p]
   unfold Nc.p gN pR
   dsimp only
   rw [hMC, hlx]
   congr 4
   have hml : (Ms x.l).length = x.l.length := by simp [Ms]
   rw [hml]
   split <;> simp [Ms]
  first | omega | (dsimp only; omega)
 obtain rfl : i = l.length := jo
 rw [zak] at hns
 refine jX ?_
 refine qH (qH (qF ?_))
 refine jN (jv3 1 2 3 ?_)
 refine jS (jR (jm rfl (jf rfl zd rfl zx ?_)))
 have ho1 := ho.ne_blk hb1 jd
 have hb10 := hb1
 refine Ops.st (qW.store rfl rfl zx hb1 rfl rfl) ?_
 rintro w13 ⟨hb1, (hf13 : Frm [g1] _ _), hs13⟩
 have hb1 : Blk w13 g1 25 #[.slice B l'.length d, .slice m.S ss.length m.d, .int .i64 m.v, .int .i64 m.b] := hb1
 have hb4 := hb4.frm hf13 (by simp; omega)
 have ho := ho.frm hf13 (fun y hy h => by rw [za] at h; subst h; exact ho1 hy)
 have hel' := fun x hx => show OwM w13 x.A x.c x.l ∧ x.l.length ≤ 129 ∧ x.nm.length ≤ 70 from ⟨(hel' x hx).1.blk hf13 hb10 jd jd, (hel' x hx).2⟩
 have K := K.own hf13 (fun y hy => by rw [za] at hy; omega)
 refine jO (jN (jv2 1 2 ?_))
 refine jS (jR (ja rfl (jO (jN (jS (jS (jR (jz 0 (jO (jN (jB ?_)))))))))))
 refine VC.loop (σ := Nat × Option Addr × Nat × List Tx) (fun s => [(1, .pointer (some ⟨g1, 0, none⟩)), (2, .pointer (some ⟨g4, 0, none⟩)), (6, .slice s.2.1 s.2.2.2.length s.2.2.1), (7, .int .i64 ((s.1 : Nat) : Int))]) (fun s wr => s.1 ≤ ss.length ∧ Own wr 9 1 s.2.1 s.2.2.2.length s.2.2.1 (SB s.2.2.2) ∧ s.2.2.2 = (ss.take s.1).map (fun s => s.take 70) ∧ (∀ b ∈ ob s.2.1, w13.heap.size ≤ b) ∧ Frm [] w13 wr) (fun s => ss.length - s.1) (0, none, 0, []) (js4 rfl rfl rfl rfl) ⟨zam _, Own.nil _ _ _, rfl, by simp [ob], Frm.refl _ _⟩ ?_
 rintro ⟨k, C, e, s'⟩ wr ⟨hk, hos, hse, hoc, F⟩
 dsimp only at *
 have hsl : s'.length = k := by rw [hse, zba, zq]; omega
 have hb1r := hb1.frm F jp
 have Kr := K.trans F jp
 refine jS (jS (jR (jm rfl (jf rfl zd rfl zae (jl rfl zas (hb1r.cell 1) (je (Run.lenS rfl zh) (jb rfl rfl (Bin.lssN _ _) (jO (jN (jv5 1 2 6 7 70 ?_))))))))))
 refine jD rfl (fun hc5 => ?_) fun hc5 => ?_
 ·
  obtain ⟨ad2, had2, hcs⟩ := qZh (hRs.frm Kr jp) hc5
  have hts2 := lE (fun s : Tx => s.take 70) hc5
  generalize hq : ss[k] = q at *
  refine jQ (jN (jv4 1 2 6 7 ?_))
  refine jS (jB (jR (jm rfl (jf rfl zd rfl zae (jl rfl zas (hb1r.cell 1) (jm rfl (je (Run.indexS k (show _ = some (Value.slice (some ad2) ss.length m.d) by rw [← had2]; rfl) rfl zh zp hc5) (jl rfl zab hcs ?_))))))))
  refine Ops.cl (jE1 Tryz.call12) (gK q _) rfl ?_
  rintro e _ ⟨rfl, rfl⟩
  refine ⟨_, rfl, ?_⟩
  refine Ops.m (qJ.buildS1 rfl zh zp eL jd jd rfl rfl) rfl ?_
  rintro _ w14 ⟨rfl, hF14⟩
  have hr14 : Rd w14 1 (some ⟨wr.heap.size, 0, none⟩) 1 (SB [q.take 70]) := Rd.of_blk (n := 1) (size := 1) hF14.blk rfl
  have ho14 := hos.frm hF14.frm jp
  have F14 := F.trans hF14.frm jp
  have hFs := F14.size
  refine Ops.m (qJ.app rfl rfl zh (gS) rfl jd ho14 hr14 (eA _) jo jo) rfl ?_
  rintro _ w15 ⟨C6, e6, rfl, ho6, hf6, hob6⟩
  rw [← cU] at ho6
  have hob6 : ∀ b ∈ ob C6, w13.heap.size ≤ b := fun b hb => by
   rcases hob6 with h | h
   · rw [h] at hb; exact hoc b hb
   rw [h, za] at hb; omega
  have F15 := F14.own hf6 hoc
  refine ja rfl (jO ?_)
  refine qT (jN ?_)
  refine jv4 1 2 6 7 ?_
  refine jR (jm rfl (jb rfl rfl (Bin.add_i64 _ 1 jo) (ja rfl (jO ?_))))
  refine jN ⟨(k + 1, C6, e6, s' ++ [q.take 70]), (js4 rfl rfl (by rw [zm]; rfl) rfl), ?_, ?_⟩
  · exact ⟨hc5, by rw [zm]; exact ho6, by rw [hts2, hse], hob6, F15⟩
  first | omega | (dsimp only; omega)
 obtain rfl : k = ss.length := jo
 rw [zak] at hse
 refine jX ?_
 refine qH (qH (qF ?_))
 refine jN (jv3 1 2 6 ?_)
 refine jS (jR (jm rfl (jf rfl zd rfl zae ?_)))
 have ho := ho.frm F jp
 have hb4 := hb4.frm F jp
 have hel' := fun x hx => show OwM wr x.A x.c x.l ∧ x.l.length ≤ 129 ∧ x.nm.length ≤ 70 from ⟨(hel' x hx).1.frm F, (hel' x hx).2⟩
 have ho1 := ho.ne_blk hb1r jd
 have hs1 := hos.ne_blk hb1r jd
 refine Ops.st (qW.store rfl rfl zae hb1r rfl rfl) ?_
 rintro w16 ⟨hb1, (hf16 : Frm [g1] _ _), hs16⟩
 have hb1 : Blk w16 g1 25 (⟨B, d, l', C, e, s', m.v, m.b⟩ : MlC).cells.toArray := hb1
 have hb4 := hb4.frm hf16 (by simp; omega)
 have ho := ho.frm hf16 (fun y hy h => by rw [za] at h; subst h; exact ho1 hy)
 have hos := hos.frm hf16 (fun y hy h => by rw [za] at h; subst h; exact hs1 hy)
 have hel' := fun x hx => show OwM w16 x.A x.c x.l ∧ x.l.length ≤ 129 ∧ x.nm.length ≤ 70 from ⟨(hel' x hx).1.blk hf16 hb1r jd jd, (hel' x hx).2⟩
 have K := Kr.own hf16 (fun y hy => by rw [za] at hy; omega)
 refine jO (jN (jv2 1 2 ?_))
 refine jS (jR (je (Run.loadA rfl zg zb (hb1.cells) (by first | rfl | (simp; done))) ?_))
 have ho4 := ho.ne_blk hb4 jd
 have hs4 := hos.ne_blk hb4 jd
 have hb40 := hb4
 refine Ops.st (qW.storeA rfl rfl zb hb4 rfl (MlC.cells_one _)) ?_
 rintro w17 ⟨hb17, (hf17 : Frm [g4] _ _), hs17⟩
 have ho := ho.frm hf17 (fun y hy h => by rw [za] at h; subst h; exact ho4 hy)
 have hos := hos.frm hf17 (fun y hy h => by rw [za] at h; subst h; exact hs4 hy)
 have hel' := fun x hx => show OwM w17 x.A x.c x.l ∧ x.l.length ≤ 129 ∧ x.nm.length ≤ 70 from ⟨(hel' x hx).1.blk hf17 hb40 jd jd, (hel' x hx).2⟩
 have K := K.own hf17 (fun y hy => by rw [za] at hy; omega)
 refine jO (jN (jv1 2 ?_))
 refine jT ?_
 refine bZ ?_
 refine qS rfl zg zb (fun j v hj => hb17.cells j v hj) (by first | rfl | (simp; done)) ?_
 refine qB ?_
 refine ⟨⟨B, d, l', C, e, s', m.v, m.b⟩, rfl, ?_, ⟨ho, hel', hos, by dsimp only; omega, by dsimp only; omega, fun q hq => ?_⟩, rfl, fun x hx b hb => hg1 ▸ hfa x hx b hb, K⟩
 ·
  show MailP.mk (Ns l') s' m.v m.b = mT m.p
  unfold mT
  congr 1
  ·
   rw [hns, hl]
   show _ = ((m.l.map Nc.p).take 25).map gN
   rw [zdg]
  rw [hse, hss]
  rfl
 dsimp only at hq
 rw [hse] at hq
 obtain ⟨y, hy, rfl⟩ := List.mem_map.1 hq
 rw [zq]
 omega
end
section
open Go.RowKit Go.Sort
section
variable {H : Type} {enc : TypeId × Value → H} {w : World} {base : Nat} {spare : Nat → Bool} {held : Bool} {n : Nat} {cs : List Value} {x : DataW H × List MemPlace}
theorem yF (h : DataW.trod enc Tryz.prog w base spare held n 41 cs = some x) : ∃ (A : Option Addr) (c : Nat) (l : List Mc), cs = [.slice A l.length c] ∧ l.length ≤ c ∧ RawM w A l := by
 obtain ⟨A, len, c, rfl⟩ := gR zk h
 obtain ⟨l, rfl, h1, _, h3⟩ := qXv h
 exact ⟨A, c, l, rfl, h1, h3⟩
end
theorem qQp {H : Type} {enc : TypeId × Value → H} {w : World} {base : Nat} {spare : Nat → Bool} {held : Bool} {n : Nat} {cs : List Value} {x : DataW H × List MemPlace} (h : DataW.trod enc Tryz.prog w base spare held n 43 cs = some x) :
  ∃ (va : Int) (na : Int) (A : Option Addr) (c : Nat) (l : List Mc), cs = ([.int .i64 va] ++ ([.int .i64 na] ++ ([.slice A l.length c] ++ [] : List Value) : List Value) : List Value) ∧ ((Lit.int .i64 va).wf = true) ∧ ((Lit.int .i64 na).wf = true) ∧ (l.length ≤ c ∧ RawM w A l) := by
 obtain ⟨hlen, n', hf⟩ := gP zj h
 have hl : cs.length = 3 := hlen.trans jK
 obtain ⟨a0, a1, a2, rfl⟩ : ∃ a0 a1 a2, cs = [a0, a1, a2] := by
  match cs, hl with
  | [a0, a1, a2], _ => exact ⟨a0, a1, a2, rfl⟩
 clear h hlen hl
 obtain ⟨y0, h0⟩ := hf 0 _ rfl
 have h0 : DataW.trod enc Tryz.prog w base spare held n' 3 ([a0, a1, a2].take (Tryz.prog.cellsOf 3)) = some y0 := h0
 rw [show Tryz.prog.cellsOf 3 = 1 by kernel_rfl] at h0
 have h0 : DataW.trod enc Tryz.prog w base spare held n' 3 [a0] = some y0 := h0
 obtain ⟨va, e0, q0⟩ := kL zan h0
 obtain ⟨y1, h1⟩ := hf 1 _ rfl
 have h1 : DataW.trod enc Tryz.prog w base spare held n' 3 ([a1, a2].take (Tryz.prog.cellsOf 3)) = some y1 := h1
 rw [show Tryz.prog.cellsOf 3 = 1 by kernel_rfl] at h1
 have h1 : DataW.trod enc Tryz.prog w base spare held n' 3 [a1] = some y1 := h1
 obtain ⟨na, e1, q1⟩ := kL zan h1
 obtain ⟨y2, h2⟩ := hf 2 _ rfl
 have h2 : DataW.trod enc Tryz.prog w base spare held n' 41 ([a2].take (Tryz.prog.cellsOf 41)) = some y2 := h2
 rw [show Tryz.prog.cellsOf 41 = 1 by kernel_rfl] at h2
 have h2 : DataW.trod enc Tryz.prog w base spare held n' 41 [a2] = some y2 := h2
 obtain ⟨A, c, l, e2, q2⟩ := yF h2
 refine ⟨va, na, A, c, l, ?_, q0, q1, q2⟩
 show ([a0] ++ ([a1] ++ ([a2] ++ [] : List Value) : List Value) : List Value) = _
 rw [e0, e1, e2]
 try rfl
end
section
open Go.RowKit Go.ChangeShapes Go.WideShapes Go.Deep
theorem wU {H : Type} {enc : TypeId × Value → H} {w : World} {base : Nat} {spare : Nat → Bool} {held : Bool} {n : Nat} {cs : List Value} {x : DataW H × List MemPlace} (h : DataW.trod enc Tryz.prog w base spare held n 45 cs = some x) :
  ∃ (q : Tx) (va na : Int) (A : Option Addr) (c : Nat) (l : List Mc), cs = ([encStr q] ++ (BVc va na A l.length c ++ [] : List Value) : List Value) ∧ (q.length ≤ 9223372036854775807) ∧ ((Lit.int .i64 va).wf = true ∧ (Lit.int .i64 na).wf = true ∧ l.length ≤ c ∧ RawM w A l) := by
 obtain ⟨hlen, n', hf⟩ := gP zy h
 have hl : cs.length = 4 := hlen.trans jK
 obtain ⟨a0, a1, a2, a3, rfl⟩ : ∃ a0 a1 a2 a3, cs = [a0, a1, a2, a3] := by
  match cs, hl with
  | [a0, a1, a2, a3], _ => exact ⟨a0, a1, a2, a3, rfl⟩
 clear h hlen hl
 obtain ⟨y0, h0⟩ := hf 0 _ rfl
 have h0 : DataW.trod enc Tryz.prog w base spare held n' 9 ([a0, a1, a2, a3].take (Tryz.prog.cellsOf 9)) = some y0 := h0
 rw [show Tryz.prog.cellsOf 9 = 1 by kernel_rfl] at h0
 have h0 : DataW.trod enc Tryz.prog w base spare held n' 9 [a0] = some y0 := h0
 obtain ⟨q, e0, q0⟩ := nU zl h0
 obtain ⟨y1, h1⟩ := hf 1 _ rfl
 have h1 : DataW.trod enc Tryz.prog w base spare held n' 43 ([a1, a2, a3].take (Tryz.prog.cellsOf 43)) = some y1 := h1
 rw [show Tryz.prog.cellsOf 43 = 3 by kernel_rfl] at h1
 have h1 : DataW.trod enc Tryz.prog w base spare held n' 43 [a1, a2, a3] = some y1 := h1
 obtain ⟨va, na, A, c, l, e1, q1⟩ := qQp h1
 refine ⟨q, va, na, A, c, l, ?_, q0, q1⟩
 show ([a0] ++ ([a1, a2, a3] ++ [] : List Value) : List Value) = _
 rw [e0, e1]
 try rfl
section
variable {H : Type} {enc : TypeId × Value → H} {w : World} {base : Nat} {spare : Nat → Bool} {held : Bool}
theorem wD {n : Nat} {cs : List Value} {x : DataW H × List MemPlace} (h : DataW.trod enc Tryz.prog w base spare held n 45 cs = some x) : ∃ y : Nc, cs = y.cells ∧ RawM w y.A y.l ∧ y.l.length ≤ y.c := by
 obtain ⟨q, va, na, A, c, l, e, _, ⟨_, _, h1, h2⟩⟩ := wU h
 exact ⟨⟨q, va, na, A, c, l⟩, e, h2, h1⟩
theorem qQq {fuel len cap : Nat} {a : Option Addr} {x : DataW H × List MemPlace} (h : DataW.trod enc Tryz.prog w base spare held fuel 22 [.slice a len cap] = some x) :
  ∃ l : List Nc, l.length = len ∧ len ≤ cap ∧ Rd w 4 a l.length (NDC l) ∧ ∀ y ∈ l, RawM w y.A y.l ∧ y.l.length ≤ y.c := by
 have hC : Tryz.prog.cellsOf 45 = 4 := by kernel_rfl
 rcases open_slice ze h with ⟨hcs, _⟩ | ⟨ad, l, c, m, n, D, Pl, hcs, _, hl, hm, hmm, _, hi⟩
 ·
  simp only [List.cons.injEq, Value.slice.injEq, and_true] at hcs
  obtain ⟨rfl, rfl, rfl⟩ := hcs
  exact ⟨[], rfl, zaj _, Rd.nil _ _ _, jp⟩
 simp only [List.cons.injEq, Value.slice.injEq, and_true] at hcs
 obtain ⟨rfl, rfl, rfl⟩ := hcs
 have hml : len ≤ m := by rw [hmm]; split <;> omega
 rw [hC] at hi
 have key : ∀ i, i < len → ∃ y : Nc, (∀ j, j < 4 → w.cell? ((ad.add (i * 4)).add j) = y.cells[j]?) ∧ RawM w y.A y.l ∧ y.l.length ≤ y.c := by
  intro i hil
  obtain ⟨cs', hc, ht'⟩ := hi i jo
  obtain ⟨_, hcl, hat⟩ := World.cells?_some hc
  obtain ⟨y, rfl, h1, h2⟩ := wD ht'
  exact ⟨y, fun j hj => hat j hj, h1, h2⟩
 obtain ⟨ls, hll, hq⟩ := gZ len key
 have hcell : ∀ j u, (NDC ls)[j]? = some u → w.cell? (ad.add j) = some u := by
  intro j u hu
  rw [show NDC ls = ls.flatMap Nc.cells from rfl, gF Nc.cells 4 jo Nc.cells_len] at hu
  obtain ⟨y, hy, hu'⟩ := Option.bind_eq_some_iff.1 hu
  have := (hq _ y hy).1 (j % 4) (Nat.mod_lt _ jo)
  rw [Go.Proofs.YtgmbmfpfhcekiaaGreat.add_add, Nat.mul_comm, Nat.div_add_mod] at this
  rw [this, hu']
 refine ⟨ls, hll, hl, ⟨by rw [dO], fun hn => ⟨ad, rfl, ?_, hcell⟩⟩, fun y hy => ?_⟩
 ·
  have h0 : 0 < (NDC ls).length := by rw [dO]; omega
  have := World.block_lt_of_cell? w _ (hcell 0 _ (zc h0))
  rwa [eY] at this
 obtain ⟨i, hi', hli⟩ := zaf hy
 exact (hq i y (by rw [zc hi', hli])).2
theorem tO {n : Nat} {cs : List Value} {x : DataW H × List MemPlace} (h : DataW.trod enc Tryz.prog w base spare held n 22 cs = some x) : ∃ (A : Option Addr) (c : Nat) (l : List Nc), cs = [.slice A l.length c] ∧ l.length ≤ c ∧ Rd w 4 A l.length (NDC l) ∧ ∀ y ∈ l, RawM w y.A y.l ∧ y.l.length ≤ y.c := by
 obtain ⟨A, len, c, rfl⟩ := gR ze h
 obtain ⟨l, rfl, h1, h2, h3⟩ := qQq h
 exact ⟨A, c, l, rfl, h1, h2, h3⟩
theorem wE {n : Nat} {cs : List Value} {x : DataW H × List MemPlace} (h : DataW.trod enc Tryz.prog w base spare held n 23 cs = some x) : ∃ (A : Option Addr) (c : Nat) (l : List Tx), cs = [.slice A l.length c] ∧ l.length ≤ c ∧ c ≤ 9223372036854775807 ∧ Rd w 1 A l.length (SB l) := zK zh zl jK h
end
theorem yA {H : Type} {enc : TypeId × Value → H} {w : World} {base : Nat} {spare : Nat → Bool} {held : Bool} {n : Nat} {cs : List Value} {x : DataW H × List MemPlace} (h : DataW.trod enc Tryz.prog w base spare held n 25 cs = some x) :
  ∃ (A : Option Addr) (c : Nat) (l : List Nc) (S : Option Addr) (d : Nat) (ss : List Tx) (va : Int) (bl : Int), cs = ([.slice A l.length c] ++ ([.slice S ss.length d] ++ ([.int .i64 va] ++ ([.int .i64 bl] ++ [] : List Value) : List Value) : List Value) : List Value) ∧ (l.length ≤ c ∧ Rd w 4 A l.length (NDC l) ∧ ∀ y ∈ l, RawM w y.A y.l ∧ y.l.length ≤ y.c) ∧ (ss.length ≤ d ∧ d ≤ 9223372036854775807 ∧ Rd w 1 S ss.length (SB ss)) ∧ ((Lit.int .i64 va).wf = true) ∧ ((Lit.int .i64 bl).wf = true) := by
 obtain ⟨hlen, n', hf⟩ := gP zd h
 have hl : cs.length = 4 := hlen.trans jK
 obtain ⟨a0, a1, a2, a3, rfl⟩ : ∃ a0 a1 a2 a3, cs = [a0, a1, a2, a3] := by
  match cs, hl with
  | [a0, a1, a2, a3], _ => exact ⟨a0, a1, a2, a3, rfl⟩
 clear h hlen hl
 obtain ⟨y0, h0⟩ := hf 0 _ rfl
 have h0 : DataW.trod enc Tryz.prog w base spare held n' 22 ([a0, a1, a2, a3].take (Tryz.prog.cellsOf 22)) = some y0 := h0
 rw [show Tryz.prog.cellsOf 22 = 1 by kernel_rfl] at h0
 have h0 : DataW.trod enc Tryz.prog w base spare held n' 22 [a0] = some y0 := h0
 obtain ⟨A, c, l, e0, q0⟩ := tO h0
 obtain ⟨y1, h1⟩ := hf 1 _ rfl
 have h1 : DataW.trod enc Tryz.prog w base spare held n' 23 ([a1, a2, a3].take (Tryz.prog.cellsOf 23)) = some y1 := h1
 rw [show Tryz.prog.cellsOf 23 = 1 by kernel_rfl] at h1
 have h1 : DataW.trod enc Tryz.prog w base spare held n' 23 [a1] = some y1 := h1
 obtain ⟨S, d, ss, e1, q1⟩ := wE h1
 obtain ⟨y2, h2⟩ := hf 2 _ rfl
 have h2 : DataW.trod enc Tryz.prog w base spare held n' 3 ([a2, a3].take (Tryz.prog.cellsOf 3)) = some y2 := h2
 rw [show Tryz.prog.cellsOf 3 = 1 by kernel_rfl] at h2
 have h2 : DataW.trod enc Tryz.prog w base spare held n' 3 [a2] = some y2 := h2
 obtain ⟨va, e2, q2⟩ := kL zan h2
 obtain ⟨y3, h3⟩ := hf 3 _ rfl
 have h3 : DataW.trod enc Tryz.prog w base spare held n' 3 ([a3].take (Tryz.prog.cellsOf 3)) = some y3 := h3
 rw [show Tryz.prog.cellsOf 3 = 1 by kernel_rfl] at h3
 have h3 : DataW.trod enc Tryz.prog w base spare held n' 3 [a3] = some y3 := h3
 obtain ⟨bl, e3, q3⟩ := kL zan h3
 refine ⟨A, c, l, S, d, ss, va, bl, ?_, q0, q1, q2, q3⟩
 show ([a0] ++ ([a1] ++ ([a2] ++ ([a3] ++ [] : List Value) : List Value) : List Value) : List Value) = _
 rw [e0, e1, e2, e3]
 try rfl
theorem yI {H : Type} {enc : TypeId × Value → H} {w : World} {base : Nat} {spare : Nat → Bool} {held : Bool} {n : Nat} {cs : List Value} {x : DataW H × List MemPlace} (h : DataW.trod enc Tryz.prog w base spare held n 25 cs = some x) :
  ∃ m : MlC, cs = m.cells ∧ RawL w m ∧ m.b ≤ 9223372036854775807 := by
 obtain ⟨A, c, l, S, d, ss, va, bl, e, ⟨h1, h2, h3⟩, ⟨h4, _, h6⟩, _, hb⟩ := yA h
 exact ⟨⟨A, c, l, S, d, ss, va, bl⟩, e, ⟨h2, h3, h6, h1, h4⟩, by simp [Lit.wf, IntKind.min, IntKind.max, IntKind.signed, IntKind.bits] at hb; dsimp only; omega⟩
theorem cE.same {w w' w2 : World} {m a b : MlC} {F : Except Nat MailP} {k k' : Nat} (h : cE w w' m F a k) (h' : fS w2 F b k') : k = k' ∧ a.p = b.p := by
 obtain ⟨_, h | h⟩ := h <;> obtain ⟨_, h' | h'⟩ := h'
 ·
  obtain ⟨h1, h2⟩ := h
  obtain ⟨h3, h4⟩ := h'
  rw [h2] at h4
  injection h4 with h4
  exact ⟨by rw [h1, h3], h4⟩
 · rw [h.2] at h'; cases h'.2.1
 · rw [h.2.1] at h'; cases h'.2
 obtain ⟨_, h2, rfl⟩ := h
 obtain ⟨_, h4, rfl⟩ := h'
 rw [h2] at h4
 injection h4 with h4
 exact ⟨h4, rfl⟩
theorem cE.rdl {w w' w2 : World} {m a : MlC} {F : Except Nat MailP} {k : Nat} (h : cE w w' m F a k) (f : Frm [] w' w2) (hm : RdL w' m) : RdL w2 a := by
 obtain ⟨⟨S, hS⟩, _⟩ := h
 exact (hS.now hm).frm f
end
section
open Go.RowKit Go.Sort
theorem qZi {w : World} {e size n c : Nat} {A : Option Addr} {xs : List Value} (h : Own w e size A n c xs) : ∀ b ∈ ob A, b < w.heap.size := by
 intro b hb
 rcases h.cases with ⟨h0, _⟩ | ⟨g, cur, h0, hbb, _⟩
 · rw [h0] at hb; simp [ob] at hb
 rw [h0] at hb
 simp only [ob, za] at hb
 rw [hb]
 exact hbb.lt
end
section
open Go.RowKit Go.Sort
theorem pZ {l : List Nc} {i : Nat} {p : Nc → Bool} (h : i < l.length) : (l.take (i + 1)).filter p = (l.take i).filter p ++ (if p l[i] = true then [l[i]] else []) := by
 rw [zar, zc h, zbp]
 congr 1
 simp only [Option.toList, zcz, List.filter_nil]
def dS (l : List Nc) (x : Nc) : List Nc := l.filter (fun y => decide (y.nm < x.nm)) ++ x :: l.filter (fun y => decide (x.nm < y.nm))
theorem pS (l : List Nc) (x : Nc) : Ns (dS l x) = bU (Ns l) x.nm x.p.2 := by
 unfold dS bU
 rw [show Ns (_ ++ _) = Ns _ ++ Ns _ from zaw]
 congr 1
 · exact (zep (f := Nc.p) (p := fun y => decide (y.1 < x.nm)) (l := l)).symm
 show x.p :: Ns _ = _
 congr 1
 exact (zep (f := Nc.p) (p := fun y => decide (x.nm < y.1)) (l := l)).symm
theorem yL (l : List Nc) (x : Nc) : (dS l x).length ≤ l.length + l.length + 1 := by
 unfold dS
 have h1 := zbs (fun y : Nc => decide (y.nm < x.nm)) l
 have h2 := zbs (fun y : Nc => decide (x.nm < y.nm)) l
 rw [zm, zbe]
 omega
theorem yO {l : List Nc} {x y : Nc} (h : y ∈ dS l x) : y = x ∨ y ∈ l := by
 unfold dS at h
 rcases zeq.1 h with h | h
 · exact .inr (zdz.1 h).1
 rcases zv.1 h with h | h
 · exact .inl h
 exact .inr (zdz.1 h).1
set_option maxHeartbeats 1000000 in
theorem lB (A : Option Addr) (c : Nat) (l : List Nc) (q : Tx) (v n : Int) (B0 : Option Addr) (cb : Nat) (lm : List Mc) (w : World) (hl : RdN w A l) (hn : l.length ≤ 400000) (hq : q.length ≤ 1000000) :
  Calls Tryz.prog 40 #[.slice A l.length c, encStr q, .agg (BVc v n B0 lm.length cb).toArray] w fun e w' => ∃ C d, e = .returned (.slice C (dS l ⟨qV q, v, n, B0, cb, lm⟩).length d) ∧ Own w' 45 4 C (dS l ⟨qV q, v, n, B0, cb, lm⟩).length d (NDC (dS l ⟨qV q, v, n, B0, cb, lm⟩)) ∧ (∀ b ∈ ob C, w.heap.size ≤ b) ∧ Frm [] w w' := by
 refine VC.calls (nt := 60) (res := #[.tmp 6]) Tryz.func40 rfl Tryz.ntmps40 Tryz.results40 rfl ?_
 refine jS (jR ?_)
 refine Ops.m (qJ.box rfl) rfl ?_
 rintro _ w1 ⟨rfl, hF1⟩
 have hb5 : Blk w1 w.heap.size 43 (BVc v n B0 lm.length cb).toArray := hF1.blk
 have K := hF1.frm
 generalize hg5 : w.heap.size = g5 at hb5 ⊢
 refine ja rfl (jO (jN (jv3 0 1 5 ?_)))
 refine jS (jR (jM ?_))
 refine Ops.cl (jE1 Tryz.call60) (kH q _ hq) rfl ?_
 rintro e w2 ⟨rfl, hf2⟩
 refine ⟨_, rfl, ?_⟩
 have hb5 := hb5.frm hf2 jp
 have K := K.trans hf2 jp
 generalize ht : qV q = t at *
 refine ja rfl (jO (jN (jv3 0 5 7 ?_)))
 refine jS (jR (ja rfl (jO (jN (jS (jS (jR (jz 0 (jO (jN (jB ?_)))))))))))
 refine VC.loop (σ := Nat × Option Addr × Nat × List Nc) (fun s => [(0, .slice A l.length c), (5, .pointer (some ⟨g5, 0, none⟩)), (7, encStr t), (8, .slice s.2.1 (s.2.2.2).length s.2.2.1), (9, .int .i64 ((s.1 : Nat) : Int))]) (fun s wr => s.1 ≤ l.length ∧ Blk wr g5 43 (BVc v n B0 lm.length cb).toArray ∧ Own wr 45 4 s.2.1 (s.2.2.2).length s.2.2.1 (NDC (s.2.2.2)) ∧ s.2.2.2 = (l.take s.1).filter (fun y => decide (y.nm < t)) ∧ (∀ b ∈ ob s.2.1, w.heap.size ≤ b) ∧ Frm [] w wr) (fun s => l.length - s.1) (0, none, 0, []) (js5 rfl rfl rfl rfl rfl) ⟨zam _, hb5, Own.nil _ _ _, rfl, by simp [ob], K⟩ ?_
 rintro ⟨i, B, d, o⟩ wr ⟨hi, hb5, ho, hol, hob, K⟩
 dsimp only at *
 have hll : o.length ≤ i := by rw [hol]; exact zay (zbs _ _) (zco _ _)
 refine jS (jS (jR (jm rfl (jm rfl (je (Run.lenS rfl ze) (jb rfl rfl (Bin.lssN _ _) (jO (jN (jv6 0 5 7 8 9 16 ?_)))))))))
 refine jD rfl (fun hc1 => ?_) fun hc1 => ?_
 ·
  obtain ⟨ad, had, hel⟩ := (hl.frm K).elem hc1
  have hts := @pZ l i (fun y => decide (y.nm < t)) hc1
  generalize hx : l[i] = x at *
  refine jQ (jN (jv5 0 5 7 8 9 ?_))
  refine jS (jB (jS (jR (jm rfl (jm rfl (je (Run.indexS i (show _ = some (Value.slice (some ad) l.length c) by rw [← had]; rfl) rfl ze zo hc1) (jf rfl zy rfl zp (jl rfl zab (hel 0 (encStr x.nm) rfl) (jm rfl (je (Run.lssT rfl rfl) (jO (jN (jv6 0 5 7 8 9 25 ?_)))))))))))))
  refine jD rfl (fun hc2 => ?_) fun hc2 => ?_
  ·
   have hc2 : x.nm < t := by first | exact hc2 | exact of_decide_eq_true hc2
   rw [if_pos (decide_eq_true hc2)] at hts
   refine jR (jm rfl (jm rfl (jm rfl (je (Run.indexS i (show _ = some (Value.slice (some ad) l.length c) by rw [← had]; rfl) rfl ze zo hc1) (je (Run.loadA rfl zdc zo hel (by first | rfl | (simp; done))) ?_)))))
   refine Ops.m (qJ.buildS1 rfl ze zo cN jd jd rfl rfl) rfl ?_
   rintro _ wa1 ⟨rfl, hFa⟩
   have hra : Rd wa1 4 (some ⟨wr.heap.size, 0, none⟩) 1 (NDC [x]) := mE (x := x) hFa
   have hfa := hFa.frm
   have hb5 := hb5.frm hfa jp
   have ho := ho.frm hfa jp
   have K := K.trans hfa jp
   have hKsa := K.size
   refine Ops.m (qJ.app rfl rfl ze (fM) rfl jd ho hra (eV _) jo jo) rfl ?_
   rintro _ wb1 ⟨B6, c6, rfl, ho6, hf6, hob6⟩
   rw [← cQ] at ho6
   have hb5 := hb5.frm hf6 (ho.ne_blk hb5 jd)
   have K := K.own hf6 hob
   have hob6 : ∀ b ∈ ob B6, w.heap.size ≤ b := fun b hb => by
    rcases hob6 with h | h
    · rw [h] at hb; exact hob b hb
    rw [h, za] at hb; omega
   refine ja rfl (jO ?_)
   refine qT (jN ?_)
   refine jv5 0 5 7 8 9 ?_
   refine jR (jm rfl (jb rfl rfl (Bin.add_i64 _ 1 jo) (ja rfl (jO ?_))))
   refine jN ⟨(i + 1, B6, c6, o ++ [x]), (js5 rfl rfl rfl (by rw [zm]; rfl) rfl), ?_, ?_⟩
   · exact ⟨hc1, hb5, by rw [zm]; exact ho6, by rw [hts, hol], hob6, K⟩
   first | omega | (dsimp only; omega)
  have hc2 : ¬ x.nm < t := by first | exact hc2 | exact of_decide_eq_false hc2
  rw [if_neg (by simpa using hc2), zbr] at hts
  refine jQ ?_
  refine qT (jN ?_)
  refine jv5 0 5 7 8 9 ?_
  refine jR (jm rfl (jb rfl rfl (Bin.add_i64 _ 1 jo) (ja rfl (jO ?_))))
  refine jN ⟨(i + 1, B, d, o), (js5 rfl rfl rfl rfl rfl), ?_, ?_⟩
  · exact ⟨hc1, hb5, ho, by rw [hts, hol], hob, K⟩
  first | omega | (dsimp only; omega)
 obtain rfl : i = l.length := jo
 rw [zak] at hol
 refine jX ?_
 refine qH (qH (qF ?_))
 refine jN (jv4 0 5 7 8 ?_)
 refine jS (jR (jm rfl (jm rfl (je (Run.loadA rfl zad zf (fun j v hj => hb5.cells j v hj) (by first | rfl | (simp; done))) (je (Run.build (evs.cons rfl (evs.cons rfl evs.nil)) cN (eG).choose_spec.1 (eG).choose_spec.2 rfl) ?_)))))
 refine Ops.m (qJ.buildS1 rfl ze zo cN jd jd rfl rfl) rfl ?_
 rintro _ wa2 ⟨rfl, hFa⟩
 have hra : Rd wa2 4 (some ⟨wr.heap.size, 0, none⟩) 1 (NDC [(⟨t, v, n, B0, cb, lm⟩ : Nc)]) := mE (x := (⟨t, v, n, B0, cb, lm⟩ : Nc)) hFa
 have hfa := hFa.frm
 have hb5 := hb5.frm hfa jp
 have ho := ho.frm hfa jp
 have K := K.trans hfa jp
 have hKsa := K.size
 refine Ops.m (qJ.app rfl rfl ze (fM) rfl jd ho hra (eV _) jo jo) rfl ?_
 rintro _ wb2 ⟨B6, c6, rfl, ho6, hf6, hob6⟩
 rw [← cQ] at ho6
 have hb5 := hb5.frm hf6 (ho.ne_blk hb5 jd)
 have K := K.own hf6 hob
 have hob6 : ∀ b ∈ ob B6, w.heap.size ≤ b := fun b hb => by
  rcases hob6 with h | h
  · rw [h] at hb; exact hob b hb
  rw [h, za] at hb; omega
 obtain ⟨lo, hlo⟩ : ∃ lo, lo = o ++ [(⟨t, v, n, B0, cb, lm⟩ : Nc)] := ⟨_, rfl⟩
 have hlol : o.length + 1 = lo.length := by rw [hlo, zm]; rfl
 rw [← hlo, hlol] at ho6
 rw [hlol]
 refine ja rfl (jO (jN (jv3 0 7 8 ?_)))
 refine jS (jS (jR (jz 0 (jO (jN (jB ?_))))))
 refine VC.loop (σ := Nat × Option Addr × Nat × List Nc) (fun s => [(0, .slice A l.length c), (7, encStr t), (8, .slice s.2.1 (s.2.2.2).length s.2.2.1), (10, .int .i64 ((s.1 : Nat) : Int))]) (fun s wr => s.1 ≤ l.length ∧ Blk wr g5 43 (BVc v n B0 lm.length cb).toArray ∧ Own wr 45 4 s.2.1 (s.2.2.2).length s.2.2.1 (NDC (s.2.2.2)) ∧ s.2.2.2 = lo ++ (l.take s.1).filter (fun y => decide (t < y.nm)) ∧ (∀ b ∈ ob s.2.1, w.heap.size ≤ b) ∧ Frm [] w wr) (fun s => l.length - s.1) (0, B6, c6, lo) (js4 rfl rfl rfl rfl) ⟨zam _, hb5, ho6, jp, hob6, K⟩ ?_
 rintro ⟨i, B, d, o'⟩ wr ⟨hi, hb5, ho, hol', hob, K⟩
 dsimp only at *
 have hl2 : o'.length ≤ lo.length + i := by rw [hol', zm]; have := zay (zbs (fun y : Nc => decide (t < y.nm)) (l.take i)) (zco _ _); omega
 refine jS (jS (jR (jm rfl (jm rfl (je (Run.lenS rfl ze) (jb rfl rfl (Bin.lssN _ _) (jO (jN (jv5 0 7 8 10 42 ?_)))))))))
 refine jD rfl (fun hc3 => ?_) fun hc3 => ?_
 ·
  obtain ⟨ad, had, hel⟩ := (hl.frm K).elem hc3
  have hts := @pZ l i (fun y => decide (t < y.nm)) hc3
  generalize hx : l[i] = x at *
  refine jQ (jN (jv4 0 7 8 10 ?_))
  refine jS (jB (jS (jR (jm rfl (jm rfl (je (Run.indexS i (show _ = some (Value.slice (some ad) l.length c) by rw [← had]; rfl) rfl ze zo hc3) (jf rfl zy rfl zp (jl rfl zab (hel 0 (encStr x.nm) rfl) (jm rfl (je (Run.gtrT rfl rfl) (jO (jN (jv5 0 7 8 10 51 ?_)))))))))))))
  refine jD rfl (fun hc4 => ?_) fun hc4 => ?_
  ·
   have hc4 : t < x.nm := by first | exact hc4 | exact of_decide_eq_true hc4
   rw [if_pos (decide_eq_true hc4)] at hts
   refine jR (jm rfl (jm rfl (jm rfl (je (Run.indexS i (show _ = some (Value.slice (some ad) l.length c) by rw [← had]; rfl) rfl ze zo hc3) (je (Run.loadA rfl zdc zo hel (by first | rfl | (simp; done))) ?_)))))
   refine Ops.m (qJ.buildS1 rfl ze zo cN jd jd rfl rfl) rfl ?_
   rintro _ wa3 ⟨rfl, hFa⟩
   have hra : Rd wa3 4 (some ⟨wr.heap.size, 0, none⟩) 1 (NDC [x]) := mE (x := x) hFa
   have hfa := hFa.frm
   have hb5 := hb5.frm hfa jp
   have ho := ho.frm hfa jp
   have K := K.trans hfa jp
   have hKsa := K.size
   refine Ops.m (qJ.app rfl rfl ze (fM) rfl jd ho hra (eV _) jo jo) rfl ?_
   rintro _ wb3 ⟨B6, c6, rfl, ho6, hf6, hob6⟩
   rw [← cQ] at ho6
   have hb5 := hb5.frm hf6 (ho.ne_blk hb5 jd)
   have K := K.own hf6 hob
   have hob6 : ∀ b ∈ ob B6, w.heap.size ≤ b := fun b hb => by
    rcases hob6 with h | h
    · rw [h] at hb; exact hob b hb
    rw [h, za] at hb; omega
   refine ja rfl (jO ?_)
   refine qT (jN ?_)
   refine jv4 0 7 8 10 ?_
   refine jR (jm rfl (jb rfl rfl (Bin.add_i64 _ 1 jo) (ja rfl (jO ?_))))
   refine jN ⟨(i + 1, B6, c6, o' ++ [x]), (js4 rfl rfl (by rw [zm]; rfl) rfl), ?_, ?_⟩
   · exact ⟨hc3, hb5, by rw [zm]; exact ho6, by rw [hts, hol', zcn], hob6, K⟩
   first | omega | (dsimp only; omega)
  have hc4 : ¬ t < x.nm := by first | exact hc4 | exact of_decide_eq_false hc4
  rw [if_neg (by simpa using hc4), zbr] at hts
  refine jQ ?_
  refine qT (jN ?_)
  refine jv4 0 7 8 10 ?_
  refine jR (jm rfl (jb rfl rfl (Bin.add_i64 _ 1 jo) (ja rfl (jO ?_))))
  refine jN ⟨(i + 1, B, d, o'), (js4 rfl rfl rfl rfl), ?_, ?_⟩
  · exact ⟨hc3, hb5, ho, by rw [hts, hol'], hob, K⟩
  first | omega | (dsimp only; omega)
 refine jX ?_
 refine qH (qH (qF ?_))
 refine jN (jv1 8 ?_)
 refine jS (jR (jm rfl (ja rfl (jO (jN (jv1 6 ?_))))))
 refine jT ?_
 refine qC rfl ?_
 obtain rfl : i = l.length := jo
 rw [zak] at hol'
 have e : dS l ⟨t, v, n, B0, cb, lm⟩ = o' := by
  rw [hol', hlo, hol, zcn]
  rfl
 rw [e]
 exact ⟨B, d, rfl, ho, hg5 ▸ hob, K⟩
end
section
open Go.RowKit Go.Sort
def cS (m : MailP) (s : Tx) (x : MsgP) : Except Nat (MailP × Int) :=
 if ¬ bW m then .error 1 else if ¬ isN s then .error 18 else
 match eO m.l (qV s) with
 | none => .error 6
 | some b => if m.blob = 2147483647 then .error 19 else match bG b { x with blob := m.blob.toNat + 1 } with
  | .error e => .error e
  | .ok b' => .ok ({ m with blob := m.blob + 1, l := bU m.l (qV s) b' }, b.next)
def eH (w' : World) (F : Except Nat (MailP × Int)) (m : MlC) (u : Int) (k : Nat) : Prop := RdL w' m ∧ ((k = 0 ∧ F = .ok (m.p, u)) ∨ (k ≠ 0 ∧ F = .error k ∧ m = qP ∧ u = 0))
theorem eH.err {w' : World} {F : Except Nat (MailP × Int)} {k : Nat} (hk : k ≠ 0) (h : F = .error k) : eH w' F qP 0 k := ⟨RdL.zero _, .inr ⟨hk, h, rfl, rfl⟩⟩
def Kt (w w' : World) (m m' : MlC) : Prop := ∀ w'' T, Frm T w' w'' → (∀ y ∈ T, y < w.heap.size ∧ ∃ cs, Blk w' y 25 cs) → RdL w'' m → RdL w'' m'
theorem Kt.zero (w w' : World) (m : MlC) : Kt w w' m qP := fun _ _ _ _ _ => RdL.zero _
theorem OwM.typed {w w' : World} {A : Option Addr} {d : Nat} {l : List Mc} {T : List Nat} (h : OwM w A d l) (k : Frm T w w') (hT : ∀ y ∈ T, ∃ cs, Blk w y 25 cs) : OwM w' A d l :=
 ⟨h.own.frm k (fun y hy hy2 => by obtain ⟨cs, hb⟩ := hT y hy2; exact h.own.ne_blk hb jd hy), fun x hx => (h.fl x hx).frm k (fun y hy hy2 => by obtain ⟨cs, hb⟩ := hT y hy2; exact (h.fl x hx).ne_blk hb jd hy), h.fit⟩
theorem qZj {w w' : World} {m : MlC} {i : Nat} (hi : i < m.l.length) {v n b : Int} {B A : Option Addr} {d c : Nat} {lm : List Mc} (hO : OwM w' B d lm) (hn : lm.length ≤ 900000) (ho : Own w' 45 4 A m.l.length c (NDC (m.l.set i ⟨(m.l[i]).nm, v, n, B, d, lm⟩))) (hf : ∀ y ∈ ob A, w.heap.size ≤ y) :
  Kt w w' m { m with A := A, c := c, l := m.l.set i ⟨(m.l[i]).nm, v, n, B, d, lm⟩, b := b } := by
 intro w'' T k hT hm
 have ho := ho.frm k (fun y hy hy2 => by have := (hT y hy2).1; have := hf y hy; omega)
 have hO := hO.typed k (fun y hy => (hT y hy).2)
 have hq := (hm.l.el _ (zr hi)).q
 have hlen : (m.l.set i ⟨(m.l[i]).nm, v, n, B, d, lm⟩).length = m.l.length := zcf ..
 exact ⟨⟨by dsimp only; rw [hlen]; exact ho.rd, sH hm.l.el ⟨hO.rdm, hn, hq⟩⟩, hm.s, by dsimp only; rw [hlen]; exact ho.le, hm.sc, by dsimp only; rw [hlen]; exact hm.ln, hm.sn, hm.sq⟩
theorem rH {b b' : BoxV} {m : MsgP} (h : bG b m = .ok b') : b'.l.length ≤ 128 := by
 unfold bG at h
 split at h
 · cases h
 split at h
 · cases h
 split at h
 · cases h
 injection h with h
 subst h
 simp
 omega
theorem dH.len27 {w : World} {b : BoxV} {x : MsgP} {v n : Int} {B : Option Addr} {d : Nat} {l : List Mc} {k : Nat} (h : dH w (bG b x) v n B d l k) : l.length ≤ 128 := by
 obtain ⟨_, ⟨_, h2⟩ | ⟨_, _, _, _, _, _, rfl⟩⟩ := h
 ·
  have := rH h2
  simpa [Ms] using this
 simp
theorem pJ {m : MlC} {t : Tx} {i : Nat} (hr : bN m.p.l) (h : eS m.p.l t i) (ht : t ∈ qL m.p) : ∃ hi : i < m.l.length, (m.l[i]).nm = t := by
 obtain ⟨hi, he⟩ := (kQ hr h).2 ht
 have hi' : i < m.l.length := by have := dZ m; omega
 refine ⟨hi', ?_⟩
 rw [dM m hi' hi] at he
 exact he
theorem fY {m : MlC} {t : Tx} {i : Nat} (hr : bN m.p.l) (hi : i < m.l.length) (he : (m.l[i]).nm = t) : eO m.p.l t = some (m.l[i]).p.2 := by
 have hi2 : i < m.p.l.length := by rw [dZ]; exact hi
 have := sZ (t := t) hr hi2 (by rw [dM m hi hi2]; exact he)
 rw [this, dM m hi hi2]
theorem oZ {m : MlC} {t : Tx} {i : Nat} {v n : Int} {B : Option Addr} {d : Nat} {lm : List Mc} (hr : bN m.p.l) (h : eS m.p.l t i) (hi : i < m.l.length) (he : (m.l[i]).nm = t) : Ns (m.l.set i ⟨(m.l[i]).nm, v, n, B, d, lm⟩) = bU m.p.l t ⟨v, n, Ms lm⟩ := by
 have hi2 : i < m.p.l.length := by rw [dZ]; exact hi
 rw [zS hr h hi2 (by rw [dM m hi hi2]; exact he)]
 show List.map Nc.p (m.l.set i _) = (List.map Nc.p m.l).set i _
 rw [List.map_set, he]
 rfl
set_option maxHeartbeats 1000000 in
theorem sF (m : MlC) (q : Tx) (x : Mc) (w : World) (hm : RdL w m) (hs : q.length ≤ 900000) (hx : x.At w) (hv : cY w) :
  Calls Tryz.prog 35 #[m.val, encStr q, .agg x.cells.toArray] w fun e w' => ∃ (m' : MlC) (u : Int) (k : Nat), e = .returned (.tuple #[m'.val, .int .i64 u, .int .i64 ((k : Nat) : Int)]) ∧ eH w' (cS m.p q x.m) m' u k ∧ Kt w w' m m' ∧ Frm [] w w' := by
 have hln := hm.ln
 have hpl := dZ m
 refine VC.calls (nt := 68) (res := #[.cell 6 25, .tmp 7, .tmp 8]) Tryz.func35 rfl Tryz.ntmps35 Tryz.results35 rfl ?_
 refine jS (jR ?_)
 refine Ops.m (qJ.box rfl) rfl ?_
 rintro _ w1 ⟨rfl, hF_w1⟩
 have hb1 : Blk w1 w.heap.size 25 #[.slice m.A m.l.length m.c, .slice m.S m.ss.length m.d, .int .i64 m.v, .int .i64 m.b] := hF_w1.blk
 have K := hF_w1.frm
 generalize hg1 : w.heap.size = g1 at hb1 ⊢
 refine Ops.m (qJ.box rfl) rfl ?_
 rintro _ w2 ⟨rfl, hF2⟩
 have hb5 : Blk w2 w1.heap.size 60 x.cells.toArray := hF2.blk
 have hb1 := hb1.frm hF2.frm jp
 have hlt := hb1.lt
 have K := K.trans hF2.frm jp
 have hg5 : w.heap.size ≤ w1.heap.size := hF_w1.size ▸ Nat.le_succ _
 have h15 : g1 ≠ w1.heap.size := by have := hF_w1.size; omega
 generalize hg5' : w1.heap.size = g5 at hb5 hg5 h15 ⊢
 refine Ops.m (qJ.alloc qI) rfl ?_
 rintro _ w3 ⟨rfl, hF3⟩
 have hb4 := hF3.blk
 have hg4 : w.heap.size ≤ w2.heap.size := K.size
 have hb1 := hb1.frm hF3.frm jp
 have hb5 := hb5.frm hF3.frm jp
 have hl1 := hb1.lt
 have hl5 := hb5.lt
 have hl4 := hb4.lt
 have K := K.trans hF3.frm jp
 have hne14 : g1 ≠ w2.heap.size := fun e => by have := hF2.size; have := hF_w1.size; omega
 have hne54 : g5 ≠ w2.heap.size := fun e => by have := hF2.size; omega
 have hg1s : w.heap.size ≤ g1 := jo
 generalize hg4' : w2.heap.size = g4 at hb4 hg4 hne14 hne54 hl4 ⊢
 refine jz 0 (jz 0 (jO (jN (jv4 1 3 5 6 ?_))))
 refine jS (jS (jR (je (Run.loadA rfl zg zb hb1.cells (by first | rfl | (simp; done))) ?_)))
 refine Ops.cl (jE1 zdq) (dR m _ (hm.frm K) (hv.frm K)) rfl ?_
 rintro e w4 ⟨rfl, hf4⟩
 refine ⟨_, rfl, ?_⟩
 have hb1 := hb1.frm hf4 jp
 have hb4 := hb4.frm hf4 jp
 have hKs_hf4 := K.size
 have K := K.trans hf4 jp
 have hb5 := hb5.frm hf4 jp
 refine je (Run.not rfl) (jO (jN (jv5 1 3 5 6 16 ?_)))
 refine VC.condB rfl (fun hc1 => ?_) (fun hc1 => ?_)
 ·
  have hc1 : ¬ bW m.p := by simpa using hc1
  refine jS (jR (je (Run.build evs.nil qI (qR).choose_spec.1 (qR).choose_spec.2 rfl) ?_))
  refine Ops.st (qW.storeA rfl rfl zb hb4 rfl (MlC.cells_one qP)) ?_
  rintro wz ⟨hb4, (hfwz : Frm [g4] _ _), hswz⟩
  have hb4 : Blk wz g4 25 qP.cells.toArray := hb4
  have K := K.own hfwz (fun y hy => by rw [za] at hy; omega)
  refine jz 0 (jz 1 (jO (jN (jv3 6 7 8 ?_))))
  refine jT ?_
  refine qQ (bZ ?_)
  refine qS rfl zg zb (fun j v hj => hb4.cells j v hj) (by first | rfl | (simp; done)) ?_
  refine qK rfl ?_
  refine qK rfl ?_
  refine qB ?_
  exact ⟨qP, 0, 1, rfl, eH.err jd (by unfold cS; rw [if_pos hc1]), Kt.zero _ _ _, K⟩
 have hc1 : bW m.p := by simpa using hc1
 obtain ⟨hm24, hv1, hv2, hb0, hb2, hr, hin⟩ := cA hc1
 refine jQ (jN (jv4 1 3 5 6 ?_))
 refine jS (jR (je (Run.loadA rfl zg zb hb1.cells (by first | rfl | (simp; done))) (jM ?_)))
 refine Ops.cl (jE2 zcy) (cV m q _ (hm.frm K).l hln jo hr (hv.frm K)) rfl ?_
 rintro e w5 ⟨i, rfl, hpos, hf5⟩
 refine ⟨_, rfl, ?_⟩
 have hb1 := hb1.frm hf5 jp
 have hb4 := hb4.frm hf5 jp
 have hKs_hf5 := K.size
 have K := K.trans hf5 jp
 have hb5 := hb5.frm hf5 jp
 refine jm rfl (je (Run.extract rfl rfl) (je (Run.extract rfl rfl) (ja rfl (ja rfl (jO (jN (jv6 1 3 5 6 9 10 ?_)))))))
 refine jS (jB (jS (jR (jM ?_))))
 refine Ops.cl (jE1 zbw) (bI q _ jo (hv.frm K)) rfl ?_
 rintro e _ ⟨rfl, rfl⟩
 refine ⟨_, rfl, ?_⟩
 refine je (Run.not rfl) (ja rfl (jO (jN (jv6 3 5 6 9 10 24 ?_))))
 refine VC.condB rfl (fun hc2 => ?_) (fun hc2 => ?_)
 ·
  have hc2 : ¬ isN q := by simpa using hc2
  refine jS (jR (je (Run.build evs.nil qI (qR).choose_spec.1 (qR).choose_spec.2 rfl) ?_))
  refine Ops.st (qW.storeA rfl rfl zb hb4 rfl (MlC.cells_one qP)) ?_
  rintro wz ⟨hb4, (hfwz : Frm [g4] _ _), hswz⟩
  have hb4 : Blk wz g4 25 qP.cells.toArray := hb4
  have K := K.own hfwz (fun y hy => by rw [za] at hy; omega)
  refine jz 0 (jz 18 (jO (jN (jv3 6 7 8 ?_))))
  refine jT ?_
  refine qN (qQ (bZ ?_))
  refine qS rfl zg zb (fun j v hj => hb4.cells j v hj) (by first | rfl | (simp; done)) ?_
  refine qK rfl ?_
  refine qK rfl ?_
  refine qB ?_
  exact ⟨qP, 0, 18, rfl, eH.err jd (by unfold cS; rw [if_neg (fun h => h hc1), if_pos hc2]), Kt.zero _ _ _, K⟩
 have hc2 : isN q := by simpa using hc2
 refine jS (jR (jm rfl (je (Run.not rfl) (ja rfl (jO (jN (jv5 3 5 6 9 29 ?_)))))))
 refine VC.condB rfl (fun hc3 => ?_) (fun hc3 => ?_)
 ·
  have hc3 : qV q ∉ qL m.p := by simpa using hc3
  refine jS (jR (je (Run.build evs.nil qI (qR).choose_spec.1 (qR).choose_spec.2 rfl) ?_))
  refine Ops.st (qW.storeA rfl rfl zb hb4 rfl (MlC.cells_one qP)) ?_
  rintro wz ⟨hb4, (hfwz : Frm [g4] _ _), hswz⟩
  have hb4 : Blk wz g4 25 qP.cells.toArray := hb4
  have K := K.own hfwz (fun y hy => by rw [za] at hy; omega)
  refine jz 0 (jz 6 (jO (jN (jv3 6 7 8 ?_))))
  refine jT ?_
  refine qN (qQ (bZ ?_))
  refine qS rfl zg zb (fun j v hj => hb4.cells j v hj) (by first | rfl | (simp; done)) ?_
  refine qK rfl ?_
  refine qK rfl ?_
  refine qB ?_
  exact ⟨qP, 0, 6, rfl, eH.err jd (by unfold cS; rw [if_neg (fun h => h hc1), if_neg (fun h => h hc2), fN hc3]), Kt.zero _ _ _, K⟩
 have hc3 : qV q ∈ qL m.p := by simpa using hc3
 obtain ⟨hi, hie⟩ := pJ hr hpos hc3
 have hbx := fY hr hi hie
 obtain ⟨nb, hnb⟩ : ∃ nb : Nat, m.b = (nb : Int) := ⟨m.b.toNat, jo⟩
 have hcb : ∀ W, Blk W g1 25 #[.slice m.A m.l.length m.c, .slice m.S m.ss.length m.d, .int .i64 m.v, .int .i64 m.b] → W.cell? ⟨g1, 3, none⟩ = some (.int .i64 ((nb : Nat) : Int)) := fun W h => by rw [← hnb]; exact h.cell 3
 have hF : cS m.p q x.m = if m.b = 2147483647 then .error 19 else match bG (m.l[i]).p.2 { x.m with blob := nb + 1 } with
   | .error e => .error e
   | .ok b' => .ok ({ m.p with blob := m.b + 1, l := bU m.p.l (qV q) b' }, (m.l[i]).n) := by
  unfold cS
  rw [if_neg (fun h => h hc1), if_neg (fun h => h hc2), hbx]
  dsimp only
  rw [show m.p.blob = m.b from rfl, show m.b.toNat = nb by omega]
  rfl
 have hyl := ((hm.frm K).l.el _ (zr hi)).n
 generalize hy : m.l[i] = y at *
 refine jS (jR (jf rfl zd rfl zi (jl rfl zn (hb1.cell 3) (jb rfl rfl (Bin.eql _ 2147483647) (ja rfl (jO (jN (jv5 3 5 6 9 33 ?_))))))))
 refine jD rfl (fun hc4 => ?_) fun hc4 => ?_
 ·
  refine jS (jR (je (Run.build evs.nil qI (qR).choose_spec.1 (qR).choose_spec.2 rfl) ?_))
  refine Ops.st (qW.storeA rfl rfl zb hb4 rfl (MlC.cells_one qP)) ?_
  rintro wz ⟨hb4, (hfwz : Frm [g4] _ _), hswz⟩
  have hb4 : Blk wz g4 25 qP.cells.toArray := hb4
  have K := K.own hfwz (fun y hy => by rw [za] at hy; omega)
  refine jz 0 (jz 19 (jO (jN (jv3 6 7 8 ?_))))
  refine jT ?_
  refine qN (qQ (bZ ?_))
  refine qS rfl zg zb (fun j v hj => hb4.cells j v hj) (by first | rfl | (simp; done)) ?_
  refine qK rfl ?_
  refine qK rfl ?_
  refine qB ?_
  exact ⟨qP, 0, 19, rfl, eH.err jd (by rw [hF, if_pos hc4]), Kt.zero _ _ _, K⟩
 have hnb2 : nb < 2147483647 := jo
 refine jQ ?_
 refine qT (jN ?_)
 refine jv4 3 5 6 9 ?_
 refine jS (jR (jf rfl zd rfl zi (jl rfl zn (hcb _ hb1) (je (Run.convN _ rfl zan zdl (by simp only [bmax]; omega)) (jb rfl rfl (Bin.add_u64 _ 1 jo) (jf rfl zac rfl zct ?_))))))
 refine Ops.st (qW.store rfl rfl zct hb5 rfl rfl) ?_
 rintro w6 ⟨hbn, (hf6 : Frm [g5] _ _), hs6⟩
 have hb5 : Blk w6 g5 60 (⟨{ x.m with blob := nb + 1 }, x.A, x.c⟩ : Mc).cells.toArray := hbn
 have hb1 := hb1.frm hf6 (by simp; omega)
 have hb4 := hb4.frm hf6 (by simp; omega)
 have K := K.own hf6 (fun y hy => by rw [za] at hy; omega)
 have hxA : (⟨{ x.m with blob := nb + 1 }, x.A, x.c⟩ : Mc).At w6 := ⟨(hx.frm K jp).rd, hx.n, hx.q⟩
 obtain ⟨ad, had, hel⟩ : ∃ ad, m.A = some ad ∧ ∀ W, Frm [] w6 W → ∀ j v, y.cells[j]? = some v → W.cell? ((ad.add (i * 4)).add j) = some v := by
  obtain ⟨ad, hA, _⟩ := (hm.frm K).l.elem hi
  refine ⟨ad, hA, fun W hW => ?_⟩
  obtain ⟨ad', hA', h⟩ := (hm.frm (K.trans hW jp)).l.elem hi
  rw [hA] at hA'
  cases hA'
  rw [hy] at h
  exact h
 have hya : y.At w6 := by rw [← hy]; exact (hm.frm K).l.el _ (zr hi)
 refine jO (jN (jv4 3 5 6 9 ?_))
 refine jS ?_
 refine VC.held (fun W => Frm [] w6 W) jK ?_
 have hS : Frm [] w6 w6.drew := (Frm.refl _ _).drew
 refine jH 0 rfl hS (fun w0 hw0 => Run.fieldAddr rfl zd rfl zx jd) ?_
 refine jH 1 rfl hS (fun w0 hw0 => Run.load rfl zah ((hb1.frm hw0 jp).cell 0)) ?_
 refine jH 2 rfl hS (fun w0 hw0 => Run.mv rfl) ?_
 refine jH 3 rfl hS (fun w0 hw0 => Run.indexS i (show _ = some (Value.slice (some ad) m.l.length m.c) by rw [← had]; rfl) rfl ze zo hi) ?_
 refine jH 4 rfl hS (fun w0 hw0 => Run.fieldAddr rfl zy rfl zf jd) ?_
 refine jH 5 rfl hS (fun w0 hw0 => Run.loadA rfl zad zf (cs := BVc y.v y.n y.A y.l.length y.c) (fun j v hj => by rw [Go.Proofs.YtgmbmfpfhcekiaaGreat.add_add]; exact hel _ hw0 (1 + j) v (by rw [zdb]; exact hj)) (by first | rfl | (simp; done))) ?_
 refine jH 6 rfl hS (fun w0 hw0 => Run.loadA rfl zaz zt (fun j v hj => (hb5.frm hw0 jp).cells j v hj) (by first | rfl | (simp; done))) ?_
 refine qZ.par (target := #[true, true, true, true, true, true, true, true, true, true, true, true, true, false, false, false]) [⟨7, 51, [], false, fun _ u lo hi W => ∃ v' n' B d l' k', u = .tuple #[.agg #[.int .i64 v', .int .i64 n', .slice B l'.length d], .int .i64 (if k' = 0 then y.n else 0), .int .i64 ((k' : Nat) : Int)] ∧ dH W (bG y.p.2 { x.m with blob := nb + 1 }) v' n' B d l' k' ∧ OwM W B d l'⟩, PT.mv 8 43 51 [], PT.part 9 52 43 0 [51], PT.part 10 53 43 1 [51], PT.part 11 54 43 2 [51], PT.made 12 11 43 #[.int .i64 0, .int .i64 0, .slice none 0 0]] 6 rfl jK (show List.Nodup ([51, 43, 52, 53, 54, 11] : List Nat) by decide) (show List.Nodup ([7, 8, 9, 10, 11, 12] : List Nat) by decide) (fun t ht => ?_) (fun t ht => ?_) (fun W hW => ?_) (fun t ht => ?_) (fun t ht => ?_) (fun t ht W g hW hD hE => ?_) (fun g W hW hA => ?_)
 ·
  simp only [zv, zu, or_false] at ht
  rcases ht with rfl | rfl | rfl | rfl | rfl | rfl
  · rfl
  · rfl
  · rfl
  · rfl
  · rfl
  rfl
 ·
  simp only [zv, zu, or_false] at ht
  rcases ht with rfl | rfl | rfl | rfl | rfl | rfl
  · exact fun x hx => absurd hx jp
  ·
   intro x hx
   simp only [zv, zu, or_false] at hx
   rcases hx with rfl
   exact ⟨_, (.head _), rfl⟩
  ·
   intro x hx
   simp only [zv, zu, or_false] at hx
   rcases hx with rfl | rfl
   · exact ⟨_, (.tail _ (.head _)), rfl⟩
   exact ⟨_, (.head _), rfl⟩
  ·
   intro x hx
   simp only [zv, zu, or_false] at hx
   rcases hx with rfl | rfl
   · exact ⟨_, (.tail _ (.head _)), rfl⟩
   exact ⟨_, (.head _), rfl⟩
  ·
   intro x hx
   simp only [zv, zu, or_false] at hx
   rcases hx with rfl | rfl
   · exact ⟨_, (.tail _ (.head _)), rfl⟩
   exact ⟨_, (.head _), rfl⟩
  exact fun x hx => absurd hx jp
 · exact hS.trans hW jp
 ·
  simp only [zv, zu, or_false] at ht
  rcases ht with rfl | rfl | rfl | rfl | rfl | rfl
  · exact fun _ v lo hi W W' hf ⟨v', n', B, d, l', k', h1, h2, h3⟩ => ⟨v', n', B, d, l', k', h1, ⟨h2.1.frm hf, h2.2⟩, h3.frm hf⟩
  · exact fun _ _ _ _ _ _ _ h => h
  · exact fun _ _ _ _ _ _ _ h => h
  · exact fun _ _ _ _ _ _ _ h => h
  · exact fun _ _ _ _ _ _ _ h => h
  exact PT.made_st
 ·
  simp only [zv, zu, or_false] at ht
  rcases ht with rfl | rfl | rfl | rfl | rfl | rfl
  · exact fun _ _ _ _ _ _ _ h => h
  · exact fun ρ ρ' v lo hi W h e => e.trans (h _ (.head _))
  · exact fun ρ ρ' v lo hi W h ⟨xs, h1, h2⟩ => ⟨xs, (h _ (.head _)).symm.trans h1, h2⟩
  · exact fun ρ ρ' v lo hi W h ⟨xs, h1, h2⟩ => ⟨xs, (h _ (.head _)).symm.trans h1, h2⟩
  · exact fun ρ ρ' v lo hi W h ⟨xs, h1, h2⟩ => ⟨xs, (h _ (.head _)).symm.trans h1, h2⟩
  exact fun _ _ _ _ _ _ _ h => h
 ·
  simp only [zv, zu, or_false] at ht
  rcases ht with rfl | rfl | rfl | rfl | rfl | rfl
  ·
   refine bB.cl rfl rfl rfl rfl rfl (jE2 Tryz.call85) (nK y.v y.n y.A y.c y.l (⟨{ x.m with blob := nb + 1 }, x.A, x.c⟩ : Mc) W (hya.rd.frm (hS.trans hW jp)) hyl (hxA.frm (hS.trans hW jp) jp)) ?_
   rintro e W' ⟨hf, v', n', B, d, l', k', rfl, h2, h3⟩
   exact ⟨_, rfl, hf, v', n', B, d, l', k', rfl, h2, h3⟩
  · exact bB.r rfl rfl rfl rfl (fun _ => Run.mv rfl) rfl
  ·
   have h1 := hD _ (.tail _ (.head _)) jp
   have h2 := hD _ (.head _) jp
   obtain ⟨v', n', B, d, l', k', h2e, _⟩ := h2
   exact bB.r rfl rfl rfl rfl (fun _ => Run.extract (congrArg some (h1.trans h2e)) rfl) ⟨_, h1.trans h2e, rfl⟩
  ·
   have h1 := hD _ (.tail _ (.head _)) jp
   have h2 := hD _ (.head _) jp
   obtain ⟨v', n', B, d, l', k', h2e, _⟩ := h2
   exact bB.r rfl rfl rfl rfl (fun _ => Run.extract (congrArg some (h1.trans h2e)) rfl) ⟨_, h1.trans h2e, rfl⟩
  ·
   have h1 := hD _ (.tail _ (.head _)) jp
   have h2 := hD _ (.head _) jp
   obtain ⟨v', n', B, d, l', k', h2e, _⟩ := h2
   exact bB.r rfl rfl rfl rfl (fun _ => Run.extract (congrArg some (h1.trans h2e)) rfl) ⟨_, h1.trans h2e, rfl⟩
  exact PT.made_ok rfl rfl bH
 have hA51 := hA.1 _ (.head _)
 have hA43 := hA.1 _ (.tail _ (.head _))
 have hA52 := hA.1 _ (.tail _ (.tail _ (.head _)))
 have hA53 := hA.1 _ (.tail _ (.tail _ (.tail _ (.head _))))
 have hA54 := hA.1 _ (.tail _ (.tail _ (.tail _ (.tail _ (.head _)))))
 have hA11 := hA.1 _ (.tail _ (.tail _ (.tail _ (.tail _ (.tail _ (.head _))))))
 have hA51_11 := hA.2 _ (.head _) _ (.tail _ (.tail _ (.tail _ (.tail _ (.tail _ (.head _)))))) (show (51 : Nat) ≠ 11 by decide)
 clear hA
 simp only [zal, zbo, zci, zav]
 dsimp only at hA51 hA43 hA52 hA53 hA54 hA11 hA51_11
 generalize g 51 = q51 at *
 obtain ⟨u51, lo51, hi51⟩ := q51
 generalize g 43 = q43 at *
 obtain ⟨u43, lo43, hi43⟩ := q43
 generalize g 52 = q52 at *
 obtain ⟨u52, lo52, hi52⟩ := q52
 generalize g 53 = q53 at *
 obtain ⟨u53, lo53, hi53⟩ := q53
 generalize g 54 = q54 at *
 obtain ⟨u54, lo54, hi54⟩ := q54
 generalize g 11 = q11 at *
 obtain ⟨u11, lo11, hi11⟩ := q11
 dsimp only at hA51 hA43 hA52 hA53 hA54 hA11 hA51_11 ⊢
 obtain ⟨⟨⟨rfl, hlt11⟩, hb11⟩, hA11⟩ := hA11
 obtain ⟨v', n', B, d, l', k', rfl, hI, hO⟩ := hA51.1
 have hS := hS.trans hW jp
 change w6.heap.size ≤ _ ∧ _ at hA11
 clear hA51
 obtain rfl := hA43.1
 obtain ⟨xs52, e1_52, e2_52⟩ := hA52.1
 injection e1_52 with e1_52
 subst e1_52
 have e2_52 := Option.some.inj e2_52
 subst e2_52
 obtain ⟨xs53, e1_53, e2_53⟩ := hA53.1
 injection e1_53 with e1_53
 subst e1_53
 have e2_53 := Option.some.inj e2_53
 subst e2_53
 obtain ⟨xs54, e1_54, e2_54⟩ := hA54.1
 injection e1_54 with e1_54
 subst e1_54
 have e2_54 := Option.some.inj e2_54
 subst e2_54
 have hbo := hb11
 refine qZ.st 13 rfl jK (qW.storeA rfl rfl zf hb11 rfl (bK v' n' B l'.length d)) trivial rfl ?_
 rintro w8 ⟨hbn, (hf_w8 : Frm [lo11] _ _), hs_w8⟩
 have hb11 : Blk w8 lo11 43 (BVc v' n' B l'.length d).toArray := hbn
 have hO := hO.blk hf_w8 hbo jd jd
 have hS := hS.own hf_w8 (fun y hy => by rw [za] at hy; omega)
 refine ⟨hS, ?_⟩
 have hb1 := hb1.frm hS jp
 have hb4 := hb4.frm hS jp
 have hK6 := K.size
 have hg1l := hl1
 have K := K.trans hS jp
 refine jH 14 rfl hS (fun w0 hw0 => Run.asg rfl) ?_
 refine jH 15 rfl hS (fun w0 hw0 => Run.asg rfl) ?_
 refine qZ.done jK ?_
 refine jN (jv6 3 6 9 11 12 13 ?_)
 refine jS (jS (jR (jm rfl (jb rfl rfl (Bin.neqN _ 0) (jO (jN (jv7 3 6 9 11 12 13 56 ?_)))))))
 refine jD rfl (fun hc5 => ?_) fun hc5 => ?_
 ·
  have hc5 : k' ≠ 0 := by simpa using hc5
  have hFe : cS m.p q x.m = .error k' := by
   rw [hF, if_neg hc4]
   obtain ⟨_, ⟨h, _⟩ | ⟨_, h, _⟩⟩ := hI
   · exact absurd h hc5
   rw [h]
  refine jS (jR (je (Run.build evs.nil qI (qR).choose_spec.1 (qR).choose_spec.2 rfl) (jM ?_)))
  refine Ops.st (qW.storeA rfl rfl zb hb4 rfl (MlC.cells_one qP)) ?_
  rintro wz ⟨hb4, (hfwz : Frm [g4] _ _), hswz⟩
  have hb4 : Blk wz g4 25 qP.cells.toArray := hb4
  have K := K.own hfwz (fun y hy => by rw [za] at hy; omega)
  refine jz 0 (ja rfl (jO (jN (jv3 6 7 8 ?_))))
  refine jT ?_
  refine qQ (bZ ?_)
  refine qS rfl zg zb (fun j v hj => hb4.cells j v hj) (by first | rfl | (simp; done)) ?_
  refine qK rfl ?_
  refine qK rfl ?_
  refine qB ?_
  exact ⟨qP, 0, k', rfl, eH.err hc5 hFe, Kt.zero _ _ _, K⟩
 obtain rfl : k' = 0 := by simpa using hc5
 have hlb := hI.len27
 have hFo : cS m.p q x.m = .ok ({ m.p with blob := m.b + 1, l := bU m.p.l (qV q) ⟨v', n', Ms l'⟩ }, y.n) := by
  rw [hF, if_neg hc4]
  obtain ⟨_, ⟨_, h⟩ | ⟨h, _⟩⟩ := hI
  · rw [h]
  exact absurd rfl h
 have hb1o := hb1
 refine jQ (jN (jv5 3 6 9 11 12 ?_))
 refine jS (jR (jf rfl zd rfl zi (jl rfl zn (hcb _ hb1) (jb rfl rfl (Bin.add_i64 _ 1 jo) (jf rfl zd rfl zi ?_)))))
 refine Ops.st (qW.store rfl rfl zi hb1 rfl rfl) ?_
 rintro w9 ⟨hbn, (hf9 : Frm [g1] _ _), hs9⟩
 have hb1 : Blk w9 g1 25 ({ m with b := ((nb + 1 : Nat) : Int) } : MlC).cells.toArray := hbn
 have hb4 := hb4.frm hf9 (by simp; omega)
 have hO := hO.blk hf9 hb1o jd jd
 have hb11 := hb11.frm hf9 (by simp; have := hb1o.ne hb11 jd; omega)
 have K := K.own hf9 (fun y hy => by rw [za] at hy; omega)
 have hRm : RdL w9 { m with b := ((nb + 1 : Nat) : Int) } := by
  have h := hm.frm K
  exact ⟨h.l, h.s, h.lc, h.sc, h.ln, h.sn, h.sq⟩
 refine jO (jN (jv5 3 6 9 11 12 ?_))
 refine jS (jR (je (Run.loadA rfl zg zb hb1.cells (by first | rfl | (simp; done))) (jm rfl (je (Run.loadA rfl zad zf (fun j v hj => hb11.cells j v hj) (by first | rfl | (simp; done))) ?_))))
 refine Ops.cl (jE3 Tryz.call86) (mP { m with b := ((nb + 1 : Nat) : Int) } i v' n' B d l' _ hRm hi hO.rdm jo) rfl ?_
 rintro e w10 ⟨A', c', rfl, hoA, hobA, hf10⟩
 refine ⟨_, rfl, ?_⟩
 have hKs := K.size
 have hobA : ∀ b ∈ ob A', w.heap.size ≤ b := fun b hb => zay hKs (hobA b hb)
 have hb4 := hb4.frm hf10 jp
 have hO := hO.frm hf10
 have K := K.trans hf10 jp
 have hb40 := hb4
 have hx4 := hoA.ne_blk hb4 jd
 refine jM ?_
 refine Ops.st (qW.storeA rfl rfl zb hb4 rfl (MlC.cells_one _)) ?_
 rintro w11 ⟨hb4, (hf11 : Frm [g4] _ _), hs11⟩
 have hoA := hoA.frm hf11 (fun y hy h => by rw [za] at h; subst h; exact hx4 hy)
 have hO := hO.blk hf11 hb40 jd jd
 have K := K.own hf11 (fun y hy => by rw [za] at hy; omega)
 have hkt := qZj (w := w) (b := ((nb + 1 : Nat) : Int)) hi hO jo hoA hobA
 refine ja rfl (jz 0 (jO (jN (jv3 6 7 8 ?_))))
 refine jT ?_
 refine bZ ?_
 refine qS rfl zg zb (fun j v hj => hb4.cells j v hj) (by first | rfl | (simp; done)) ?_
 refine qK rfl ?_
 refine qK rfl ?_
 refine qB ?_
 refine ⟨_, y.n, 0, rfl, ⟨hkt _ [] (Frm.refl _ _) jp (hm.frm K), .inl ⟨rfl, ?_⟩⟩, hkt, K⟩
 rw [hFo, ← oZ hr hpos hi (by rw [hy]; exact hie)]
 congr 2
 show MailP.mk _ _ _ _ = MailP.mk _ _ _ _
 rw [show m.b + 1 = ((nb + 1 : Nat) : Int) by omega]
 rfl
end
section
open Go.RowKit Go.Sort
theorem Rd.plainN {w : World} {A : Option Addr} {n size : Nat} {xs : List Value} (h : Rd w size A n xs) (hn : 0 < n) (hz : 0 < size) : ∃ b o, A = some ⟨b, o, none⟩ ∧ b < w.heap.size ∧ ∀ j u, xs[j]? = some u → w.cell? ⟨b, o + j, none⟩ = some u := by
 have e : Rd w 1 A (n * size) xs := ⟨by rw [h.1, zbm], fun _ => h.2 hn⟩
 exact Rd.plain e (Nat.mul_pos hn hz)
theorem RdM.off {w w' : World} {A : Option Addr} {l : List Mc} {g : Nat} {t : TypeId} {cs : Array Value} (h : RdM w A l) (hb : Blk w g t cs) (hz : cs.size < 6) (hns : ∀ (i : Nat) (s : ByteArray), cs[i]? ≠ some (.string s)) (k : Frm [g] w w') : RdM w' A l := by
 refine ⟨h.rd.frm k (fun hn y hy hyS => ?_), fun x hx => ⟨(h.fl x hx).rd.frm k (fun hn y hy hyS => ?_), (h.fl x hx).n, (h.fl x hx).q⟩⟩
 ·
  rw [za] at hyS
  subst hyS
  obtain ⟨b, o, rfl, _, hc⟩ := Rd.plainN h.rd hn jd
  simp only [ob, za] at hy
  subst hy
  have h5 : 5 < (MC l).length := by rw [mV]; omega
  have := hc 5 _ (zc h5)
  rw [hb.cell] at this
  have hlt := (Array.getElem?_eq_some_iff.1 this).1
  omega
 rw [za] at hyS
 subst hyS
 obtain ⟨b, o, hA, _, hc⟩ := Rd.plain (h.fl x hx).rd hn
 rw [hA] at hy
 simp only [ob, za] at hy
 subst hy
 have h0 : 0 < (SB x.m.flags).length := by rw [rD]; omega
 have := hc 0 _ (zc h0)
 rw [hb.cell] at this
 have e : (SB x.m.flags)[0] = .string ⟨(x.m.flags[0]'(by rw [rD] at h0; exact h0)).toArray⟩ := by simp [SB, encStr]
 rw [e] at this
 exact hns _ _ this
theorem sA {l : List Value} (h : ∀ v ∈ l, ∀ s : ByteArray, v ≠ .string s) : ∀ (i : Nat) (s : ByteArray), l.toArray[i]? ≠ some (.string s) := by
 intro i s e
 rw [List.getElem?_toArray] at e
 exact h _ (zby e) s rfl
theorem RdM.mail {w w' : World} {A : Option Addr} {l : List Mc} {g : Nat} {m : MlC} (h : RdM w A l) (hb : Blk w g 25 m.cells.toArray) (k : Frm [g] w w') : RdM w' A l :=
 h.off hb (by show 4 < 6; decide) (sA (fun v hv s e => by simp only [MlC.cells, zv, zu, or_false] at hv; rcases hv with rfl | rfl | rfl | rfl <;> cases e)) k
theorem RdM.boxed {w w' : World} {A B : Option Addr} {l : List Mc} {g : Nat} {v n : Int} {a c : Nat} (h : RdM w A l) (hb : Blk w g 43 (BVc v n B a c).toArray) (k : Frm [g] w w') : RdM w' A l :=
 h.off hb (by show 3 < 6; decide) (sA (fun v hv s e => by simp only [BVc, zv, zu, or_false] at hv; rcases hv with rfl | rfl | rfl <;> cases e)) k
theorem qQr {l : List NmP} {t : Tx} (h : ¬ atR l t < 0) : ∃ k : Nat, atR l t = (k : Int) ∧ ∃ hk : k < l.length, (l[k]).1 = t := by
 unfold atR at h ⊢
 cases he : l.findIdx? (fun x => decide (x.1 = t)) with
 | none => rw [he] at h; exact absurd jd h
 | some i =>
  rw [zds] at he
  obtain ⟨h1, h2, _⟩ := he
  exact ⟨i, rfl, h1, of_decide_eq_true h2⟩
theorem sI {m : MlC} {t : Tx} (h : ¬ atR (Ns m.l) t < 0) : ∃ k : Nat, atR (Ns m.l) t = (k : Int) ∧ ∃ hk : k < m.l.length, (m.l[k]).nm = t := by
 obtain ⟨k, h1, hk, h2⟩ := qQr h
 have hk' : k < m.l.length := by rw [bC] at hk; exact hk
 refine ⟨k, h1, hk', ?_⟩
 rw [show (Ns m.l)[k] = (m.l[k]).p from zbf _] at h2
 exact h2
theorem mU {w : World} {m : MlC} {v n b : Int} {t : Tx} {B C : Option Addr} {d d2 : Nat} {lm : List Mc} (hm : RdL w m) (h24 : m.l.length ≤ 24) (ht : t.length ≤ 1000000) (hB : RdM w B lm) (hn : lm.length ≤ 900000) (ho : Own w 45 4 C (dS m.l ⟨t, v, n, B, d, lm⟩).length d2 (NDC (dS m.l ⟨t, v, n, B, d, lm⟩))) : RdL w { m with A := C, c := d2, l := dS m.l ⟨t, v, n, B, d, lm⟩, b := b } := by
 refine ⟨⟨ho.rd, fun y hy => ?_⟩, hm.s, ho.le, hm.sc, ?_, hm.sn, hm.sq⟩
 ·
  rcases yO hy with rfl | h
  · exact ⟨hB, hn, ht⟩
  exact hm.l.el y h
 have := yL m.l ⟨t, v, n, B, d, lm⟩
 dsimp only
 omega
set_option maxHeartbeats 1000000 in
theorem rM (m : MlC) (q : Tx) (x : Mc) (w : World) (hm : RdL w m) (hs : q.length ≤ 900000) (hx : x.At w) (hbb : m.b ≤ 9223372036854775807) :
  Calls Tryz.prog 36 #[m.val, encStr q, .agg x.cells.toArray] w fun e w' => ∃ (m' : MlC) (u : Int) (k : Nat), e = .returned (.tuple #[m'.val, .int .i64 u, .int .i64 ((k : Nat) : Int)]) ∧ eH w' (cS m.p q x.m) m' u k ∧ Frm [] w w' := by
 have hln := hm.ln
 have hpl := dZ m
 refine VC.calls (nt := 64) (res := #[.cell 6 25, .tmp 7, .tmp 8]) Tryz.func36 rfl Tryz.ntmps36 Tryz.results36 rfl ?_
 refine jS (jR ?_)
 refine Ops.m (qJ.box rfl) rfl ?_
 rintro _ w1 ⟨rfl, hF_w1⟩
 have hb1 : Blk w1 w.heap.size 25 #[.slice m.A m.l.length m.c, .slice m.S m.ss.length m.d, .int .i64 m.v, .int .i64 m.b] := hF_w1.blk
 have K := hF_w1.frm
 generalize hg1 : w.heap.size = g1 at hb1 ⊢
 refine Ops.m (qJ.box rfl) rfl ?_
 rintro _ w2 ⟨rfl, hF2⟩
 have hb5 : Blk w2 w1.heap.size 60 x.cells.toArray := hF2.blk
 have hb1 := hb1.frm hF2.frm jp
 have hlt := hb1.lt
 have K := K.trans hF2.frm jp
 have hg5 : w.heap.size ≤ w1.heap.size := hF_w1.size ▸ Nat.le_succ _
 have h15 : g1 ≠ w1.heap.size := by have := hF_w1.size; omega
 generalize hg5' : w1.heap.size = g5 at hb5 hg5 h15 ⊢
 refine Ops.m (qJ.alloc qI) rfl ?_
 rintro _ w3 ⟨rfl, hF3⟩
 have hb4 := hF3.blk
 have hg4 : w.heap.size ≤ w2.heap.size := K.size
 have hb1 := hb1.frm hF3.frm jp
 have hb5 := hb5.frm hF3.frm jp
 have hl1 := hb1.lt
 have hl5 := hb5.lt
 have hl4 := hb4.lt
 have K := K.trans hF3.frm jp
 have hne14 : g1 ≠ w2.heap.size := fun e => by have := hF2.size; have := hF_w1.size; omega
 have hne54 : g5 ≠ w2.heap.size := fun e => by have := hF2.size; omega
 have hg1s : w.heap.size ≤ g1 := jo
 generalize hg4' : w2.heap.size = g4 at hb4 hg4 hne14 hne54 hl4 ⊢
 refine jz 0 (jz 0 (jO (jN (jv4 1 3 5 6 ?_))))
 refine jS (jS (jR (je (Run.loadA rfl zg zb hb1.cells (by first | rfl | (simp; done))) ?_)))
 refine Ops.cl (jE1 Tryz.call26) (gB m _ (hm.frm K) hbb) rfl ?_
 rintro e w4 ⟨rfl, hf4⟩
 refine ⟨_, rfl, ?_⟩
 have hb1 := hb1.frm hf4 jp
 have hb4 := hb4.frm hf4 jp
 have hKs_hf4 := K.size
 have K := K.trans hf4 jp
 have hb5 := hb5.frm hf4 jp
 refine je (Run.not rfl) (jO (jN (jv5 1 3 5 6 15 ?_)))
 refine VC.condB rfl (fun hc1 => ?_) (fun hc1 => ?_)
 ·
  have hc1 : ¬ bW m.p := by simpa using hc1
  refine jS (jR (je (Run.build evs.nil qI (qR).choose_spec.1 (qR).choose_spec.2 rfl) ?_))
  refine Ops.st (qW.storeA rfl rfl zb hb4 rfl (MlC.cells_one qP)) ?_
  rintro wz ⟨hb4, (hfwz : Frm [g4] _ _), hswz⟩
  have hb4 : Blk wz g4 25 qP.cells.toArray := hb4
  have K := K.own hfwz (fun y hy => by rw [za] at hy; omega)
  refine jz 0 (jz 1 (jO (jN (jv3 6 7 8 ?_))))
  refine jT ?_
  refine qQ (bZ ?_)
  refine qS rfl zg zb (fun j v hj => hb4.cells j v hj) (by first | rfl | (simp; done)) ?_
  refine qK rfl ?_
  refine qK rfl ?_
  refine qB ?_
  exact ⟨qP, 0, 1, rfl, eH.err jd (by unfold cS; rw [if_pos hc1]), K⟩
 have hc1 : bW m.p := by simpa using hc1
 obtain ⟨hm24, hv1, hv2, hb0, hb2, hr, hin⟩ := cA hc1
 refine jQ (jN (jv4 1 3 5 6 ?_))
 refine jS (jS (jR (jM ?_)))
 refine Ops.cl (jE1 Tryz.call50) (jW q _ jo) rfl ?_
 rintro e _ ⟨rfl, rfl⟩
 refine ⟨_, rfl, ?_⟩
 refine je (Run.not rfl) (jO (jN (jv5 1 3 5 6 19 ?_)))
 refine VC.condB rfl (fun hc2 => ?_) (fun hc2 => ?_)
 ·
  have hc2 : ¬ isN q := by simpa using hc2
  refine jS (jR (je (Run.build evs.nil qI (qR).choose_spec.1 (qR).choose_spec.2 rfl) ?_))
  refine Ops.st (qW.storeA rfl rfl zb hb4 rfl (MlC.cells_one qP)) ?_
  rintro wz ⟨hb4, (hfwz : Frm [g4] _ _), hswz⟩
  have hb4 : Blk wz g4 25 qP.cells.toArray := hb4
  have K := K.own hfwz (fun y hy => by rw [za] at hy; omega)
  refine jz 0 (jz 18 (jO (jN (jv3 6 7 8 ?_))))
  refine jT ?_
  refine qQ (bZ ?_)
  refine qS rfl zg zb (fun j v hj => hb4.cells j v hj) (by first | rfl | (simp; done)) ?_
  refine qK rfl ?_
  refine qK rfl ?_
  refine qB ?_
  exact ⟨qP, 0, 18, rfl, eH.err jd (by unfold cS; rw [if_neg (fun h => h hc1), if_pos hc2]), K⟩
 have hc2 : isN q := by simpa using hc2
 refine jQ (jN (jv4 1 3 5 6 ?_))
 refine jS (jR (jf rfl zd rfl zx (jl rfl zah (hb1.cell 0) (jM ?_))))
 refine Ops.cl (jE2 zek) (fV m.A m.c m.l q _ (hm.frm K).l hln jo) rfl ?_
 rintro e w5 ⟨rfl, hf5⟩
 refine ⟨_, rfl, ?_⟩
 have hb1 := hb1.frm hf5 jp
 have hb4 := hb4.frm hf5 jp
 have hKs_hf5 := K.size
 have K := K.trans hf5 jp
 have hb5 := hb5.frm hf5 jp
 refine ja rfl (jO (jN (jv5 1 3 5 6 9 ?_)))
 refine jS (jS (jR (jm rfl (jb rfl rfl (Bin.lss _ 0) (jO (jN (jv6 1 3 5 6 9 26 ?_)))))))
 refine jD rfl (fun hc3 => ?_) fun hc3 => ?_
 ·
  have hc3 : qV q ∉ qL m.p := kD.1 hc3
  refine jS (jR (je (Run.build evs.nil qI (qR).choose_spec.1 (qR).choose_spec.2 rfl) ?_))
  refine Ops.st (qW.storeA rfl rfl zb hb4 rfl (MlC.cells_one qP)) ?_
  rintro wz ⟨hb4, (hfwz : Frm [g4] _ _), hswz⟩
  have hb4 : Blk wz g4 25 qP.cells.toArray := hb4
  have K := K.own hfwz (fun y hy => by rw [za] at hy; omega)
  refine jz 0 (jz 6 (jO (jN (jv3 6 7 8 ?_))))
  refine jT ?_
  refine qQ (bZ ?_)
  refine qS rfl zg zb (fun j v hj => hb4.cells j v hj) (by first | rfl | (simp; done)) ?_
  refine qK rfl ?_
  refine qK rfl ?_
  refine qB ?_
  exact ⟨qP, 0, 6, rfl, eH.err jd (by unfold cS; rw [if_neg (fun h => h hc1), if_neg (fun h => h hc2), fN hc3]), K⟩
 obtain ⟨i, hk, hi, hie⟩ := sI hc3
 rw [hk]
 have hbx := fY hr hi hie
 obtain ⟨nb, hnb⟩ : ∃ nb : Nat, m.b = (nb : Int) := ⟨m.b.toNat, jo⟩
 have hcb : ∀ W, Blk W g1 25 #[.slice m.A m.l.length m.c, .slice m.S m.ss.length m.d, .int .i64 m.v, .int .i64 m.b] → W.cell? ⟨g1, 3, none⟩ = some (.int .i64 ((nb : Nat) : Int)) := fun W h => by rw [← hnb]; exact h.cell 3
 have hF : cS m.p q x.m = if m.b = 2147483647 then .error 19 else match bG (m.l[i]).p.2 { x.m with blob := nb + 1 } with
   | .error e => .error e
   | .ok b' => .ok ({ m.p with blob := m.b + 1, l := bU m.p.l (qV q) b' }, (m.l[i]).n) := by
  unfold cS
  rw [if_neg (fun h => h hc1), if_neg (fun h => h hc2), hbx]
  dsimp only
  rw [show m.p.blob = m.b from rfl, show m.b.toNat = nb by omega]
  rfl
 have hyl := ((hm.frm K).l.el _ (zr hi)).n
 generalize hy : m.l[i] = y at *
 refine jQ (jN (jv5 1 3 5 6 9 ?_))
 refine jS (jS (jR (jf rfl zd rfl zi (jl rfl zn (hb1.cell 3) (jb rfl rfl (Bin.eql _ 2147483647) (jO (jN (jv6 1 3 5 6 9 30 ?_))))))))
 refine jD rfl (fun hc4 => ?_) fun hc4 => ?_
 ·
  refine jS (jR (je (Run.build evs.nil qI (qR).choose_spec.1 (qR).choose_spec.2 rfl) ?_))
  refine Ops.st (qW.storeA rfl rfl zb hb4 rfl (MlC.cells_one qP)) ?_
  rintro wz ⟨hb4, (hfwz : Frm [g4] _ _), hswz⟩
  have hb4 : Blk wz g4 25 qP.cells.toArray := hb4
  have K := K.own hfwz (fun y hy => by rw [za] at hy; omega)
  refine jz 0 (jz 19 (jO (jN (jv3 6 7 8 ?_))))
  refine jT ?_
  refine qQ (bZ ?_)
  refine qS rfl zg zb (fun j v hj => hb4.cells j v hj) (by first | rfl | (simp; done)) ?_
  refine qK rfl ?_
  refine qK rfl ?_
  refine qB ?_
  exact ⟨qP, 0, 19, rfl, eH.err jd (by rw [hF, if_pos hc4]), K⟩
 have hnb2 : nb < 2147483647 := jo
 refine jQ (jN (jv5 1 3 5 6 9 ?_))
 refine jS (jR (jf rfl zd rfl zi (jl rfl zn (hcb _ hb1) (jb rfl rfl (Bin.add_i64 _ 1 jo) (jf rfl zd rfl zi ?_)))))
 have hb1o := hb1
 refine Ops.st (qW.store rfl rfl zi hb1 rfl rfl) ?_
 rintro w6 ⟨hbn, (hf6 : Frm [g1] _ _), hs6⟩
 have hb1 : Blk w6 g1 25 ({ m with b := ((nb + 1 : Nat) : Int) } : MlC).cells.toArray := hbn
 have hb4 := hb4.frm hf6 (by simp; omega)
 have hb5 := hb5.frm hf6 (by simp; omega)
 have K := K.own hf6 (fun y hy => by rw [za] at hy; omega)
 refine jO (jN (jv5 1 3 5 6 9 ?_))
 refine jS (jR (jf rfl zd rfl zi (jl rfl zn (hb1.cell 3) (je (Run.convN _ rfl zan zdl (by simp only [bmax]; omega)) (jf rfl zac rfl zct ?_)))))
 refine Ops.st (qW.store rfl rfl zct hb5 rfl rfl) ?_
 rintro w7 ⟨hbn, (hf7 : Frm [g5] _ _), hs7⟩
 have hb5 : Blk w7 g5 60 (⟨{ x.m with blob := nb + 1 }, x.A, x.c⟩ : Mc).cells.toArray := hbn
 have hb1 := hb1.frm hf7 (by simp; omega)
 have hb4 := hb4.frm hf7 (by simp; omega)
 have K := K.own hf7 (fun y hy => by rw [za] at hy; omega)
 have hxA : (⟨{ x.m with blob := nb + 1 }, x.A, x.c⟩ : Mc).At w7 := ⟨(hx.frm K jp).rd, hx.n, hx.q⟩
 obtain ⟨ad, had, hel⟩ : ∃ ad, m.A = some ad ∧ ∀ W, Frm [] w7 W → ∀ j v, y.cells[j]? = some v → W.cell? ((ad.add (i * 4)).add j) = some v := by
  obtain ⟨ad, hA, _⟩ := (hm.frm K).l.elem hi
  refine ⟨ad, hA, fun W hW => ?_⟩
  obtain ⟨ad', hA', h⟩ := (hm.frm (K.trans hW jp)).l.elem hi
  rw [hA] at hA'
  cases hA'
  rw [hy] at h
  exact h
 have hya : y.At w7 := by rw [← hy]; exact (hm.frm K).l.el _ (zr hi)
 refine jO (jN (jv5 1 3 5 6 9 ?_))
 refine jS ?_
 refine VC.held (fun W => Frm [] w7 W) jK ?_
 have hS : Frm [] w7 w7.drew := (Frm.refl _ _).drew
 refine jH 0 rfl hS (fun w0 hw0 => Run.fieldAddr rfl zd rfl zx jd) ?_
 refine jH 1 rfl hS (fun w0 hw0 => Run.load rfl zah ((hb1.frm hw0 jp).cell 0)) ?_
 refine jH 2 rfl hS (fun w0 hw0 => Run.mv rfl) ?_
 refine jH 3 rfl hS (fun w0 hw0 => Run.indexS i (show _ = some (Value.slice (some ad) m.l.length m.c) by rw [← had]; rfl) rfl ze zo hi) ?_
 refine jH 4 rfl hS (fun w0 hw0 => Run.fieldAddr rfl zy rfl zf jd) ?_
 refine jH 5 rfl hS (fun w0 hw0 => Run.loadA rfl zad zf (cs := BVc y.v y.n y.A y.l.length y.c) (fun j v hj => by rw [Go.Proofs.YtgmbmfpfhcekiaaGreat.add_add]; exact hel _ hw0 (1 + j) v (by rw [zdb]; exact hj)) (by first | rfl | (simp; done))) ?_
 refine jH 6 rfl hS (fun w0 hw0 => Run.loadA rfl zaz zt (fun j v hj => (hb5.frm hw0 jp).cells j v hj) (by first | rfl | (simp; done))) ?_
 refine qZ.par (target := #[true, true, true, true, true, true, true, true, true, true, true, true, true, false, false, false]) [⟨7, 48, [], false, fun _ u lo hi W => ∃ v' n' B d l' k', u = .tuple #[.agg #[.int .i64 v', .int .i64 n', .slice B l'.length d], .int .i64 (if k' = 0 then y.n else 0), .int .i64 ((k' : Nat) : Int)] ∧ dH W (bG y.p.2 { x.m with blob := nb + 1 }) v' n' B d l' k'⟩, PT.mv 8 40 48 [], PT.part 9 49 40 0 [48], PT.part 10 50 40 1 [48], PT.part 11 51 40 2 [48], PT.made 12 10 43 #[.int .i64 0, .int .i64 0, .slice none 0 0]] 6 rfl jK (show List.Nodup ([48, 40, 49, 50, 51, 10] : List Nat) by decide) (show List.Nodup ([7, 8, 9, 10, 11, 12] : List Nat) by decide) (fun t ht => ?_) (fun t ht => ?_) (fun W hW => ?_) (fun t ht => ?_) (fun t ht => ?_) (fun t ht W g hW hD hE => ?_) (fun g W hW hA => ?_)
 ·
  simp only [zv, zu, or_false] at ht
  rcases ht with rfl | rfl | rfl | rfl | rfl | rfl
  · rfl
  · rfl
  · rfl
  · rfl
  · rfl
  rfl
 ·
  simp only [zv, zu, or_false] at ht
  rcases ht with rfl | rfl | rfl | rfl | rfl | rfl
  · exact fun x hx => absurd hx jp
  ·
   intro x hx
   simp only [zv, zu, or_false] at hx
   rcases hx with rfl
   exact ⟨_, (.head _), rfl⟩
  ·
   intro x hx
   simp only [zv, zu, or_false] at hx
   rcases hx with rfl | rfl
   · exact ⟨_, (.tail _ (.head _)), rfl⟩
   exact ⟨_, (.head _), rfl⟩
  ·
   intro x hx
   simp only [zv, zu, or_false] at hx
   rcases hx with rfl | rfl
   · exact ⟨_, (.tail _ (.head _)), rfl⟩
   exact ⟨_, (.head _), rfl⟩
  ·
   intro x hx
   simp only [zv, zu, or_false] at hx
   rcases hx with rfl | rfl
   · exact ⟨_, (.tail _ (.head _)), rfl⟩
   exact ⟨_, (.head _), rfl⟩
  exact fun x hx => absurd hx jp
 · exact hS.trans hW jp
 ·
  simp only [zv, zu, or_false] at ht
  rcases ht with rfl | rfl | rfl | rfl | rfl | rfl
  · exact fun _ v lo hi W W' hf ⟨v', n', B, d, l', k', h1, h2⟩ => ⟨v', n', B, d, l', k', h1, ⟨h2.1.frm hf, h2.2⟩⟩
  · exact fun _ _ _ _ _ _ _ h => h
  · exact fun _ _ _ _ _ _ _ h => h
  · exact fun _ _ _ _ _ _ _ h => h
  · exact fun _ _ _ _ _ _ _ h => h
  exact PT.made_st
 ·
  simp only [zv, zu, or_false] at ht
  rcases ht with rfl | rfl | rfl | rfl | rfl | rfl
  · exact fun _ _ _ _ _ _ _ h => h
  · exact fun ρ ρ' v lo hi W h e => e.trans (h _ (.head _))
  · exact fun ρ ρ' v lo hi W h ⟨xs, h1, h2⟩ => ⟨xs, (h _ (.head _)).symm.trans h1, h2⟩
  · exact fun ρ ρ' v lo hi W h ⟨xs, h1, h2⟩ => ⟨xs, (h _ (.head _)).symm.trans h1, h2⟩
  · exact fun ρ ρ' v lo hi W h ⟨xs, h1, h2⟩ => ⟨xs, (h _ (.head _)).symm.trans h1, h2⟩
  exact fun _ _ _ _ _ _ _ h => h
 ·
  simp only [zv, zu, or_false] at ht
  rcases ht with rfl | rfl | rfl | rfl | rfl | rfl
  ·
   refine bB.cl rfl rfl rfl rfl rfl (jE2 Tryz.call87) (sD y.v y.n y.A y.c y.l (⟨{ x.m with blob := nb + 1 }, x.A, x.c⟩ : Mc) W (hya.rd.frm (hS.trans hW jp)) hyl (hxA.frm (hS.trans hW jp) jp)) ?_
   rintro e W' ⟨hf, v', n', B, d, l', k', rfl, h2⟩
   exact ⟨_, rfl, hf, v', n', B, d, l', k', rfl, h2⟩
  · exact bB.r rfl rfl rfl rfl (fun _ => Run.mv rfl) rfl
  ·
   have h1 := hD _ (.tail _ (.head _)) jp
   have h2 := hD _ (.head _) jp
   obtain ⟨v', n', B, d, l', k', h2e, _⟩ := h2
   exact bB.r rfl rfl rfl rfl (fun _ => Run.extract (congrArg some (h1.trans h2e)) rfl) ⟨_, h1.trans h2e, rfl⟩
  ·
   have h1 := hD _ (.tail _ (.head _)) jp
   have h2 := hD _ (.head _) jp
   obtain ⟨v', n', B, d, l', k', h2e, _⟩ := h2
   exact bB.r rfl rfl rfl rfl (fun _ => Run.extract (congrArg some (h1.trans h2e)) rfl) ⟨_, h1.trans h2e, rfl⟩
  ·
   have h1 := hD _ (.tail _ (.head _)) jp
   have h2 := hD _ (.head _) jp
   obtain ⟨v', n', B, d, l', k', h2e, _⟩ := h2
   exact bB.r rfl rfl rfl rfl (fun _ => Run.extract (congrArg some (h1.trans h2e)) rfl) ⟨_, h1.trans h2e, rfl⟩
  exact PT.made_ok rfl rfl bH
 have hA48 := hA.1 _ (.head _)
 have hA40 := hA.1 _ (.tail _ (.head _))
 have hA49 := hA.1 _ (.tail _ (.tail _ (.head _)))
 have hA50 := hA.1 _ (.tail _ (.tail _ (.tail _ (.head _))))
 have hA51 := hA.1 _ (.tail _ (.tail _ (.tail _ (.tail _ (.head _)))))
 have hA10 := hA.1 _ (.tail _ (.tail _ (.tail _ (.tail _ (.tail _ (.head _))))))
 have hA48_10 := hA.2 _ (.head _) _ (.tail _ (.tail _ (.tail _ (.tail _ (.tail _ (.head _)))))) (show (48 : Nat) ≠ 10 by decide)
 clear hA
 simp only [zal, zbo, zci, zav]
 dsimp only at hA48 hA40 hA49 hA50 hA51 hA10 hA48_10
 generalize g 48 = q48 at *
 obtain ⟨u48, lo48, hi48⟩ := q48
 generalize g 40 = q40 at *
 obtain ⟨u40, lo40, hi40⟩ := q40
 generalize g 49 = q49 at *
 obtain ⟨u49, lo49, hi49⟩ := q49
 generalize g 50 = q50 at *
 obtain ⟨u50, lo50, hi50⟩ := q50
 generalize g 51 = q51 at *
 obtain ⟨u51, lo51, hi51⟩ := q51
 generalize g 10 = q10 at *
 obtain ⟨u10, lo10, hi10⟩ := q10
 dsimp only at hA48 hA40 hA49 hA50 hA51 hA10 hA48_10 ⊢
 obtain ⟨⟨⟨rfl, hlt10⟩, hb10⟩, hA10⟩ := hA10
 obtain ⟨v', n', B, d, l', k', rfl, hI⟩ := hA48.1
 have hS := hS.trans hW jp
 change w7.heap.size ≤ _ ∧ _ at hA10
 clear hA48
 obtain rfl := hA40.1
 obtain ⟨xs49, e1_49, e2_49⟩ := hA49.1
 injection e1_49 with e1_49
 subst e1_49
 have e2_49 := Option.some.inj e2_49
 subst e2_49
 obtain ⟨xs50, e1_50, e2_50⟩ := hA50.1
 injection e1_50 with e1_50
 subst e1_50
 have e2_50 := Option.some.inj e2_50
 subst e2_50
 obtain ⟨xs51, e1_51, e2_51⟩ := hA51.1
 injection e1_51 with e1_51
 subst e1_51
 have e2_51 := Option.some.inj e2_51
 subst e2_51
 have hbo := hb10
 refine qZ.st 13 rfl jK (qW.storeA rfl rfl zf hb10 rfl (bK v' n' B l'.length d)) trivial rfl ?_
 rintro w8 ⟨hbn, (hf_w8 : Frm [lo10] _ _), hs_w8⟩
 have hb10 : Blk w8 lo10 43 (BVc v' n' B l'.length d).toArray := hbn
 have hS := hS.own hf_w8 (fun y hy => by rw [za] at hy; omega)
 refine ⟨hS, ?_⟩
 have hb1 := hb1.frm hS jp
 have hb4 := hb4.frm hS jp
 have hK6 := K.size
 have K := K.trans hS jp
 have hIr := hI.1.boxed (v := 0) (n := 0) (B := none) (a := 0) (c := 0) hbo hf_w8
 refine jH 14 rfl hS (fun w0 hw0 => Run.asg rfl) ?_
 refine jH 15 rfl hS (fun w0 hw0 => Run.asg rfl) ?_
 refine qZ.done jK ?_
 refine jN (jv6 1 3 6 10 11 12 ?_)
 refine jS (jS (jR (jm rfl (jb rfl rfl (Bin.neqN _ 0) (jO (jN (jv7 1 3 6 10 11 12 53 ?_)))))))
 refine jD rfl (fun hc5 => ?_) fun hc5 => ?_
 ·
  have hc5 : k' ≠ 0 := by simpa using hc5
  have hFe : cS m.p q x.m = .error k' := by
   rw [hF, if_neg hc4]
   obtain ⟨_, ⟨h, _⟩ | ⟨_, h, _⟩⟩ := hI
   · exact absurd h hc5
   rw [h]
  refine jS (jR (je (Run.build evs.nil qI (qR).choose_spec.1 (qR).choose_spec.2 rfl) (jM ?_)))
  refine Ops.st (qW.storeA rfl rfl zb hb4 rfl (MlC.cells_one qP)) ?_
  rintro wz ⟨hb4, (hfwz : Frm [g4] _ _), hswz⟩
  have hb4 : Blk wz g4 25 qP.cells.toArray := hb4
  have K := K.own hfwz (fun y hy => by rw [za] at hy; omega)
  refine jz 0 (ja rfl (jO (jN (jv3 6 7 8 ?_))))
  refine jT ?_
  refine qQ (bZ ?_)
  refine qS rfl zg zb (fun j v hj => hb4.cells j v hj) (by first | rfl | (simp; done)) ?_
  refine qK rfl ?_
  refine qK rfl ?_
  refine qB ?_
  exact ⟨qP, 0, k', rfl, eH.err hc5 hFe, K⟩
 obtain rfl : k' = 0 := by simpa using hc5
 have hlb := hI.len27
 have hFo : cS m.p q x.m = .ok ({ m.p with blob := m.b + 1, l := bU m.p.l (qV q) ⟨v', n', Ms l'⟩ }, y.n) := by
  rw [hF, if_neg hc4]
  obtain ⟨_, ⟨_, h⟩ | ⟨h, _⟩⟩ := hI
  · rw [h]
  exact absurd rfl h
 refine jQ (jN (jv5 1 3 6 10 11 ?_))
 refine jS (jR (jf rfl zd rfl zx (jl rfl zah (hb1.cell 0) (jm rfl (je (Run.loadA rfl zad zf (fun j v hj => hb10.cells j v hj) (by first | rfl | (simp; done))) ?_)))))
 refine Ops.cl (jE3 Tryz.call40) (lB m.A m.c m.l q v' n' B d l' _ (hm.frm K).l jo jo) rfl ?_
 rintro e w10 ⟨C, d2, rfl, hoC, hobC, hf10⟩
 refine ⟨_, rfl, ?_⟩
 have hKs := K.size
 have hobC : ∀ b ∈ ob C, w.heap.size ≤ b := fun b hb => zay hKs (hobC b hb)
 have hb4 := hb4.frm hf10 jp
 have hb1 := hb1.frm hf10 jp
 have hIr := hIr.frm hf10
 have K := K.trans hf10 jp
 have hx1 := hoC.ne_blk hb1 jd
 refine jf rfl zd rfl zx ?_
 have hb1o := hb1
 refine Ops.st (qW.store rfl rfl zx hb1 rfl rfl) ?_
 rintro w11 ⟨hbn, (hf11 : Frm [g1] _ _), hs11⟩
 have hb1 : Blk w11 g1 25 ({ m with A := C, c := d2, l := dS m.l ⟨qV q, v', n', B, d, l'⟩, b := ((nb + 1 : Nat) : Int) } : MlC).cells.toArray := hbn
 have hoC := hoC.frm hf11 (fun y hy h => by rw [za] at h; subst h; exact hx1 hy)
 have hb4 := hb4.frm hf11 (by simp; omega)
 have hIr := hIr.mail hb1o hf11
 have K := K.own hf11 (fun y hy => by rw [za] at hy; omega)
 refine jO (jN (jv3 3 6 11 ?_))
 refine jS (jR (je (Run.loadA rfl zg zb hb1.cells (by first | rfl | (simp; done))) (jM ?_)))
 have hb40 := hb4
 have hx4 := hoC.ne_blk hb4 jd
 refine Ops.st (qW.storeA rfl rfl zb hb4 rfl (MlC.cells_one _)) ?_
 rintro w12 ⟨hb4, (hf12 : Frm [g4] _ _), hs12⟩
 have hoC := hoC.frm hf12 (fun y hy h => by rw [za] at h; subst h; exact hx4 hy)
 have hIr := hIr.mail (m := qP) hb40 hf12
 have K := K.own hf12 (fun y hy => by rw [za] at hy; omega)
 refine ja rfl (jz 0 (jO (jN (jv3 6 7 8 ?_))))
 refine jT ?_
 refine bZ ?_
 refine qS rfl zg zb (fun j v hj => hb4.cells j v hj) (by first | rfl | (simp; done)) ?_
 refine qK rfl ?_
 refine qK rfl ?_
 refine qB ?_
 refine ⟨_, y.n, 0, rfl, ⟨mU (b := ((nb + 1 : Nat) : Int)) (hm.frm K) hm24 (by rw [cW]; omega) hIr jo hoC, .inl ⟨rfl, ?_⟩⟩, K⟩
 rw [hFo]
 congr 2
 show MailP.mk _ _ _ _ = MailP.mk _ _ _ _
 rw [show m.b + 1 = ((nb + 1 : Nat) : Int) by omega]
 congr 1
 exact (pS m.l ⟨qV q, v', n', B, d, l'⟩).symm
end
section
open Go.RowKit Go.Sort
def qQ4 (S : List Nat) (w : World) (f : FuncId) (us : List Value) (p : Int → Bool) : Prop :=
 (∀ args w, (callFunc f args).run Tryz.prog w = .ok (.enter f args) w) ∧ ∀ W (x : Int), Frm S w W → Calls Tryz.prog f (.int .i64 x :: us).toArray W fun e w' => e = .returned (.bool (p x)) ∧ Frm [] W w'
theorem uQ (f : FuncId) (us : List Value) (p : Int → Bool) (A : Option Addr) (c : Nat) (l : List Int) (w : World) (hl : Rd w 1 A l.length (IB l)) (hn : l.length ≤ 1000000) (S : List Nat) (hp : qQ4 S w f us p) :
  Calls Tryz.prog 128 #[.slice A l.length c, .func (.func f) #[] us.toArray] w fun e w' => Frm [] w w' ∧ ∃ k, (∀ j (hj : j < l.length), j < k → p l[j] = false) ∧ ((k = l.length ∧ e = .returned (.int .i64 (-1))) ∨ (∃ hk : k < l.length, p l[k] = true ∧ e = .returned (.int .i64 ((k : Nat) : Int)))) := by
 refine VC.calls (nt := 19) (res := #[.tmp 4]) Tryz.func128 rfl Tryz.ntmps128 Tryz.results128 rfl ?_
 refine jS (jR (jz 0 (jO (jN (jv2 0 1 ?_)))))
 refine jS (jS (jR (jm rfl (je (Run.lenS rfl zat) ?_))))
 refine jx .i64 0 ?_
 refine jO (jN (jv4 0 1 7 8 ?_))
 refine jB ?_
 refine VC.loop (σ := Nat) (fun s => [(0, .slice A l.length c), (1, .func (.func f) #[] us.toArray), (7, .int .i64 ((l.length : Nat) : Int)), (8, .int .i64 ((s : Nat) : Int))]) (fun s wr => s ≤ l.length ∧ Frm [] w wr ∧ ∀ j (hj : j < l.length), j < s → p l[j] = false) (fun s => l.length - s) 0 (js4 rfl rfl rfl rfl) ⟨jo, Frm.refl _ _, jp⟩ ?_
 rintro i wr ⟨hi, hfr, hf⟩
 refine jS (jR (jb rfl rfl (Bin.lssN _ _) (jO (jN (jS ?_)))))
 refine jD rfl (fun hc1 => ?_) fun hc1 => ?_
 ·
  obtain ⟨ad, rfl, hcell⟩ := (hl.frm hfr jp).elem hc1
  skip
  refine jQ (jN (jv4 0 1 7 8 ?_))
  refine jS (jB (jS (jR (jm rfl (ja rfl (jO (jN (jv5 0 1 5 7 8 ?_))))))))
  refine jS (jR (jm rfl (jm rfl (jm rfl (je (Run.indexS i rfl rfl zat zi hc1) (jl rfl zn (hcell 0 (.int .i64 l[i]) (by simp [IB, hc1])) ?_))))))
  refine Ops.cl (bR.dyn rfl (evs.cons rfl evs.nil) hp.1) (hp.2 _ l[i] (hfr.mono jp)) rfl ?_
  rintro e w2 ⟨rfl, hf2⟩
  refine ⟨_, rfl, ?_⟩
  have hfr2 := hfr.trans hf2 jp
  refine jO (jN (jv6 0 1 5 7 8 16 ?_))
  refine VC.condB rfl (fun hc2 => ?_) (fun hc2 => ?_)
  ·
   refine jS (jR (jm rfl (ja rfl (jO (jN (jv1 4 ?_))))))
   refine jT ?_
   refine qN (qQ (qQ (qN (qQ (qC rfl ?_)))))
   exact ⟨hfr2, i, hf, .inr ⟨hc1, hc2, rfl⟩⟩
  refine jQ ?_
  refine qT (jN ?_)
  refine jv4 0 1 7 8 ?_
  refine jR (jb rfl rfl (Bin.add_i64 _ 1 jo) (jm rfl (jO ?_)))
  refine jN ⟨(i + 1), (js4 rfl rfl rfl rfl), ?_, ?_⟩
  ·
   refine ⟨hc1, hfr2, fun j hj hji => ?_⟩
   rcases zck j i with h | h
   · exact hf j hj h
   obtain rfl : j = i := jo
   simpa using hc2
  first | omega | (dsimp only; omega)
 refine jX ?_
 refine qH (qH (qF ?_))
 refine jN ?_
 refine VC.sub [] .nil ?_
 refine jS (jR ?_)
 refine Ops.r (v := .int .i64 (-1)) (Run.asg rfl) rfl ?_
 refine jO (jN (jT ?_))
 refine qC rfl ?_
 exact ⟨hfr, i, hf, .inl ⟨jo, rfl⟩⟩
theorem wF (f : FuncId) (us : List Value) (p : Int → Bool) (A : Option Addr) (c : Nat) (l : List Int) (w : World) (hl : Rd w 1 A l.length (IB l)) (hn : l.length ≤ 1000000) (S : List Nat) (hp : qQ4 S w f us p) :
  Calls Tryz.prog 88 #[.slice A l.length c, .func (.func f) #[] us.toArray] w fun e w' => e = .returned (.bool (decide (∃ x ∈ l, p x = true))) ∧ Frm [] w w' := by
 refine VC.calls (nt := 9) (res := #[.tmp 4]) Tryz.func88 rfl Tryz.ntmps88 Tryz.results88 rfl ?_
 refine jS (jR (ja rfl (jO (jN (jv2 0 1 ?_)))))
 refine jS (jR (jm rfl (jM ?_)))
 refine Ops.cl (jE2 Tryz.call128) (uQ f us p A c l _ hl hn S hp) rfl ?_
 rintro e w1 ⟨hf1, k, hk1, hk2⟩
 obtain ⟨z, rfl, hz⟩ : ∃ z : Int, e = .returned (.int .i64 z) ∧ (0 ≤ z ↔ ∃ x ∈ l, p x = true) := by
  rcases hk2 with ⟨h1, h2⟩ | ⟨h1, h2, h3⟩
  ·
   refine ⟨_, h2, ⟨fun h => jo, fun ⟨x, hx, hpx⟩ => ?_⟩⟩
   obtain ⟨j, hj, rfl⟩ := zaf hx
   rw [hk1 j hj jo] at hpx
   cases hpx
  exact ⟨_, h3, ⟨fun _ => ⟨_, zr h1, h2⟩, fun _ => jo⟩⟩
 refine ⟨_, rfl, ?_⟩
 refine jb rfl rfl (Bin.geq _ 0) (ja rfl (jO (jN (jv1 4 ?_))))
 refine jT ?_
 refine qC rfl ?_
 exact ⟨by rw [decide_eq_decide.2 hz], hf1⟩
def cF : BoxV → List MsgP → Except Nat (BoxV × List Int)
 | b, [] => .ok (b, [])
 | b, x :: r => match bG b x with
  | .error e => .error e
  | .ok b' => match cF b' r with
   | .error e => .error e
   | .ok (b2, us) => .ok (b2, b.next :: us)
theorem oJ : ∀ {xs : List MsgP} {b b2 : BoxV} {us : List Int} {x : MsgP} {r : List MsgP}, cF b xs = .ok (b2, us) →
  cF b (xs ++ x :: r) = match bG b2 x with | .error e => .error e | .ok b' => match cF b' r with | .error e => .error e | .ok (b3, vs) => .ok (b3, us ++ b2.next :: vs)
 | [], b, b2, us, x, r, h => by
  simp only [cF, Except.ok.injEq, Prod.mk.injEq] at h
  obtain ⟨rfl, rfl⟩ := h
  rfl
 | y :: xs, b, b2, us, x, r, h => by
  rw [cF] at h
  rw [zci, cF]
  cases hy : bG b y with
  | error e => rw [hy] at h; cases h
  | ok b' =>
   rw [hy] at h
   dsimp only at h ⊢
   cases hx : cF b' xs with
   | error e => rw [hx] at h; cases h
   | ok q =>
    obtain ⟨b4, vs⟩ := q
    rw [hx] at h
    simp only [Except.ok.injEq, Prod.mk.injEq] at h
    obtain ⟨rfl, rfl⟩ := h
    rw [oJ hx]
    cases bG b4 x with
    | error e => rfl
    | ok b5 =>
     dsimp only
     cases cF b5 r with
     | error e => rfl
     | ok q => rfl
theorem pK {xs : List MsgP} {b b2 b3 : BoxV} {us : List Int} {x : MsgP} (h : cF b xs = .ok (b2, us)) (h2 : bG b2 x = .ok b3) : cF b (xs ++ [x]) = .ok (b3, us ++ [b2.next]) := by
 rw [oJ h, h2]
 rfl
theorem rK {xs : List MsgP} {b b2 : BoxV} {us : List Int} {x : MsgP} {r : List MsgP} {e : Nat} (h : cF b xs = .ok (b2, us)) (h2 : bG b2 x = .error e) : cF b (xs ++ x :: r) = .error e := by
 rw [oJ h, h2]
def eX (l : List MsgP) (ps : List Int) : List MsgP := ps.map fun p => (l[(p - 1).toNat]?).getD ⟨0, 0, 0, 0, 0, []⟩
def dN (m : MailP) (q : Tx) (ps : List Int) (t : Tx) : Except Nat (MailP × List Int) :=
 if ¬ bW m then .error 1 else if ¬ isN q ∨ ¬ isN t then .error 18 else
 match eO m.l (qV q), eO m.l (qV t) with
 | some bf, some bt => if ∃ p ∈ ps, p < 1 ∨ (bf.l.length : Int) < p then .error 4 else match cF bt (eX bf.l ps) with
  | .error e => .error e
  | .ok (b', us) => .ok ({ m with l := bU m.l (qV t) b' }, us)
 | _, _ => .error 6
theorem sL {m : MailP} {q t : Tx} {ps : List Int} (h1 : bW m) (h2 : isN q) (h3 : isN t) (h : qV q ∉ m.l.map Prod.fst ∨ qV t ∉ m.l.map Prod.fst) : dN m q ps t = .error 6 := by
 unfold dN
 rw [if_neg (fun h => h h1), if_neg (fun h => by rcases h with h | h; exact h h2; exact h h3)]
 rcases h with h | h
 · rw [fN h]
 rw [fN h]
 cases eO m.l (qV q) <;> rfl
theorem sO {m : MailP} {q t : Tx} {ps : List Int} {bf bt : BoxV} (h1 : bW m) (h2 : isN q) (h3 : isN t) (e1 : eO m.l (qV q) = some bf) (e2 : eO m.l (qV t) = some bt) : dN m q ps t = if ∃ p ∈ ps, p < 1 ∨ (bf.l.length : Int) < p then .error 4 else match cF bt (eX bf.l ps) with
  | .error e => .error e
  | .ok (b', us) => .ok ({ m with l := bU m.l (qV t) b' }, us) := by
 unfold dN
 rw [if_neg (fun h => h h1), if_neg (fun h => by rcases h with h | h; exact h h2; exact h h3), e1, e2]
def dW (w : World) (m : MlC) (B : Option Addr) (d : Nat) (lm : List Mc) : Prop := OwM w B d lm ∨ ∃ x ∈ m.l, x.A = B ∧ x.l = lm
theorem dW.rdm {w : World} {m : MlC} {B : Option Addr} {d : Nat} {lm : List Mc} (h : dW w m B d lm) (hm : RdL w m) : RdM w B lm := by
 rcases h with h | ⟨x, hx, rfl, rfl⟩
 · exact h.rdm
 exact (hm.l.el x hx).rd
theorem dW.frm {w w' : World} {m : MlC} {B : Option Addr} {d : Nat} {lm : List Mc} (h : dW w m B d lm) (k : Frm [] w w') : dW w' m B d lm := by
 rcases h with h | h
 · exact .inl (h.frm k)
 exact .inr h
theorem dW.blk {w w' : World} {m : MlC} {B : Option Addr} {d g : Nat} {lm : List Mc} {t : TypeId} {cs : Array Value} (h : dW w m B d lm) (k : Frm [g] w w') (hb : Blk w g t cs) (h1 : 60 ≠ t) (h2 : 9 ≠ t) : dW w' m B d lm := by
 rcases h with h | h
 · exact .inl (h.blk k hb h1 h2)
 exact .inr h
theorem dW.own {w w' : World} {m : MlC} {B C : Option Addr} {d size n c : Nat} {lm : List Mc} {e : TypeId} {xs : List Value} (h : dW w m B d lm) (k : Frm (ob C) w w') (hC : Own w e size C n c xs) (h1 : 60 ≠ e) (h2 : 9 ≠ e) : dW w' m B d lm := by
 rcases h with h | h
 · exact .inl (h.offO k hC h1 h2)
 exact .inr h
theorem qXx {w w' : World} {m : MlC} {i : Nat} (hi : i < m.l.length) {v n b : Int} {B A : Option Addr} {d c : Nat} {lm : List Mc} (hO : dW w' m B d lm) (hn : lm.length ≤ 900000) (ho : Own w' 45 4 A m.l.length c (NDC (m.l.set i ⟨(m.l[i]).nm, v, n, B, d, lm⟩))) (hf : ∀ y ∈ ob A, w.heap.size ≤ y) :
  Kt w w' m { m with A := A, c := c, l := m.l.set i ⟨(m.l[i]).nm, v, n, B, d, lm⟩, b := b } := by
 intro w'' T k hT hm
 have ho := ho.frm k (fun y hy hy2 => by have := (hT y hy2).1; have := hf y hy; omega)
 have hO : RdM w'' B lm := by
  rcases hO with h | ⟨x, hx, rfl, rfl⟩
  · exact (h.typed k (fun y hy => (hT y hy).2)).rdm
  exact (hm.l.el x hx).rd
 have hq := (hm.l.el _ (zr hi)).q
 have hlen : (m.l.set i ⟨(m.l[i]).nm, v, n, B, d, lm⟩).length = m.l.length := zcf ..
 exact ⟨⟨by dsimp only; rw [hlen]; exact ho.rd, sH hm.l.el ⟨hO, hn, hq⟩⟩, hm.s, by dsimp only; rw [hlen]; exact ho.le, hm.sc, by dsimp only; rw [hlen]; exact hm.ln, hm.sn, hm.sq⟩
def eM (w' : World) (F : Except Nat (MailP × List Int)) (m : MlC) (U : Option Addr) (us : List Int) (k : Nat) : Prop := RdL w' m ∧ Rd w' 1 U us.length (IB us) ∧ us.length ≤ 1000000 ∧ ((k = 0 ∧ F = .ok (m.p, us)) ∨ (k ≠ 0 ∧ F = .error k ∧ m = qP ∧ us = []))
theorem eM.err {w' : World} {F : Except Nat (MailP × List Int)} {k : Nat} (hk : k ≠ 0) (h : F = .error k) : eM w' F qP none [] k := ⟨RdL.zero _, Rd.nil _ _ _, jd, .inr ⟨hk, h, rfl, rfl⟩⟩
theorem uA (a : List Int) (x : Int) : IB (a ++ [x]) = IB a ++ IB [x] := by simp [IB]
theorem uI (a : List Int) : ∀ v ∈ IB a, v.oneCell' = true := by
 intro v hv
 obtain ⟨x, _, rfl⟩ := List.mem_map.1 hv
 rfl
theorem rV {l : List MsgP} {ps : List Int} {i : Nat} (h : i < ps.length) : eX l (ps.take (i + 1)) = eX l (ps.take i) ++ [(l[(ps[i] - 1).toNat]?).getD ⟨0, 0, 0, 0, 0, []⟩] := by
 unfold eX
 rw [zar, zc h, zaw]
 rfl
theorem pV {l : List MsgP} {ps : List Int} {i : Nat} (h : i < ps.length) : eX l ps = eX l (ps.take i) ++ (l[(ps[i] - 1).toNat]?).getD ⟨0, 0, 0, 0, 0, []⟩ :: eX l (ps.drop (i + 1)) := by
 unfold eX
 conv => lhs; rw [← zbd i ps, zax h]
 rw [zaw, zal]
theorem uX (x : Int) (g : Nat) (A : Option Addr) (n c : Nat) (w : World) (hb : Blk w g 41 #[.slice A n c]) :
  Calls Tryz.prog 89 #[.int .i64 x, .pointer (some ⟨g, 0, none⟩)] w fun e w' => e = .returned (.bool (decide (x < 1 ∨ (n : Int) < x))) ∧ Frm [] w w' := by
 refine VC.calls (nt := 12) (res := #[.tmp 3]) Tryz.func89 rfl Tryz.ntmps89 Tryz.results89 rfl ?_
 refine jS (jR (ja rfl (jO (jN (jv2 0 1 ?_)))))
 refine jS ?_
 refine VC.split1 [] .nil 3 (.bool (decide (x < 1 ∨ (n : Int) < x))) ?_ ?_
 ·
  refine jR ?_
  refine jm rfl (jb rfl rfl (Bin.lss _ 1) ?_)
  by_cases hs5 : x < 1
  ·
   refine jM ?_
   refine jU ?_
   refine jU ?_
   refine jU ?_
   refine jU ?_
   refine je (Run.pickT rfl rfl au) (ja rfl (jO ?_))
   refine jN ⟨(js1 (jC (by first | exact (decide_eq_true (.inl hs5)).symm | exact decide_eq_decide.2 ⟨.inr, fun h => h.resolve_left hs5⟩))), rfl⟩
  refine jM ?_
  refine jG ?_
  refine jk (Run.load rfl zao (hb.cell 0)) ?_
  refine jk (Run.lenS rfl zk) ?_
  refine jk (Run.bin rfl rfl (Bin.gtr _ _)) ?_
  refine je (Run.pickF rfl rfl au) (ja rfl (jO ?_))
  refine jN ⟨(js1 (jC (by first | exact (decide_eq_true (.inl hs5)).symm | exact decide_eq_decide.2 ⟨.inr, fun h => h.resolve_left hs5⟩))), rfl⟩
 intro Γ hΓ
 refine jN (VC.sub _ hΓ ?_)
 refine jT ?_
 refine qC rfl ?_
 exact ⟨rfl, Frm.refl _ _⟩
end
section
open Go.RowKit Go.Sort
set_option maxHeartbeats 2000000 in
theorem wI (m : MlC) (q t : Tx) (P : Option Addr) (cp : Nat) (ps : List Int) (w : World) (hm : RdL w m) (hq : q.length ≤ 900000) (ht : t.length ≤ 900000) (hps : Rd w 1 P ps.length (IB ps)) (hpn : ps.length ≤ 1000000) (hv : cY w) :
  Calls Tryz.prog 37 #[m.val, encStr q, .slice P ps.length cp, encStr t] w fun e w' => ∃ (m' : MlC) (U : Option Addr) (du : Nat) (us : List Int) (k : Nat), e = .returned (.tuple #[m'.val, .slice U us.length du, .int .i64 ((k : Nat) : Int)]) ∧ eM w' (dN m.p q ps t) m' U us k ∧ Kt w w' m m' ∧ Frm [] w w' := by
 have hln := hm.ln
 have hpl := dZ m
 refine VC.calls (nt := 106) (res := #[.cell 8 25, .tmp 9, .tmp 10]) Tryz.func37 rfl Tryz.ntmps37 Tryz.results37 rfl ?_
 refine jS (jR ?_)
 refine Ops.m (qJ.box rfl) rfl ?_
 rintro _ w1 ⟨rfl, hF_w1⟩
 have hb1 : Blk w1 w.heap.size 25 #[.slice m.A m.l.length m.c, .slice m.S m.ss.length m.d, .int .i64 m.v, .int .i64 m.b] := hF_w1.blk
 have K := hF_w1.frm
 generalize hg1 : w.heap.size = g1 at hb1 ⊢
 refine Ops.m (qJ.alloc qI) rfl ?_
 rintro _ w2 ⟨rfl, hF2⟩
 have hb4 := hF2.blk
 have hg4 : w.heap.size ≤ w1.heap.size := K.size
 have hb1 := hb1.frm hF2.frm jp
 have hl1 := hb1.lt
 have hl4 := hb4.lt
 have K := K.trans hF2.frm jp
 have hne14 : g1 ≠ w1.heap.size := by have := hF_w1.size; omega
 have hg1s : w.heap.size ≤ g1 := jo
 generalize hg4' : w1.heap.size = g4 at hb4 hg4 hne14 hl4 ⊢
 refine ja rfl (jz 0 (jO (jN (jv5 1 2 3 4 8 ?_))))
 refine jS (jS (jR (je (Run.loadA rfl zg zb hb1.cells (by first | rfl | (simp; done))) ?_)))
 refine Ops.cl (jE1 zdq) (dR m _ (hm.frm K) (hv.frm K)) rfl ?_
 rintro e w3 ⟨rfl, hf3⟩
 refine ⟨_, rfl, ?_⟩
 have hb1 := hb1.frm hf3 jp
 have hb4 := hb4.frm hf3 jp
 have hKs_hf3 := K.size
 have K := K.trans hf3 jp
 refine je (Run.not rfl) (jO (jN (jv6 1 2 3 4 8 25 ?_)))
 refine VC.condB rfl (fun hc1 => ?_) (fun hc1 => ?_)
 ·
  have hc1 : ¬ bW m.p := by simpa using hc1
  refine jS (jR (je (Run.build evs.nil qI (qR).choose_spec.1 (qR).choose_spec.2 rfl) ?_))
  refine Ops.st (qW.storeA rfl rfl zb hb4 rfl (MlC.cells_one qP)) ?_
  rintro wz ⟨hb4, (hfwz : Frm [g4] _ _), hswz⟩
  have hb4 : Blk wz g4 25 qP.cells.toArray := hb4
  have K := K.own hfwz (fun y hy => by rw [za] at hy; omega)
  refine ja rfl (jz 1 (jO (jN (jv3 8 9 10 ?_))))
  refine jT ?_
  refine qQ (bZ ?_)
  refine qS rfl zg zb (fun j v hj => hb4.cells j v hj) (by first | rfl | (simp; done)) ?_
  refine qK rfl ?_
  refine qK rfl ?_
  refine qB ?_
  exact ⟨qP, none, 0, [], 1, rfl, eM.err jd (by unfold dN; rw [if_pos hc1]), Kt.zero _ _ _, K⟩
 have hc1 : bW m.p := by simpa using hc1
 obtain ⟨hm24, hv1, hv2, hb0, hb2, hr, hin⟩ := cA hc1
 refine jQ (jN (jv5 1 2 3 4 8 ?_))
 refine jS (jR (je (Run.loadA rfl zg zb hb1.cells (by first | rfl | (simp; done))) (jM ?_)))
 refine Ops.cl (jE2 zcy) (cV m q _ (hm.frm K).l hln jo hr (hv.frm K)) rfl ?_
 rintro e w5 ⟨ii, rfl, hposii, hfw5⟩
 refine ⟨_, rfl, ?_⟩
 have hb1 := hb1.frm hfw5 jp
 have hb4 := hb4.frm hfw5 jp
 have hKs_hfw5 := K.size
 have K := K.trans hfw5 jp
 refine jm rfl (je (Run.extract rfl rfl) (je (Run.extract rfl rfl) (ja rfl (ja rfl (jO (jN (jv7 1 2 3 4 8 11 12 ?_)))))))
 refine jS (jR (je (Run.loadA rfl zg zb hb1.cells (by first | rfl | (simp; done))) (jM ?_)))
 refine Ops.cl (jE2 zcy) (cV m t _ (hm.frm K).l hln jo hr (hv.frm K)) rfl ?_
 rintro e w6 ⟨kk, rfl, hposkk, hfw6⟩
 refine ⟨_, rfl, ?_⟩
 have hb1 := hb1.frm hfw6 jp
 have hb4 := hb4.frm hfw6 jp
 have hKs_hfw6 := K.size
 have K := K.trans hfw6 jp
 refine jm rfl (je (Run.extract rfl rfl) (je (Run.extract rfl rfl) (ja rfl (ja rfl (jO (jN (jv9 1 2 3 4 8 11 12 13 14 ?_)))))))
 refine jS (jB (jS ?_))
 refine VC.split1 [(2, _), (4, _), (8, _), (11, _), (12, _), (13, _), (14, _)] (js7 rfl rfl rfl rfl rfl rfl rfl) 39 (.bool (decide (¬ isN q ∨ ¬ isN t))) ?_ ?_
 ·
  refine jR (jM ?_)
  refine Ops.cl (jE1 zbw) (bI q _ jo (hv.frm K)) rfl ?_
  rintro e _ ⟨rfl, rfl⟩
  refine ⟨_, rfl, ?_⟩
  by_cases hs41 : isN q
  ·
   refine je (Run.not rfl) (jM ?_)
   refine jG ?_
   refine Ops.clg rfl au (jE1 zbw) (bI t _ jo (hv.frm K)) rfl ?_
   rintro e _ ⟨rfl, rfl⟩
   refine ⟨_, rfl, ?_⟩
   by_cases hs45 : isN t
   ·
    refine jk (Run.not rfl) ?_
    refine je (Run.pickF rfl rfl au) (ja rfl (jO ?_))
    refine jN ⟨(js8 (jC (by first | (simp [hs41, hs45]; done) | (simp [hs41]; done))) rfl rfl rfl rfl rfl rfl rfl), rfl⟩
   refine jk (Run.not rfl) ?_
   refine je (Run.pickF rfl rfl au) (ja rfl (jO ?_))
   refine jN ⟨(js8 (jC (by first | (simp [hs41, hs45]; done) | (simp [hs41]; done))) rfl rfl rfl rfl rfl rfl rfl), rfl⟩
  refine je (Run.not rfl) (jM ?_)
  refine jU ?_
  refine jU ?_
  refine jU ?_
  refine je (Run.pickT rfl rfl au) (ja rfl (jO ?_))
  refine jN ⟨(js8 (jC (by first | (simp [hs41, hs45]; done) | (simp [hs41]; done))) rfl rfl rfl rfl rfl rfl rfl), rfl⟩
 intro Γ hΓ
 refine jN (VC.sub _ hΓ ?_)
 refine jD rfl (fun hc2 => ?_) fun hc2 => ?_
 ·
  refine jS (jR (je (Run.build evs.nil qI (qR).choose_spec.1 (qR).choose_spec.2 rfl) ?_))
  refine Ops.st (qW.storeA rfl rfl zb hb4 rfl (MlC.cells_one qP)) ?_
  rintro wz ⟨hb4, (hfwz : Frm [g4] _ _), hswz⟩
  have hb4 : Blk wz g4 25 qP.cells.toArray := hb4
  have K := K.own hfwz (fun y hy => by rw [za] at hy; omega)
  refine ja rfl (jz 18 (jO (jN (jv3 8 9 10 ?_))))
  refine jT ?_
  refine qN (qQ (bZ ?_))
  refine qS rfl zg zb (fun j v hj => hb4.cells j v hj) (by first | rfl | (simp; done)) ?_
  refine qK rfl ?_
  refine qK rfl ?_
  refine qB ?_
  exact ⟨qP, none, 0, [], 18, rfl, eM.err jd (by unfold dN; rw [if_neg (fun h => h hc1), if_pos hc2]), Kt.zero _ _ _, K⟩
 obtain ⟨hq1, ht1⟩ : isN q ∧ isN t := by
  rw [not_or, Classical.not_not, Classical.not_not] at hc2
  exact hc2
 refine jS ?_
 refine VC.split1 [(2, _), (4, _), (8, _), (11, _), (13, _)] (js5 rfl rfl rfl rfl rfl) 49 (.bool (decide (qV q ∉ qL m.p ∨ qV t ∉ qL m.p))) ?_ ?_
 ·
  refine jR (jM ?_)
  by_cases hs50 : qV q ∈ qL m.p
  ·
   refine je (Run.not rfl) (jM ?_)
   refine jG ?_
   by_cases hs53 : qV t ∈ qL m.p
   ·
    refine jk (Run.not rfl) ?_
    refine je (Run.pickF rfl rfl au) (ja rfl (jO ?_))
    refine jN ⟨(js6 (jC (by first | (simp [hs50, hs53]; done) | (simp [hs50]; done))) rfl rfl rfl rfl rfl), rfl⟩
   refine jk (Run.not rfl) ?_
   refine je (Run.pickF rfl rfl au) (ja rfl (jO ?_))
   refine jN ⟨(js6 (jC (by first | (simp [hs50, hs53]; done) | (simp [hs50]; done))) rfl rfl rfl rfl rfl), rfl⟩
  refine je (Run.not rfl) (jM ?_)
  refine jU ?_
  refine jU ?_
  refine je (Run.pickT rfl rfl au) (ja rfl (jO ?_))
  refine jN ⟨(js6 (jC (by first | (simp [hs50, hs53]; done) | (simp [hs50]; done))) rfl rfl rfl rfl rfl), rfl⟩
 intro Γ hΓ
 refine jN (VC.sub _ hΓ ?_)
 refine jD rfl (fun hc3 => ?_) fun hc3 => ?_
 ·
  refine jS (jR (je (Run.build evs.nil qI (qR).choose_spec.1 (qR).choose_spec.2 rfl) ?_))
  refine Ops.st (qW.storeA rfl rfl zb hb4 rfl (MlC.cells_one qP)) ?_
  rintro wz ⟨hb4, (hfwz : Frm [g4] _ _), hswz⟩
  have hb4 : Blk wz g4 25 qP.cells.toArray := hb4
  have K := K.own hfwz (fun y hy => by rw [za] at hy; omega)
  refine ja rfl (jz 6 (jO (jN (jv3 8 9 10 ?_))))
  refine jT ?_
  refine qN (qQ (bZ ?_))
  refine qS rfl zg zb (fun j v hj => hb4.cells j v hj) (by first | rfl | (simp; done)) ?_
  refine qK rfl ?_
  refine qK rfl ?_
  refine qB ?_
  exact ⟨qP, none, 0, [], 6, rfl, eM.err jd (sL hc1 hq1 ht1 hc3), Kt.zero _ _ _, K⟩
 obtain ⟨hqn, htn⟩ : qV q ∈ qL m.p ∧ qV t ∈ qL m.p := by
  rw [not_or, Classical.not_not, Classical.not_not] at hc3
  exact hc3
 obtain ⟨hii, hiie⟩ := pJ hr hposii hqn
 obtain ⟨hkk, hkke⟩ := pJ hr hposkk htn
 have hF := sO (ps := ps) hc1 hq1 ht1 (fY hr hii hiie) (fY hr hkk hkke)
 have hyl := ((hm.frm K).l.el _ (zr hii)).n
 have hzl := ((hm.frm K).l.el _ (zr hkk)).n
 have hym := zr hii
 have hzm := zr hkk
 generalize hy : m.l[ii] = y at *
 generalize hz : m.l[kk] = z at *
 have ely : ∀ W, Frm [] w W → ∃ ad, m.A = some ad ∧ ∀ j v, y.cells[j]? = some v → W.cell? ((ad.add (ii * 4)).add j) = some v := fun W hW => by
  obtain ⟨ad, hA, h⟩ := (hm.frm hW).l.elem hii
  rw [hy] at h
  exact ⟨ad, hA, h⟩
 have elz : ∀ W, Frm [] w W → ∃ ad, m.A = some ad ∧ ∀ j v, z.cells[j]? = some v → W.cell? ((ad.add (kk * 4)).add j) = some v := fun W hW => by
  obtain ⟨ad, hA, h⟩ := (hm.frm hW).l.elem hkk
  rw [hz] at h
  exact ⟨ad, hA, h⟩
 have hlen0 : (Ms y.l).length = y.l.length := by simp [Ms]
 obtain ⟨ad, had, hel⟩ := ely _ K
 refine jQ ?_
 refine qT (jN ?_)
 refine jv5 2 4 8 11 13 ?_
 refine jS (jR (jf rfl zd rfl zx (jl rfl zah (hb1.cell 0) (jm rfl (je (Run.indexS ii (show _ = some (Value.slice (some ad) m.l.length m.c) by rw [← had]; rfl) rfl ze zo hii) (jf rfl zy rfl zf (jf rfl zj rfl zaa (jl rfl zao (hel 3 (.slice y.A y.l.length y.c) rfl) ?_))))))))
 refine Ops.m (qJ.alloc qX1) rfl ?_
 rintro _ w7 ⟨rfl, hF7⟩
 have hb15o := hF7.blk
 have hlt1 := hb1.lt
 have hlt4 := hb4.lt
 have hKs7 := K.size
 have hb1 := hb1.frm hF7.frm jp
 have hb4 := hb4.frm hF7.frm jp
 have K := K.trans hF7.frm jp
 have hne1 : g1 ≠ w6.heap.size := jo
 have hne4 : g4 ≠ w6.heap.size := jo
 generalize hg15 : w6.heap.size = g15 at hb15o hKs7 hne1 hne4 ⊢
 refine Ops.st (qW.store rfl rfl zaa hb15o rfl rfl) ?_
 rintro w8 ⟨hbn, (hf8 : Frm [g15] _ _), hs8⟩
 have hb15 : Blk w8 g15 41 #[.slice y.A y.l.length y.c] := hbn
 have hb1 := hb1.frm hf8 (by simp; omega)
 have hb4 := hb4.frm hf8 (by simp; omega)
 have K := K.own hf8 (fun y hy => by rw [za] at hy; omega)
 refine jO (jN (jv5 2 4 8 13 15 ?_))
 refine jS (jS (jR (jm rfl (je (Run.mkFunc evs.nil (evs.cons rfl evs.nil)) ?_))))
 refine Ops.cl (jE2 Tryz.call88) (wF 89 [.pointer (some ⟨g15, 0, none⟩)] (fun x => decide (x < 1 ∨ ((y.l.length : Nat) : Int) < x)) P cp ps _ (hps.frm K jp) hpn [] ⟨Tryz.call89, fun W x hW => uX x g15 y.A y.l.length y.c W (hb15.frm hW jp)⟩) rfl ?_
 rintro e w9 ⟨rfl, hf9⟩
 refine ⟨_, rfl, ?_⟩
 have hb1 := hb1.frm hf9 jp
 have hb4 := hb4.frm hf9 jp
 have hb15 := hb15.frm hf9 jp
 have K := K.trans hf9 jp
 refine jO (jN (jv6 2 4 8 13 15 66 ?_))
 refine VC.condB rfl (fun hc4 => ?_) (fun hc4 => ?_)
 ·
  have hc4 : ∃ p ∈ ps, p < 1 ∨ ((y.l.length : Nat) : Int) < p := by simpa using hc4
  have hFe : dN m.p q ps t = .error 4 := by rw [hF, if_pos]; obtain ⟨p, h1, h2⟩ := hc4; exact ⟨p, h1, by show p < 1 ∨ ((Ms y.l).length : Int) < p; rw [hlen0]; exact h2⟩
  refine jS (jR (je (Run.build evs.nil qI (qR).choose_spec.1 (qR).choose_spec.2 rfl) ?_))
  refine Ops.st (qW.storeA rfl rfl zb hb4 rfl (MlC.cells_one qP)) ?_
  rintro wz ⟨hb4, (hfwz : Frm [g4] _ _), hswz⟩
  have hb4 : Blk wz g4 25 qP.cells.toArray := hb4
  have K := K.own hfwz (fun y hy => by rw [za] at hy; omega)
  refine ja rfl (jz 4 (jO (jN (jv3 8 9 10 ?_))))
  refine jT ?_
  refine qQ (bZ ?_)
  refine qS rfl zg zb (fun j v hj => hb4.cells j v hj) (by first | rfl | (simp; done)) ?_
  refine qK rfl ?_
  refine qK rfl ?_
  refine qB ?_
  exact ⟨qP, none, 0, [], 4, rfl, eM.err jd hFe, Kt.zero _ _ _, K⟩
 have hc4 : ¬ ∃ p ∈ ps, p < 1 ∨ ((y.l.length : Nat) : Int) < p := by simpa using hc4
 have hF2 : dN m.p q ps t = match cF z.p.2 (eX (Ms y.l) ps) with
   | .error e => .error e
   | .ok (b', us) => .ok ({ m.p with l := bU m.p.l (qV t) b' }, us) := by
  rw [hF, if_neg]
  · rfl
  rintro ⟨p, h1, h2⟩
  rw [show y.p.2.l = Ms y.l from rfl, hlen0] at h2
  exact hc4 ⟨p, h1, h2⟩
 obtain ⟨ad, had, hel⟩ := elz _ K
 refine jQ (jN (jv5 2 4 8 13 15 ?_))
 refine jS (jR (jf rfl zd rfl zx (jl rfl zah (hb1.cell 0) (jm rfl (je (Run.indexS kk (show _ = some (Value.slice (some ad) m.l.length m.c) by rw [← had]; rfl) rfl ze zo hkk) (jf rfl zy rfl zf (je (Run.loadA rfl zad zf (cs := BVc z.v z.n z.A z.l.length z.c) (fun j v hj => by rw [Go.Proofs.YtgmbmfpfhcekiaaGreat.add_add]; exact hel (1 + j) v (by rw [zdb]; exact hj)) (by first | rfl | (simp; done))) ?_)))))))
 refine Ops.m (qJ.alloc bH) rfl ?_
 rintro _ w10 ⟨rfl, hF10⟩
 have hb16o := hF10.blk
 have hlt1 := hb1.lt
 have hlt4 := hb4.lt
 have hlt15 := hb15.lt
 have hKs10 := K.size
 have hb1 := hb1.frm hF10.frm jp
 have hb4 := hb4.frm hF10.frm jp
 have hb15 := hb15.frm hF10.frm jp
 have K := K.trans hF10.frm jp
 have hne16 : g1 ≠ w9.heap.size := jo
 have hne46 : g4 ≠ w9.heap.size := jo
 have hne156 : g15 ≠ w9.heap.size := jo
 generalize hg16 : w9.heap.size = g16 at hb16o hKs10 hne16 hne46 hne156 ⊢
 refine Ops.st (qW.storeA rfl rfl zf hb16o rfl (bK z.v z.n z.A z.l.length z.c)) ?_
 rintro w11 ⟨hbn, (hf11 : Frm [g16] _ _), hs11⟩
 have hb16 : Blk w11 g16 43 (BVc z.v z.n z.A z.l.length z.c).toArray := hbn
 have hb1 := hb1.frm hf11 (by simp; omega)
 have hb4 := hb4.frm hf11 (by simp; omega)
 have hb15 := hb15.frm hf11 (by simp; omega)
 have K := K.own hf11 (fun y hy => by rw [za] at hy; omega)
 refine jO (jN (jv6 2 4 8 13 15 16 ?_))
 refine jS (jR (ja rfl (jO (jN (jS (jS (jR (jm rfl (je (Run.lenS rfl zat) ?_)))))))))
 refine jx .i64 0 ?_
 refine jO (jN (jv9 4 8 13 15 16 17 74 75 76 ?_))
 refine jB ?_
 refine VC.loop (σ := (Nat × Int × Int) × (Option Addr × Nat × List Mc) × (Option Addr × Nat × List Int)) (fun s => [(4, .pointer (some ⟨g1, 0, none⟩)), (8, .pointer (some ⟨g4, 0, none⟩)), (13, .int .i64 ((kk : Nat) : Int)), (15, .pointer (some ⟨g15, 0, none⟩)), (16, .pointer (some ⟨g16, 0, none⟩)), (17, .slice s.2.2.1 s.2.2.2.2.length s.2.2.2.1), (74, .slice P ps.length cp), (75, .int .i64 ((ps.length : Nat) : Int)), (76, .int .i64 ((s.1.1 : Nat) : Int))]) (fun s wr => s.1.1 ≤ ps.length ∧ Blk wr g1 25 #[.slice m.A m.l.length m.c, .slice m.S m.ss.length m.d, .int .i64 m.v, .int .i64 m.b] ∧ Blk wr g4 25 qP.cells.toArray ∧ Blk wr g15 41 #[.slice y.A y.l.length y.c] ∧ Blk wr g16 43 (BVc s.1.2.1 s.1.2.2 s.2.1.1 s.2.1.2.2.length s.2.1.2.1).toArray ∧ dW wr m s.2.1.1 s.2.1.2.1 s.2.1.2.2 ∧ s.2.1.2.2.length ≤ 900000 ∧ cF z.p.2 (eX (Ms y.l) (ps.take s.1.1)) = .ok (⟨s.1.2.1, s.1.2.2, Ms s.2.1.2.2⟩, s.2.2.2.2) ∧ Own wr 3 1 s.2.2.1 s.2.2.2.2.length s.2.2.2.1 (IB s.2.2.2.2) ∧ s.2.2.2.2.length = s.1.1 ∧ (∀ b ∈ ob s.2.2.1, w.heap.size ≤ b) ∧ Frm [] w wr) (fun s => ps.length - s.1.1) ((0, z.v, z.n), (z.A, z.c, z.l), (none, 0, [])) (js9 rfl rfl rfl rfl rfl rfl rfl rfl rfl) ⟨zam _, hb1, hb4, hb15, hb16, .inr ⟨z, hzm, rfl, rfl⟩, jo, rfl, Own.nil _ _ _, rfl, by simp [ob], K⟩ ?_
 rintro ⟨⟨i, v, n⟩, ⟨B, d, lm⟩, ⟨U, du, us⟩⟩ wr ⟨hi, hb1, hb4, hb15, hb16, hBF, hlm, hap, hou, hul, hob, K⟩
 dsimp only at *
 refine jS (jR (jb rfl rfl (Bin.lssN _ _) (jO (jN (jS ?_)))))
 refine jD rfl (fun hc5 => ?_) fun hc5 => ?_
 ·
  obtain ⟨adp, hadp, hcp⟩ := (hps.frm K jp).elem hc5
  have hcp := hcp 0 (.int .i64 ps[i]) (by simp [IB, hc5])
  have hpi : ¬ (ps[i] < 1 ∨ ((y.l.length : Nat) : Int) < ps[i]) := fun h => hc4 ⟨_, zr hc5, h⟩
  obtain ⟨pn, hpn1⟩ : ∃ pn : Nat, ps[i] = ((pn + 1 : Nat) : Int) := ⟨(ps[i] - 1).toNat, jo⟩
  have hpl2 : pn < y.l.length := jo
  rw [hpn1] at hcp
  have hsn := @rV (Ms y.l) ps i hc5
  have hsp := @pV (Ms y.l) ps i hc5
  have hgd : ((Ms y.l)[(ps[i] - 1).toNat]?).getD ⟨0, 0, 0, 0, 0, []⟩ = (y.l[pn]).m := by
   rw [hpn1, show (((pn + 1 : Nat) : Int) - 1).toNat = pn by omega]
   simp [Ms, zc hpl2]
  rw [hgd] at hsn hsp
  have hyA := (((hm.frm K).l.el _ hym).rd).fl _ (zr hpl2)
  obtain ⟨ady, hady, hely⟩ : ∃ ad, y.A = some ad ∧ ∀ W, Frm [] wr W → ∀ j v, (y.l[pn]).cells[j]? = some v → W.cell? ((ad.add (pn * 6)).add j) = some v := by
   obtain ⟨ad, hA, _⟩ := ((hm.frm K).l.el _ hym).rd.elem hpl2
   refine ⟨ad, hA, fun W hW => ?_⟩
   obtain ⟨ad', hA', h⟩ := ((hm.frm (K.trans hW jp)).l.el _ hym).rd.elem hpl2
   rw [hA] at hA'
   cases hA'
   exact h
  refine jQ (jN (jv9 4 8 13 15 16 17 74 75 76 ?_))
  refine jS (jB (jS (jR (je (Run.indexS i (show _ = some (Value.slice (some adp) ps.length cp) by rw [← hadp]; rfl) rfl zat zi hc5) (jl rfl zn hcp (ja rfl (jO (jN (jv10 4 8 13 15 16 17 19 74 75 76 ?_)))))))))
  refine jS ?_
  refine VC.held (fun W => Frm [] wr W) jK ?_
  have hS : Frm [] wr wr.drew := (Frm.refl _ _).drew
  refine jH 0 rfl hS (fun w0 hw0 => Run.loadA rfl zad zf (fun j v hj => (hb16.frm hw0 jp).cells j v hj) (by first | rfl | (simp; done))) ?_
  refine jH 1 rfl hS (fun w0 hw0 => Run.load rfl zao ((hb15.frm hw0 jp).cell 0)) ?_
  refine jH 2 rfl hS (fun w0 hw0 => Run.mv rfl) ?_
  refine jH 3 rfl hS (fun w0 hw0 => Run.bin rfl rfl (Bin.sub_i64 _ 1 jo jo)) ?_
  rw [zew]
  refine jH 4 rfl hS (fun w0 hw0 => Run.indexS pn (show _ = some (Value.slice (some ady) y.l.length y.c) by rw [← hady]; rfl) rfl zk zt hpl2) ?_
  refine jH 5 rfl hS (fun w0 hw0 => Run.loadA rfl zaz zt (fun j v hj => hely _ hw0 j v hj) (by first | rfl | (simp; done))) ?_
  refine qZ.par (target := #[true, true, true, true, true, true, true, true, true, true, true, true, false, false, false]) [⟨6, 87, [], false, fun _ u lo hi W => ∃ v' n' B d l' k', u = .tuple #[.agg #[.int .i64 v', .int .i64 n', .slice B l'.length d], .int .i64 (if k' = 0 then n else 0), .int .i64 ((k' : Nat) : Int)] ∧ dH W (bG ⟨v, n, Ms lm⟩ (y.l[pn]).m) v' n' B d l' k' ∧ OwM W B d l'⟩, PT.mv 7 80 87 [], PT.part 8 88 80 0 [87], PT.part 9 89 80 1 [87], PT.part 10 90 80 2 [87], PT.made 11 20 43 #[.int .i64 0, .int .i64 0, .slice none 0 0]] 6 rfl jK (show List.Nodup ([87, 80, 88, 89, 90, 20] : List Nat) by decide) (show List.Nodup ([6, 7, 8, 9, 10, 11] : List Nat) by decide) (fun t ht => ?_) (fun t ht => ?_) (fun W hW => ?_) (fun t ht => ?_) (fun t ht => ?_) (fun t ht W g hW hD hE => ?_) (fun g W hW hA => ?_)
  ·
   simp only [zv, zu, or_false] at ht
   rcases ht with rfl | rfl | rfl | rfl | rfl | rfl
   · rfl
   · rfl
   · rfl
   · rfl
   · rfl
   rfl
  ·
   simp only [zv, zu, or_false] at ht
   rcases ht with rfl | rfl | rfl | rfl | rfl | rfl
   · exact fun x hx => absurd hx jp
   ·
    intro x hx
    simp only [zv, zu, or_false] at hx
    rcases hx with rfl
    exact ⟨_, (.head _), rfl⟩
   ·
    intro x hx
    simp only [zv, zu, or_false] at hx
    rcases hx with rfl | rfl
    · exact ⟨_, (.tail _ (.head _)), rfl⟩
    exact ⟨_, (.head _), rfl⟩
   ·
    intro x hx
    simp only [zv, zu, or_false] at hx
    rcases hx with rfl | rfl
    · exact ⟨_, (.tail _ (.head _)), rfl⟩
    exact ⟨_, (.head _), rfl⟩
   ·
    intro x hx
    simp only [zv, zu, or_false] at hx
    rcases hx with rfl | rfl
    · exact ⟨_, (.tail _ (.head _)), rfl⟩
    exact ⟨_, (.head _), rfl⟩
   exact fun x hx => absurd hx jp
  · exact hS.trans hW jp
  ·
   simp only [zv, zu, or_false] at ht
   rcases ht with rfl | rfl | rfl | rfl | rfl | rfl
   · exact fun _ v lo hi W W' hf ⟨v', n', B, d, l', k', h1, h2, h3⟩ => ⟨v', n', B, d, l', k', h1, ⟨h2.1.frm hf, h2.2⟩, h3.frm hf⟩
   · exact fun _ _ _ _ _ _ _ h => h
   · exact fun _ _ _ _ _ _ _ h => h
   · exact fun _ _ _ _ _ _ _ h => h
   · exact fun _ _ _ _ _ _ _ h => h
   exact PT.made_st
  ·
   simp only [zv, zu, or_false] at ht
   rcases ht with rfl | rfl | rfl | rfl | rfl | rfl
   · exact fun _ _ _ _ _ _ _ h => h
   · exact fun ρ ρ' v lo hi W h e => e.trans (h _ (.head _))
   · exact fun ρ ρ' v lo hi W h ⟨xs, h1, h2⟩ => ⟨xs, (h _ (.head _)).symm.trans h1, h2⟩
   · exact fun ρ ρ' v lo hi W h ⟨xs, h1, h2⟩ => ⟨xs, (h _ (.head _)).symm.trans h1, h2⟩
   · exact fun ρ ρ' v lo hi W h ⟨xs, h1, h2⟩ => ⟨xs, (h _ (.head _)).symm.trans h1, h2⟩
   exact fun _ _ _ _ _ _ _ h => h
  ·
   simp only [zv, zu, or_false] at ht
   rcases ht with rfl | rfl | rfl | rfl | rfl | rfl
   ·
    refine bB.cl rfl rfl rfl rfl rfl (jE2 Tryz.call85) (nK v n B d lm y.l[pn] W ((hBF.frm (hS.trans hW jp)).rdm (hm.frm (K.trans (hS.trans hW jp) jp))) hlm (hyA.frm (hS.trans hW jp) jp)) ?_
    rintro e W' ⟨hf, v', n', B, d, l', k', rfl, h2, h3⟩
    exact ⟨_, rfl, hf, v', n', B, d, l', k', rfl, h2, h3⟩
   · exact bB.r rfl rfl rfl rfl (fun _ => Run.mv rfl) rfl
   ·
    have h1 := hD _ (.tail _ (.head _)) jp
    have h2 := hD _ (.head _) jp
    obtain ⟨v', n', B, d, l', k', h2e, _⟩ := h2
    exact bB.r rfl rfl rfl rfl (fun _ => Run.extract (congrArg some (h1.trans h2e)) rfl) ⟨_, h1.trans h2e, rfl⟩
   ·
    have h1 := hD _ (.tail _ (.head _)) jp
    have h2 := hD _ (.head _) jp
    obtain ⟨v', n', B, d, l', k', h2e, _⟩ := h2
    exact bB.r rfl rfl rfl rfl (fun _ => Run.extract (congrArg some (h1.trans h2e)) rfl) ⟨_, h1.trans h2e, rfl⟩
   ·
    have h1 := hD _ (.tail _ (.head _)) jp
    have h2 := hD _ (.head _) jp
    obtain ⟨v', n', B, d, l', k', h2e, _⟩ := h2
    exact bB.r rfl rfl rfl rfl (fun _ => Run.extract (congrArg some (h1.trans h2e)) rfl) ⟨_, h1.trans h2e, rfl⟩
   exact PT.made_ok rfl rfl bH
  have hA87 := hA.1 _ (.head _)
  have hA80 := hA.1 _ (.tail _ (.head _))
  have hA88 := hA.1 _ (.tail _ (.tail _ (.head _)))
  have hA89 := hA.1 _ (.tail _ (.tail _ (.tail _ (.head _))))
  have hA90 := hA.1 _ (.tail _ (.tail _ (.tail _ (.tail _ (.head _)))))
  have hA20 := hA.1 _ (.tail _ (.tail _ (.tail _ (.tail _ (.tail _ (.head _))))))
  have hA87_20 := hA.2 _ (.head _) _ (.tail _ (.tail _ (.tail _ (.tail _ (.tail _ (.head _)))))) (show (87 : Nat) ≠ 20 by decide)
  clear hA
  simp only [zal, zbo, zci, zav]
  dsimp only at hA87 hA80 hA88 hA89 hA90 hA20 hA87_20
  generalize g 87 = q87 at *
  obtain ⟨u87, lo87, hi87⟩ := q87
  generalize g 80 = q80 at *
  obtain ⟨u80, lo80, hi80⟩ := q80
  generalize g 88 = q88 at *
  obtain ⟨u88, lo88, hi88⟩ := q88
  generalize g 89 = q89 at *
  obtain ⟨u89, lo89, hi89⟩ := q89
  generalize g 90 = q90 at *
  obtain ⟨u90, lo90, hi90⟩ := q90
  generalize g 20 = q20 at *
  obtain ⟨u20, lo20, hi20⟩ := q20
  dsimp only at hA87 hA80 hA88 hA89 hA90 hA20 hA87_20 ⊢
  obtain ⟨⟨⟨rfl, hlt20⟩, hb20⟩, hA20⟩ := hA20
  obtain ⟨v', n', B', d', l', k', rfl, hI, hO⟩ := hA87.1
  have hS := hS.trans hW jp
  change wr.heap.size ≤ _ ∧ _ at hA20
  clear hA87
  obtain rfl := hA80.1
  obtain ⟨xs88, e1_88, e2_88⟩ := hA88.1
  injection e1_88 with e1_88
  subst e1_88
  have e2_88 := Option.some.inj e2_88
  subst e2_88
  obtain ⟨xs89, e1_89, e2_89⟩ := hA89.1
  injection e1_89 with e1_89
  subst e1_89
  have e2_89 := Option.some.inj e2_89
  subst e2_89
  obtain ⟨xs90, e1_90, e2_90⟩ := hA90.1
  injection e1_90 with e1_90
  subst e1_90
  have e2_90 := Option.some.inj e2_90
  subst e2_90
  have hbo := hb20
  refine qZ.st 12 rfl jK (qW.storeA rfl rfl zf hb20 rfl (bK v' n' B' l'.length d')) trivial rfl ?_
  rintro w12 ⟨hbn, (hf_w12 : Frm [lo20] _ _), hs_w12⟩
  have hb20 : Blk w12 lo20 43 (BVc v' n' B' l'.length d').toArray := hbn
  have hO := hO.blk hf_w12 hbo jd jd
  have hS := hS.own hf_w12 (fun y hy => by rw [za] at hy; omega)
  refine ⟨hS, ?_⟩
  have h16l := hb16.lt
  have hb1 := hb1.frm hS jp
  have hb4 := hb4.frm hS jp
  have hb15 := hb15.frm hS jp
  have hb16 := hb16.frm hS jp
  have hou := hou.frm hS jp
  have hKr := K.size
  have K := K.trans hS jp
  refine jH 13 rfl hS (fun w0 hw0 => Run.asg rfl) ?_
  refine jH 14 rfl hS (fun w0 hw0 => Run.asg rfl) ?_
  refine qZ.done jK ?_
  refine jN (jv12 4 8 13 15 16 17 20 21 22 74 75 76 ?_)
  refine jS (jS (jR (jm rfl (jb rfl rfl (Bin.neqN _ 0) (jO (jN (jv13 4 8 13 15 16 17 20 21 22 74 75 76 92 ?_)))))))
  refine jD rfl (fun hc6 => ?_) fun hc6 => ?_
  ·
   have hc6 : k' ≠ 0 := by simpa using hc6
   have hFe : dN m.p q ps t = .error k' := by
    rw [hF2]
    obtain ⟨_, ⟨h, _⟩ | ⟨_, h, _⟩⟩ := hI
    · exact absurd h hc6
    rw [hsp, rK hap h]
   refine jS (jR (je (Run.build evs.nil qI (qR).choose_spec.1 (qR).choose_spec.2 rfl) (jM ?_)))
   refine Ops.st (qW.storeA rfl rfl zb hb4 rfl (MlC.cells_one qP)) ?_
   rintro wz ⟨hb4, (hfwz : Frm [g4] _ _), hswz⟩
   have hb4 : Blk wz g4 25 qP.cells.toArray := hb4
   have K := K.own hfwz (fun y hy => by rw [za] at hy; omega)
   refine ja rfl (ja rfl (jO (jN (jv3 8 9 10 ?_))))
   refine jT ?_
   refine qQ (qN (qQ (qQ (qN (qQ (bZ ?_))))))
   refine qS rfl zg zb (fun j v hj => hb4.cells j v hj) (by first | rfl | (simp; done)) ?_
   refine qK rfl ?_
   refine qK rfl ?_
   refine qB ?_
   exact ⟨qP, none, 0, [], k', rfl, eM.err hc6 hFe, Kt.zero _ _ _, K⟩
  obtain rfl : k' = 0 := by simpa using hc6
  have hlb := hI.len27
  have hap' : cF z.p.2 (eX (Ms y.l) (ps.take (i + 1))) = .ok (⟨v', n', Ms l'⟩, us ++ [n]) := by
   obtain ⟨_, ⟨_, h⟩ | ⟨h, _⟩⟩ := hI
   · rw [hsn, pK hap h]
   exact absurd rfl h
  have hb20u := hou.ne_blk hb20 jd
  have hb20n : lo20 ≠ g16 := fun e => by have := hA20.1; omega
  refine jQ (jN (jv11 4 8 13 15 16 17 20 21 74 75 76 ?_))
  refine VC.held (fun W => Blk W lo20 43 (BVc v' n' B' l'.length d').toArray) jK ?_
  have hd0 := (qO.drew w12).frm
  have hS := hb20.frm hd0 jp
  have hb1 := hb1.frm hd0 jp
  have hb4 := hb4.frm hd0 jp
  have hb15 := hb15.frm hd0 jp
  have hb16 := hb16.frm hd0 jp
  have hou := hou.frm hd0 jp
  have hO := hO.frm hd0
  have K := K.trans hd0 jp
  refine jH 0 rfl hS (fun w0 hw0 => Run.loadA rfl zad zf (fun j v hj => hw0.cells j v hj) (by first | rfl | (simp; done))) ?_
  refine jH 1 rfl hS (fun w0 hw0 => Run.mv rfl) ?_
  refine jH 2 rfl hS (fun w0 hw0 => Run.mv rfl) ?_
  refine qZ.m 3 rfl jK (qJ.buildS1 rfl zat zi qQu jd jd rfl rfl) trivial rfl rfl ?_
  rintro _ w13 ⟨rfl, hF13⟩
  have hr13 : Rd w13 1 (some ⟨w12.heap.size, 0, none⟩) 1 (IB [n]) := Rd.of_blk (n := 1) (size := 1) hF13.blk rfl
  have hf13 := hF13.frm
  have hS := hS.frm hf13 jp
  refine ⟨hS, ?_⟩
  have hb1 := hb1.frm hf13 jp
  have hb4 := hb4.frm hf13 jp
  have hb15 := hb15.frm hf13 jp
  have hb16 := hb16.frm hf13 jp
  have hou := hou.frm hf13 jp
  have hO := hO.frm hf13
  have K := K.trans hf13 jp
  have hK13 := K.size
  refine qZ.m 4 rfl jK (qJ.app rfl rfl zat (qQv) rfl jd hou hr13 (uI _) jo jo) trivial rfl rfl ?_
  rintro _ w14 ⟨U6, du6, rfl, ho6, hf14, hob6⟩
  rw [← uA] at ho6
  have hS := hS.frm hf14 (hou.ne_blk hS jd)
  refine ⟨hS, ?_⟩
  have hb1 := hb1.frm hf14 (hou.ne_blk hb1 jd)
  have hb4 := hb4.frm hf14 (hou.ne_blk hb4 jd)
  have hb15 := hb15.frm hf14 (hou.ne_blk hb15 jd)
  have hb16 := hb16.frm hf14 (hou.ne_blk hb16 jd)
  have hO := hO.offO hf14 hou jd jd
  have K := K.own hf14 hob
  have hob6 : ∀ b ∈ ob U6, w.heap.size ≤ b := fun b hb => by
   rcases hob6 with h | h
   · rw [h] at hb; exact hob b hb
   rw [h, za] at hb; omega
  have hb16o := hb16
  have hx16 := ho6.ne_blk hb16 jd
  refine qZ.st 5 rfl jK (qW.storeA rfl rfl zf hb16 rfl (bK v' n' B' l'.length d')) trivial rfl ?_
  rintro w15 ⟨hbn, (hf15 : Frm [g16] _ _), hs15⟩
  have hb16 : Blk w15 g16 43 (BVc v' n' B' l'.length d').toArray := hbn
  have hS := hS.frm hf15 (by simp; omega)
  refine ⟨hS, ?_⟩
  have hb1 := hb1.frm hf15 (by simp; omega)
  have hb4 := hb4.frm hf15 (by simp; omega)
  have hb15 := hb15.frm hf15 (by simp; omega)
  have hO := hO.blk hf15 hb16o jd jd
  have ho6 := ho6.frm hf15 (fun y hy h => by rw [za] at h; subst h; exact hx16 hy)
  have K := K.own hf15 (fun y hy => by rw [za] at hy; omega)
  refine jH 6 rfl hS (fun w0 hw0 => Run.asg rfl) ?_
  refine qZ.done jK ?_
  refine qT (jN ?_)
  refine jv9 4 8 13 15 16 17 74 75 76 ?_
  refine jR (jb rfl rfl (Bin.add_i64 _ 1 jo) (jm rfl (jO ?_)))
  refine jN ⟨((i + 1, v', n'), (B', d', l'), (U6, du6, us ++ [n])), (js9 rfl rfl rfl rfl rfl (by rw [zm]; rfl) rfl rfl rfl), ?_, ?_⟩
  · refine ⟨hc5, hb1, hb4, hb15, hb16, .inl hO, by dsimp only; omega, hap', by rw [zm]; exact ho6, by rw [zm, hul]; rfl, hob6, K⟩
  first | omega | (dsimp only; omega)
 obtain rfl : i = ps.length := jo
 rw [zak] at hap
 have hFo : dN m.p q ps t = .ok ({ m.p with l := bU m.p.l (qV t) ⟨v, n, Ms lm⟩ }, us) := by rw [hF2, hap]
 refine jX ?_
 refine qH (qH (qF ?_))
 refine jN (jv5 4 8 13 16 17 ?_)
 refine jS (jR (je (Run.loadA rfl zg zb hb1.cells (by first | rfl | (simp; done))) (jm rfl (je (Run.loadA rfl zad zf (fun j v hj => hb16.cells j v hj) (by first | rfl | (simp; done))) ?_))))
 refine Ops.cl (jE3 Tryz.call86) (mP m kk v n B d lm _ (hm.frm K) hkk (hBF.rdm (hm.frm K)) hlm) rfl ?_
 rintro e w16 ⟨A', c', rfl, hoA, hobA, hf16⟩
 refine ⟨_, rfl, ?_⟩
 have hKs := K.size
 have hobA : ∀ b ∈ ob A', w.heap.size ≤ b := fun b hb => zay hKs (hobA b hb)
 have hb4 := hb4.frm hf16 jp
 have hBF := hBF.frm hf16
 have hou := hou.frm hf16 jp
 have K := K.trans hf16 jp
 have hb40 := hb4
 have hx4 := hoA.ne_blk hb4 jd
 have hu4 := hou.ne_blk hb4 jd
 refine jM ?_
 refine Ops.st (qW.storeA rfl rfl zb hb4 rfl (MlC.cells_one _)) ?_
 rintro w17 ⟨hb4, (hf17 : Frm [g4] _ _), hs17⟩
 have hoA := hoA.frm hf17 (fun y hy h => by rw [za] at h; subst h; exact hx4 hy)
 have hou := hou.frm hf17 (fun y hy h => by rw [za] at h; subst h; exact hu4 hy)
 have hBF := hBF.blk hf17 hb40 jd jd
 have K := K.own hf17 (fun y hy => by rw [za] at hy; omega)
 have hkt := qXx (w := w) (v := v) (n := n) (b := m.b) hkk hBF hlm hoA hobA
 refine ja rfl (jz 0 (jO (jN (jv3 8 9 10 ?_))))
 refine jT ?_
 refine bZ ?_
 refine qS rfl zg zb (fun j v hj => hb4.cells j v hj) (by first | rfl | (simp; done)) ?_
 refine qK rfl ?_
 refine qK rfl ?_
 refine qB ?_
 refine ⟨_, U, du, us, 0, rfl, ⟨hkt _ [] (Frm.refl _ _) jp (hm.frm K), hou.rd, jo, .inl ⟨rfl, ?_⟩⟩, hkt, K⟩
 rw [hFo, ← oZ hr hposkk hkk (by rw [hz]; exact hkke)]
 rfl
end
section
open Go.RowKit Go.Sort
def eF (w0 w : World) (m : MlC) (B : Option Addr) (d : Nat) (lm : List Mc) : Prop := (Own w 60 6 B lm.length d (MC lm) ∨ ∃ x ∈ m.l, x.A = B ∧ x.l = lm) ∧ ∀ y ∈ lm, y.At w0
theorem eF.rdm {w0 w : World} {m : MlC} {B : Option Addr} {d : Nat} {lm : List Mc} (h : eF w0 w m B d lm) (k : Frm [] w0 w) (hm : RdL w m) : RdM w B lm := by
 obtain ⟨h1, h2⟩ := h
 refine ⟨?_, fun y hy => (h2 y hy).frm k jp⟩
 rcases h1 with h | ⟨x, hx, rfl, rfl⟩
 · exact h.rd
 exact (hm.l.el x hx).rd.rd
theorem eF.frm {w0 w w' : World} {S : List Nat} {m : MlC} {B : Option Addr} {d : Nat} {lm : List Mc} (h : eF w0 w m B d lm) (k : Frm S w w') (hS : ∀ e, 60 = e → ∀ y ∈ S, ∀ cs, ¬ Blk w y e cs) : eF w0 w' m B d lm := by
 refine ⟨?_, h.2⟩
 rcases h.1 with h | h
 ·
  refine .inl (h.frm k (fun y hy hyS => ?_))
  rcases h.cases with ⟨h0, _⟩ | ⟨g, cur, h0, hbb, _⟩
  · rw [h0] at hy; simp [ob] at hy
  rw [h0] at hy
  simp only [ob, za] at hy
  subst hy
  exact hS _ rfl _ hyS _ hbb
 exact .inr h
theorem eF.nil {w0 w w' : World} {m : MlC} {B : Option Addr} {d : Nat} {lm : List Mc} (h : eF w0 w m B d lm) (k : Frm [] w w') : eF w0 w' m B d lm := h.frm k (fun _ _ _ hy => by cases hy)
theorem eF.blk {w0 w w' : World} {m : MlC} {B : Option Addr} {d g : Nat} {lm : List Mc} {t : TypeId} {cs : Array Value} (h : eF w0 w m B d lm) (k : Frm [g] w w') (hb : Blk w g t cs) (h1 : 60 ≠ t) : eF w0 w' m B d lm :=
 h.frm k (fun e he y hy cs2 hb2 => by rw [za] at hy; subst hy; exact hb.ne hb2 (fun h => h1 (he.trans h.symm)) rfl)
theorem eF.own {w0 w w' : World} {m : MlC} {B C : Option Addr} {d size n c : Nat} {lm : List Mc} {e : TypeId} {xs : List Value} (h : eF w0 w m B d lm) (k : Frm (ob C) w w') (hC : Own w e size C n c xs) (h1 : e ≠ 60) : eF w0 w' m B d lm :=
 h.frm k (fun e2 he y hy cs2 hb2 => hC.ne_blk hb2 (fun h => h1 (h.trans he.symm)) hy)
def jY (m : MailP) (s : Tx) (b : BoxV) : Except Nat MailP :=
 if ¬ bW m then .error 1 else if qV s ∉ m.l.map Prod.fst then .error 6 else if ¬ bW { m with l := bU m.l (qV s) b } then .error 1 else .ok { m with l := bU m.l (qV s) b }
theorem rN (v n : Int) (A : Option Addr) (c : Nat) (l : List Mc) (x : Mc) (w : World) (hl : RdM w A l) (hn : l.length ≤ 900000) (hx : x.At w) : Calls Tryz.prog 87 #[.agg #[.int .i64 v, .int .i64 n, .slice A l.length c], .agg x.cells.toArray] w fun e w' =>
  Frm [] w w' ∧ ∃ v' n' B d l' k, e = .returned (.tuple #[.agg #[.int .i64 v', .int .i64 n', .slice B l'.length d], .int .i64 (if k = 0 then n else 0), .int .i64 ((k : Nat) : Int)]) ∧ dH w' (bG ⟨v, n, Ms l⟩ x.m) v' n' B d l' k ∧ (k = 0 → Own w' 60 6 B l'.length d (MC l') ∧ l' = l ++ [⟨{ x.m with uid := n }, x.A, x.c⟩]) := by
 refine VC.calls (nt := 43) (res := #[.cell 4 43, .tmp 5, .tmp 6]) Tryz.func87 rfl Tryz.ntmps87 Tryz.results87 rfl ?_
 refine jS (jR ?_)
 refine Ops.m (qJ.box rfl) rfl ?_
 rintro _ w1 ⟨rfl, hF2⟩
 have hb2 := hF2.blk
 have hf2 := hF2.frm
 have hs2 : w.heap.size ≤ w.heap.size := zaj _
 generalize hg2 : w.heap.size = g2 at hb2 ⊢
 refine Ops.m (qJ.box rfl) rfl ?_
 rintro _ w2 ⟨rfl, hF3⟩
 have hb3 := hF3.blk
 have hb2 := hb2.frm hF3.frm jp
 have hf3 := hf2.trans hF3.frm jp
 have hs3 : w.heap.size ≤ w1.heap.size := hf2.size
 generalize hg3 : w1.heap.size = g3 at hb3 hs3 ⊢
 have hn23 : g2 < g3 := by rw [← hg3, ← hg2]; have := hF2.size; omega
 refine Ops.m (qJ.alloc bH) rfl ?_
 rintro _ w4 ⟨rfl, hF4⟩
 have hb4 := hF4.blk
 have hb2 := hb2.frm hF4.frm jp
 have hb3 := hb3.frm hF4.frm jp
 have hf4 := hf3.trans hF4.frm jp
 have hs4 : w.heap.size ≤ w2.heap.size := hf3.size
 generalize hg4 : w2.heap.size = g4 at hb4 hs4 ⊢
 have hn34 : g3 < g4 := by rw [← hg4, ← hg3]; have := hF3.size; omega
 refine jz 0 (jz 0 (jO (jN (jv3 2 3 4 ?_))))
 refine jS (jS ?_)
 refine VC.splitR [(2, .pointer (some ⟨g2, 0, none⟩)), (3, .pointer (some ⟨g3, 0, none⟩)), (4, .pointer (some ⟨g4, 0, none⟩))] (Frm [] w4) 14 (.bool (decide (¬ bT ⟨v, n, Ms l⟩ ∨ ¬ bO x.m))) ?_ ?_
 ·
  refine jR (je (Run.loadA rfl zad zf (fun j v hj => hb2.cells j v hj) (by first | rfl | (simp; done))) ?_)
  refine Ops.cl (jE1 Tryz.call78) (kZ v n A c l _ (hl.frm hf4) jo) rfl ?_
  rintro e w5 ⟨rfl, hf5⟩
  refine ⟨_, rfl, ?_⟩
  by_cases hs8 : bT ⟨v, n, Ms l⟩
  ·
   refine je (Run.not rfl) (jM ?_)
   refine jk (Run.loadA rfl zaz zt (fun j v hj => (hb3.frm hf5 jp).cells j v hj) (by first | rfl | (simp; done))) ?_
   refine Ops.clg rfl au (jE1 Tryz.call124) (fQ x _ (hx.frm (hf4.trans hf5 jp) jp)) rfl ?_
   rintro e w6 ⟨rfl, hf6⟩
   refine ⟨_, rfl, ?_⟩
   by_cases hs12 : bO x.m
   ·
    refine jk (Run.not rfl) ?_
    refine je (Run.pickF rfl rfl au) (jO ?_)
    refine jN ⟨(js4 (jC (Eq.symm (by simp [*]))) rfl rfl rfl), (by first | exact hf5.trans hf6 jp | exact hf5)⟩
   refine jk (Run.not rfl) ?_
   refine je (Run.pickF rfl rfl au) (jO ?_)
   refine jN ⟨(js4 (jC (Eq.symm (by simp [*]))) rfl rfl rfl), (by first | exact hf5.trans hf6 jp | exact hf5)⟩
  refine je (Run.not rfl) (jM ?_)
  refine jU ?_
  refine jU ?_
  refine jU ?_
  refine je (Run.pickT rfl rfl au) (jO ?_)
  refine jN ⟨(js4 (jC (Eq.symm (by simp [*]))) rfl rfl rfl), (by first | exact hf5.trans hf6 jp | exact hf5)⟩
 intro Γ w7 hΓ hf7
 refine jN (VC.sub _ hΓ ?_)
 refine jD rfl (fun hc1 => ?_) fun hc1 => ?_
 ·
  have hb47 := hb4.frm hf7 jp
  have hfr7 := hf4.trans hf7 jp
  refine jS (jR (je (Run.build evs.nil bH (bV).choose_spec.1 (bV).choose_spec.2 rfl) ?_))
  refine Ops.st (qW.storeA rfl rfl zf hb47 rfl (bK 0 0 none 0 0)) ?_
  rintro w8 ⟨hbz, hfz, hsz⟩
  refine jz 0 (jz 1 (jO (jN (jv3 4 5 6 ?_))))
  refine jT ?_
  refine qQ (bZ ?_)
  refine qS rfl zad zf (fun j v hj => hbz.cells j v hj) (by first | rfl | (simp; done)) ?_
  refine qK rfl ?_
  refine qK rfl ?_
  refine qB ?_
  exact ⟨hfr7.own hfz (fun y hy => by simp at hy; omega), 0, 0, none, 0, [], 1, rfl, dH.err jd (by unfold bG; rw [if_pos hc1]), fun h => by cases h⟩
 have hb47 := hb4.frm hf7 jp
 have hb27 := hb2.frm hf7 jp
 have hb37 := hb3.frm hf7 jp
 have hfr7 := hf4.trans hf7 jp
 have hmay : bT ⟨v, n, Ms l⟩ := Classical.not_not.1 fun h => hc1 (.inl h)
 have hl128 : l.length ≤ 128 := (eI hmay).1.2.2.2.2
 have hnx := (eI hmay).1
 refine jQ (jN (jv3 2 3 4 ?_))
 refine jS (jS (jR (jf rfl zj rfl zaa (jl rfl zao (hb27.cell 2) (je (Run.lenS rfl zk) (jb rfl rfl (Bin.geqN _ 128) (jO (jN (jv4 2 3 4 19 ?_)))))))))
 refine jD rfl (fun hc2 => ?_) fun hc2 => ?_
 ·
  refine jS (jR (je (Run.build evs.nil bH (bV).choose_spec.1 (bV).choose_spec.2 rfl) ?_))
  refine Ops.st (qW.storeA rfl rfl zf hb47 rfl (bK 0 0 none 0 0)) ?_
  rintro w8 ⟨hbz, hfz, hsz⟩
  refine jz 0 (jz 5 (jO (jN (jv3 4 5 6 ?_))))
  refine jT ?_
  refine qQ (bZ ?_)
  refine qS rfl zad zf (fun j v hj => hbz.cells j v hj) (by first | rfl | (simp; done)) ?_
  refine qK rfl ?_
  refine qK rfl ?_
  refine qB ?_
  refine ⟨hfr7.own hfz (fun y hy => by simp at hy; omega), 0, 0, none, 0, [], 5, rfl, dH.err jd ?_, fun h => by cases h⟩
  unfold bG
  rw [if_neg hc1, if_pos (by simp [Ms]; omega)]
 refine jQ (jN (jv3 2 3 4 ?_))
 refine jS (jS (jR (jf rfl zj rfl zi (jl rfl zn (hb27.cell 1) (jb rfl rfl (Bin.gtr _ 2147483647) (jO (jN (jv4 2 3 4 23 ?_))))))))
 refine jD rfl (fun hc3 => ?_) fun hc3 => ?_
 ·
  refine jS (jR (je (Run.build evs.nil bH (bV).choose_spec.1 (bV).choose_spec.2 rfl) ?_))
  refine Ops.st (qW.storeA rfl rfl zf hb47 rfl (bK 0 0 none 0 0)) ?_
  rintro w8 ⟨hbz, hfz, hsz⟩
  refine jz 0 (jz 19 (jO (jN (jv3 4 5 6 ?_))))
  refine jT ?_
  refine qQ (bZ ?_)
  refine qS rfl zad zf (fun j v hj => hbz.cells j v hj) (by first | rfl | (simp; done)) ?_
  refine qK rfl ?_
  refine qK rfl ?_
  refine qB ?_
  refine ⟨hfr7.own hfz (fun y hy => by simp at hy; omega), 0, 0, none, 0, [], 19, rfl, dH.err jd ?_, fun h => by cases h⟩
  unfold bG
  rw [if_neg hc1, if_neg (by simp [Ms]; omega), if_pos hc3]
 refine jQ (jN (jv3 2 3 4 ?_))
 refine jS (jR (jf rfl zj rfl zi (jl rfl zn (hb27.cell 1) (jf rfl zac rfl zi ?_))))
 refine Ops.st (qW.store rfl rfl zi hb37 rfl rfl) ?_
 rintro w8 ⟨hb38, hf8, hs8⟩
 have hb38 : Blk w8 g3 60 (⟨{ x.m with uid := n }, x.A, x.c⟩ : Mc).cells.toArray := hb38
 have hb28 := hb27.frm hf8 (by simp; omega)
 have hb48 := hb47.frm hf8 (by simp; omega)
 have hfr8 := hfr7.own hf8 (fun y hy => by simp at hy; omega)
 have hx8 : (⟨{ x.m with uid := n }, x.A, x.c⟩ : Mc).At w8 := ⟨(hx.frm hfr8 jp).rd, hx.n, hx.q⟩
 have hl8 := hl.frm hfr8
 refine jO (jN (jv3 2 3 4 ?_))
 refine jS ?_
 refine VC.meet (σ := Option Addr × Nat) (fun s => [(2, .pointer (some ⟨g2, 0, none⟩)), (3, .pointer (some ⟨g3, 0, none⟩)), (4, .pointer (some ⟨g4, 0, none⟩))]) (fun s wr => Blk wr g2 43 (BVc v n s.1 (0 + l.length + 1) s.2).toArray ∧ Blk wr g3 60 (⟨{ x.m with uid := n }, x.A, x.c⟩ : Mc).cells.toArray ∧ Blk wr g4 43 (BVc 0 0 none 0 0).toArray ∧ Own wr 60 6 s.1 (0 + l.length + 1) s.2 (MC (l ++ [⟨{ x.m with uid := n }, x.A, x.c⟩])) ∧ Frm [] w wr) ?_ ?_
 ·
  refine VC.heldL 8 (fun W => Frm [] w8 W) jK ?_
  have hS : Frm [] w8 w8.drew := (Frm.refl _ _).drew
  refine jH 1 rfl hS (fun w0 hw0 => Run.fieldAddr rfl zj rfl zaa jd) ?_
  refine jH 2 rfl hS (fun w0 hw0 => Run.load rfl zao ((hb28.frm hw0 jp).cell 2)) ?_
  refine jH 4 rfl hS (fun w0 hw0 => Run.loadA rfl zaz zt (fun j v hj => (hb38.frm hw0 jp).cells j v hj) (by first | rfl | (simp; done))) ?_
  refine qZ.or2 0 5 jK ?_ ?_
  ·
   refine cB.m rfl (qJ.buildS0 zk zt) trivial rfl rfl ?_
   rintro _ w9 ⟨rfl, hF9⟩
   have hgA := hS.size
   try have hlt33 := hr33.lt jo
   try have hr33 := hr33.frm hF9.frm jp
   have hS9 : Frm [] w8 w9 := hS.trans hF9.frm jp
   refine ⟨hS9, ?_⟩
   have hS := hS9
   have hA : Own w9 60 6 (some ⟨_, 0, none⟩) 0 0 [] := Own.of_blk (n := 0) hF9.blk rfl jd
   refine qZ.or2 3 5 jK ?_ ?_
   ·
    refine cB.m rfl (qJ.app rfl rfl zk (cO) rfl jd hA (hl8.frm hS).rd (bA Mc.cells Mc.cells_one _) jo jo) trivial rfl rfl ?_
    rintro _ w10 ⟨A10, c10, rfl, hown10, hf10, hob10⟩
    rw [zav] at hown10
    try have hr33 := hr33.frm hf10 (fun _ y hy hy2 => by simp only [ob, za] at hy hy2; first | (have := hlt33 y (by simp [ob, hy]); omega) | (have := hltA y (by simp [ob, hy2]); omega))
    have hge10 : ∀ b ∈ ob A10, w8.heap.size ≤ b := dP (by simp only [ob, za, forall_eq]; exact hgA) hob10 hS.size
    have hS10 : Frm [] w8 w10 := hS.own hf10 (by simp only [ob, za, forall_eq]; exact hgA)
    refine ⟨hS10, ?_⟩
    have hS := hS10
    have hA := hown10
    refine qZ.m 5 rfl jK (qJ.buildS1 rfl zk zt cP jd jd rfl rfl) trivial rfl rfl ?_
    try have hltA := hA.lt
    rintro _ w11 ⟨rfl, hF11⟩
    try have hA := hA.frm hF11.frm jp
    have hS11 := hS.trans hF11.frm jp
    refine ⟨hS11, ?_⟩
    have hS := hS11
    have hr33 := kV (x := ⟨{ x.m with uid := n }, x.A, x.c⟩) hF11
    refine qZ.m 6 rfl jK (qJ.app rfl rfl zk (cO) rfl jd hA hr33 (bA Mc.cells Mc.cells_one _) jo jo) trivial rfl rfl ?_
    rintro _ w12 ⟨A12, c12, rfl, hown12, hf12, hob12⟩
    rw [← dK] at hown12
    have hS12 := hS.own hf12 hge10
    refine ⟨hS12, ?_⟩
    have hS := hS12
    refine qZ.r1 7 rfl jK hS (Run.fieldAddr rfl zj rfl zaa jd) trivial rfl rfl ?_
    refine qZ.stL rfl jK (qW.store rfl rfl zaa (hb28.frm hS jp) rfl rfl) trivial rfl ?_
    rintro w13 ⟨hb13, hf13, hs13⟩
    have hb413 := (hb48.frm hS jp).frm hf13 (by simp; omega)
    have hb313 := (hb38.frm hS jp).frm hf13 (by simp; omega)
    have hown13 := hown12.frm hf13 (fun y hy => by have := hown12.ne_blk (hb28.frm hS jp) jd; simp; rintro rfl; exact this hy)
    have hfr13 := (hfr8.trans hS jp).own hf13 (fun y hy => by simp at hy; omega)
    have hb13 : Blk w13 g2 43 (BVc v n A12 (0 + l.length + 1) c12).toArray := hb13
    refine qZ.done jK ?_
    refine jN ⟨(A12, c12), (js3 rfl rfl rfl), ?_⟩
    exact ⟨hb13, hb313, hb413, hown13, hfr13⟩
   refine cB.m rfl (qJ.buildS1 rfl zk zt cP jd jd rfl rfl) trivial rfl rfl ?_
   try have hltA := hA.lt
   rintro _ w11 ⟨rfl, hF11⟩
   try have hA := hA.frm hF11.frm jp
   have hS11 := hS.trans hF11.frm jp
   refine ⟨hS11, ?_⟩
   have hS := hS11
   have hr33 := kV (x := ⟨{ x.m with uid := n }, x.A, x.c⟩) hF11
   refine qZ.m 3 rfl jK (qJ.app rfl rfl zk (cO) rfl jd hA (hl8.frm hS).rd (bA Mc.cells Mc.cells_one _) jo jo) trivial rfl rfl ?_
   rintro _ w10 ⟨A10, c10, rfl, hown10, hf10, hob10⟩
   rw [zav] at hown10
   try have hr33 := hr33.frm hf10 (fun _ y hy hy2 => by simp only [ob, za] at hy hy2; first | (have := hlt33 y (by simp [ob, hy]); omega) | (have := hltA y (by simp [ob, hy2]); omega))
   have hge10 : ∀ b ∈ ob A10, w8.heap.size ≤ b := dP (by simp only [ob, za, forall_eq]; exact hgA) hob10 hS.size
   have hS10 : Frm [] w8 w10 := hS.own hf10 (by simp only [ob, za, forall_eq]; exact hgA)
   refine ⟨hS10, ?_⟩
   have hS := hS10
   have hA := hown10
   refine qZ.m 6 rfl jK (qJ.app rfl rfl zk (cO) rfl jd hA hr33 (bA Mc.cells Mc.cells_one _) jo jo) trivial rfl rfl ?_
   rintro _ w12 ⟨A12, c12, rfl, hown12, hf12, hob12⟩
   rw [← dK] at hown12
   have hS12 := hS.own hf12 hge10
   refine ⟨hS12, ?_⟩
   have hS := hS12
   refine qZ.r1 7 rfl jK hS (Run.fieldAddr rfl zj rfl zaa jd) trivial rfl rfl ?_
   refine qZ.stL rfl jK (qW.store rfl rfl zaa (hb28.frm hS jp) rfl rfl) trivial rfl ?_
   rintro w13 ⟨hb13, hf13, hs13⟩
   have hb413 := (hb48.frm hS jp).frm hf13 (by simp; omega)
   have hb313 := (hb38.frm hS jp).frm hf13 (by simp; omega)
   have hown13 := hown12.frm hf13 (fun y hy => by have := hown12.ne_blk (hb28.frm hS jp) jd; simp; rintro rfl; exact this hy)
   have hfr13 := (hfr8.trans hS jp).own hf13 (fun y hy => by simp at hy; omega)
   have hb13 : Blk w13 g2 43 (BVc v n A12 (0 + l.length + 1) c12).toArray := hb13
   refine qZ.done jK ?_
   refine jN ⟨(A12, c12), (js3 rfl rfl rfl), ?_⟩
   exact ⟨hb13, hb313, hb413, hown13, hfr13⟩
  refine cB.m rfl (qJ.buildS1 rfl zk zt cP jd jd rfl rfl) trivial rfl rfl ?_
  try have hltA := hA.lt
  rintro _ w11 ⟨rfl, hF11⟩
  try have hA := hA.frm hF11.frm jp
  have hS11 := hS.trans hF11.frm jp
  refine ⟨hS11, ?_⟩
  have hS := hS11
  have hr33 := kV (x := ⟨{ x.m with uid := n }, x.A, x.c⟩) hF11
  refine qZ.m 0 rfl jK (qJ.buildS0 zk zt) trivial rfl rfl ?_
  rintro _ w9 ⟨rfl, hF9⟩
  have hgA := hS.size
  try have hlt33 := hr33.lt jo
  try have hr33 := hr33.frm hF9.frm jp
  have hS9 : Frm [] w8 w9 := hS.trans hF9.frm jp
  refine ⟨hS9, ?_⟩
  have hS := hS9
  have hA : Own w9 60 6 (some ⟨_, 0, none⟩) 0 0 [] := Own.of_blk (n := 0) hF9.blk rfl jd
  refine qZ.m 3 rfl jK (qJ.app rfl rfl zk (cO) rfl jd hA (hl8.frm hS).rd (bA Mc.cells Mc.cells_one _) jo jo) trivial rfl rfl ?_
  rintro _ w10 ⟨A10, c10, rfl, hown10, hf10, hob10⟩
  rw [zav] at hown10
  try have hr33 := hr33.frm hf10 (fun _ y hy hy2 => by simp only [ob, za] at hy hy2; first | (have := hlt33 y (by simp [ob, hy]); omega) | (have := hltA y (by simp [ob, hy2]); omega))
  have hge10 : ∀ b ∈ ob A10, w8.heap.size ≤ b := dP (by simp only [ob, za, forall_eq]; exact hgA) hob10 hS.size
  have hS10 : Frm [] w8 w10 := hS.own hf10 (by simp only [ob, za, forall_eq]; exact hgA)
  refine ⟨hS10, ?_⟩
  have hS := hS10
  have hA := hown10
  refine qZ.m 6 rfl jK (qJ.app rfl rfl zk (cO) rfl jd hA hr33 (bA Mc.cells Mc.cells_one _) jo jo) trivial rfl rfl ?_
  rintro _ w12 ⟨A12, c12, rfl, hown12, hf12, hob12⟩
  rw [← dK] at hown12
  have hS12 := hS.own hf12 hge10
  refine ⟨hS12, ?_⟩
  have hS := hS12
  refine qZ.r1 7 rfl jK hS (Run.fieldAddr rfl zj rfl zaa jd) trivial rfl rfl ?_
  refine qZ.stL rfl jK (qW.store rfl rfl zaa (hb28.frm hS jp) rfl rfl) trivial rfl ?_
  rintro w13 ⟨hb13, hf13, hs13⟩
  have hb413 := (hb48.frm hS jp).frm hf13 (by simp; omega)
  have hb313 := (hb38.frm hS jp).frm hf13 (by simp; omega)
  have hown13 := hown12.frm hf13 (fun y hy => by have := hown12.ne_blk (hb28.frm hS jp) jd; simp; rintro rfl; exact this hy)
  have hfr13 := (hfr8.trans hS jp).own hf13 (fun y hy => by simp at hy; omega)
  have hb13 : Blk w13 g2 43 (BVc v n A12 (0 + l.length + 1) c12).toArray := hb13
  refine qZ.done jK ?_
  refine jN ⟨(A12, c12), (js3 rfl rfl rfl), ?_⟩
  exact ⟨hb13, hb313, hb413, hown13, hfr13⟩
 rintro ⟨A12, c12⟩ w13 ⟨hb13, hb313, hb413, hown13, hfr13⟩ Γ hΓ
 dsimp only at hb13 hown13
 refine jN (VC.sub _ hΓ (jS (jR (jf rfl zj rfl zi (jl rfl zn (hb13.cell 1) (jb rfl rfl (Bin.addZ _ 1 jo jo) (jf rfl zj rfl zi ?_)))))))
 refine Ops.st (qW.store rfl rfl zi hb13 rfl rfl) ?_
 rintro w14 ⟨hb14, hf14, hs14⟩
 have hb414 := hb413.frm hf14 (by simp; omega)
 have hb314 := hb313.frm hf14 (by simp; omega)
 have hown14 := hown13.frm hf14 (fun y hy => by have := hown13.ne_blk hb13 jd; simp; rintro rfl; exact this hy)
 have hfr14 := hfr13.own hf14 (fun y hy => by simp at hy; omega)
 have hb14 : Blk w14 g2 43 (BVc v (n + 1) A12 (0 + l.length + 1) c12).toArray := hb14
 refine jO (jN (jv3 2 3 4 ?_))
 refine jS ?_
 refine VC.held (fun W => Frm [g4] w14 W) jK ?_
 have hS : Frm [g4] w14 w14.drew := (Frm.refl _ _).drew
 refine jH 0 rfl hS (fun w0 hw0 => Run.loadA rfl zad zf (fun j v hj => (hb14.frm hw0 (by simp; omega)).cells j v hj) (by first | rfl | (simp; done))) ?_
 refine jH 1 rfl hS (fun w0 hw0 => Run.fieldAddr rfl zac rfl zi jd) ?_
 refine jH 2 rfl hS (fun w0 hw0 => Run.load rfl zn ((hb314.frm hw0 (by simp; omega)).cell 0)) ?_
 refine qZ.st 3 rfl jK (qW.storeA rfl rfl zf (hb414.drawn (qO.drew _)) rfl (bK _ _ _ _ _)) trivial rfl ?_
 rintro w15 ⟨hb15, hf15, hs15⟩
 have hS15 : Frm [g4] w14 w15 := hS.trans hf15 jp
 refine ⟨hS15, ?_⟩
 have hS := hS15
 have hown15 := (hown14.drawn (qO.drew _)).frm hf15 (fun y hy => by have := (hown14.drawn (qO.drew _)).ne_blk (hb414.drawn (qO.drew _)) jd; simp; rintro rfl; exact this hy)
 have hfr15 := (hfr14.drawn (qO.drew _)).own hf15 (fun y hy => by simp at hy; omega)
 refine jH 4 rfl hS (fun w0 hw0 => Run.asg rfl) ?_
 refine qZ.take (v := .int .i64 ((0 : Nat) : Int)) 5 rfl jK jK jK hS (fun w0 hw0 => Run.asg rfl) trivial rfl rfl ?_
 refine qZ.done jK ?_
 refine jN (jv3 4 5 6 ?_)
 refine jT ?_
 refine bZ ?_
 refine qS rfl zad zf (fun j v hj => hb15.cells j v hj) (by first | rfl | (simp; done)) ?_
 refine qK rfl ?_
 refine qK rfl ?_
 refine qB ?_
 have hln : (l ++ [(⟨{ x.m with uid := n }, x.A, x.c⟩ : Mc)]).length = 0 + l.length + 1 := by rw [zm, zdu]; rfl
 refine ⟨hfr15, v, n + 1, A12, c12, l ++ [⟨{ x.m with uid := n }, x.A, x.c⟩], 0, by rw [hln]; rfl, ⟨⟨by rw [hln]; exact hown15.rd, fun y hy => ?_⟩, .inl ⟨rfl, ?_⟩⟩, fun _ => ⟨by rw [hln]; exact hown15, rfl⟩⟩
 ·
  rcases zeq.1 hy with h | h
  · exact (hl.frm hfr15).fl y h
  simp only [za] at h
  subst h
  exact ⟨(hx.frm hfr15 jp).rd, hx.n, hx.q⟩
 unfold bG
 rw [if_neg hc1, if_neg (by simp [Ms]; omega), if_neg hc3]
 simp only [Ms, zaw, zal, zbo]
set_option maxHeartbeats 1000000 in
theorem wL (m : MlC) (q : Tx) (v n : Int) (A : Option Addr) (c : Nat) (lm : List Mc) (w : World) (hm : RdL w m) (hq : q.length ≤ 900000) (hl : RdM w A lm) (hlm : lm.length ≤ 900000) (hv : cY w) :
  Calls Tryz.prog 39 #[m.val, encStr q, .agg (BVc v n A lm.length c).toArray] w fun e w' => ∃ (m' : MlC) (k : Nat), e = .returned (.tuple #[m'.val, .int .i64 ((k : Nat) : Int)]) ∧ fS w' (jY m.p q ⟨v, n, Ms lm⟩) m' k ∧ Frm [] w w' := by
 have hln := hm.ln
 have hpl := dZ m
 refine VC.calls (nt := 33) (res := #[.cell 6 25, .tmp 7]) Tryz.func39 rfl Tryz.ntmps39 Tryz.results39 rfl ?_
 refine jS (jR ?_)
 refine Ops.m (qJ.box rfl) rfl ?_
 rintro _ w1 ⟨rfl, hF_w1⟩
 have hb1 : Blk w1 w.heap.size 25 #[.slice m.A m.l.length m.c, .slice m.S m.ss.length m.d, .int .i64 m.v, .int .i64 m.b] := hF_w1.blk
 have K := hF_w1.frm
 generalize hg1 : w.heap.size = g1 at hb1 ⊢
 refine Ops.m (qJ.box rfl) rfl ?_
 rintro _ w2 ⟨rfl, hF2⟩
 have hb5 : Blk w2 w1.heap.size 43 (BVc v n A lm.length c).toArray := hF2.blk
 have hb1 := hb1.frm hF2.frm jp
 have hlt := hb1.lt
 have K := K.trans hF2.frm jp
 generalize hg5' : w1.heap.size = g5 at hb5 ⊢
 refine Ops.m (qJ.alloc qI) rfl ?_
 rintro _ w3 ⟨rfl, hF3⟩
 have hb4 := hF3.blk
 have hg4 : w.heap.size ≤ w2.heap.size := K.size
 have hb1 := hb1.frm hF3.frm jp
 have hb5 := hb5.frm hF3.frm jp
 have hl1 := hb1.lt
 have hl4 := hb4.lt
 have K := K.trans hF3.frm jp
 have hne14 : g1 ≠ w2.heap.size := fun e => by have := hF2.size; have := hF_w1.size; omega
 have hg1s : w.heap.size ≤ g1 := jo
 generalize hg4' : w2.heap.size = g4 at hb4 hg4 hne14 hl4 ⊢
 refine jz 0 (jO (jN (jv4 1 3 5 6 ?_)))
 refine jS (jS (jR (je (Run.loadA rfl zg zb hb1.cells (by first | rfl | (simp; done))) ?_)))
 refine Ops.cl (jE1 zdq) (dR m _ (hm.frm K) (hv.frm K)) rfl ?_
 rintro e w4 ⟨rfl, hf4⟩
 refine ⟨_, rfl, ?_⟩
 have hb1 := hb1.frm hf4 jp
 have hb4 := hb4.frm hf4 jp
 have hKs_hf4 := K.size
 have K := K.trans hf4 jp
 have hb5 := hb5.frm hf4 jp
 refine je (Run.not rfl) (jO (jN (jv5 1 3 5 6 12 ?_)))
 refine VC.condB rfl (fun hc1 => ?_) (fun hc1 => ?_)
 ·
  have hc1 : ¬ bW m.p := by simpa using hc1
  refine jS (jR (je (Run.build evs.nil qI (qR).choose_spec.1 (qR).choose_spec.2 rfl) ?_))
  refine Ops.st (qW.storeA rfl rfl zb hb4 rfl (MlC.cells_one qP)) ?_
  rintro wz ⟨hb4, (hfwz : Frm [g4] _ _), hswz⟩
  have hb4 : Blk wz g4 25 qP.cells.toArray := hb4
  have K := K.own hfwz (fun y hy => by rw [za] at hy; omega)
  refine jz 1 (jO (jN (jv2 6 7 ?_)))
  refine jT ?_
  refine qQ (bZ ?_)
  refine qS rfl zg zb (fun j v hj => hb4.cells j v hj) (by first | rfl | (simp; done)) ?_
  refine qK rfl ?_
  refine qB ?_
  exact ⟨qP, 1, rfl, fS.err jd (by unfold jY; rw [if_pos hc1]), K⟩
 have hc1 : bW m.p := by simpa using hc1
 obtain ⟨hm24, hv1, hv2, hb0, hb2, hr, hin⟩ := cA hc1
 refine jQ (jN (jv4 1 3 5 6 ?_))
 refine jS (jR (je (Run.loadA rfl zg zb hb1.cells (by first | rfl | (simp; done))) (jM ?_)))
 refine Ops.cl (jE2 zcy) (cV m q _ (hm.frm K).l hln jo hr (hv.frm K)) rfl ?_
 rintro e w5 ⟨i, rfl, hpos, hf5⟩
 refine ⟨_, rfl, ?_⟩
 have hb1 := hb1.frm hf5 jp
 have hb4 := hb4.frm hf5 jp
 have hKs_hf5 := K.size
 have K := K.trans hf5 jp
 have hb5 := hb5.frm hf5 jp
 refine jm rfl (je (Run.extract rfl rfl) (je (Run.extract rfl rfl) (ja rfl (ja rfl (jO (jN (jv5 3 5 6 8 9 ?_)))))))
 refine jS (jS (jR (jm rfl (je (Run.not rfl) (jO (jN (jv5 3 5 6 8 21 ?_)))))))
 refine VC.condB rfl (fun hc2 => ?_) (fun hc2 => ?_)
 ·
  have hc2 : qV q ∉ qL m.p := by simpa using hc2
  refine jS (jR (je (Run.build evs.nil qI (qR).choose_spec.1 (qR).choose_spec.2 rfl) ?_))
  refine Ops.st (qW.storeA rfl rfl zb hb4 rfl (MlC.cells_one qP)) ?_
  rintro wz ⟨hb4, (hfwz : Frm [g4] _ _), hswz⟩
  have hb4 : Blk wz g4 25 qP.cells.toArray := hb4
  have K := K.own hfwz (fun y hy => by rw [za] at hy; omega)
  refine jz 6 (jO (jN (jv2 6 7 ?_)))
  refine jT ?_
  refine qQ (bZ ?_)
  refine qS rfl zg zb (fun j v hj => hb4.cells j v hj) (by first | rfl | (simp; done)) ?_
  refine qK rfl ?_
  refine qB ?_
  exact ⟨qP, 6, rfl, fS.err jd (by unfold jY; rw [if_neg (fun h => h hc1), if_pos hc2]), K⟩
 have hc2 : qV q ∈ qL m.p := by simpa using hc2
 obtain ⟨hi, hie⟩ := pJ hr hpos hc2
 refine jQ (jN (jv4 3 5 6 8 ?_))
 refine jS ?_
 refine VC.heldL 5 (fun W => Frm [] w5 W) jK ?_
 have hS : Frm [] w5 w5.drew := (Frm.refl _ _).drew
 refine jH 0 rfl hS (fun w0 hw0 => Run.loadA rfl zg zb (fun j v hj => (hb1.frm hw0 jp).cells j v hj) (by first | rfl | (simp; done))) ?_
 refine jH 1 rfl hS (fun w0 hw0 => Run.mv rfl) ?_
 refine qZ.r1 2 rfl jK hS (Run.loadA rfl zad zf (fun j v hj => (hb5.frm hS jp).cells j v hj) (by first | rfl | (simp; done))) trivial rfl rfl ?_
 refine qZ.cl 3 rfl jK (jE1 Tryz.call72) (oF v n A c lm _ (hl.frm (K.trans hS jp)) jo) trivial rfl rfl ?_
 rintro e w6 ⟨B, d, l', rfl, hO, hM, hobB, hf6⟩
 have hS6 := hS.trans hf6 jp
 refine ⟨_, rfl, hS6, ?_⟩
 have hS := hS6
 have hll : l'.length = lm.length := by have := congrArg List.length hM; simpa [Ms] using this
 refine qZ.cl 4 rfl jK (jE3 Tryz.call86) (mP m i v n B d l' _ (hm.frm (K.trans hS jp)) hi hO.rdm jo) trivial rfl rfl ?_
 rintro e w7 ⟨A', c', rfl, hoA, hobA, hf7⟩
 have hK6 := (K.trans hS jp).size
 have hS7 := hS.trans hf7 jp
 refine ⟨_, rfl, hS7, ?_⟩
 have hS := hS7
 have hobA : ∀ b ∈ ob A', w.heap.size ≤ b := fun b hb => zay hK6 (hobA b hb)
 have hO := hO.frm hf7
 have hb1 := hb1.frm hS jp
 have hb4 := hb4.frm hS jp
 have K := K.trans hS jp
 have hx1 := hoA.ne_blk hb1 jd
 have hb1o := hb1
 refine qZ.stL rfl jK (qW.storeA rfl rfl zb hb1 rfl (MlC.cells_one _)) trivial rfl ?_
 rintro w8 ⟨hb1, (hf8 : Frm [g1] _ _), hs8⟩
 have hoA := hoA.frm hf8 (fun y hy h => by rw [za] at h; subst h; exact hx1 hy)
 have hb4 := hb4.frm hf8 (by simp; omega)
 have hO := hO.blk hf8 hb1o jd jd
 have K := K.own hf8 (fun y hy => by rw [za] at hy; omega)
 obtain ⟨m2, hm2⟩ : ∃ m2 : MlC, m2 = m.wl A' c' (m.l.set i ⟨(m.l[i]).nm, v, n, B, d, l'⟩) := ⟨_, rfl⟩
 have hlen2 : (m.l.set i ⟨(m.l[i]).nm, v, n, B, d, l'⟩ : List Nc).length = m.l.length := zcf ..
 have hrd : ∀ W, Frm [] w W → Own W 45 4 A' m.l.length c' (NDC (m.l.set i ⟨(m.l[i]).nm, v, n, B, d, l'⟩)) → OwM W B d l' → RdL W m2 := fun W kW hA hB => by
  rw [hm2]
  have h := hm.frm kW
  exact ⟨⟨by dsimp only; rw [hlen2]; exact hA.rd, sH h.l.el ⟨hB.rdm, by rw [hll]; exact hlm, (h.l.el _ (zr hi)).q⟩⟩, h.s, by dsimp only; rw [hlen2]; exact hA.le, h.sc, by dsimp only; rw [hlen2]; exact h.ln, h.sn, h.sq⟩
 have hm2p : m2.p = { m.p with l := bU m.p.l (qV q) ⟨v, n, Ms lm⟩ } := by
  rw [hm2, MlC.wl_p, oZ hr hpos hi hie, hM]
 rw [← hm2] at hb1
 have hRm2 := hrd _ K hoA hO
 refine qZ.done jK ?_
 refine jN (jv2 3 6 ?_)
 refine jS (jS (jR (je (Run.loadA rfl zg zb (fun j v hj => hb1.cells j v hj) (by first | rfl | (simp; done))) ?_)))
 refine Ops.cl (jE1 zdq) (dR m2 _ hRm2 (hv.frm K)) rfl ?_
 rintro e w9 ⟨rfl, hf9⟩
 refine ⟨_, rfl, ?_⟩
 have hb1 := hb1.frm hf9 jp
 have hb4 := hb4.frm hf9 jp
 have hoA := hoA.frm hf9 jp
 have hO := hO.frm hf9
 have K := K.trans hf9 jp
 refine je (Run.not rfl) (jO (jN (jv3 3 6 30 ?_)))
 refine VC.condB rfl (fun hc3 => ?_) (fun hc3 => ?_)
 ·
  have hc3 : ¬ bW m2.p := by simpa using hc3
  refine jS (jR (je (Run.build evs.nil qI (qR).choose_spec.1 (qR).choose_spec.2 rfl) ?_))
  refine Ops.st (qW.storeA rfl rfl zb hb4 rfl (MlC.cells_one qP)) ?_
  rintro wz ⟨hb4, (hfwz : Frm [g4] _ _), hswz⟩
  have hb4 : Blk wz g4 25 qP.cells.toArray := hb4
  have K := K.own hfwz (fun y hy => by rw [za] at hy; omega)
  refine jz 1 (jO (jN (jv2 6 7 ?_)))
  refine jT ?_
  refine qQ (bZ ?_)
  refine qS rfl zg zb (fun j v hj => hb4.cells j v hj) (by first | rfl | (simp; done)) ?_
  refine qK rfl ?_
  refine qB ?_
  exact ⟨qP, 1, rfl, fS.err jd (by unfold jY; rw [if_neg (fun h => h hc1), if_neg (fun h => h hc2), if_pos (by rw [← hm2p]; exact hc3)]), K⟩
 have hc3 : bW m2.p := by simpa using hc3
 refine jQ (jN (jv2 3 6 ?_))
 refine jS (jR (je (Run.loadA rfl zg zb (fun j v hj => hb1.cells j v hj) (by first | rfl | (simp; done))) ?_))
 have hb40 := hb4
 have hx4 := hoA.ne_blk hb4 jd
 refine Ops.st (qW.storeA rfl rfl zb hb4 rfl (MlC.cells_one m2)) ?_
 rintro w10 ⟨hb4, (hf10 : Frm [g4] _ _), hs10⟩
 have hoA := hoA.frm hf10 (fun y hy h => by rw [za] at h; subst h; exact hx4 hy)
 have hO := hO.blk hf10 hb40 jd jd
 have K := K.own hf10 (fun y hy => by rw [za] at hy; omega)
 have hb4 : Blk w10 g4 25 m2.cells.toArray := hb4
 refine jz 0 (jO (jN (jv2 6 7 ?_)))
 refine jT ?_
 refine bZ ?_
 refine qS rfl zg zb (fun j v hj => hb4.cells j v hj) (by first | rfl | (simp; done)) ?_
 refine qK rfl ?_
 refine qB ?_
 exact ⟨m2, 0, rfl, ⟨hrd _ K hoA hO, .inl ⟨rfl, by unfold jY; rw [if_neg (fun h => h hc1), if_neg (fun h => h hc2), if_neg (by rw [← hm2p]; exact fun h => h hc3), hm2p]⟩⟩, K⟩
set_option maxHeartbeats 2000000 in
theorem uZ (m : MlC) (q t : Tx) (P : Option Addr) (cp : Nat) (ps : List Int) (w : World) (hm : RdL w m) (hq : q.length ≤ 900000) (ht : t.length ≤ 900000) (hps : Rd w 1 P ps.length (IB ps)) (hpn : ps.length ≤ 1000000) (hbb : m.b ≤ 9223372036854775807) :
  Calls Tryz.prog 38 #[m.val, encStr q, .slice P ps.length cp, encStr t] w fun e w' => ∃ (m' : MlC) (U : Option Addr) (du : Nat) (us : List Int) (k : Nat), e = .returned (.tuple #[m'.val, .slice U us.length du, .int .i64 ((k : Nat) : Int)]) ∧ eM w' (dN m.p q ps t) m' U us k ∧ Frm [] w w' := by
 have hln := hm.ln
 have hpl := dZ m
 refine VC.calls (nt := 122) (res := #[.cell 8 25, .tmp 9, .tmp 10]) Tryz.func38 rfl Tryz.ntmps38 Tryz.results38 rfl ?_
 refine jS (jR ?_)
 refine Ops.m (qJ.box rfl) rfl ?_
 rintro _ w1 ⟨rfl, hF_w1⟩
 have hb1 : Blk w1 w.heap.size 25 #[.slice m.A m.l.length m.c, .slice m.S m.ss.length m.d, .int .i64 m.v, .int .i64 m.b] := hF_w1.blk
 have K := hF_w1.frm
 generalize hg1 : w.heap.size = g1 at hb1 ⊢
 refine Ops.m (qJ.alloc qI) rfl ?_
 rintro _ w2 ⟨rfl, hF2⟩
 have hb4 := hF2.blk
 have hg4 : w.heap.size ≤ w1.heap.size := K.size
 have hb1 := hb1.frm hF2.frm jp
 have hl1 := hb1.lt
 have hl4 := hb4.lt
 have K := K.trans hF2.frm jp
 have hne14 : g1 ≠ w1.heap.size := by have := hF_w1.size; omega
 have hg1s : w.heap.size ≤ g1 := jo
 generalize hg4' : w1.heap.size = g4 at hb4 hg4 hne14 hl4 ⊢
 refine ja rfl (jz 0 (jO (jN (jv5 1 2 3 4 8 ?_))))
 refine jS (jS (jR (je (Run.loadA rfl zg zb hb1.cells (by first | rfl | (simp; done))) ?_)))
 refine Ops.cl (jE1 Tryz.call26) (gB m _ (hm.frm K) hbb) rfl ?_
 rintro e w3 ⟨rfl, hf3⟩
 refine ⟨_, rfl, ?_⟩
 have hb1 := hb1.frm hf3 jp
 have hb4 := hb4.frm hf3 jp
 have hKs_hf3 := K.size
 have K := K.trans hf3 jp
 refine je (Run.not rfl) (jO (jN (jv6 1 2 3 4 8 21 ?_)))
 refine VC.condB rfl (fun hc1 => ?_) (fun hc1 => ?_)
 ·
  have hc1 : ¬ bW m.p := by simpa using hc1
  refine jS (jR (je (Run.build evs.nil qI (qR).choose_spec.1 (qR).choose_spec.2 rfl) ?_))
  refine Ops.st (qW.storeA rfl rfl zb hb4 rfl (MlC.cells_one qP)) ?_
  rintro wz ⟨hb4, (hfwz : Frm [g4] _ _), hswz⟩
  have hb4 : Blk wz g4 25 qP.cells.toArray := hb4
  have K := K.own hfwz (fun y hy => by rw [za] at hy; omega)
  refine ja rfl (jz 1 (jO (jN (jv3 8 9 10 ?_))))
  refine jT ?_
  refine qQ (bZ ?_)
  refine qS rfl zg zb (fun j v hj => hb4.cells j v hj) (by first | rfl | (simp; done)) ?_
  refine qK rfl ?_
  refine qK rfl ?_
  refine qB ?_
  exact ⟨qP, none, 0, [], 1, rfl, eM.err jd (by unfold dN; rw [if_pos hc1]), K⟩
 have hc1 : bW m.p := by simpa using hc1
 obtain ⟨hm24, hv1, hv2, hb0, hb2, hr, hin⟩ := cA hc1
 refine jQ (jN (jv5 1 2 3 4 8 ?_))
 refine jS (jS ?_)
 refine VC.split1 [(1, _), (2, _), (3, _), (4, _), (8, _)] (js5 rfl rfl rfl rfl rfl) 30 (.bool (decide (¬ isN q ∨ ¬ isN t))) ?_ ?_
 ·
  refine jR (jM ?_)
  refine Ops.cl (jE1 Tryz.call50) (jW q _ jo) rfl ?_
  rintro e _ ⟨rfl, rfl⟩
  refine ⟨_, rfl, ?_⟩
  by_cases hs24 : isN q
  ·
   refine je (Run.not rfl) (jM ?_)
   refine jG ?_
   refine Ops.clg rfl au (jE1 Tryz.call50) (jW t _ jo) rfl ?_
   rintro e _ ⟨rfl, rfl⟩
   refine ⟨_, rfl, ?_⟩
   by_cases hs28 : isN t
   ·
    refine jk (Run.not rfl) ?_
    refine je (Run.pickF rfl rfl au) (jO ?_)
    refine jN ⟨(js6 (jC (by first | (simp [hs24, hs28]; done) | (simp [hs24]; done))) rfl rfl rfl rfl rfl), rfl⟩
   refine jk (Run.not rfl) ?_
   refine je (Run.pickF rfl rfl au) (jO ?_)
   refine jN ⟨(js6 (jC (by first | (simp [hs24, hs28]; done) | (simp [hs24]; done))) rfl rfl rfl rfl rfl), rfl⟩
  refine je (Run.not rfl) (jM ?_)
  refine jU ?_
  refine jU ?_
  refine jU ?_
  refine je (Run.pickT rfl rfl au) (jO ?_)
  refine jN ⟨(js6 (jC (by first | (simp [hs24, hs28]; done) | (simp [hs24]; done))) rfl rfl rfl rfl rfl), rfl⟩
 intro Γ hΓ
 refine jN (VC.sub _ hΓ ?_)
 refine jD rfl (fun hc2 => ?_) fun hc2 => ?_
 ·
  refine jS (jR (je (Run.build evs.nil qI (qR).choose_spec.1 (qR).choose_spec.2 rfl) ?_))
  refine Ops.st (qW.storeA rfl rfl zb hb4 rfl (MlC.cells_one qP)) ?_
  rintro wz ⟨hb4, (hfwz : Frm [g4] _ _), hswz⟩
  have hb4 : Blk wz g4 25 qP.cells.toArray := hb4
  have K := K.own hfwz (fun y hy => by rw [za] at hy; omega)
  refine ja rfl (jz 18 (jO (jN (jv3 8 9 10 ?_))))
  refine jT ?_
  refine qQ (bZ ?_)
  refine qS rfl zg zb (fun j v hj => hb4.cells j v hj) (by first | rfl | (simp; done)) ?_
  refine qK rfl ?_
  refine qK rfl ?_
  refine qB ?_
  exact ⟨qP, none, 0, [], 18, rfl, eM.err jd (by unfold dN; rw [if_neg (fun h => h hc1), if_pos hc2]), K⟩
 obtain ⟨hq1, ht1⟩ : isN q ∧ isN t := by
  rw [not_or, Classical.not_not, Classical.not_not] at hc2
  exact hc2
 refine jQ (jN (jv5 1 2 3 4 8 ?_))
 refine jS (jS ?_)
 refine VC.splitR [(1, encStr q), (2, .slice P ps.length cp), (3, encStr t), (4, .pointer (some ⟨g1, 0, none⟩)), (8, .pointer (some ⟨g4, 0, none⟩))] (fun wz => Frm [] w wz ∧ Blk wz g1 25 #[.slice m.A m.l.length m.c, .slice m.S m.ss.length m.d, .int .i64 m.v, .int .i64 m.b] ∧ Blk wz g4 25 qP.cells.toArray) 43 (.bool (decide (atR (Ns m.l) (qV q) < 0 ∨ atR (Ns m.l) (qV t) < 0))) ?_ ?_
 ·
  refine jR (jf rfl zd rfl zx (jl rfl zah (hb1.cell 0) (jM ?_)))
  refine Ops.cl (jE2 zek) (fV m.A m.c m.l q _ (hm.frm K).l hln jo) rfl ?_
  rintro e w5 ⟨rfl, hfw5⟩
  refine ⟨_, rfl, ?_⟩
  have hb1 := hb1.frm hfw5 jp
  have hb4 := hb4.frm hfw5 jp
  have hKs_hfw5 := K.size
  have K := K.trans hfw5 jp
  refine jb rfl rfl (Bin.lss _ 0) ?_
  by_cases hs36 : atR (Ns m.l) (qV q) < 0
  ·
   refine jM ?_
   refine jU ?_
   refine jU ?_
   refine jU ?_
   refine jU ?_
   refine jU ?_
   refine je (Run.pickT rfl rfl au) (jO ?_)
   refine jN ⟨(js6 (jC (by first | exact (decide_eq_true (p := atR (Ns m.l) (qV q) < 0 ∨ atR (Ns m.l) (qV t) < 0) (.inl hs36)).symm | exact decide_eq_decide.2 ⟨.inr, fun h => h.resolve_left hs36⟩)) rfl rfl rfl rfl rfl), (⟨K, hb1, hb4⟩)⟩
  refine jM ?_
  refine jk (Run.fieldAddr rfl zd rfl zx jd) ?_
  refine jk (Run.load rfl zah (hb1.cell 0)) ?_
  refine jG ?_
  refine Ops.clg rfl au (jE2 zek) (fV m.A m.c m.l t _ (hm.frm K).l hln jo) rfl ?_
  rintro e w6 ⟨rfl, hfw6⟩
  refine ⟨_, rfl, ?_⟩
  have hb1 := hb1.frm hfw6 jp
  have hb4 := hb4.frm hfw6 jp
  have hKs_hfw6 := K.size
  have K := K.trans hfw6 jp
  refine jk (Run.bin rfl rfl (Bin.lss _ 0)) ?_
  refine je (Run.pickF rfl rfl au) (jO ?_)
  refine jN ⟨(js6 (jC (by first | exact (decide_eq_true (p := atR (Ns m.l) (qV q) < 0 ∨ atR (Ns m.l) (qV t) < 0) (.inl hs36)).symm | exact decide_eq_decide.2 ⟨.inr, fun h => h.resolve_left hs36⟩)) rfl rfl rfl rfl rfl), (⟨K, hb1, hb4⟩)⟩
 intro Γ wz hΓ ⟨K, hb1, hb4⟩
 refine jN (VC.sub _ hΓ ?_)
 refine jD rfl (fun hc3 => ?_) fun hc3 => ?_
 ·
  have hc3 : qV q ∉ m.p.l.map Prod.fst ∨ qV t ∉ m.p.l.map Prod.fst := hc3.imp kD.1 kD.1
  refine jS (jR (je (Run.build evs.nil qI (qR).choose_spec.1 (qR).choose_spec.2 rfl) ?_))
  refine Ops.st (qW.storeA rfl rfl zb hb4 rfl (MlC.cells_one qP)) ?_
  rintro wz ⟨hb4, (hfwz : Frm [g4] _ _), hswz⟩
  have hb4 : Blk wz g4 25 qP.cells.toArray := hb4
  have K := K.own hfwz (fun y hy => by rw [za] at hy; omega)
  refine ja rfl (jz 6 (jO (jN (jv3 8 9 10 ?_))))
  refine jT ?_
  refine qQ (bZ ?_)
  refine qS rfl zg zb (fun j v hj => hb4.cells j v hj) (by first | rfl | (simp; done)) ?_
  refine qK rfl ?_
  refine qK rfl ?_
  refine qB ?_
  exact ⟨qP, none, 0, [], 6, rfl, eM.err jd (sL hc1 hq1 ht1 hc3), K⟩
 obtain ⟨hc3a, hc3b⟩ := not_or.1 hc3
 obtain ⟨ii, hki, hii, hiie⟩ := sI hc3a
 obtain ⟨kk, hkk0, hkk, hkke⟩ := sI hc3b
 have hF := sO (ps := ps) hc1 hq1 ht1 (fY hr hii hiie) (fY hr hkk hkke)
 have hyl := ((hm.frm K).l.el _ (zr hii)).n
 have hzl := ((hm.frm K).l.el _ (zr hkk)).n
 have hym := zr hii
 have hzm := zr hkk
 generalize hy : m.l[ii] = y at *
 generalize hz : m.l[kk] = z at *
 have ely : ∀ W, Frm [] w W → ∀ ad, m.A = some ad → ∀ j v, y.cells[j]? = some v → W.cell? ((ad.add (ii * 4)).add j) = some v := fun W hW ad hA => by
  obtain ⟨ad', hA', h⟩ := (hm.frm hW).l.elem hii
  rw [hA] at hA'
  cases hA'
  rw [hy] at h
  exact h
 have elz : ∀ W, Frm [] w W → ∀ ad, m.A = some ad → ∀ j v, z.cells[j]? = some v → W.cell? ((ad.add (kk * 4)).add j) = some v := fun W hW ad hA => by
  obtain ⟨ad', hA', h⟩ := (hm.frm hW).l.elem hkk
  rw [hA] at hA'
  cases hA'
  rw [hz] at h
  exact h
 have hlen0 : (Ms y.l).length = y.l.length := by simp [Ms]
 obtain ⟨ad, had, _⟩ := (hm.frm K).l.elem hii
 refine jQ (jN (jv5 1 2 3 4 8 ?_))
 refine jS ?_
 refine VC.held (fun W => Frm [] wz W) jK ?_
 have hS : Frm [] wz wz.drew := (Frm.refl _ _).drew
 refine jH 0 rfl hS (fun w0 hw0 => Run.fieldAddr rfl zd rfl zx jd) ?_
 refine jH 1 rfl hS (fun w0 hw0 => Run.load rfl zah ((hb1.frm hw0 jp).cell 0)) ?_
 refine jH 2 rfl hS (fun w0 hw0 => Run.fieldAddr rfl zd rfl zx jd) ?_
 refine jH 3 rfl hS (fun w0 hw0 => Run.load rfl zah ((hb1.frm hw0 jp).cell 0)) ?_
 refine jH 4 rfl hS (fun w0 hw0 => Run.mv rfl) ?_
 refine qZ.cl 5 rfl jK (jE2 zek) (fV m.A m.c m.l q _ (hm.frm (K.trans hS jp)).l hln jo) trivial rfl rfl ?_
 rintro e w7 ⟨rfl, hfw7⟩
 rw [hki]
 have hSw7 := hS.trans hfw7 jp
 refine ⟨_, rfl, hSw7, ?_⟩
 have hS := hSw7
 refine jH 6 rfl hS (fun w0 hw0 => Run.indexS ii (show _ = some (Value.slice (some ad) m.l.length m.c) by rw [← had]; rfl) rfl ze zo hii) ?_
 refine jH 7 rfl hS (fun w0 hw0 => Run.fieldAddr rfl zy rfl zf jd) ?_
 refine jH 8 rfl hS (fun w0 hw0 => Run.fieldAddr rfl zj rfl zaa jd) ?_
 refine jH 9 rfl hS (fun w0 hw0 => Run.load rfl zao (ely _ (K.trans hw0 jp) ad had 3 (.slice y.A y.l.length y.c) rfl)) ?_
 refine jH 10 rfl hS (fun w0 hw0 => Run.asg rfl) ?_
 refine qZ.done jK ?_
 refine jN (jv5 2 3 4 8 11 ?_)
 refine jS ?_
 refine VC.meet (σ := Nat) (fun s => [(2, .slice P ps.length cp), (3, encStr t), (4, .pointer (some ⟨g1, 0, none⟩)), (8, .pointer (some ⟨g4, 0, none⟩)), (11, .slice y.A y.l.length y.c), (12, .pointer (some ⟨s, 0, none⟩))]) (fun s wz => Frm [] w7 wz ∧ Blk wz s 43 (BVc z.v z.n z.A z.l.length z.c).toArray ∧ w7.heap.size ≤ s) ?_ ?_
 ·
  refine VC.held (fun W => Frm [] w7 W) jK ?_
  have hb1 := hb1.frm hS jp
  have hb4 := hb4.frm hS jp
  have K := K.trans hS jp
  have hS : Frm [] w7 w7.drew := (Frm.refl _ _).drew
  refine jH 0 rfl hS (fun w0 hw0 => Run.fieldAddr rfl zd rfl zx jd) ?_
  refine jH 1 rfl hS (fun w0 hw0 => Run.load rfl zah ((hb1.frm hw0 jp).cell 0)) ?_
  refine jH 2 rfl hS (fun w0 hw0 => Run.fieldAddr rfl zd rfl zx jd) ?_
  refine jH 3 rfl hS (fun w0 hw0 => Run.load rfl zah ((hb1.frm hw0 jp).cell 0)) ?_
  refine jH 4 rfl hS (fun w0 hw0 => Run.mv rfl) ?_
  refine qZ.or2 5 9 jK ?_ ?_
  ·
   refine cB.cl rfl (jE2 zek) (fV m.A m.c m.l t _ (hm.frm (K.trans hS jp)).l hln jo) trivial rfl rfl ?_
   rintro e w8 ⟨rfl, hfw8⟩
   rw [hkk0]
   have hSw8 := hS.trans hfw8 jp
   refine ⟨_, rfl, hSw8, ?_⟩
   have hS := hSw8
   refine jH 6 rfl hS (fun w0 hw0 => Run.indexS kk (show _ = some (Value.slice (some ad) m.l.length m.c) by rw [← had]; rfl) rfl ze zo hkk) ?_
   refine jH 7 rfl hS (fun w0 hw0 => Run.fieldAddr rfl zy rfl zf jd) ?_
   refine jH 8 rfl hS (fun w0 hw0 => Run.loadA rfl zad zf (cs := BVc z.v z.n z.A z.l.length z.c) (fun j v hj => by rw [Go.Proofs.YtgmbmfpfhcekiaaGreat.add_add]; exact elz _ (K.trans hw0 jp) ad had (1 + j) v (by rw [zdb]; exact hj)) (by first | rfl | (simp; done))) ?_
   refine qZ.m 9 rfl jK (qJ.alloc bH) trivial rfl rfl ?_
   rintro _ w9 ⟨rfl, hFw9⟩
   have hg12 := hS.size
   have hb12o := hFw9.blk
   have hSw9 := hS.trans hFw9.frm jp
   refine ⟨hSw9, ?_⟩
   have hS := hSw9
   generalize hgd : w8.heap.size = g12 at hb12o hg12 ⊢
   refine qZ.st 10 rfl jK (qW.storeA rfl rfl zf hb12o rfl (bK z.v z.n z.A z.l.length z.c)) trivial rfl ?_
   rintro w10 ⟨hbn, (hfw10 : Frm [g12] _ _), hsw10⟩
   have hSw10 := hS.own hfw10 (fun y hy => by rw [za] at hy; omega)
   refine ⟨hSw10, ?_⟩
   have hS := hSw10
   refine qZ.done jK ?_
   refine jN ⟨g12, (js6 rfl rfl rfl rfl rfl rfl), ?_⟩
   exact ⟨hS, hbn, hg12⟩
  refine cB.m rfl (qJ.alloc bH) trivial rfl rfl ?_
  rintro _ w8 ⟨rfl, hFw8⟩
  have hg12 := hS.size
  have hb12o := hFw8.blk
  have hSw8 := hS.trans hFw8.frm jp
  refine ⟨hSw8, ?_⟩
  have hS := hSw8
  generalize hgd : w7.drew.heap.size = g12 at hb12o hg12 ⊢
  refine qZ.cl 5 rfl jK (jE2 zek) (fV m.A m.c m.l t _ (hm.frm (K.trans hS jp)).l hln jo) trivial rfl rfl ?_
  rintro e w9 ⟨rfl, hfw9⟩
  rw [hkk0]
  have hSw9 := hS.trans hfw9 jp
  refine ⟨_, rfl, hSw9, ?_⟩
  have hS := hSw9
  have hb12o := hb12o.frm hfw9 jp
  refine jH 6 rfl hS (fun w0 hw0 => Run.indexS kk (show _ = some (Value.slice (some ad) m.l.length m.c) by rw [← had]; rfl) rfl ze zo hkk) ?_
  refine jH 7 rfl hS (fun w0 hw0 => Run.fieldAddr rfl zy rfl zf jd) ?_
  refine jH 8 rfl hS (fun w0 hw0 => Run.loadA rfl zad zf (cs := BVc z.v z.n z.A z.l.length z.c) (fun j v hj => by rw [Go.Proofs.YtgmbmfpfhcekiaaGreat.add_add]; exact elz _ (K.trans hw0 jp) ad had (1 + j) v (by rw [zdb]; exact hj)) (by first | rfl | (simp; done))) ?_
  refine qZ.st 10 rfl jK (qW.storeA rfl rfl zf hb12o rfl (bK z.v z.n z.A z.l.length z.c)) trivial rfl ?_
  rintro w10 ⟨hbn, (hfw10 : Frm [g12] _ _), hsw10⟩
  have hSw10 := hS.own hfw10 (fun y hy => by rw [za] at hy; omega)
  refine ⟨hSw10, ?_⟩
  have hS := hSw10
  refine qZ.done jK ?_
  refine jN ⟨g12, (js6 rfl rfl rfl rfl rfl rfl), ?_⟩
  exact ⟨hS, hbn, hg12⟩
 rintro g12 wz ⟨hfz, hb12, h716⟩ Γ hΓ
 have hb1 := hb1.frm hS jp
 have hb4 := hb4.frm hS jp
 have K := K.trans hS jp
 have hlt1 := hb1.lt
 have hlt4 := hb4.lt
 have hK7 := K.size
 have hb1 := hb1.frm hfz jp
 have hb4 := hb4.frm hfz jp
 have K := K.trans hfz jp
 refine jN (VC.sub _ hΓ (jS (jS (jR (jz 0 (jO (jN (jB ?_))))))))
 refine VC.loop (σ := Nat) (fun s => [(2, .slice P ps.length cp), (3, encStr t), (4, .pointer (some ⟨g1, 0, none⟩)), (8, .pointer (some ⟨g4, 0, none⟩)), (11, .slice y.A y.l.length y.c), (12, .pointer (some ⟨g12, 0, none⟩)), (13, .int .i64 ((s : Nat) : Int))]) (fun s wr => s ≤ ps.length ∧ (∀ j (h : j < ps.length), j < s → ¬ (ps[j] < 1 ∨ ((y.l.length : Nat) : Int) < ps[j])) ∧ Blk wr g1 25 #[.slice m.A m.l.length m.c, .slice m.S m.ss.length m.d, .int .i64 m.v, .int .i64 m.b] ∧ Blk wr g4 25 qP.cells.toArray ∧ Blk wr g12 43 (BVc z.v z.n z.A z.l.length z.c).toArray ∧ Frm [] w wr) (fun s => ps.length - s) 0 (js7 rfl rfl rfl rfl rfl rfl rfl) ⟨zam _, fun _ _ h => jo, hb1, hb4, hb12, K⟩ ?_
 rintro i wr ⟨hi, hd, hb1, hb4, hb12, K⟩
 refine jS (jS (jR (jm rfl (jm rfl (je (Run.lenS rfl zat) (jb rfl rfl (Bin.lssN _ _) (jO (jN (jv8 2 3 4 8 11 12 13 67 ?_)))))))))
 refine jD rfl (fun hc4 => ?_) fun hc4 => ?_
 ·
  obtain ⟨adp, hadp, hcp⟩ := (hps.frm K jp).elem hc4
  have hcp := hcp 0 (.int .i64 ps[i]) (by simp [IB, hc4])
  have hpm := zr hc4
  generalize hpp : ps[i] = p at *
  refine jQ (jN (jv7 2 3 4 8 11 12 13 ?_))
  refine jS (jB (jS ?_))
  refine VC.split1 [(2, _), (3, _), (4, _), (8, _), (11, _), (12, _), (13, _)] (js7 rfl rfl rfl rfl rfl rfl rfl) 83 (.bool (decide (p < 1 ∨ ((y.l.length : Nat) : Int) < p))) ?_ ?_
  ·
   refine jR ?_
   refine jm rfl (jm rfl (je (Run.indexS i (show _ = some (Value.slice (some adp) ps.length cp) by rw [← hadp]; rfl) rfl zat zi hc4) (jl rfl zn hcp (jb rfl rfl (Bin.lss _ 1) ?_))))
   by_cases hs74 : p < 1
   ·
    refine jM ?_
    refine jU ?_
    refine jU ?_
    refine jU ?_
    refine jU ?_
    refine jU ?_
    refine jU ?_
    refine jU ?_
    refine je (Run.pickT rfl rfl au) (jO ?_)
    refine jN ⟨(js8 (jC (by first | exact (decide_eq_true (.inl hs74)).symm | exact decide_eq_decide.2 ⟨.inr, fun h => h.resolve_left hs74⟩)) rfl rfl rfl rfl rfl rfl rfl), rfl⟩
   refine jM ?_
   refine jG ?_
   refine jG ?_
   refine jk (Run.indexS i (show _ = some (Value.slice (some adp) ps.length cp) by rw [← hadp]; rfl) rfl zat zi hc4) ?_
   refine jk (Run.load rfl zn hcp) ?_
   refine jG ?_
   refine jk (Run.lenS rfl zk) ?_
   refine jk (Run.bin rfl rfl (Bin.gtr _ _)) ?_
   refine je (Run.pickF rfl rfl au) (jO ?_)
   refine jN ⟨(js8 (jC (by first | exact (decide_eq_true (.inl hs74)).symm | exact decide_eq_decide.2 ⟨.inr, fun h => h.resolve_left hs74⟩)) rfl rfl rfl rfl rfl rfl rfl), rfl⟩
  intro Γ hΓ
  refine jN (VC.sub _ hΓ ?_)
  refine jD rfl (fun hc5 => ?_) fun hc5 => ?_
  ·
   have hFe : dN m.p q ps t = .error 4 := by rw [hF, if_pos]; exact ⟨p, hpm, by show p < 1 ∨ ((Ms y.l).length : Int) < p; rw [hlen0]; exact hc5⟩
   refine jS (jR (je (Run.build evs.nil qI (qR).choose_spec.1 (qR).choose_spec.2 rfl) ?_))
   refine Ops.st (qW.storeA rfl rfl zb hb4 rfl (MlC.cells_one qP)) ?_
   rintro wz ⟨hb4, (hfwz : Frm [g4] _ _), hswz⟩
   have hb4 : Blk wz g4 25 qP.cells.toArray := hb4
   have K := K.own hfwz (fun y hy => by rw [za] at hy; omega)
   refine ja rfl (jz 4 (jO (jN (jv3 8 9 10 ?_))))
   refine jT ?_
   refine qN (qQ (qQ (qN (qQ (bZ ?_)))))
   refine qS rfl zg zb (fun j v hj => hb4.cells j v hj) (by first | rfl | (simp; done)) ?_
   refine qK rfl ?_
   refine qK rfl ?_
   refine qB ?_
   exact ⟨qP, none, 0, [], 4, rfl, eM.err jd hFe, K⟩
  refine jQ ?_
  refine qT (jN ?_)
  refine jv7 2 3 4 8 11 12 13 ?_
  refine jR (jm rfl (jb rfl rfl (Bin.add_i64 _ 1 jo) (ja rfl (jO ?_))))
  refine jN ⟨(i + 1), (js7 rfl rfl rfl rfl rfl rfl rfl), ?_, ?_⟩
  ·
   refine ⟨hc4, fun j h hj => ?_, hb1, hb4, hb12, K⟩
   by_cases e : j = i
   · subst e; rw [hpp]; exact hc5
   exact hd j h jo
  first | omega | (dsimp only; omega)
 refine jX ?_
 refine qH (qH (qF ?_))
 refine jN (jv6 2 3 4 8 11 12 ?_)
 refine jS (jR (ja rfl (jO (jN (jS (jS (jR (jz 0 (jO (jN (jB ?_)))))))))))
 obtain rfl : i = ps.length := jo
 have hc4 : ¬ ∃ p ∈ ps, p < 1 ∨ ((y.l.length : Nat) : Int) < p := by
  rintro ⟨p, hp, h⟩
  obtain ⟨j, hj, rfl⟩ := zaf hp
  exact hd j hj hj h
 have hF2 : dN m.p q ps t = match cF z.p.2 (eX (Ms y.l) ps) with
   | .error e => .error e
   | .ok (b', us) => .ok ({ m.p with l := bU m.p.l (qV t) b' }, us) := by
  rw [hF, if_neg]
  · rfl
  rintro ⟨p, h1, h2⟩
  rw [show y.p.2.l = Ms y.l from rfl, hlen0] at h2
  exact hc4 ⟨p, h1, h2⟩
 refine VC.loop (σ := (Nat × Int × Int) × (Option Addr × Nat × List Mc) × (Option Addr × Nat × List Int)) (fun s => [(2, .slice P ps.length cp), (3, encStr t), (4, .pointer (some ⟨g1, 0, none⟩)), (8, .pointer (some ⟨g4, 0, none⟩)), (11, .slice y.A y.l.length y.c), (12, .pointer (some ⟨g12, 0, none⟩)), (14, .slice s.2.2.1 s.2.2.2.2.length s.2.2.2.1), (15, .int .i64 ((s.1.1 : Nat) : Int))]) (fun s wr => s.1.1 ≤ ps.length ∧ Blk wr g1 25 #[.slice m.A m.l.length m.c, .slice m.S m.ss.length m.d, .int .i64 m.v, .int .i64 m.b] ∧ Blk wr g4 25 qP.cells.toArray ∧ Blk wr g12 43 (BVc s.1.2.1 s.1.2.2 s.2.1.1 s.2.1.2.2.length s.2.1.2.1).toArray ∧ eF w wr m s.2.1.1 s.2.1.2.1 s.2.1.2.2 ∧ s.2.1.2.2.length ≤ 900000 ∧ cF z.p.2 (eX (Ms y.l) (ps.take s.1.1)) = .ok (⟨s.1.2.1, s.1.2.2, Ms s.2.1.2.2⟩, s.2.2.2.2) ∧ Own wr 3 1 s.2.2.1 s.2.2.2.2.length s.2.2.2.1 (IB s.2.2.2.2) ∧ s.2.2.2.2.length = s.1.1 ∧ (∀ b ∈ ob s.2.2.1, w.heap.size ≤ b) ∧ Frm [] w wr) (fun s => ps.length - s.1.1) ((0, z.v, z.n), (z.A, z.c, z.l), (none, 0, [])) (js8 rfl rfl rfl rfl rfl rfl rfl rfl) ⟨zam _, hb1, hb4, hb12, ⟨.inr ⟨z, hzm, rfl, rfl⟩, (hm.l.el _ hzm).rd.fl⟩, jo, rfl, Own.nil _ _ _, rfl, by simp [ob], K⟩ ?_
 rintro ⟨⟨i, v, n⟩, ⟨B, d, lm⟩, ⟨U, du, us⟩⟩ wr ⟨hi, hb1, hb4, hb12, hBF, hlm, hap, hou, hul, hob, K⟩
 dsimp only at *
 refine jS (jS (jR (jm rfl (jm rfl (je (Run.lenS rfl zat) (jb rfl rfl (Bin.lssN _ _) (jO (jN (jv9 2 3 4 8 11 12 14 15 88 ?_)))))))))
 refine jD rfl (fun hc6 => ?_) fun hc6 => ?_
 ·
  obtain ⟨adp, hadp, hcp'⟩ : ∃ ad, P = some ad ∧ ∀ W, Frm [] wr W → W.cell? ((ad.add (i * 1)).add 0) = some (.int .i64 ps[i]) := by
   obtain ⟨ad, hA, _⟩ := (hps.frm K jp).elem hc6
   refine ⟨ad, hA, fun W hW => ?_⟩
   obtain ⟨ad', hA', h⟩ := (hps.frm (K.trans hW jp) jp).elem hc6
   rw [hA] at hA'
   cases hA'
   exact h 0 _ (by simp [IB, hc6])
  have hpi : ¬ (ps[i] < 1 ∨ ((y.l.length : Nat) : Int) < ps[i]) := fun h => hc4 ⟨_, zr hc6, h⟩
  obtain ⟨pn, hpn1⟩ : ∃ pn : Nat, ps[i] = ((pn + 1 : Nat) : Int) := ⟨(ps[i] - 1).toNat, jo⟩
  have hpl2 : pn < y.l.length := jo
  rw [hpn1] at hcp'
  have hsn := @rV (Ms y.l) ps i hc6
  have hsp := @pV (Ms y.l) ps i hc6
  have hgd : ((Ms y.l)[(ps[i] - 1).toNat]?).getD ⟨0, 0, 0, 0, 0, []⟩ = (y.l[pn]).m := by
   rw [hpn1, show (((pn + 1 : Nat) : Int) - 1).toNat = pn by omega]
   simp [Ms, zc hpl2]
  rw [hgd] at hsn hsp
  have hyA := (((hm.frm K).l.el _ hym).rd).fl _ (zr hpl2)
  obtain ⟨ady, hady, hely⟩ : ∃ ad, y.A = some ad ∧ ∀ W, Frm [] wr W → ∀ j v, (y.l[pn]).cells[j]? = some v → W.cell? ((ad.add (pn * 6)).add j) = some v := by
   obtain ⟨ad, hA, _⟩ := ((hm.frm K).l.el _ hym).rd.elem hpl2
   refine ⟨ad, hA, fun W hW => ?_⟩
   obtain ⟨ad', hA', h⟩ := ((hm.frm (K.trans hW jp)).l.el _ hym).rd.elem hpl2
   rw [hA] at hA'
   cases hA'
   exact h
  refine jQ (jN (jv8 2 3 4 8 11 12 14 15 ?_))
  refine jS (jB (jS ?_))
  refine VC.held (fun W => Frm [] wr W) jK ?_
  have hS : Frm [] wr wr.drew := (Frm.refl _ _).drew
  refine jH 0 rfl hS (fun w0 hw0 => Run.loadA rfl zad zf (fun j v hj => (hb12.frm hw0 jp).cells j v hj) (by first | rfl | (simp; done))) ?_
  refine jH 1 rfl hS (fun w0 hw0 => Run.mv rfl) ?_
  refine jH 2 rfl hS (fun w0 hw0 => Run.mv rfl) ?_
  refine jH 3 rfl hS (fun w0 hw0 => Run.mv rfl) ?_
  refine jH 4 rfl hS (fun w0 hw0 => Run.indexS i (show _ = some (Value.slice (some adp) ps.length cp) by rw [← hadp]; rfl) rfl zat zi hc6) ?_
  refine jH 5 rfl hS (fun w0 hw0 => Run.load rfl zn (hcp' _ hw0)) ?_
  refine jH 6 rfl hS (fun w0 hw0 => Run.bin rfl rfl (Bin.sub_i64 _ 1 jo jo)) ?_
  rw [zew]
  refine jH 7 rfl hS (fun w0 hw0 => Run.indexS pn (show _ = some (Value.slice (some ady) y.l.length y.c) by rw [← hady]; rfl) rfl zk zt hpl2) ?_
  refine jH 8 rfl hS (fun w0 hw0 => Run.loadA rfl zaz zt (fun j v hj => hely _ hw0 j v hj) (by first | rfl | (simp; done))) ?_
  refine qZ.par (target := #[true, true, true, true, true, true, true, true, true, true, true, true, true, true, true, false, false, false]) [⟨9, 101, [], false, fun _ u lo hi W => ∃ v' n' B2 d2 l' k', u = .tuple #[.agg #[.int .i64 v', .int .i64 n', .slice B2 l'.length d2], .int .i64 (if k' = 0 then n else 0), .int .i64 ((k' : Nat) : Int)] ∧ dH W (bG ⟨v, n, Ms lm⟩ (y.l[pn]).m) v' n' B2 d2 l' k' ∧ (k' = 0 → Own W 60 6 B2 l'.length d2 (MC l') ∧ l' = lm ++ [⟨{ (y.l[pn]).m with uid := n }, (y.l[pn]).A, (y.l[pn]).c⟩])⟩, PT.mv 10 91 101 [], PT.part 11 102 91 0 [101], PT.part 12 103 91 1 [101], PT.part 13 104 91 2 [101], PT.made 14 16 43 #[.int .i64 0, .int .i64 0, .slice none 0 0]] 6 rfl jK (show List.Nodup ([101, 91, 102, 103, 104, 16] : List Nat) by decide) (show List.Nodup ([9, 10, 11, 12, 13, 14] : List Nat) by decide) (fun t ht => ?_) (fun t ht => ?_) (fun W hW => ?_) (fun t ht => ?_) (fun t ht => ?_) (fun t ht W g hW hD hE => ?_) (fun g W hW hA => ?_)
  ·
   simp only [zv, zu, or_false] at ht
   rcases ht with rfl | rfl | rfl | rfl | rfl | rfl
   · rfl
   · rfl
   · rfl
   · rfl
   · rfl
   rfl
  ·
   simp only [zv, zu, or_false] at ht
   rcases ht with rfl | rfl | rfl | rfl | rfl | rfl
   · exact fun x hx => absurd hx jp
   ·
    intro x hx
    simp only [zv, zu, or_false] at hx
    rcases hx with rfl
    exact ⟨_, (.head _), rfl⟩
   ·
    intro x hx
    simp only [zv, zu, or_false] at hx
    rcases hx with rfl | rfl
    · exact ⟨_, (.tail _ (.head _)), rfl⟩
    exact ⟨_, (.head _), rfl⟩
   ·
    intro x hx
    simp only [zv, zu, or_false] at hx
    rcases hx with rfl | rfl
    · exact ⟨_, (.tail _ (.head _)), rfl⟩
    exact ⟨_, (.head _), rfl⟩
   ·
    intro x hx
    simp only [zv, zu, or_false] at hx
    rcases hx with rfl | rfl
    · exact ⟨_, (.tail _ (.head _)), rfl⟩
    exact ⟨_, (.head _), rfl⟩
   exact fun x hx => absurd hx jp
  · exact hS.trans hW jp
  ·
   simp only [zv, zu, or_false] at ht
   rcases ht with rfl | rfl | rfl | rfl | rfl | rfl
   · exact fun _ v lo hi W W' hf ⟨v', n', B, d, l', k', h1, h2, h3⟩ => ⟨v', n', B, d, l', k', h1, ⟨h2.1.frm hf, h2.2⟩, fun h0 => ⟨(h3 h0).1.frm hf jp, (h3 h0).2⟩⟩
   · exact fun _ _ _ _ _ _ _ h => h
   · exact fun _ _ _ _ _ _ _ h => h
   · exact fun _ _ _ _ _ _ _ h => h
   · exact fun _ _ _ _ _ _ _ h => h
   exact PT.made_st
  ·
   simp only [zv, zu, or_false] at ht
   rcases ht with rfl | rfl | rfl | rfl | rfl | rfl
   · exact fun _ _ _ _ _ _ _ h => h
   · exact fun ρ ρ' v lo hi W h e => e.trans (h _ (.head _))
   · exact fun ρ ρ' v lo hi W h ⟨xs, h1, h2⟩ => ⟨xs, (h _ (.head _)).symm.trans h1, h2⟩
   · exact fun ρ ρ' v lo hi W h ⟨xs, h1, h2⟩ => ⟨xs, (h _ (.head _)).symm.trans h1, h2⟩
   · exact fun ρ ρ' v lo hi W h ⟨xs, h1, h2⟩ => ⟨xs, (h _ (.head _)).symm.trans h1, h2⟩
   exact fun _ _ _ _ _ _ _ h => h
  ·
   simp only [zv, zu, or_false] at ht
   rcases ht with rfl | rfl | rfl | rfl | rfl | rfl
   ·
    refine bB.cl rfl rfl rfl rfl rfl (jE2 Tryz.call87) (rN v n B d lm y.l[pn] W ((hBF.nil (hS.trans hW jp)).rdm (K.trans (hS.trans hW jp) jp) (hm.frm (K.trans (hS.trans hW jp) jp))) hlm (hyA.frm (hS.trans hW jp) jp)) ?_
    rintro e W' ⟨hf, v', n', B, d, l', k', rfl, h2, h3⟩
    exact ⟨_, rfl, hf, v', n', B, d, l', k', rfl, h2, h3⟩
   · exact bB.r rfl rfl rfl rfl (fun _ => Run.mv rfl) rfl
   ·
    have h1 := hD _ (.tail _ (.head _)) jp
    have h2 := hD _ (.head _) jp
    obtain ⟨v', n', B, d, l', k', h2e, _⟩ := h2
    exact bB.r rfl rfl rfl rfl (fun _ => Run.extract (congrArg some (h1.trans h2e)) rfl) ⟨_, h1.trans h2e, rfl⟩
   ·
    have h1 := hD _ (.tail _ (.head _)) jp
    have h2 := hD _ (.head _) jp
    obtain ⟨v', n', B, d, l', k', h2e, _⟩ := h2
    exact bB.r rfl rfl rfl rfl (fun _ => Run.extract (congrArg some (h1.trans h2e)) rfl) ⟨_, h1.trans h2e, rfl⟩
   ·
    have h1 := hD _ (.tail _ (.head _)) jp
    have h2 := hD _ (.head _) jp
    obtain ⟨v', n', B, d, l', k', h2e, _⟩ := h2
    exact bB.r rfl rfl rfl rfl (fun _ => Run.extract (congrArg some (h1.trans h2e)) rfl) ⟨_, h1.trans h2e, rfl⟩
   exact PT.made_ok rfl rfl bH
  have hA101 := hA.1 _ (.head _)
  have hA91 := hA.1 _ (.tail _ (.head _))
  have hA102 := hA.1 _ (.tail _ (.tail _ (.head _)))
  have hA103 := hA.1 _ (.tail _ (.tail _ (.tail _ (.head _))))
  have hA104 := hA.1 _ (.tail _ (.tail _ (.tail _ (.tail _ (.head _)))))
  have hA16 := hA.1 _ (.tail _ (.tail _ (.tail _ (.tail _ (.tail _ (.head _))))))
  have hA101_16 := hA.2 _ (.head _) _ (.tail _ (.tail _ (.tail _ (.tail _ (.tail _ (.head _)))))) (show (101 : Nat) ≠ 16 by decide)
  clear hA
  simp only [zal, zbo, zci, zav]
  dsimp only at hA101 hA91 hA102 hA103 hA104 hA16 hA101_16
  generalize g 101 = q101 at *
  obtain ⟨u101, lo101, hi101⟩ := q101
  generalize g 91 = q91 at *
  obtain ⟨u91, lo91, hi91⟩ := q91
  generalize g 102 = q102 at *
  obtain ⟨u102, lo102, hi102⟩ := q102
  generalize g 103 = q103 at *
  obtain ⟨u103, lo103, hi103⟩ := q103
  generalize g 104 = q104 at *
  obtain ⟨u104, lo104, hi104⟩ := q104
  generalize g 16 = q16 at *
  obtain ⟨u16, lo16, hi16⟩ := q16
  dsimp only at hA101 hA91 hA102 hA103 hA104 hA16 hA101_16 ⊢
  obtain ⟨⟨⟨rfl, hlt16⟩, hb16⟩, hA16⟩ := hA16
  obtain ⟨v', n', B', d', l', k', rfl, hI, hX⟩ := hA101.1
  have hS := hS.trans hW jp
  change wr.heap.size ≤ _ ∧ _ at hA16
  clear hA101
  obtain rfl := hA91.1
  obtain ⟨xs102, e1_102, e2_102⟩ := hA102.1
  injection e1_102 with e1_102
  subst e1_102
  have e2_102 := Option.some.inj e2_102
  subst e2_102
  obtain ⟨xs103, e1_103, e2_103⟩ := hA103.1
  injection e1_103 with e1_103
  subst e1_103
  have e2_103 := Option.some.inj e2_103
  subst e2_103
  obtain ⟨xs104, e1_104, e2_104⟩ := hA104.1
  injection e1_104 with e1_104
  subst e1_104
  have e2_104 := Option.some.inj e2_104
  subst e2_104
  have hbo := hb16
  refine qZ.st 15 rfl jK (qW.storeA rfl rfl zf hb16 rfl (bK v' n' B' l'.length d')) trivial rfl ?_
  rintro w12 ⟨hbn, (hf_w12 : Frm [lo16] _ _), hs_w12⟩
  have hb16 : Blk w12 lo16 43 (BVc v' n' B' l'.length d').toArray := hbn
  have hS := hS.own hf_w12 (fun y hy => by rw [za] at hy; omega)
  refine ⟨hS, ?_⟩
  have h16l := hb12.lt
  have hX := fun h0 => show _ ∧ _ from ⟨(hX h0).1.frm hf_w12 (fun y hy h => by rw [za] at h; subst h; exact (hX h0).1.ne_blk hbo jd hy), (hX h0).2⟩
  have hyAw := ((hm.l.el _ hym).rd).fl _ (zr hpl2)
  have hb1 := hb1.frm hS jp
  have hb4 := hb4.frm hS jp
  have hb12 := hb12.frm hS jp
  have hou := hou.frm hS jp
  have hKr := K.size
  have K := K.trans hS jp
  refine jH 16 rfl hS (fun w0 hw0 => Run.asg rfl) ?_
  refine jH 17 rfl hS (fun w0 hw0 => Run.asg rfl) ?_
  refine qZ.done jK ?_
  refine jN (jv11 2 3 4 8 11 12 14 15 16 17 18 ?_)
  refine jS (jS (jR (jm rfl (jb rfl rfl (Bin.neqN _ 0) (jO (jN (jv12 2 3 4 8 11 12 14 15 16 17 18 106 ?_)))))))
  refine jD rfl (fun hc7 => ?_) fun hc7 => ?_
  ·
   have hc7 : k' ≠ 0 := by simpa using hc7
   have hFe : dN m.p q ps t = .error k' := by
    rw [hF2]
    obtain ⟨_, ⟨h, _⟩ | ⟨_, h, _⟩⟩ := hI
    · exact absurd h hc7
    rw [hsp, rK hap h]
   refine jS (jR (je (Run.build evs.nil qI (qR).choose_spec.1 (qR).choose_spec.2 rfl) (jM ?_)))
   refine Ops.st (qW.storeA rfl rfl zb hb4 rfl (MlC.cells_one qP)) ?_
   rintro wz ⟨hb4, (hfwz : Frm [g4] _ _), hswz⟩
   have hb4 : Blk wz g4 25 qP.cells.toArray := hb4
   have K := K.own hfwz (fun y hy => by rw [za] at hy; omega)
   refine ja rfl (ja rfl (jO (jN (jv3 8 9 10 ?_))))
   refine jT ?_
   refine qQ (qN (qQ (qQ (qN (qQ (bZ ?_))))))
   refine qS rfl zg zb (fun j v hj => hb4.cells j v hj) (by first | rfl | (simp; done)) ?_
   refine qK rfl ?_
   refine qK rfl ?_
   refine qB ?_
   exact ⟨qP, none, 0, [], k', rfl, eM.err hc7 hFe, K⟩
  obtain rfl : k' = 0 := by simpa using hc7
  have hlb := hI.len27
  have hap' : cF z.p.2 (eX (Ms y.l) (ps.take (i + 1))) = .ok (⟨v', n', Ms l'⟩, us ++ [n]) := by
   obtain ⟨_, ⟨_, h⟩ | ⟨h, _⟩⟩ := hI
   · rw [hsn, pK hap h]
   exact absurd rfl h
  obtain ⟨hXo, hXl⟩ := hX rfl
  have hIr : eF w w12 m B' d' l' := ⟨.inl hXo, fun u hu => by
   rw [hXl] at hu
   rcases zeq.1 hu with h | h
   · exact hBF.2 u h
   rw [za] at h
   subst h
   exact ⟨hyAw.rd, hyAw.n, hyAw.q⟩⟩
  refine jQ (jN (jv10 2 3 4 8 11 12 14 15 16 17 ?_))
  refine jS (jR (je (Run.loadA rfl zad zf (fun j v hj => hb16.cells j v hj) (by first | rfl | (simp; done))) ?_))
  have hx16 := hou.ne_blk hb12 jd
  have hb12o := hb12
  refine Ops.st (qW.storeA rfl rfl zf hb12 rfl (bK v' n' B' l'.length d')) ?_
  rintro w13 ⟨hbn, (hf13 : Frm [g12] _ _), hs13⟩
  have hb12 : Blk w13 g12 43 (BVc v' n' B' l'.length d').toArray := hbn
  have hb1 := hb1.frm hf13 (by simp; omega)
  have hb4 := hb4.frm hf13 (by simp; omega)
  have hIr := hIr.blk hf13 hb12o jd
  have hou := hou.frm hf13 (fun y hy h => by rw [za] at h; subst h; exact hx16 hy)
  have K := K.own hf13 (fun y hy => by rw [za] at hy; omega)
  refine jO (jN (jv9 2 3 4 8 11 12 14 15 17 ?_))
  refine jR (jm rfl (jM ?_))
  refine Ops.m (qJ.buildS1 rfl zat zi qQu jd jd rfl rfl) rfl ?_
  rintro _ w14 ⟨rfl, hF14⟩
  have hr14 : Rd w14 1 (some ⟨w13.heap.size, 0, none⟩) 1 (IB [n]) := Rd.of_blk (n := 1) (size := 1) hF14.blk rfl
  have hf14 := hF14.frm
  have hb1 := hb1.frm hf14 jp
  have hb4 := hb4.frm hf14 jp
  have hb12 := hb12.frm hf14 jp
  have hou := hou.frm hf14 jp
  have hIr := hIr.nil hf14
  have K := K.trans hf14 jp
  have hK14 := K.size
  refine Ops.m (qJ.app rfl rfl zat (qQv) rfl jd hou hr14 (uI _) jo jo) rfl ?_
  rintro _ w15 ⟨U6, du6, rfl, ho6, hf15, hob6⟩
  rw [← uA] at ho6
  have hb1 := hb1.frm hf15 (hou.ne_blk hb1 jd)
  have hb4 := hb4.frm hf15 (hou.ne_blk hb4 jd)
  have hb12 := hb12.frm hf15 (hou.ne_blk hb12 jd)
  have hIr := hIr.own hf15 hou jd
  have K := K.own hf15 hob
  have hob6 : ∀ b ∈ ob U6, w.heap.size ≤ b := fun b hb => by
   rcases hob6 with h | h
   · rw [h] at hb; exact hob b hb
   rw [h, za] at hb; omega
  refine ja rfl (jO ?_)
  refine qT (jN ?_)
  refine jv8 2 3 4 8 11 12 14 15 ?_
  refine jR (jm rfl (jb rfl rfl (Bin.add_i64 _ 1 jo) (ja rfl (jO ?_))))
  refine jN ⟨((i + 1, v', n'), (B', d', l'), (U6, du6, us ++ [n])), (js8 rfl rfl rfl rfl rfl rfl (by rw [zm]; rfl) rfl), ?_, ?_⟩
  · refine ⟨hc6, hb1, hb4, hb12, hIr, by dsimp only; omega, hap', by rw [zm]; exact ho6, by rw [zm, hul]; rfl, hob6, K⟩
  first | omega | (dsimp only; omega)
 obtain rfl : i = ps.length := jo
 rw [zak] at hap
 have hFo : dN m.p q ps t = .ok ({ m.p with l := bU m.p.l (qV t) ⟨v, n, Ms lm⟩ }, us) := by rw [hF2, hap]
 refine jX ?_
 refine qH (qH (qF ?_))
 refine jN (jv5 3 4 8 12 14 ?_)
 refine jS (jR (jf rfl zd rfl zx (jl rfl zah (hb1.cell 0) (jm rfl (je (Run.loadA rfl zad zf (fun j v hj => hb12.cells j v hj) (by first | rfl | (simp; done))) ?_)))))
 refine Ops.cl (jE3 Tryz.call40) (lB m.A m.c m.l t v n B d lm _ (hm.frm K).l jo jo) rfl ?_
 rintro e w16 ⟨C, d2, rfl, hoC, hobC, hf16⟩
 refine ⟨_, rfl, ?_⟩
 have hKs := K.size
 have hobC : ∀ b ∈ ob C, w.heap.size ≤ b := fun b hb => zay hKs (hobC b hb)
 have hb4 := hb4.frm hf16 jp
 have hb1 := hb1.frm hf16 jp
 have hBF := hBF.nil hf16
 have hou := hou.frm hf16 jp
 have K := K.trans hf16 jp
 have hx1 := hoC.ne_blk hb1 jd
 have hu1 := hou.ne_blk hb1 jd
 refine jf rfl zd rfl zx ?_
 have hb1o := hb1
 refine Ops.st (qW.store rfl rfl zx hb1 rfl rfl) ?_
 rintro w17 ⟨hbn, (hf17 : Frm [g1] _ _), hs17⟩
 have hb1 : Blk w17 g1 25 ({ m with A := C, c := d2, l := dS m.l ⟨qV t, v, n, B, d, lm⟩, b := m.b } : MlC).cells.toArray := hbn
 have hoC := hoC.frm hf17 (fun y hy h => by rw [za] at h; subst h; exact hx1 hy)
 have hou := hou.frm hf17 (fun y hy h => by rw [za] at h; subst h; exact hu1 hy)
 have hb4 := hb4.frm hf17 (by simp; omega)
 have hBF := hBF.blk hf17 hb1o jd
 have K := K.own hf17 (fun y hy => by rw [za] at hy; omega)
 refine jO (jN (jv3 4 8 14 ?_))
 refine jS (jR (je (Run.loadA rfl zg zb hb1.cells (by first | rfl | (simp; done))) (jM ?_)))
 have hb40 := hb4
 have hx4 := hoC.ne_blk hb4 jd
 have hu4 := hou.ne_blk hb4 jd
 refine Ops.st (qW.storeA rfl rfl zb hb4 rfl (MlC.cells_one _)) ?_
 rintro w18 ⟨hb4, (hf18 : Frm [g4] _ _), hs18⟩
 have hoC := hoC.frm hf18 (fun y hy h => by rw [za] at h; subst h; exact hx4 hy)
 have hou := hou.frm hf18 (fun y hy h => by rw [za] at h; subst h; exact hu4 hy)
 have hBF := hBF.blk hf18 hb40 jd
 have K := K.own hf18 (fun y hy => by rw [za] at hy; omega)
 refine ja rfl (jz 0 (jO (jN (jv3 8 9 10 ?_))))
 refine jT ?_
 refine bZ ?_
 refine qS rfl zg zb (fun j v hj => hb4.cells j v hj) (by first | rfl | (simp; done)) ?_
 refine qK rfl ?_
 refine qK rfl ?_
 refine qB ?_
 refine ⟨_, U, du, us, 0, rfl, ⟨mU (b := m.b) (hm.frm K) hm24 (by rw [cW]; omega) (hBF.rdm K (hm.frm K)) hlm hoC, hou.rd, jo, .inl ⟨rfl, ?_⟩⟩, K⟩
 rw [hFo]
 congr 2
 show MailP.mk _ _ _ _ = MailP.mk _ _ _ _
 congr 1
 exact (pS m.l ⟨qV t, v, n, B, d, lm⟩).symm
end
end Go.Proofs.YtgmbmfpfhcekiaaGreat
