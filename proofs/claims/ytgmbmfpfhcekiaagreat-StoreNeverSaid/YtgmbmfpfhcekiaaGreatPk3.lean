/-
  Lemmas on the way, joined: FlagA, BoxF, BoxX, BoxZ, StoZb, BoxL0, StoQ0, StoZc, StoZd, StoZg, StoZi, StoZj, StoZk, StoZm, BoxLP, StoZn, StoZo, StoZp, StoZq, StoZr.
-/
import Derived.Lib.Overlaps
import Derived.Test.YtgmbmfpfhcekiaaGreatPk2
set_option maxRecDepth 100000
set_option linter.unusedVariables false
set_option linter.unusedSimpArgs false
namespace Go.Proofs.YtgmbmfpfhcekiaaGreat
section
open Go.RowKit Go.Sort
theorem qZh {H : Type} {enc : TypeId × Value → H} {P : Program} {w : World} {base : Nat} {spare : Nat → Bool} {held : Bool} {t e : TypeId} {fuel len cap : Nat} {a : Option Addr} {x : DataW H × List MemPlace} (ht : P.underlying t = some (.slice e)) (he : P.underlying e = some .string) (hc : P.cellsOf e = 1)
  (h : DataW.trod enc P w base spare held fuel t [.slice a len cap] = some x) : ∃ l : List Tx, l.length = len ∧ len ≤ cap ∧ cap ≤ 9223372036854775807 ∧ Rd w 1 a len (SB l) := by
 obtain ⟨ls, h1, h2, h3, h4, _⟩ := tH ht he hc h
 refine ⟨ls.map (·.data.toList), by simpa using h1, h2, h3, ?_⟩
 have : SB (ls.map (·.data.toList)) = ls.map Value.string := by simp only [SB, zdi]; rfl
 rw [this]
 exact h4
theorem qZi {w : World} {A : Option Addr} {c : Nat} {l : List Tx} (m : Nat) (h : Rd w 1 A l.length (SB l)) (hc : l.length ≤ c) (hm : m ≤ l.length) : Rd w 1 (dR A c 0 1) (l.take m).length (SB (l.take m)) := by
 have e := h.cut (l := 0) (r := m) (cap := c) jo jo hc
 have e1 : (l.take m).length = m := by simp; omega
 have e2 : SB (l.take m) = ((SB l).drop (0 * 1)).take ((m - 0) * 1) := by simp [SB, zdo]
 rw [e1, e2]
 exact e
def eR (l : List Tx) : List Tx := (l.take 24).map fun x => x.take 30
theorem vU (l : List Tx) : (eR l).length ≤ 24 ∧ ∀ q ∈ eR l, q.length ≤ 30 := by
 unfold eR
 refine ⟨by simp; omega, fun q hq => ?_⟩
 obtain ⟨x, _, rfl⟩ := List.mem_map.1 hq
 simp
 omega
theorem vB (A : Option Addr) (c0 : Nat) (l : List Tx) (w : World) (hc : l.length ≤ c0) (hr : Rd w 1 A l.length (SB l)) :
  Calls Tryz.prog 34 #[.slice A l.length c0] w fun e w' => Frm [] w w' ∧ ∃ B d, e = .returned (.slice B (eR l).length d) ∧ Own w' 9 1 B (eR l).length d (SB (eR l)) ∧ (∀ x ∈ ob B, w.heap.size ≤ x) := by
 refine VC.calls (nt := 31) (res := #[.tmp 2]) Tryz.func34 rfl Tryz.ntmps34 Tryz.results34 rfl ?_
 refine jS (jR (ja rfl (jO (jN (jv1 0 ?_)))))
 refine jS (jS (jR (jm rfl (je (Run.lenS rfl zd) (jb rfl rfl (Bin.gtrN _ 24) (jO (jN (jv2 0 8 ?_))))))))
 refine VC.meet (σ := Option Addr × Nat) (fun s => [(0, .slice s.1 (l.take 24).length s.2)]) (fun s wm => w = wm ∧ Rd w 1 s.1 (l.take 24).length (SB (l.take 24))) ?_ ?_
 ·
  refine jD rfl (fun hc1 => ?_) fun hc1 => ?_
  ·
   refine jR (jm rfl (je (Run.sliceS 0 24 rfl zd zl evB.none_ (evB.some_ rfl) jo jo) (ja rfl (jO ?_))))
   refine jN ⟨(dR A c0 0 1, c0 - 0), (js1 (by rw [show (l.take 24).length = 24 - 0 by simp; omega]; rfl)), ?_⟩
   exact ⟨rfl, qZi 24 hr hc jo⟩
  refine jQ ?_
  refine jN ⟨(A, c0), (js1 (by rw [zq jo]; rfl)), ?_⟩
  rw [zq jo]
  exact ⟨rfl, hr⟩
 rintro ⟨A2, c2⟩ _ ⟨rfl, hr2⟩ Γ hΓ
 have hl24 : (l.take 24).length ≤ 24 := by simp; omega
 generalize hm : l.take 24 = m at *
 refine jN (VC.sub _ hΓ (jS (jR (ja rfl (jO (jN (jS (jS (jR (jz 0 (jO (jN (jB ?_)))))))))))))
 refine VC.loop (σ := Nat × Option Addr × Nat) (fun s => [(0, .slice A2 m.length c2), (3, .slice s.2.1 ((m.take s.1).map fun x => x.take 30).length s.2.2), (4, .int .i64 ((s.1 : Nat) : Int))]) (fun s wr => s.1 ≤ m.length ∧ Own wr 9 1 s.2.1 ((m.take s.1).map fun x => x.take 30).length s.2.2 (SB ((m.take s.1).map fun x => x.take 30)) ∧ (∀ x ∈ ob s.2.1, w.heap.size ≤ x) ∧ Frm [] w wr) (fun s => m.length - s.1) (0, none, 0) (js3 rfl rfl rfl) ⟨jo, Own.nil _ _ _, by simp [ob], Frm.refl _ _⟩ ?_
 rintro ⟨i, B, d⟩ wr ⟨hi, hown, hge, hfr⟩
 dsimp only at hi hown hge ⊢
 have hil : ((m.take i).map fun x : Tx => x.take 30).length = i := by simp; omega
 refine jS (jS (jR (jm rfl (jm rfl (je (Run.lenS rfl zd) (jb rfl rfl (Bin.lssN _ _) (jO (jN (jv4 0 3 4 14 ?_)))))))))
 refine jD rfl (fun hc2 => ?_) fun hc2 => ?_
 ·
  obtain ⟨ad, rfl, hcell⟩ := mR (hr2.frm hfr jp) hc2
  have hts : ((m.take (i + 1)).map fun x : Tx => x.take 30) = ((m.take i).map fun x : Tx => x.take 30) ++ [m[i].take 30] := by rw [pP hc2]; simp only [zbi, zap, zct]
  generalize m[i] = x at *
  refine jQ (jN (jv3 0 3 4 ?_))
  refine jS (jB (jS (jR (jm rfl (jm rfl (je (Run.index1 i rfl rfl zd zl hc2) (jl rfl zab hcell (ja rfl (jO (jN (jv4 0 3 4 5 ?_)))))))))))
  refine jS (jS (jR (jm rfl (je (Run.lenT rfl zn) (jb rfl rfl (Bin.gtrN _ 30) (jO (jN (jv5 0 3 4 5 23 ?_))))))))
  refine VC.meet (σ := Unit) (fun s => [(0, .slice (some ad) m.length c2), (3, .slice B ((m.take i).map fun x => x.take 30).length d), (4, .int .i64 ((i : Nat) : Int)), (5, encStr (x.take 30))]) (fun s wm => wr = wm) ?_ ?_
  ·
   refine jD rfl (fun hc3 => ?_) fun hc3 => ?_
   ·
    refine jR (jm rfl (je (Run.sliceT 0 30 rfl zn evB.none_ (evB.some_ rfl) jo jo) (ja rfl (jO ?_))))
    refine jN ⟨(), (js4 rfl rfl rfl rfl), ?_⟩
    rfl
   refine jQ ?_
   refine jN ⟨(), (js4 rfl rfl rfl (by rw [zq (l := x) (i := 30) jo]; rfl)), ?_⟩
   rfl
  rintro _ _ rfl Γ hΓ
  refine jN (VC.sub _ hΓ (jR (jm rfl (jM ?_))))
  refine Ops.m (qJ.buildS1 rfl zd zl hG jd jd rfl rfl) rfl ?_
  rintro _ w4 ⟨rfl, hF4⟩
  have hfr4 := hfr.trans hF4.frm jp
  refine Ops.m (qJ.app rfl rfl zd (kE) rfl jd (hown.frm hF4.frm jp) (hrd1 hF4) (dB _) jo jo) rfl ?_
  rintro _ w5 ⟨A5, c5, rfl, hown5, hfr5, hob5⟩
  rw [← dK] at hown5
  have hge5 := oZ hge hob5 hfr4.size
  have hfr5' := hfr4.own hfr5 hge
  refine ja rfl (jO ?_)
  refine qR (jN ?_)
  refine jv3 0 3 4 ?_
  refine jR (jm rfl (jb rfl rfl (Bin.add_i64 _ 1 jo) (ja rfl (jO ?_))))
  refine jN ⟨(i + 1, A5, c5), (js3 rfl (by rw [hts, zi]; rfl) rfl), ?_, ?_⟩
  ·
   rw [hts]
   exact ⟨hc2, by rw [zi]; exact hown5, hge5, hfr5'⟩
  first | omega | (dsimp only; omega)
 refine jX ?_
 refine qT (qT (bZ ?_))
 refine jN (jv1 3 ?_)
 refine jS (jR (jm rfl (ja rfl (jO (jN (jv1 2 ?_))))))
 refine jT ?_
 refine qL rfl ?_
 have him : i = m.length := jo
 subst him
 rw [zay] at hown ⊢
 have e : (m.map fun x : Tx => x.take 30) = eR l := by rw [← hm]; rfl
 rw [e] at hown ⊢
 exact ⟨hfr, B, d, rfl, hown, hge⟩
theorem IsN.ok {w0 w' : World} {e : Ending} {F : Except Nat (List Tx)} {B : Option Addr} {d : Nat} {r x : List Tx} {k : Nat} (h : IsN w0 w' e F B d r k) (hF : F = .ok x) : k = 0 ∧ r = x := by
 rcases h.2.2.2 with ⟨h1, h2⟩ | ⟨_, _, h2⟩
 · rw [hF] at h2; injection h2 with h2; exact ⟨h1, h2.symm⟩
 rw [hF] at h2; cases h2
end
section
open Go.RowKit Go.Sort
structure RawM (w : World) (A : Option Addr) (l : List Mc) : Prop where
 rd : Rd w 6 A l.length (MC l)
 fl : ∀ x ∈ l, Rd w 1 x.A x.m.flags.length (SB x.m.flags) ∧ x.m.flags.length ≤ x.c
theorem RawM.frm {w w' : World} {A : Option Addr} {l : List Mc} (h : RawM w A l) (k : Frm [] w w') : RawM w' A l :=
 ⟨h.rd.frm k jp, fun x hx => ⟨(h.fl x hx).1.frm k jp, (h.fl x hx).2⟩⟩
theorem qXp (l : List Mc) (m : Nat) (hm : m ≤ l.length) : (MC l).take (m * 6) = MC (l.take m) := by
 have e1 : MC l = MC (l.take m) ++ MC (l.drop m) := by rw [← hU, zao]
 have e2 : (MC (l.take m)).length = m * 6 := by rw [oP, zg]; congr 1; omega
 rw [e1, zaj jo, zq jo]
theorem RawM.take {w : World} {A : Option Addr} {l : List Mc} (h : RawM w A l) (m : Nat) : RawM w A (l.take m) := by
 refine ⟨?_, fun x hx => h.fl x (zcp hx)⟩
 rcases Nat.le_total m l.length with hm | hm
 ·
  have h1 := h.rd.cut (cap := l.length) (zal m) hm (zw _)
  rw [dI, zbw, Nat.zero_mul, zbs, qXp l m hm] at h1
  rw [zg, zaf hm]
  exact h1
 rw [zq hm]
 exact h.rd
theorem RawM.elem {w : World} {A : Option Addr} {l : List Mc} {k : Nat} (h : RawM w A l) (hk : k < l.length) : ∃ ad, A = some ad ∧ ∀ j v, (l[k]).cells[j]? = some v → w.cell? ((ad.add (k * 6)).add j) = some v := by
 obtain ⟨ad, rfl, hc⟩ := h.rd.elem hk
 refine ⟨ad, rfl, fun j v hj => hc j v ?_⟩
 rw [fU Mc.cells 6 Mc.cells_len l k hk]
 exact hj
def qQa (l : List MsgP) : List MsgP := (l.take 129).map fun m => { m with flags := eR m.flags }
theorem xA {l : List Mc} {i : Nat} (h : i < (l.take 129).length) : (Ms ((l.take 129).take (i + 1))).map (fun m => { m with flags := eR m.flags }) = (Ms ((l.take 129).take i)).map (fun m => { m with flags := eR m.flags }) ++ [{ ((l.take 129)[i]).m with flags := eR ((l.take 129)[i]).m.flags }] := by
 rw [tB h, zbi]
 rfl
theorem vC (v n : Int) (A : Option Addr) (c : Nat) (l : List Mc) (w : World) (hl : RawM w A l) (hc : l.length ≤ c) : Calls Tryz.prog 44 #[.agg #[.int .i64 v, .int .i64 n, .slice A l.length c]] w fun e w' => Frm [] w w' ∧ ∃ B d l', e = .returned (.agg #[.int .i64 v, .int .i64 n, .slice B l'.length d]) ∧ OwM w' B d l' ∧ Ms l' = qQa (Ms l) ∧ l'.length ≤ 129 ∧ ∀ b ∈ ob B, w.heap.size ≤ b := by
 refine VC.calls (nt := 37) (res := #[.cell 2 43]) Tryz.func44 rfl Tryz.ntmps44 Tryz.results44 rfl ?_
 refine jS (jR ?_)
 refine Ops.m (qJ.box rfl) rfl ?_
 rintro _ w1 ⟨rfl, hF1⟩
 have hb1 := hF1.blk
 have hf1 := hF1.frm
 have hs1 : w.heap.size ≤ w.heap.size := zw _
 generalize hg1 : w.heap.size = g1 at hb1 ⊢
 refine Ops.m (qJ.alloc bL) rfl ?_
 rintro _ w2 ⟨rfl, hF2⟩
 have hb2 := hF2.blk
 have hb1 := hb1.frm hF2.frm jp
 have hf2 := hf1.trans hF2.frm jp
 have hs2 : w.heap.size ≤ w1.heap.size := hf1.size
 generalize hg2 : w1.heap.size = g2 at hb2 hs2 ⊢
 have hn12 : g1 < g2 := by rw [← hg2, ← hg1]; have := hF1.size; omega
 refine jO (jN (jv2 1 2 ?_))
 refine jS (jS (jR (jf rfl zr rfl zam (jl rfl zbf (hb1.cell 2) (je (Run.lenS rfl zx) (jb rfl rfl (Bin.gtrN _ 129) (jO (jN (jv3 1 2 9 ?_)))))))))
 refine VC.meet (σ := Unit) (fun s => [(1, .pointer (some ⟨g1, 0, none⟩)), (2, .pointer (some ⟨g2, 0, none⟩))]) (fun s wm => Blk wm g1 43 (BVc v n A (l.take 129).length c).toArray ∧ Blk wm g2 43 (BVc 0 0 none 0 0).toArray ∧ Frm [] w wm) ?_ ?_
 ·
  refine jD rfl (fun hc1 => ?_) fun hc1 => ?_
  ·
   refine jR (jf rfl zr rfl zam (jl rfl zbf (hb1.cell 2) (je (Run.sliceS 0 129 rfl zx zan evB.none_ (evB.some_ rfl) jo jo) (jf rfl zr rfl zam ?_))))
   refine Ops.st (qK.store rfl rfl zam hb1 rfl rfl) ?_
   rintro w3 ⟨hb13, hf3, hs3⟩
   have hlt : (l.take 129).length = 129 := by rw [zg]; omega
   have hb13 : Blk w3 g1 43 (BVc v n (dR A c 0 6) (129 - 0) (c - 0)).toArray := hb13
   rw [dI, zbw, zbw] at hb13
   have hb23 := hb2.frm hf3 (by simp; omega)
   have hfr3 := hf2.own hf3 (fun y hy => by simp at hy; omega)
   refine jO ?_
   refine jN ⟨(), (js2 rfl rfl), ?_⟩
   exact ⟨by rw [hlt]; exact hb13, hb23, hfr3⟩
  refine jQ ?_
  refine jN ⟨(), (js2 rfl rfl), ?_⟩
  have hlt : (l.take 129).length = l.length := by rw [zg]; omega
  exact ⟨by rw [hlt]; exact hb1, hb2, hf2⟩
 rintro _ w3 ⟨hb1, hb2, hf3⟩ Γ hΓ
 have hlt := hl.take 129
 have hlt129 : (l.take 129).length ≤ 129 := by rw [zg]; omega
 refine jN (VC.sub _ hΓ (jS (jR (ja rfl (jO (jN (jS (jS (jR (jz 0 (jO (jN (jB ?_)))))))))))))
 refine VC.loop (σ := Nat × Option Addr × Nat × List Mc) (fun s => [(1, .pointer (some ⟨g1, 0, none⟩)), (2, .pointer (some ⟨g2, 0, none⟩)), (3, .slice s.2.1 s.2.2.2.length s.2.2.1), (4, .int .i64 ((s.1 : Nat) : Int))]) (fun s wr => s.1 ≤ (l.take 129).length ∧ OwM wr s.2.1 s.2.2.1 s.2.2.2 ∧ Ms s.2.2.2 = (Ms ((l.take 129).take s.1)).map (fun m => { m with flags := eR m.flags }) ∧ (∀ b ∈ ob s.2.1, w3.heap.size ≤ b) ∧ Frm [] w3 wr) (fun s => (l.take 129).length - s.1) (0, none, 0, []) (js4 rfl rfl rfl rfl) ⟨jo, OwM.nil _, rfl, by simp [ob], Frm.refl _ _⟩ ?_
 rintro ⟨i, B, d, l'⟩ wr ⟨hi, hown, hms, hge, hfr⟩
 dsimp only at hi hown hms hge ⊢
 have hll : l'.length = i := by
  have h := congrArg List.length hms
  simp only [Ms, zau, zg (i := i)] at h
  omega
 have hb1r := hb1.frm hfr jp
 refine jS (jS (jR (jm rfl (jf rfl zr rfl zam (jl rfl zbf (hb1r.cell 2) (je (Run.lenS rfl zx) (jb rfl rfl (Bin.lssN _ _) (jO (jN (jv5 1 2 3 4 18 ?_))))))))))
 refine jD rfl (fun hc2 => ?_) fun hc2 => ?_
 ·
  obtain ⟨ad, rfl, hcell⟩ := (hlt.frm (hf3.trans hfr jp)).elem hc2
  have hxa := (hlt.frm (hf3.trans hfr jp)).fl ((l.take 129)[i]) (zm hc2)
  have hmt := xA hc2
  generalize hx : (l.take 129)[i] = x at *
  refine jQ (jN (jv4 1 2 3 4 ?_))
  refine jS (jB (jS (jR (jf rfl zr rfl zam (jl rfl zbf (hb1r.cell 2) (jm rfl (je (Run.indexS i rfl rfl zx zan hc2) (je (Run.loadA rfl zcr zan hcell (by first | rfl | (simp; done))) ?_))))))))
  refine Ops.m (qJ.alloc fV) rfl ?_
  rintro _ w4 ⟨rfl, hF4⟩
  have hb4 := hF4.blk
  have hf4 := hF4.frm
  have hsz4 : wr.heap.size ≤ wr.heap.size := zw _
  have hfs := hfr.size
  generalize hg4 : wr.heap.size = g4 at hb4 hsz4 hfs ⊢
  refine Ops.st (qK.storeA rfl rfl zan hb4 rfl x.cells_one) ?_
  rintro w5 ⟨hb5, hf5, hs5⟩
  have hfr5 : Frm [] wr w5 := hf4.own hf5 (fun y hy => by simp at hy; omega)
  refine jO (jN (jv5 1 2 3 4 5 ?_))
  refine jS (jR (jf rfl zaw rfl zae (jl rfl zbe (hb5.cell 5) ?_)))
  refine Ops.cl (jE1 Tryz.call34) (vB x.A x.c x.m.flags _ hxa.2 (hxa.1.frm hfr5 jp)) rfl ?_
  rintro e w6 ⟨hf6, C, dC, rfl, hownC, hgeC⟩
  refine ⟨_, rfl, ?_⟩
  have hfr6 := hfr5.trans hf6 jp
  have hb56 := hb5.frm hf6 jp
  have hff := vU x.m.flags
  refine jf rfl zaw rfl zae ?_
  refine Ops.st (qK.store rfl rfl zae hb56 rfl rfl) ?_
  rintro w7 ⟨hb7, hf7, hs7⟩
  have hb7 : Blk w7 g4 60 (⟨{ x.m with flags := eR x.m.flags }, C, dC⟩ : Mc).cells.toArray := hb7
  have hownC7 := hownC.frm hf7 (fun y hy => by have := hownC.ne_blk hb56 jd; simp; rintro rfl; exact this hy)
  have hfr7 : Frm [] wr w7 := hfr6.own hf7 (fun y hy => by simp at hy; omega)
  refine jO (jN (jv5 1 2 3 4 5 ?_))
  refine jR (jm rfl (je (Run.loadA rfl zcr zan (fun j v hj => hb7.cells j v hj) (by first | rfl | (simp; done))) ?_))
  refine Ops.m (qJ.buildS1 rfl zx zan fV jd jd rfl rfl) rfl ?_
  rintro _ w8 ⟨rfl, hF8⟩
  have hfr8 := hfr7.trans hF8.frm jp
  have hown8 := hown.frm hfr8
  have hownC8 := hownC7.frm hF8.frm jp
  refine Ops.m (qJ.app rfl rfl zx (oW) rfl jd hown8.own (zY (x := ⟨{ x.m with flags := eR x.m.flags }, C, dC⟩) hF8) (gR Mc.cells Mc.cells_one _) jo jo) rfl ?_
  rintro _ w9 ⟨A9, c9, rfl, hown9, hf9, hob9⟩
  rw [← hU] at hown9
  have hge9 := oZ hge hob9 (zar hfr.size hfr8.size)
  have hfr9 := (hfr.trans hfr8 jp).own hf9 hge
  have hM9 := hown8.put (x := ⟨{ x.m with flags := eR x.m.flags }, C, dC⟩) (by simpa using hown9) hf9 hownC8 ⟨by have := hff.1; dsimp only; omega, fun q hq => by have := hff.2 q hq; omega⟩
  refine ja rfl (jO ?_)
  refine qR (jN ?_)
  refine jv4 1 2 3 4 ?_
  refine jR (jm rfl (jb rfl rfl (Bin.add_i64 _ 1 jo) (ja rfl (jO ?_))))
  refine jN ⟨(i + 1, A9, c9, l' ++ [⟨{ x.m with flags := eR x.m.flags }, C, dC⟩]), (js4 rfl rfl (by rw [zi]; rfl) rfl), ?_, ?_⟩
  · exact ⟨hc2, hM9, by rw [hmt, ← hms]; simp [Ms], hge9, hfr9⟩
  first | omega | (dsimp only; omega)
 refine jX ?_
 refine qT (qT (bZ ?_))
 refine jN (jv3 1 2 3 ?_)
 refine jS (jR (jm rfl (jf rfl zr rfl zam ?_)))
 refine Ops.st (qK.store rfl rfl zam hb1r rfl rfl) ?_
 rintro w10 ⟨hb110, hf10, hs10⟩
 have hb110 : Blk w10 g1 43 (BVc v n B l'.length d).toArray := hb110
 have hb210 := (hb2.frm hfr jp).frm hf10 (by simp; omega)
 have hM10 := hown.blk hf10 hb1r jd jd
 have hfr10 := (hf3.trans hfr jp).own hf10 (fun y hy => by simp at hy; omega)
 refine jO (jN (jv2 1 2 ?_))
 refine jS (jR (je (Run.loadA rfl zai zj (fun j v hj => hb110.cells j v hj) (by first | rfl | (simp; done))) ?_))
 refine Ops.st (qK.storeA rfl rfl zj hb210 rfl (bU _ _ _ _ _)) ?_
 rintro w11 ⟨hb211, hf11, hs11⟩
 have hM11 := hM10.blk hf11 hb210 jd jd
 have hfr11 := hfr10.own hf11 (fun y hy => by simp at hy; omega)
 refine jO (jN (jv1 2 ?_))
 refine jT ?_
 refine bQ ?_
 refine qH rfl zai zj (fun j v hj => hb211.cells j v hj) (by first | rfl | (simp; done)) ?_
 refine qP ?_
 have hil : i = (l.take 129).length := jo
 rw [hil, zay] at hms
 refine ⟨hfr11, B, d, l', rfl, hM11, ?_, jo, fun b hb => by have := hge b hb; have := hf3.size; omega⟩
 rw [hms]
 unfold qQa
 simp only [Ms, zdo]
end
section
open Go.RowKit
def m0 (b : Nat) : MsgP := ⟨0, 0, 0, 0, b, []⟩
def m1 (u : Int) (b : Nat) (f : List Tx) : MsgP := ⟨u, 0, 0, 0, b, f⟩
end
section
open Go.RowKit Go.ChangeShapes Go.WideShapes Go.Deep
section
variable {H : Type} {enc : TypeId × Value → H} {w : World} {base : Nat} {spare : Nat → Bool} {held : Bool}
theorem qQb {n : Nat} {cs : List Value} {x : DataW H × List MemPlace} (h : DataW.trod enc Tryz.prog w base spare held n 60 cs = some x) :
  ∃ y : Mc, cs = y.cells ∧ Rd w 1 y.A y.m.flags.length (SB y.m.flags) ∧ y.m.flags.length ≤ y.c := by
 obtain ⟨xs, n', _, _, hlen, hxl, hf⟩ := DataW.trod_struct zaw h
 have hl : cs.length = 6 := hlen.trans jK
 obtain ⟨a0, a1, a2, a3, a4, a5, rfl⟩ : ∃ a0 a1 a2 a3 a4 a5, cs = [a0, a1, a2, a3, a4, a5] := by
  match cs, hl with
  | [a0, a1, a2, a3, a4, a5], _ => exact ⟨a0, a1, a2, a3, a4, a5, rfl⟩
 have hget : ∀ i, i < 5 → ∃ y, xs[i]? = some y := fun i hi => ⟨xs[i]'(by rw [hxl]; exact hi), ze _⟩
 have h0 := hf 0 _ rfl
 have h1 := hf 1 _ rfl
 have h2 := hf 2 _ rfl
 have h3 := hf 3 _ rfl
 have h4 := hf 4 _ rfl
 obtain ⟨y0, e0⟩ := hget 0 jd
 obtain ⟨y1, e1⟩ := hget 1 jd
 obtain ⟨y2, e2⟩ := hget 2 jd
 obtain ⟨y3, e3⟩ := hget 3 jd
 obtain ⟨y4, e4⟩ := hget 4 jd
 rw [e0] at h0
 rw [e1] at h1
 rw [e2] at h2
 rw [e3] at h3
 rw [e4] at h4
 have c1 : Tryz.prog.cellsOf 3 = 1 := by kernel_rfl
 have c2 : Tryz.prog.cellsOf 58 = 2 := by kernel_rfl
 have c3 : Tryz.prog.cellsOf 40 = 1 := by kernel_rfl
 have c4 : Tryz.prog.cellsOf 23 = 1 := by kernel_rfl
 have h0 : DataW.trod enc Tryz.prog w base spare held n' 3 ([a0, a1, a2, a3, a4, a5].take (Tryz.prog.cellsOf 3)) = some y0 := h0
 have h1 : DataW.trod enc Tryz.prog w base spare held n' 58 ([a1, a2, a3, a4, a5].take (Tryz.prog.cellsOf 58)) = some y1 := h1
 have h2 : DataW.trod enc Tryz.prog w base spare held n' 3 ([a3, a4, a5].take (Tryz.prog.cellsOf 3)) = some y2 := h2
 have h3 : DataW.trod enc Tryz.prog w base spare held n' 40 ([a4, a5].take (Tryz.prog.cellsOf 40)) = some y3 := h3
 have h4 : DataW.trod enc Tryz.prog w base spare held n' 23 ([a5].take (Tryz.prog.cellsOf 23)) = some y4 := h4
 rw [c1] at h0 h2
 rw [c2] at h1
 rw [c3] at h3
 rw [c4] at h4
 obtain ⟨z0, g0, _⟩ := DataW.trod_int zac h0
 obtain ⟨z2, g2, _⟩ := DataW.trod_int zac h2
 obtain ⟨z3, g3, _, w3⟩ := DataW.trod_int zet h3
 obtain ⟨xd, nd, _, _, _, hxd, hfd⟩ := DataW.trod_struct zdl h1
 have d0 := hfd 0 _ rfl
 have d1 := hfd 1 _ rfl
 have hgd : ∀ i, i < 2 → ∃ y, xd[i]? = some y := fun i hi => ⟨xd[i]'(by rw [hxd]; exact hi), ze _⟩
 obtain ⟨u0, f0⟩ := hgd 0 jd
 obtain ⟨u1, f1⟩ := hgd 1 jd
 rw [f0] at d0
 rw [f1] at d1
 have c5 : Tryz.prog.cellsOf 2 = 1 := by kernel_rfl
 have d0 : DataW.trod enc Tryz.prog w base spare held nd 2 ([a1, a2].take (Tryz.prog.cellsOf 2)) = some u0 := d0
 have d1 : DataW.trod enc Tryz.prog w base spare held nd 3 ([a2].take (Tryz.prog.cellsOf 3)) = some u1 := d1
 rw [c5] at d0
 rw [c1] at d1
 obtain ⟨zs, gs, _⟩ := DataW.trod_int Tryz.underlying2 d0
 obtain ⟨zz, gz, _⟩ := DataW.trod_int zac d1
 simp only [zby, zcv, List.cons.injEq, and_true] at g0 g2 g3 gs gz
 subst g0 g2 g3 gs gz
 have h4 : DataW.trod enc Tryz.prog w base spare held n' 23 [a5] = some y4 := h4
 have hv : ∃ A l c, a5 = .slice A l c := by
  rcases open_slice1 zd jK h4 with ⟨hcs, _⟩ | ⟨ad, l, c, _, _, _, _, _, hcs, _⟩
  · exact ⟨_, _, _, by simpa using hcs⟩
  exact ⟨_, _, _, by simpa using hcs⟩
 obtain ⟨A, len, c, rfl⟩ := hv
 obtain ⟨fl, rfl, hlc, _, hrd⟩ := qZh zd zn jK h4
 have hz3 := bounds_u64 w3
 refine ⟨⟨⟨z0, zs, zz, z2, z3.toNat, fl⟩, A, c⟩, ?_, hrd, hlc⟩
 simp only [Mc.cells]
 rw [Int.toNat_of_nonneg hz3.1]
theorem qXq {fuel len cap : Nat} {a : Option Addr} {x : DataW H × List MemPlace} (h : DataW.trod enc Tryz.prog w base spare held fuel 41 [.slice a len cap] = some x) :
  ∃ l : List Mc, l.length = len ∧ len ≤ cap ∧ cap ≤ 9223372036854775807 ∧ RawM w a l := by
 have hC : Tryz.prog.cellsOf 60 = 6 := by kernel_rfl
 rcases open_slice zx h with ⟨hcs, _⟩ | ⟨ad, l, c, m, n, D, Pl, hcs, _, hl, hm, hmm, _, hi⟩
 ·
  simp only [List.cons.injEq, Value.slice.injEq, and_true] at hcs
  obtain ⟨rfl, rfl, rfl⟩ := hcs
  exact ⟨[], rfl, zw _, jo, Rd.nil _ _ _, jp⟩
 simp only [List.cons.injEq, Value.slice.injEq, and_true] at hcs
 obtain ⟨rfl, rfl, rfl⟩ := hcs
 have hml : len ≤ m := by rw [hmm]; split <;> omega
 rw [hC] at hi
 have key : ∀ i, i < len → ∃ y : Mc, (∀ j, j < 6 → w.cell? ((ad.add (i * 6)).add j) = y.cells[j]?) ∧ Rd w 1 y.A y.m.flags.length (SB y.m.flags) ∧ y.m.flags.length ≤ y.c := by
  intro i hil
  obtain ⟨cs', hc, ht'⟩ := hi i jo
  obtain ⟨_, hcl, hat⟩ := World.cells?_some hc
  obtain ⟨y, rfl, h1, h2⟩ := qQb ht'
  exact ⟨y, fun j hj => hat j hj, h1, h2⟩
 obtain ⟨ls, hll, hq⟩ := fI len key
 have hcell : ∀ j u, (MC ls)[j]? = some u → w.cell? (ad.add j) = some u := by
  intro j u hu
  rw [show MC ls = ls.flatMap Mc.cells from rfl, gS Mc.cells 6 jo Mc.cells_len] at hu
  obtain ⟨y, hy, hu'⟩ := Option.bind_eq_some_iff.1 hu
  have := (hq _ y hy).1 (j % 6) (Nat.mod_lt _ jo)
  rw [Go.Proofs.YtgmbmfpfhcekiaaGreat.add_add, Nat.mul_comm, Nat.div_add_mod] at this
  rw [this, hu']
 refine ⟨ls, hll, hl, by simpa [maxLen] using hm, ⟨by rw [oP], fun hn => ⟨ad, rfl, ?_, hcell⟩⟩, fun y hy => ?_⟩
 ·
  have h0 : 0 < (MC ls).length := by rw [oP]; omega
  have := World.block_lt_of_cell? w _ (hcell 0 _ (ze h0))
  rwa [dO] at this
 obtain ⟨i, hi', hli⟩ := zo hy
 exact (hq i y (by rw [ze hi', hli])).2
end
end
section
open Go.RowKit Go.Sort
def fewB (l : List MsgP) : List MsgP := qQa (if 20 < l.length ∧ l.length ≤ 128 then l.take 20 else l)
def mW (x : NmP) : NmP := (x.1.take 70, ⟨x.2.valid, x.2.next, fewB x.2.l⟩)
def qQc (m : MailP) : MailP := ⟨(m.l.take 25).map mW, (m.subs.take 25).map (fun s => s.take 70), m.valid, m.blob⟩
structure RawL (w : World) (m : MlC) : Prop where
 l : Rd w 4 m.A m.l.length (NDC m.l)
 el : ∀ x ∈ m.l, RawM w x.A x.l ∧ x.l.length ≤ x.c
 s : Rd w 1 m.S m.ss.length (SB m.ss)
 lc : m.l.length ≤ m.c
 sc : m.ss.length ≤ m.d
theorem RawL.frm {w w' : World} {m : MlC} (h : RawL w m) (k : Frm [] w w') : RawL w' m := ⟨h.l.frm k jp, fun x hx => ⟨(h.el x hx).1.frm k, (h.el x hx).2⟩, h.s.frm k jp, h.lc, h.sc⟩
theorem RawL.takeL {w : World} {m : MlC} (h : RawL w m) (k : Nat) : Rd w 4 m.A (m.l.take k).length (NDC (m.l.take k)) := by
 rcases Nat.le_total k m.l.length with hm | hm
 ·
  have h1 := h.l.cut (cap := m.l.length) (zal k) hm (zw _)
  rw [dI, zbw, Nat.zero_mul, zbs, gF m.l k hm] at h1
  rw [zg, zaf hm]
  exact h1
 rw [zq hm]
 exact h.l
theorem RawL.takeS {w : World} {m : MlC} (h : RawL w m) (k : Nat) : Rd w 1 m.S (m.ss.take k).length (SB (m.ss.take k)) := by
 rcases Nat.le_total k m.ss.length with hm | hm
 ·
  have h1 := h.s.cut (cap := m.ss.length) (zal k) hm (zw _)
  rw [dI, zbw, Nat.zero_mul, zbs, zbd, show (SB m.ss).take k = SB (m.ss.take k) by simp [SB, zdo]] at h1
  rw [zg, zaf hm]
  exact h1
 rw [zq hm]
 exact h.s
theorem qXr {w : World} {A : Option Addr} {l : List Nc} {k : Nat} (h : Rd w 4 A l.length (NDC l)) (hk : k < l.length) : ∃ ad, A = some ad ∧ ∀ W, Frm [] w W → ∀ j v, (l[k]).cells[j]? = some v → W.cell? ((ad.add (k * 4)).add j) = some v := by
 obtain ⟨ad, rfl, hc⟩ := h.elem hk
 refine ⟨ad, rfl, fun W hW j v hj => ?_⟩
 obtain ⟨ad', e, hc'⟩ := (h.frm hW jp).elem hk
 cases e
 exact hc' j v (by rw [fU Nc.cells 4 Nc.cells_len l k hk]; exact hj)
theorem OwM.offO {w w' : World} {A B : Option Addr} {d size n c : Nat} {l : List Mc} {e : TypeId} {xs : List Value} (h : OwM w A d l) (k : Frm (ob B) w w') (hB : Own w e size B n c xs) (h1 : 60 ≠ e) (h2 : 9 ≠ e) : OwM w' A d l :=
 ⟨h.own.frm k (fun y hy => h.own.ne_own hB h1 y hy), fun x hx => (h.fl x hx).frm k (fun y hy => (h.fl x hx).ne_own hB h2 y hy), h.fit⟩
theorem OwM.at27 {w : World} {x : Nc} (h : OwM w x.A x.c x.l) (h1 : x.l.length ≤ 129) (h2 : x.nm.length ≤ 70) : x.At w := ⟨h.rdm, jo, jo⟩
structure OwL (w : World) (m : MlC) : Prop where
 l : Own w 45 4 m.A m.l.length m.c (NDC m.l)
 el : ∀ x ∈ m.l, OwM w x.A x.c x.l ∧ x.l.length ≤ 129 ∧ x.nm.length ≤ 70
 s : Own w 9 1 m.S m.ss.length m.d (SB m.ss)
 ln : m.l.length ≤ 25
 sn : m.ss.length ≤ 25
 sq : ∀ q ∈ m.ss, q.length ≤ 70
theorem OwL.frm {w w' : World} {m : MlC} (h : OwL w m) (k : Frm [] w w') : OwL w' m := ⟨h.l.frm k jp, fun x hx => ⟨(h.el x hx).1.frm k, (h.el x hx).2⟩, h.s.frm k jp, h.ln, h.sn, h.sq⟩
theorem OwL.rdl {w : World} {m : MlC} (h : OwL w m) : RdL w m := ⟨⟨h.l.rd, fun x hx => (h.el x hx).1.at27 (h.el x hx).2.1 (h.el x hx).2.2⟩, h.s.rd, h.l.le, h.s.le, by have := h.ln; omega, by have := h.sn; omega, fun q hq => by have := h.sq q hq; omega⟩
theorem OwL.blk {w w' : World} {m : MlC} {g : Nat} {t : TypeId} {cs : Array Value} (h : OwL w m) (k : Frm [g] w w') (hb : Blk w g t cs) (h0 : 45 ≠ t) (h1 : 60 ≠ t) (h2 : 9 ≠ t) : OwL w' m :=
 ⟨h.l.frm k (fun y hy h' => by rw [za] at h'; subst h'; exact h.l.ne_blk hb h0 hy), fun x hx => ⟨(h.el x hx).1.blk k hb h1 h2, (h.el x hx).2⟩, h.s.frm k (fun y hy h' => by rw [za] at h'; subst h'; exact h.s.ne_blk hb h2 hy), h.ln, h.sn, h.sq⟩
theorem qZj {w : World} {A : Option Addr} {l : List Tx} {k : Nat} (h : Rd w 1 A l.length (SB l)) (hk : k < l.length) : ∃ ad, A = some ad ∧ w.cell? ((ad.add (k * 1)).add 0) = some (encStr l[k]) := by
 obtain ⟨ad, hA, hc⟩ := h.elem hk
 exact ⟨ad, hA, hc 0 _ (by simp [SB, ze hk])⟩
theorem lU {α β : Type} (f : α → β) {l : List α} {i : Nat} (h : i < l.length) : (l.take (i + 1)).map f = (l.take i).map f ++ [f l[i]] := by rw [zas, ze h, zbi]; rfl
set_option maxHeartbeats 1000000 in
theorem vD (m : MlC) (w : World) (hm : RawL w m) : Calls Tryz.prog 11 #[m.val] w fun e w' => ∃ m' : MlC, e = .returned m'.val ∧ m'.p = qQc m.p ∧ OwL w' m' ∧ m'.b = m.b ∧ (∀ x ∈ m'.l, ∀ b ∈ ob x.A, w.heap.size ≤ b) ∧ Frm [] w w' := by
 have hlc := hm.lc
 have hsc := hm.sc
 refine VC.calls (nt := 85) (res := #[.cell 2 25]) Tryz.func11 rfl Tryz.ntmps11 Tryz.results11 rfl ?_
 refine jS (jR ?_)
 refine Ops.m (qJ.box rfl) rfl ?_
 rintro _ w1 ⟨rfl, hF_w1⟩
 have hb1 : Blk w1 w.heap.size 25 #[.slice m.A m.l.length m.c, .slice m.S m.ss.length m.d, .int .i64 m.v, .int .i64 m.b] := hF_w1.blk
 have K := hF_w1.frm
 generalize hg1 : w.heap.size = g1 at hb1 ⊢
 refine Ops.m (qJ.alloc qD) rfl ?_
 rintro _ w2 ⟨rfl, hF2⟩
 have hb4 := hF2.blk
 have hg4 : w.heap.size ≤ w1.heap.size := K.size
 have hb1 := hb1.frm hF2.frm jp
 have hl1 := hb1.lt
 have hl4 := hb4.lt
 have K := K.trans hF2.frm jp
 have hne14 : g1 ≠ w1.heap.size := by have := hF_w1.size; omega
 have hg1s : w.heap.size ≤ g1 := jo
 generalize hg4' : w1.heap.size = g4 at hb4 hg4 hne14 hl4 ⊢
 refine jO (jN (jv2 1 2 ?_))
 refine jS (jS (jR (jf rfl zh rfl zad (jl rfl zaz (hb1.cell 0) (je (Run.lenS rfl zf) (jb rfl rfl (Bin.gtrN _ 25) (jO (jN (jv3 1 2 11 ?_)))))))))
 refine VC.meet (σ := Unit) (fun s => [(1, .pointer (some ⟨g1, 0, none⟩)), (2, .pointer (some ⟨g4, 0, none⟩))]) (fun s wm => Blk wm g1 25 #[.slice m.A (m.l.take 25).length m.c, .slice m.S m.ss.length m.d, .int .i64 m.v, .int .i64 m.b] ∧ Blk wm g4 25 qV.cells.toArray ∧ Frm [] w wm) ?_ ?_
 ·
  refine jD rfl (fun hc1 => ?_) fun hc1 => ?_
  ·
   refine jR (jf rfl zh rfl zad (jl rfl zaz (hb1.cell 0) (je (Run.sliceS 0 25 rfl zf zt evB.none_ (evB.some_ rfl) jo jo) (jf rfl zh rfl zad ?_))))
   refine Ops.st (qK.store rfl rfl zad hb1 rfl rfl) ?_
   rintro w3 ⟨hbn, (hfw3 : Frm [g1] _ _), hsw3⟩
   have hlt : (m.l.take 25).length = 25 := by rw [zg]; omega
   have hbn : Blk w3 g1 25 #[.slice (dR m.A m.c 0 4) (25 - 0) (m.c - 0), .slice m.S m.ss.length m.d, .int .i64 m.v, .int .i64 m.b] := hbn
   rw [dI, zbw, zbw] at hbn
   have hb1 : Blk w3 g1 25 #[.slice m.A (m.l.take 25).length m.c, .slice m.S m.ss.length m.d, .int .i64 m.v, .int .i64 m.b] := by rw [hlt]; exact hbn
   have hb4 := hb4.frm hfw3 (by simp; omega)
   have K := K.own hfw3 (fun y hy => by rw [za] at hy; omega)
   refine jO ?_
   refine jN ⟨(), (js2 rfl rfl), ?_⟩
   exact ⟨hb1, hb4, K⟩
  refine jQ ?_
  refine jN ⟨(), (js2 rfl rfl), ?_⟩
  have hlt : (m.l.take 25).length = m.l.length := by rw [zg]; omega
  exact ⟨by rw [hlt]; exact hb1, hb4, K⟩
 rintro _ w3 ⟨hb1, hb4, K⟩ Γ hΓ
 refine jN (VC.sub _ hΓ (jS (jS (jR (jf rfl zh rfl zae (jl rfl zbe (hb1.cell 1) (je (Run.lenS rfl zd) (jb rfl rfl (Bin.gtrN _ 25) (jO (jN (jv3 1 2 19 ?_)))))))))))
 refine VC.meet (σ := Unit) (fun s => [(1, .pointer (some ⟨g1, 0, none⟩)), (2, .pointer (some ⟨g4, 0, none⟩))]) (fun s wm => Blk wm g1 25 #[.slice m.A (m.l.take 25).length m.c, .slice m.S (m.ss.take 25).length m.d, .int .i64 m.v, .int .i64 m.b] ∧ Blk wm g4 25 qV.cells.toArray ∧ Frm [] w wm) ?_ ?_
 ·
  refine jD rfl (fun hc2 => ?_) fun hc2 => ?_
  ·
   refine jR (jf rfl zh rfl zae (jl rfl zbe (hb1.cell 1) (je (Run.sliceS 0 25 rfl zd zl evB.none_ (evB.some_ rfl) jo jo) (jf rfl zh rfl zae ?_))))
   refine Ops.st (qK.store rfl rfl zae hb1 rfl rfl) ?_
   rintro w4 ⟨hbn, (hfw4 : Frm [g1] _ _), hsw4⟩
   have hst : (m.ss.take 25).length = 25 := by rw [zg]; omega
   have hbn : Blk w4 g1 25 #[.slice m.A (m.l.take 25).length m.c, .slice (dR m.S m.d 0 1) (25 - 0) (m.d - 0), .int .i64 m.v, .int .i64 m.b] := hbn
   rw [dI, zbw, zbw] at hbn
   have hb1 : Blk w4 g1 25 #[.slice m.A (m.l.take 25).length m.c, .slice m.S (m.ss.take 25).length m.d, .int .i64 m.v, .int .i64 m.b] := by rw [hst]; exact hbn
   have hb4 := hb4.frm hfw4 (by simp; omega)
   have K := K.own hfw4 (fun y hy => by rw [za] at hy; omega)
   refine jO ?_
   refine jN ⟨(), (js2 rfl rfl), ?_⟩
   exact ⟨hb1, hb4, K⟩
  refine jQ ?_
  refine jN ⟨(), (js2 rfl rfl), ?_⟩
  have hst : (m.ss.take 25).length = m.ss.length := by rw [zg]; omega
  exact ⟨by rw [hst]; exact hb1, hb4, K⟩
 rintro _ w4 ⟨hb1, hb4, K⟩ Γ hΓ
 have hRl := hm.takeL 25
 have hRs := hm.takeS 25
 have hRe : ∀ x ∈ m.l.take 25, RawM w x.A x.l ∧ x.l.length ≤ x.c := fun x hx => hm.el x (zcp hx)
 have hRn : (m.l.take 25).length ≤ 25 := zeb _ _
 have hRm : (m.ss.take 25).length ≤ 25 := zeb _ _
 obtain ⟨l, hl⟩ : ∃ l, l = m.l.take 25 := ⟨_, rfl⟩
 obtain ⟨ss, hss⟩ : ∃ ss, ss = m.ss.take 25 := ⟨_, rfl⟩
 rw [← hl] at hRl hRe hRn hb1
 rw [← hss] at hRs hRm hb1
 refine jN (VC.sub _ hΓ (jS (jR (ja rfl (jO (jN (jS (jS (jR (jz 0 (jO (jN (jB ?_)))))))))))))
 refine VC.loop (σ := Nat × Option Addr × Nat × List Nc) (fun s => [(1, .pointer (some ⟨g1, 0, none⟩)), (2, .pointer (some ⟨g4, 0, none⟩)), (3, .slice s.2.1 s.2.2.2.length s.2.2.1), (4, .int .i64 ((s.1 : Nat) : Int))]) (fun s wr => s.1 ≤ l.length ∧ Blk wr g1 25 #[.slice m.A l.length m.c, .slice m.S ss.length m.d, .int .i64 m.v, .int .i64 m.b] ∧ Blk wr g4 25 qV.cells.toArray ∧ Own wr 45 4 s.2.1 s.2.2.2.length s.2.2.1 (NDC s.2.2.2) ∧ (∀ x ∈ s.2.2.2, OwM wr x.A x.c x.l ∧ x.l.length ≤ 129 ∧ x.nm.length ≤ 70) ∧ Ns s.2.2.2 = ((l.take s.1).map Nc.p).map mW ∧ (∀ b ∈ ob s.2.1, w.heap.size ≤ b) ∧ (∀ x ∈ s.2.2.2, ∀ b ∈ ob x.A, w.heap.size ≤ b) ∧ Frm [] w wr) (fun s => l.length - s.1) (0, none, 0, []) (js4 rfl rfl rfl rfl) ⟨zal _, hb1, hb4, Own.nil _ _ _, jp, rfl, by simp [ob], jp, K⟩ ?_
 rintro ⟨i, B, d, l'⟩ wr ⟨hi, hb1, hb4, ho, hel', hns, hob, hfa, K⟩
 dsimp only at *
 have hll : l'.length = i := by
  have h := congrArg List.length hns
  rw [cR, zau, zau, zg] at h
  omega
 refine jS (jS (jR (jm rfl (jf rfl zh rfl zad (jl rfl zaz (hb1.cell 0) (je (Run.lenS rfl zf) (jb rfl rfl (Bin.lssN _ _) (jO (jN (jv5 1 2 3 4 28 ?_))))))))))
 refine jD rfl (fun hc3 => ?_) fun hc3 => ?_
 ·
  obtain ⟨ad, had, hel⟩ := qXr hRl hc3
  have hxr := hRe _ (zm hc3)
  have hts := lU (fun x : Nc => mW x.p) hc3
  generalize hx : l[i] = x at *
  refine jQ (jN (jv4 1 2 3 4 ?_))
  refine jS (jB (jS (jR (jf rfl zh rfl zad (jl rfl zaz (hb1.cell 0) (jm rfl (je (Run.indexS i (show _ = some (Value.slice (some ad) l.length m.c) by rw [← had]; rfl) rfl zf zt hc3) (jf rfl zag rfl zj (je (Run.loadA rfl zai zj (cs := BVc x.v x.n x.A x.l.length x.c) (fun j v hj => by rw [Go.Proofs.YtgmbmfpfhcekiaaGreat.add_add]; exact hel _ K (1 + j) v (by rw [zem]; exact hj)) (by first | rfl | (simp; done))) ?_)))))))))
  refine Ops.m (qJ.alloc bL) rfl ?_
  rintro _ w5 ⟨rfl, hF5⟩
  have hb1 := hb1.frm hF5.frm jp
  have hb4 := hb4.frm hF5.frm jp
  have ho := ho.frm hF5.frm jp
  have hel' := fun x hx => show OwM w5 x.A x.c x.l ∧ x.l.length ≤ 129 ∧ x.nm.length ≤ 70 from ⟨(hel' x hx).1.frm hF5.frm, (hel' x hx).2⟩
  have hb5 := hF5.blk
  have hK5 := K.size
  have hl1 := hb1.lt
  have hl4 := hb4.lt
  have hne15 : g1 ≠ wr.heap.size := fun e => by have := hb1.ne hb5 jd; omega
  have hne45 : g4 ≠ wr.heap.size := fun e => by have := hb4.ne hb5 jd; omega
  have K := K.trans hF5.frm jp
  generalize hgg5 : wr.heap.size = g5 at hb5 hK5 hne15 hne45 ⊢
  have ho5 := ho.ne_blk hb5 jd
  have hb50 := hb5
  refine Ops.st (qK.storeA rfl rfl zj hb5 rfl (bU x.v x.n x.A x.l.length x.c)) ?_
  rintro w6 ⟨hb5, (hf6 : Frm [g5] _ _), hs6⟩
  have hb5 : Blk w6 g5 43 (BVc x.v x.n x.A x.l.length x.c).toArray := hb5
  have hb1 := hb1.frm hf6 (by simp; omega)
  have hb4 := hb4.frm hf6 (by simp; omega)
  have ho := ho.frm hf6 (fun y hy h => by rw [za] at h; subst h; exact ho5 hy)
  have hel' := fun x hx => show OwM w6 x.A x.c x.l ∧ x.l.length ≤ 129 ∧ x.nm.length ≤ 70 from ⟨(hel' x hx).1.blk hf6 hb50 jd jd, (hel' x hx).2⟩
  have K := K.own hf6 (fun y hy => by rw [za] at hy; omega)
  refine jO (jN (jv5 1 2 3 4 5 ?_))
  refine jS (jS ?_)
  refine VC.split1 [(1, _), (2, _), (3, _), (4, _), (5, _)] (js5 rfl rfl rfl rfl rfl) 46 (.bool (decide ((20 < x.l.length) ∧ (x.l.length ≤ 128)))) ?_ ?_
  ·
   by_cases hs0 : 20 < x.l.length
   ·
    refine jR (jf rfl zr rfl zam (jl rfl zbf (hb5.cell 2) (je (Run.lenS rfl zx) (jb rfl rfl (Bin.gtrN _ 20) (jM ?_)))))
    refine jk (Run.fieldAddr rfl zr rfl zam jd) ?_
    refine jk (Run.load rfl zbf (hb5.cell 2)) ?_
    refine jk (Run.lenS rfl zx) ?_
    refine jk (Run.bin rfl rfl (Bin.leqN _ 128)) ?_
    refine je (Run.pickT rfl rfl au) (jO ?_)
    refine jN ⟨(js6 (by rw [uJ hs0]; rfl) rfl rfl rfl rfl rfl), rfl⟩
   refine jR (jf rfl zr rfl zam (jl rfl zbf (hb5.cell 2) (je (Run.lenS rfl zx) (jb rfl rfl (Bin.gtrN _ 20) (jM ?_)))))
   refine jU ?_
   refine jU ?_
   refine jU ?_
   refine jU ?_
   refine je (Run.pickF rfl rfl au) (jO ?_)
   refine jN ⟨(js6 (by rw [uK hs0]; rfl) rfl rfl rfl rfl rfl), rfl⟩
  intro Γ hΓ
  refine jN (VC.sub _ hΓ ?_)
  refine VC.meet (σ := List Mc) (fun s => [(1, .pointer (some ⟨g1, 0, none⟩)), (2, .pointer (some ⟨g4, 0, none⟩)), (3, .slice B l'.length d), (4, .int .i64 ((i : Nat) : Int)), (5, .pointer (some ⟨g5, 0, none⟩))]) (fun s wm => s = (if 20 < x.l.length ∧ x.l.length ≤ 128 then x.l.take 20 else x.l) ∧ s.length ≤ x.c ∧ Blk wm g5 43 (BVc x.v x.n x.A s.length x.c).toArray ∧ Blk wm g1 25 #[.slice m.A l.length m.c, .slice m.S ss.length m.d, .int .i64 m.v, .int .i64 m.b] ∧ Blk wm g4 25 qV.cells.toArray ∧ Own wm 45 4 B l'.length d (NDC l') ∧ (∀ x ∈ l', OwM wm x.A x.c x.l ∧ x.l.length ≤ 129 ∧ x.nm.length ≤ 70) ∧ Frm [] w wm) ?_ ?_
  ·
   refine jD rfl (fun hc4 => ?_) fun hc4 => ?_
   ·
    refine jR (jf rfl zr rfl zam (jl rfl zbf (hb5.cell 2) (je (Run.sliceS 0 20 rfl zx zan evB.none_ (evB.some_ rfl) jo jo) (jf rfl zr rfl zam ?_))))
    have ho5 := ho.ne_blk hb5 jd
    have hb50 := hb5
    refine Ops.st (qK.store rfl rfl zam hb5 rfl rfl) ?_
    rintro w7 ⟨hbn, (hf7 : Frm [g5] _ _), hs7⟩
    have hlt : (x.l.take 20).length = 20 := by rw [zg]; omega
    have hbn : Blk w7 g5 43 (BVc x.v x.n (dR x.A x.c 0 6) (20 - 0) (x.c - 0)).toArray := hbn
    rw [dI, zbw, zbw] at hbn
    have hb5 : Blk w7 g5 43 (BVc x.v x.n x.A (x.l.take 20).length x.c).toArray := by rw [hlt]; exact hbn
    have hb1 := hb1.frm hf7 (by simp; omega)
    have hb4 := hb4.frm hf7 (by simp; omega)
    have ho := ho.frm hf7 (fun y hy h => by rw [za] at h; subst h; exact ho5 hy)
    have hel' := fun x hx => show OwM w7 x.A x.c x.l ∧ x.l.length ≤ 129 ∧ x.nm.length ≤ 70 from ⟨(hel' x hx).1.blk hf7 hb50 jd jd, (hel' x hx).2⟩
    have K7 := K.own hf7 (fun y hy => by rw [za] at hy; omega)
    refine jO ?_
    refine jN ⟨(x.l.take 20), (js5 rfl rfl rfl rfl rfl), ?_⟩
    exact ⟨by rw [if_pos (by first | exact hc4 | exact of_decide_eq_true hc4)], by rw [zg]; omega, hb5, hb1, hb4, ho, hel', K7⟩
   refine jQ ?_
   refine jN ⟨x.l, (js5 rfl rfl rfl rfl rfl), ?_⟩
   exact ⟨by rw [if_neg (by first | exact hc4 | exact of_decide_eq_false hc4)], hxr.2, hb5, hb1, hb4, ho, hel', K⟩
  rintro lx w8 ⟨hlx, hlc, hb5, hb1, hb4, ho, hel', K⟩ Γ hΓ
  have hxl : RawM w8.drew x.A lx := by
   have h := (hRe x (by rw [← hx]; exact zm hc3)).1.frm K.drew
   rw [hlx]
   split
   · exact h.take 20
   exact h
  have hnB1 := ho.ne_blk hb1 jd
  have hnB4 := ho.ne_blk hb4 jd
  have hnB5 := ho.ne_blk hb5 jd
  refine jN (VC.sub _ hΓ ?_)
  refine VC.held (fun W => Frm (ob B) w8 W) jK ?_
  have hS : Frm (ob B) w8 w8.drew := (Frm.refl _ _).drew
  have hS0 : Frm [] w8 w8.drew := (Frm.refl _ _).drew
  refine jH 0 rfl hS (fun w0 hw0 => Run.mv rfl) ?_
  refine jH 1 rfl hS (fun w0 hw0 => Run.fieldAddr rfl zh rfl zad jd) ?_
  refine jH 2 rfl hS (fun w0 hw0 => Run.load rfl zaz ((hb1.frm hw0 hnB1).cell 0)) ?_
  refine jH 3 rfl hS (fun w0 hw0 => Run.mv rfl) ?_
  refine jH 4 rfl hS (fun w0 hw0 => Run.indexS i (show _ = some (Value.slice (some ad) l.length m.c) by rw [← had]; rfl) rfl zf zt hc3) ?_
  refine jH 5 rfl hS (fun w0 hw0 => Run.fieldAddr rfl zag rfl zl jd) ?_
  refine jH 6 rfl hS (fun w0 hw0 => Run.load rfl zab (hel _ (K.own hw0 hob) 0 (encStr x.nm) rfl)) ?_
  refine jH 8 rfl hS (fun w0 hw0 => Run.loadA rfl zai zj (fun j v hj => (hb5.frm hw0 hnB5).cells j v hj) (by first | rfl | (simp; done))) ?_
  refine qS.cl 7 rfl jK (jE1 Tryz.call12) (fL x.nm _) trivial rfl rfl ?_
  rintro e _ ⟨rfl, rfl⟩
  refine ⟨_, rfl, hS, ?_⟩
  refine qS.cl 9 rfl jK (jE1 Tryz.call44) (vC x.v x.n x.A x.c lx _ hxl hlc) trivial rfl rfl ?_
  rintro e w9 ⟨hf9, C, dC, lC, rfl, hoC, hMC, hCl, hCb⟩
  have hS0s := hS0.size
  have hS9 := hS.trans hf9 jp
  have hS09 := hS0.trans hf9 jp
  refine ⟨_, rfl, hS9, ?_⟩
  have hS := hS9
  have ho9 := ho.frm hS09 jp
  have hel9 := fun x hx => show OwM w9 x.A x.c x.l ∧ x.l.length ≤ 129 ∧ x.nm.length ≤ 70 from ⟨(hel' x hx).1.frm hS09, (hel' x hx).2⟩
  refine jH 10 rfl hS (fun w0 hw0 => Run.build (evs.cons rfl (evs.cons rfl evs.nil)) dV (fB).choose_spec.1 (fB).choose_spec.2 rfl) ?_
  refine qS.m 11 rfl jK (qJ.buildS1 rfl zf zt dV jd jd rfl rfl) trivial rfl rfl ?_
  rintro _ w10 ⟨rfl, hF10⟩
  have hr10 : Rd w10 4 (some ⟨w9.heap.size, 0, none⟩) 1 (NDC [⟨x.nm.take 70, x.v, x.n, C, dC, lC⟩]) := vX (x := ⟨x.nm.take 70, x.v, x.n, C, dC, lC⟩) hF10
  have hS010 := hS09.trans hF10.frm jp
  have hS10 := hS.trans hF10.frm jp
  refine ⟨hS10, ?_⟩
  have hS := hS10
  have ho10 := ho9.frm hF10.frm jp
  have hel10 := fun x hx => show OwM w10 x.A x.c x.l ∧ x.l.length ≤ 129 ∧ x.nm.length ≤ 70 from ⟨(hel9 x hx).1.frm hF10.frm, (hel9 x hx).2⟩
  have hoC10 := hoC.frm hF10.frm
  have K10 := K.trans hS010 jp
  have hK10 := K10.size
  have hS90 := hS09.size
  have hK8 := K.size
  refine qS.m 12 rfl jK (qJ.app rfl rfl zf (kJ) rfl jd ho10 hr10 (fD _) jo jo) trivial rfl rfl ?_
  rintro _ w11 ⟨B6, c6, rfl, ho6, hf6, hob6⟩
  rw [← cD] at ho6
  have hS11 := hS10.trans hf6 (fun y hy => .inl hy)
  refine ⟨hS11, ?_⟩
  have hS := hS11
  have hel11 : ∀ y ∈ l' ++ [⟨x.nm.take 70, x.v, x.n, C, dC, lC⟩], OwM w11 y.A y.c y.l ∧ y.l.length ≤ 129 ∧ y.nm.length ≤ 70 := fun y hy => by
   rcases List.mem_append.1 hy with h | h
   · exact ⟨(hel10 y h).1.offO hf6 ho10 jd jd, (hel10 y h).2⟩
   rw [za] at h
   subst h
   exact ⟨hoC10.offO hf6 ho10 jd jd, hCl, zeb _ _⟩
  have hob6 : ∀ b ∈ ob B6, w.heap.size ≤ b := fun b hb => by
   rcases hob6 with h | h
   · rw [h] at hb; exact hob b hb
   rw [h, za] at hb; omega
  have K11 := K10.own hf6 hob
  have hb1 := hb1.frm hS11 hnB1
  have hb4 := hb4.frm hS11 hnB4
  refine jH 13 rfl hS (fun w0 hw0 => Run.asg rfl) ?_
  refine qS.done jK ?_
  refine qR (jN ?_)
  refine jv4 1 2 3 4 ?_
  refine jR (jm rfl (jb rfl rfl (Bin.add_i64 _ 1 jo) (ja rfl (jO ?_))))
  refine jN ⟨(i + 1, B6, c6, l' ++ [⟨x.nm.take 70, x.v, x.n, C, dC, lC⟩]), (js4 rfl rfl (by rw [zi]; rfl) rfl), ?_, ?_⟩
  ·
   refine ⟨hc3, hb1, hb4, by rw [zi]; exact ho6, hel11, ?_, hob6, fun y hy => ?_, K11⟩
   rotate_left
   ·
    rcases List.mem_append.1 hy with h | h
    · exact hfa y h
    rw [za] at h
    subst h
    exact fun b hb => by have := hCb b hb; have := hS90; have := hK8; omega
   rw [zdi] at hns
   rw [zdi]
   show Ns (l' ++ _) = List.map (fun x => mW (Nc.p x)) (l.take (i + 1))
   rw [hts]
   show (l' ++ _).map Nc.p = _
   rw [zbi]
   have hns' : l'.map Nc.p = List.map (fun x => mW (Nc.p x)) (l.take i) := hns
   rw [hns']
   congr 1
   show [Nc.p _] = [mW x.p]
   unfold Nc.p mW fewB
   dsimp only
   rw [hMC, hlx]
   congr 4
   have hml : (Ms x.l).length = x.l.length := by simp [Ms]
   rw [hml]
   split <;> simp [Ms]
  first | omega | (dsimp only; omega)
 obtain rfl : i = l.length := jo
 rw [zay] at hns
 refine jX ?_
 refine qT (qT (bZ ?_))
 refine jN (jv3 1 2 3 ?_)
 refine jS (jR (jm rfl (jf rfl zh rfl zad ?_)))
 have ho1 := ho.ne_blk hb1 jd
 have hb10 := hb1
 refine Ops.st (qK.store rfl rfl zad hb1 rfl rfl) ?_
 rintro w13 ⟨hb1, (hf13 : Frm [g1] _ _), hs13⟩
 have hb1 : Blk w13 g1 25 #[.slice B l'.length d, .slice m.S ss.length m.d, .int .i64 m.v, .int .i64 m.b] := hb1
 have hb4 := hb4.frm hf13 (by simp; omega)
 have ho := ho.frm hf13 (fun y hy h => by rw [za] at h; subst h; exact ho1 hy)
 have hel' := fun x hx => show OwM w13 x.A x.c x.l ∧ x.l.length ≤ 129 ∧ x.nm.length ≤ 70 from ⟨(hel' x hx).1.blk hf13 hb10 jd jd, (hel' x hx).2⟩
 have K := K.own hf13 (fun y hy => by rw [za] at hy; omega)
 refine jO (jN (jv2 1 2 ?_))
 refine jS (jR (ja rfl (jO (jN (jS (jS (jR (jz 0 (jO (jN (jB ?_)))))))))))
 refine VC.loop (σ := Nat × Option Addr × Nat × List Tx) (fun s => [(1, .pointer (some ⟨g1, 0, none⟩)), (2, .pointer (some ⟨g4, 0, none⟩)), (6, .slice s.2.1 s.2.2.2.length s.2.2.1), (7, .int .i64 ((s.1 : Nat) : Int))]) (fun s wr => s.1 ≤ ss.length ∧ Own wr 9 1 s.2.1 s.2.2.2.length s.2.2.1 (SB s.2.2.2) ∧ s.2.2.2 = (ss.take s.1).map (fun s => s.take 70) ∧ (∀ b ∈ ob s.2.1, w13.heap.size ≤ b) ∧ Frm [] w13 wr) (fun s => ss.length - s.1) (0, none, 0, []) (js4 rfl rfl rfl rfl) ⟨zal _, Own.nil _ _ _, rfl, by simp [ob], Frm.refl _ _⟩ ?_
 rintro ⟨k, C, e, s'⟩ wr ⟨hk, hos, hse, hoc, F⟩
 dsimp only at *
 have hsl : s'.length = k := by rw [hse, zau, zg]; omega
 have hb1r := hb1.frm F jp
 have Kr := K.trans F jp
 refine jS (jS (jR (jm rfl (jf rfl zh rfl zae (jl rfl zbe (hb1r.cell 1) (je (Run.lenS rfl zd) (jb rfl rfl (Bin.lssN _ _) (jO (jN (jv5 1 2 6 7 70 ?_))))))))))
 refine jD rfl (fun hc5 => ?_) fun hc5 => ?_
 ·
  obtain ⟨ad2, had2, hcs⟩ := qZj (hRs.frm Kr jp) hc5
  have hts2 := lU (fun s : Tx => s.take 70) hc5
  generalize hq : ss[k] = q at *
  refine jQ (jN (jv4 1 2 6 7 ?_))
  refine jS (jB (jR (jm rfl (jf rfl zh rfl zae (jl rfl zbe (hb1r.cell 1) (jm rfl (je (Run.indexS k (show _ = some (Value.slice (some ad2) ss.length m.d) by rw [← had2]; rfl) rfl zd zl hc5) (jl rfl zab hcs ?_))))))))
  refine Ops.cl (jE1 Tryz.call12) (fL q _) rfl ?_
  rintro e _ ⟨rfl, rfl⟩
  refine ⟨_, rfl, ?_⟩
  refine Ops.m (qJ.buildS1 rfl zd zl hG jd jd rfl rfl) rfl ?_
  rintro _ w14 ⟨rfl, hF14⟩
  have hr14 : Rd w14 1 (some ⟨wr.heap.size, 0, none⟩) 1 (SB [q.take 70]) := Rd.of_blk (n := 1) (size := 1) hF14.blk rfl
  have ho14 := hos.frm hF14.frm jp
  have F14 := F.trans hF14.frm jp
  have hFs := F14.size
  refine Ops.m (qJ.app rfl rfl zd (kE) rfl jd ho14 hr14 (dB _) jo jo) rfl ?_
  rintro _ w15 ⟨C6, e6, rfl, ho6, hf6, hob6⟩
  rw [← dK] at ho6
  have hob6 : ∀ b ∈ ob C6, w13.heap.size ≤ b := fun b hb => by
   rcases hob6 with h | h
   · rw [h] at hb; exact hoc b hb
   rw [h, za] at hb; omega
  have F15 := F14.own hf6 hoc
  refine ja rfl (jO ?_)
  refine qR (jN ?_)
  refine jv4 1 2 6 7 ?_
  refine jR (jm rfl (jb rfl rfl (Bin.add_i64 _ 1 jo) (ja rfl (jO ?_))))
  refine jN ⟨(k + 1, C6, e6, s' ++ [q.take 70]), (js4 rfl rfl (by rw [zi]; rfl) rfl), ?_, ?_⟩
  · exact ⟨hc5, by rw [zi]; exact ho6, by rw [hts2, hse], hob6, F15⟩
  first | omega | (dsimp only; omega)
 obtain rfl : k = ss.length := jo
 rw [zay] at hse
 refine jX ?_
 refine qT (qT (bZ ?_))
 refine jN (jv3 1 2 6 ?_)
 refine jS (jR (jm rfl (jf rfl zh rfl zae ?_)))
 have ho := ho.frm F jp
 have hb4 := hb4.frm F jp
 have hel' := fun x hx => show OwM wr x.A x.c x.l ∧ x.l.length ≤ 129 ∧ x.nm.length ≤ 70 from ⟨(hel' x hx).1.frm F, (hel' x hx).2⟩
 have ho1 := ho.ne_blk hb1r jd
 have hs1 := hos.ne_blk hb1r jd
 refine Ops.st (qK.store rfl rfl zae hb1r rfl rfl) ?_
 rintro w16 ⟨hb1, (hf16 : Frm [g1] _ _), hs16⟩
 have hb1 : Blk w16 g1 25 (⟨B, d, l', C, e, s', m.v, m.b⟩ : MlC).cells.toArray := hb1
 have hb4 := hb4.frm hf16 (by simp; omega)
 have ho := ho.frm hf16 (fun y hy h => by rw [za] at h; subst h; exact ho1 hy)
 have hos := hos.frm hf16 (fun y hy h => by rw [za] at h; subst h; exact hs1 hy)
 have hel' := fun x hx => show OwM w16 x.A x.c x.l ∧ x.l.length ≤ 129 ∧ x.nm.length ≤ 70 from ⟨(hel' x hx).1.blk hf16 hb1r jd jd, (hel' x hx).2⟩
 have K := Kr.own hf16 (fun y hy => by rw [za] at hy; omega)
 refine jO (jN (jv2 1 2 ?_))
 refine jS (jR (je (Run.loadA rfl zc zb (hb1.cells) (by first | rfl | (simp; done))) ?_))
 have ho4 := ho.ne_blk hb4 jd
 have hs4 := hos.ne_blk hb4 jd
 have hb40 := hb4
 refine Ops.st (qK.storeA rfl rfl zb hb4 rfl (MlC.cells_one _)) ?_
 rintro w17 ⟨hb17, (hf17 : Frm [g4] _ _), hs17⟩
 have ho := ho.frm hf17 (fun y hy h => by rw [za] at h; subst h; exact ho4 hy)
 have hos := hos.frm hf17 (fun y hy h => by rw [za] at h; subst h; exact hs4 hy)
 have hel' := fun x hx => show OwM w17 x.A x.c x.l ∧ x.l.length ≤ 129 ∧ x.nm.length ≤ 70 from ⟨(hel' x hx).1.blk hf17 hb40 jd jd, (hel' x hx).2⟩
 have K := K.own hf17 (fun y hy => by rw [za] at hy; omega)
 refine jO (jN (jv1 2 ?_))
 refine jT ?_
 refine bQ ?_
 refine qH rfl zc zb (fun j v hj => hb17.cells j v hj) (by first | rfl | (simp; done)) ?_
 refine qP ?_
 refine ⟨⟨B, d, l', C, e, s', m.v, m.b⟩, rfl, ?_, ⟨ho, hel', hos, by dsimp only; omega, by dsimp only; omega, fun q hq => ?_⟩, rfl, fun x hx b hb => hg1 ▸ hfa x hx b hb, K⟩
 ·
  show MailP.mk (Ns l') s' m.v m.b = qQc m.p
  unfold qQc
  congr 1
  ·
   rw [hns, hl]
   show _ = ((m.l.map Nc.p).take 25).map mW
   rw [zdo]
  rw [hse, hss]
  rfl
 dsimp only at hq
 rw [hse] at hq
 obtain ⟨y, hy, rfl⟩ := List.mem_map.1 hq
 rw [zg]
 omega
end
section
open Go.RowKit Go.Sort
section
variable {H : Type} {enc : TypeId × Value → H} {w : World} {base : Nat} {spare : Nat → Bool} {held : Bool} {n : Nat} {cs : List Value} {x : DataW H × List MemPlace}
theorem xI (h : DataW.trod enc Tryz.prog w base spare held n 41 cs = some x) : ∃ (A : Option Addr) (c : Nat) (l : List Mc), cs = [.slice A l.length c] ∧ l.length ≤ c ∧ RawM w A l := by
 obtain ⟨A, len, c, rfl⟩ := kD zx h
 obtain ⟨l, rfl, h1, _, h3⟩ := qXq h
 exact ⟨A, c, l, rfl, h1, h3⟩
end
theorem qQd {H : Type} {enc : TypeId × Value → H} {w : World} {base : Nat} {spare : Nat → Bool} {held : Bool} {n : Nat} {cs : List Value} {x : DataW H × List MemPlace} (h : DataW.trod enc Tryz.prog w base spare held n 43 cs = some x) :
  ∃ (va : Int) (na : Int) (A : Option Addr) (c : Nat) (l : List Mc), cs = ([.int .i64 va] ++ ([.int .i64 na] ++ ([.slice A l.length c] ++ [] : List Value) : List Value) : List Value) ∧ ((Lit.int .i64 va).wf = true) ∧ ((Lit.int .i64 na).wf = true) ∧ (l.length ≤ c ∧ RawM w A l) := by
 obtain ⟨hlen, n', hf⟩ := kB zr h
 have hl : cs.length = 3 := hlen.trans jK
 obtain ⟨a0, a1, a2, rfl⟩ : ∃ a0 a1 a2, cs = [a0, a1, a2] := by
  match cs, hl with
  | [a0, a1, a2], _ => exact ⟨a0, a1, a2, rfl⟩
 clear h hlen hl
 obtain ⟨y0, h0⟩ := hf 0 _ rfl
 have h0 : DataW.trod enc Tryz.prog w base spare held n' 3 ([a0, a1, a2].take (Tryz.prog.cellsOf 3)) = some y0 := h0
 rw [show Tryz.prog.cellsOf 3 = 1 by kernel_rfl] at h0
 have h0 : DataW.trod enc Tryz.prog w base spare held n' 3 [a0] = some y0 := h0
 obtain ⟨va, e0, q0⟩ := kC zac h0
 obtain ⟨y1, h1⟩ := hf 1 _ rfl
 have h1 : DataW.trod enc Tryz.prog w base spare held n' 3 ([a1, a2].take (Tryz.prog.cellsOf 3)) = some y1 := h1
 rw [show Tryz.prog.cellsOf 3 = 1 by kernel_rfl] at h1
 have h1 : DataW.trod enc Tryz.prog w base spare held n' 3 [a1] = some y1 := h1
 obtain ⟨na, e1, q1⟩ := kC zac h1
 obtain ⟨y2, h2⟩ := hf 2 _ rfl
 have h2 : DataW.trod enc Tryz.prog w base spare held n' 41 ([a2].take (Tryz.prog.cellsOf 41)) = some y2 := h2
 rw [show Tryz.prog.cellsOf 41 = 1 by kernel_rfl] at h2
 have h2 : DataW.trod enc Tryz.prog w base spare held n' 41 [a2] = some y2 := h2
 obtain ⟨A, c, l, e2, q2⟩ := xI h2
 refine ⟨va, na, A, c, l, ?_, q0, q1, q2⟩
 show ([a0] ++ ([a1] ++ ([a2] ++ [] : List Value) : List Value) : List Value) = _
 rw [e0, e1, e2]
 try rfl
end
section
open Go.RowKit Go.ChangeShapes Go.WideShapes Go.Deep
theorem vE {H : Type} {enc : TypeId × Value → H} {w : World} {base : Nat} {spare : Nat → Bool} {held : Bool} {n : Nat} {cs : List Value} {x : DataW H × List MemPlace} (h : DataW.trod enc Tryz.prog w base spare held n 45 cs = some x) :
  ∃ (q : Tx) (va na : Int) (A : Option Addr) (c : Nat) (l : List Mc), cs = ([encStr q] ++ (BVc va na A l.length c ++ [] : List Value) : List Value) ∧ (q.length ≤ 9223372036854775807) ∧ ((Lit.int .i64 va).wf = true ∧ (Lit.int .i64 na).wf = true ∧ l.length ≤ c ∧ RawM w A l) := by
 obtain ⟨hlen, n', hf⟩ := kB zag h
 have hl : cs.length = 4 := hlen.trans jK
 obtain ⟨a0, a1, a2, a3, rfl⟩ : ∃ a0 a1 a2 a3, cs = [a0, a1, a2, a3] := by
  match cs, hl with
  | [a0, a1, a2, a3], _ => exact ⟨a0, a1, a2, a3, rfl⟩
 clear h hlen hl
 obtain ⟨y0, h0⟩ := hf 0 _ rfl
 have h0 : DataW.trod enc Tryz.prog w base spare held n' 9 ([a0, a1, a2, a3].take (Tryz.prog.cellsOf 9)) = some y0 := h0
 rw [show Tryz.prog.cellsOf 9 = 1 by kernel_rfl] at h0
 have h0 : DataW.trod enc Tryz.prog w base spare held n' 9 [a0] = some y0 := h0
 obtain ⟨q, e0, q0⟩ := yA zn h0
 obtain ⟨y1, h1⟩ := hf 1 _ rfl
 have h1 : DataW.trod enc Tryz.prog w base spare held n' 43 ([a1, a2, a3].take (Tryz.prog.cellsOf 43)) = some y1 := h1
 rw [show Tryz.prog.cellsOf 43 = 3 by kernel_rfl] at h1
 have h1 : DataW.trod enc Tryz.prog w base spare held n' 43 [a1, a2, a3] = some y1 := h1
 obtain ⟨va, na, A, c, l, e1, q1⟩ := qQd h1
 refine ⟨q, va, na, A, c, l, ?_, q0, q1⟩
 show ([a0] ++ ([a1, a2, a3] ++ [] : List Value) : List Value) = _
 rw [e0, e1]
 try rfl
section
variable {H : Type} {enc : TypeId × Value → H} {w : World} {base : Nat} {spare : Nat → Bool} {held : Bool}
theorem vF {n : Nat} {cs : List Value} {x : DataW H × List MemPlace} (h : DataW.trod enc Tryz.prog w base spare held n 45 cs = some x) : ∃ y : Nc, cs = y.cells ∧ RawM w y.A y.l ∧ y.l.length ≤ y.c := by
 obtain ⟨q, va, na, A, c, l, e, _, ⟨_, _, h1, h2⟩⟩ := vE h
 exact ⟨⟨q, va, na, A, c, l⟩, e, h2, h1⟩
theorem qQe {fuel len cap : Nat} {a : Option Addr} {x : DataW H × List MemPlace} (h : DataW.trod enc Tryz.prog w base spare held fuel 22 [.slice a len cap] = some x) :
  ∃ l : List Nc, l.length = len ∧ len ≤ cap ∧ Rd w 4 a l.length (NDC l) ∧ ∀ y ∈ l, RawM w y.A y.l ∧ y.l.length ≤ y.c := by
 have hC : Tryz.prog.cellsOf 45 = 4 := by kernel_rfl
 rcases open_slice zf h with ⟨hcs, _⟩ | ⟨ad, l, c, m, n, D, Pl, hcs, _, hl, hm, hmm, _, hi⟩
 ·
  simp only [List.cons.injEq, Value.slice.injEq, and_true] at hcs
  obtain ⟨rfl, rfl, rfl⟩ := hcs
  exact ⟨[], rfl, zw _, Rd.nil _ _ _, jp⟩
 simp only [List.cons.injEq, Value.slice.injEq, and_true] at hcs
 obtain ⟨rfl, rfl, rfl⟩ := hcs
 have hml : len ≤ m := by rw [hmm]; split <;> omega
 rw [hC] at hi
 have key : ∀ i, i < len → ∃ y : Nc, (∀ j, j < 4 → w.cell? ((ad.add (i * 4)).add j) = y.cells[j]?) ∧ RawM w y.A y.l ∧ y.l.length ≤ y.c := by
  intro i hil
  obtain ⟨cs', hc, ht'⟩ := hi i jo
  obtain ⟨_, hcl, hat⟩ := World.cells?_some hc
  obtain ⟨y, rfl, h1, h2⟩ := vF ht'
  exact ⟨y, fun j hj => hat j hj, h1, h2⟩
 obtain ⟨ls, hll, hq⟩ := fI len key
 have hcell : ∀ j u, (NDC ls)[j]? = some u → w.cell? (ad.add j) = some u := by
  intro j u hu
  rw [show NDC ls = ls.flatMap Nc.cells from rfl, gS Nc.cells 4 jo Nc.cells_len] at hu
  obtain ⟨y, hy, hu'⟩ := Option.bind_eq_some_iff.1 hu
  have := (hq _ y hy).1 (j % 4) (Nat.mod_lt _ jo)
  rw [Go.Proofs.YtgmbmfpfhcekiaaGreat.add_add, Nat.mul_comm, Nat.div_add_mod] at this
  rw [this, hu']
 refine ⟨ls, hll, hl, ⟨by rw [dP], fun hn => ⟨ad, rfl, ?_, hcell⟩⟩, fun y hy => ?_⟩
 ·
  have h0 : 0 < (NDC ls).length := by rw [dP]; omega
  have := World.block_lt_of_cell? w _ (hcell 0 _ (ze h0))
  rwa [dO] at this
 obtain ⟨i, hi', hli⟩ := zo hy
 exact (hq i y (by rw [ze hi', hli])).2
theorem tJ {n : Nat} {cs : List Value} {x : DataW H × List MemPlace} (h : DataW.trod enc Tryz.prog w base spare held n 22 cs = some x) : ∃ (A : Option Addr) (c : Nat) (l : List Nc), cs = [.slice A l.length c] ∧ l.length ≤ c ∧ Rd w 4 A l.length (NDC l) ∧ ∀ y ∈ l, RawM w y.A y.l ∧ y.l.length ≤ y.c := by
 obtain ⟨A, len, c, rfl⟩ := kD zf h
 obtain ⟨l, rfl, h1, h2, h3⟩ := qQe h
 exact ⟨A, c, l, rfl, h1, h2, h3⟩
theorem vA {n : Nat} {cs : List Value} {x : DataW H × List MemPlace} (h : DataW.trod enc Tryz.prog w base spare held n 23 cs = some x) : ∃ (A : Option Addr) (c : Nat) (l : List Tx), cs = [.slice A l.length c] ∧ l.length ≤ c ∧ c ≤ 9223372036854775807 ∧ Rd w 1 A l.length (SB l) := yI zd zn jK h
end
theorem xL {H : Type} {enc : TypeId × Value → H} {w : World} {base : Nat} {spare : Nat → Bool} {held : Bool} {n : Nat} {cs : List Value} {x : DataW H × List MemPlace} (h : DataW.trod enc Tryz.prog w base spare held n 25 cs = some x) :
  ∃ (A : Option Addr) (c : Nat) (l : List Nc) (S : Option Addr) (d : Nat) (ss : List Tx) (va : Int) (bl : Int), cs = ([.slice A l.length c] ++ ([.slice S ss.length d] ++ ([.int .i64 va] ++ ([.int .i64 bl] ++ [] : List Value) : List Value) : List Value) : List Value) ∧ (l.length ≤ c ∧ Rd w 4 A l.length (NDC l) ∧ ∀ y ∈ l, RawM w y.A y.l ∧ y.l.length ≤ y.c) ∧ (ss.length ≤ d ∧ d ≤ 9223372036854775807 ∧ Rd w 1 S ss.length (SB ss)) ∧ ((Lit.int .i64 va).wf = true) ∧ ((Lit.int .i64 bl).wf = true) := by
 obtain ⟨hlen, n', hf⟩ := kB zh h
 have hl : cs.length = 4 := hlen.trans jK
 obtain ⟨a0, a1, a2, a3, rfl⟩ : ∃ a0 a1 a2 a3, cs = [a0, a1, a2, a3] := by
  match cs, hl with
  | [a0, a1, a2, a3], _ => exact ⟨a0, a1, a2, a3, rfl⟩
 clear h hlen hl
 obtain ⟨y0, h0⟩ := hf 0 _ rfl
 have h0 : DataW.trod enc Tryz.prog w base spare held n' 22 ([a0, a1, a2, a3].take (Tryz.prog.cellsOf 22)) = some y0 := h0
 rw [show Tryz.prog.cellsOf 22 = 1 by kernel_rfl] at h0
 have h0 : DataW.trod enc Tryz.prog w base spare held n' 22 [a0] = some y0 := h0
 obtain ⟨A, c, l, e0, q0⟩ := tJ h0
 obtain ⟨y1, h1⟩ := hf 1 _ rfl
 have h1 : DataW.trod enc Tryz.prog w base spare held n' 23 ([a1, a2, a3].take (Tryz.prog.cellsOf 23)) = some y1 := h1
 rw [show Tryz.prog.cellsOf 23 = 1 by kernel_rfl] at h1
 have h1 : DataW.trod enc Tryz.prog w base spare held n' 23 [a1] = some y1 := h1
 obtain ⟨S, d, ss, e1, q1⟩ := vA h1
 obtain ⟨y2, h2⟩ := hf 2 _ rfl
 have h2 : DataW.trod enc Tryz.prog w base spare held n' 3 ([a2, a3].take (Tryz.prog.cellsOf 3)) = some y2 := h2
 rw [show Tryz.prog.cellsOf 3 = 1 by kernel_rfl] at h2
 have h2 : DataW.trod enc Tryz.prog w base spare held n' 3 [a2] = some y2 := h2
 obtain ⟨va, e2, q2⟩ := kC zac h2
 obtain ⟨y3, h3⟩ := hf 3 _ rfl
 have h3 : DataW.trod enc Tryz.prog w base spare held n' 3 ([a3].take (Tryz.prog.cellsOf 3)) = some y3 := h3
 rw [show Tryz.prog.cellsOf 3 = 1 by kernel_rfl] at h3
 have h3 : DataW.trod enc Tryz.prog w base spare held n' 3 [a3] = some y3 := h3
 obtain ⟨bl, e3, q3⟩ := kC zac h3
 refine ⟨A, c, l, S, d, ss, va, bl, ?_, q0, q1, q2, q3⟩
 show ([a0] ++ ([a1] ++ ([a2] ++ ([a3] ++ [] : List Value) : List Value) : List Value) : List Value) = _
 rw [e0, e1, e2, e3]
 try rfl
theorem xO {H : Type} {enc : TypeId × Value → H} {w : World} {base : Nat} {spare : Nat → Bool} {held : Bool} {n : Nat} {cs : List Value} {x : DataW H × List MemPlace} (h : DataW.trod enc Tryz.prog w base spare held n 25 cs = some x) :
  ∃ m : MlC, cs = m.cells ∧ RawL w m ∧ m.b ≤ 9223372036854775807 := by
 obtain ⟨A, c, l, S, d, ss, va, bl, e, ⟨h1, h2, h3⟩, ⟨h4, _, h6⟩, _, hb⟩ := xL h
 exact ⟨⟨A, c, l, S, d, ss, va, bl⟩, e, ⟨h2, h3, h6, h1, h4⟩, by simp [Lit.wf, IntKind.min, IntKind.max, IntKind.signed, IntKind.bits] at hb; dsimp only; omega⟩
theorem bF.rdl {w w' w2 : World} {m a : MlC} {F : Except Nat MailP} {k : Nat} (h : bF w w' m F a k) (f : Frm [] w' w2) (hm : RdL w' m) : RdL w2 a := by
 obtain ⟨⟨S, hS⟩, _⟩ := h
 exact (hS.now hm).frm f
end
section
open Go.RowKit Go.Sort
theorem pK (l : List Tx) : (SB l).length = l.length * 1 := by rw [qX3, zbd]
theorem lH (l : List Tx) (i : Nat) (_ : i ≤ l.length) : (SB l).take (i * 1) = SB (l.take i) := by rw [zbd]; simp [SB, zdo]
theorem rI (l : List Tx) (i : Nat) (_ : i ≤ l.length) : (SB l).drop (i * 1) = SB (l.drop i) := by rw [zbd]; simp [SB, List.map_drop]
theorem vI (l : List Tx) (i : Nat) (hi : i < l.length) : SB (l.take i ++ l.drop (i + 1)) = (SB l).take (i * 1) ++ (SB l).drop ((i + 1) * 1) := by
 rw [dK, lH l i jo, rI l (i + 1) jo]
theorem rL (B : Option Addr) (d i : Nat) (l : List Tx) (w : World) (hl : Own w 9 1 B l.length d (SB l)) (hn : l.length ≤ 1000000) (hi : i < l.length) :
  Calls Tryz.prog 74 #[.slice B l.length d, .int .i64 ((i : Nat) : Int), .int .i64 ((i + 1 : Nat) : Int)] w fun e w' => e = .returned (.slice B (l.length - 1) d) ∧ Own w' 9 1 B (l.length - 1) d (SB (l.take i ++ l.drop (i + 1))) ∧ Frm (ob B) w w' := by
 obtain ⟨g, rfl⟩ : ∃ g, B = some ⟨g, 0, none⟩ := by
  rcases hl.cases with ⟨_, h0, _⟩ | ⟨g, _, h0, _⟩
  · omega
  exact ⟨g, h0⟩
 have hle := hl.le
 have hcl := pK l
 refine VC.calls (nt := 33) (res := #[.tmp 6]) Tryz.func74 rfl Tryz.ntmps74 Tryz.results74 rfl ?_
 refine jS (jR (ja rfl (jO (jN (jv3 0 1 2 ?_)))))
 refine jS (jR (jm rfl (jm rfl (jm rfl (jm rfl (je (Run.lenS rfl zd) (je (Run.slice3 i (i + 1) l.length rfl zd zl rfl rfl rfl jo jo hle) (jO (jN (jv3 0 1 2 ?_))))))))))
 refine jS (jS (jR (jm rfl (jm rfl (jb rfl rfl (Bin.eqlN _ _) (jO (jN (jv4 0 1 2 16 ?_))))))))
 refine VC.condF rfl (decide_eq_false jo) ?_
 refine jQ (jN (jv3 0 1 2 ?_))
 refine jS (jR (jm rfl (je (Run.lenS rfl zd) (ja rfl (jO (jN (jv4 0 1 2 7 ?_)))))))
 refine jS ?_
 refine VC.tail 6 jK jK ?_
 simp only [zby, zcv, zcs, zbs]
 refine qM ?_
 refine qM ?_
 refine qE (Run.sliceS 0 _ rfl zd zl evB.none_ (evB.some_ rfl) jo jo) ?_
 rw [dI]
 refine qM ?_
 refine qM ?_
 refine qE (Run.sliceS _ _ rfl zd zl (evB.some_ rfl) evB.none_ jo jo) ?_
 refine bV.nil ?_
 have hd := bJ.drew w
 have hown := hl.drawn hd
 have hcut := hown.rd.cut (l := i + 1) (r := l.length) (cap := d) jo (zw _) hle
 rw [zq (by rw [zp, hcl]; omega)] at hcut
 refine Ops.m (qJ.appIn (n := i) (cap := d) rfl rfl zd zl hown hcut jo (fun v hv => dB l v (zba hv))) rfl ?_
 rintro _ w1 ⟨rfl, ho1, hf1, hs1⟩
 rw [show i + (l.length - (i + 1)) = l.length - 1 by omega] at ho1 ⊢
 refine ja rfl (jO (jN (jv2 0 7 ?_)))
 refine jS (jR (jm rfl (jm rfl (je (Run.lenS rfl zd) (jm rfl (je (Run.sliceS _ _ rfl zd zl (evB.some_ rfl) (evB.some_ rfl) jo jo) ?_))))))
 refine Ops.m0 (qJ.clearCut (m := l.length) (size := 1) rfl zd hG rfl jd ho1 jo) ?_
 rintro _ w2 ⟨ho2, hf2⟩
 rw [zaj (by rw [zi, zg, zp, hcl]; omega), zq (by rw [zi, zg, zp, hcl]; omega), ← vI l i hi] at ho2
 refine jO (jN (jv1 0 ?_))
 refine jS (jR (jm rfl (ja rfl (jO (jN (jv1 6 ?_))))))
 refine jT ?_
 refine qL rfl ?_
 exact ⟨rfl, ho2, (((bJ.drew w).frm.mono jp).trans hf1 (fun x hx => .inl hx)).trans hf2 (fun x hx => .inl hx)⟩
theorem oB {w : World} {gv g i : Nat} {cv cs : Array Value} (hv : Blk w gv 9 cv) (hg : Blk w g 9 cs) (hne : gv ≠ g) (h0 : cs.size ≠ 0) (la ca lb cb : Nat) :
  (callFunc 122 #[.slice (some ⟨gv, 0, none⟩) la ca, .slice (some ⟨g, i, none⟩) lb cb]).run Tryz.prog w = .ok (.value (.bool false)) w := by
 rw [run_callFunc_extern Tryz.func122 jK jK jK (e := Extern.SlicesOverlaps.overlaps #[23, 23] #[4]) jK,
  Lib.run_overlaps_apart w 23 4 9 zd 1 zl ⟨gv, 0, none⟩ ⟨g, i, none⟩ la ca lb cb hne 9 9 cv.size cs.size hv.shape hg.shape h0 (hv.frozen 0) (hv.frozen _)]
 rfl
theorem yQ (l : List Tx) (x : Tx) (i : Nat) (hi : i ≤ l.length) : SB (l.take i ++ x :: l.drop i) = (SB l).take (i * 1) ++ [encStr x] ++ (SB l).drop (i * 1) := by
 rw [dK, lH l i hi, rI l i hi, show SB (x :: l.drop i) = [encStr x] ++ SB (l.drop i) from rfl, zca]
theorem qXs {a zs b x : List Value} {o : Nat} (h1 : o + 1 ≤ (a ++ zs).length) (h2 : o ≤ a.length) : ((a ++ zs).take (o + 1) ++ b).take o ++ x ++ ((a ++ zs).take (o + 1) ++ b).drop (o + 1) = a.take o ++ x ++ b := by
 have hl : ((a ++ zs).take (o + 1)).length = o + 1 := by rw [zg]; omega
 rw [zaj jo, zdy, zaf jo, zaj h2, zdp, zaq jo, hl, zdc, zbs, zbg]
theorem mF (x : Tx) : [encStr x].length = 1 := rfl
set_option maxHeartbeats 1000000 in
theorem rO (B : Option Addr) (d i gv : Nat) (l : List Tx) (x : Tx) (w : World) (hl : Own w 9 1 B l.length d (SB l)) (hn : l.length ≤ 1000000) (hi : i ≤ l.length) (hv : Blk w gv 9 #[encStr x]) (hne : gv ∉ ob B) :
  Calls Tryz.prog 76 #[.slice B l.length d, .int .i64 ((i : Nat) : Int), .slice (some ⟨gv, 0, none⟩) 1 1] w fun e w' => ∃ C d', e = .returned (.slice C (l.length + 1) d') ∧ Own w' 9 1 C (l.length + 1) d' (SB (l.take i ++ x :: l.drop i)) ∧ Frm (ob B) w w' ∧ ∀ b ∈ ob C, b ∈ ob B ∨ w.heap.size ≤ b := by
 have hle := hl.le
 have hcl := pK l
 have hil := yQ l x i hi
 have hrv : Rd w 1 (some ⟨gv, 0, none⟩) 1 [encStr x] := Rd.of_blk (n := 1) (size := 1) hv rfl
 refine VC.calls (nt := 95) (res := #[.tmp 6]) Tryz.func76 rfl Tryz.ntmps76 Tryz.results76 rfl ?_
 refine jS (jR (ja rfl (jO (jN (jv3 0 1 2 ?_)))))
 refine jS (jR (jm rfl (jm rfl (je (Run.sliceS _ _ rfl zd zl (evB.some_ rfl) evB.none_ jo jo) (jO (jN (jv3 0 1 2 ?_)))))))
 refine jS (jR (jm rfl (je (Run.lenS rfl zd) (ja rfl (jO (jN (jv4 0 1 2 7 ?_)))))))
 refine jS (jS (jR (jm rfl (jb rfl rfl (Bin.eqlN _ 0) (jO (jN (jv5 0 1 2 7 16 ?_)))))))
 refine VC.condF rfl (rfl) ?_
 refine jQ (jN (jv4 0 1 2 7 ?_))
 refine jS (jR (jm rfl (je (Run.lenS rfl zd) (ja rfl (jO (jN (jv5 0 1 2 7 8 ?_)))))))
 refine jS (jS (jR (jm rfl (jm rfl (jb rfl rfl (Bin.eqlN _ _) (jO (jN (jv6 0 1 2 7 8 22 ?_))))))))
 refine jD rfl (fun hc2 => ?_) fun hc2 => ?_
 ·
  obtain rfl : i = l.length := hc2
  have hend : SB (l.take l.length ++ x :: l.drop l.length) = SB l ++ [encStr x] := by
   rw [zay, List.drop_length, dK]
   simp [SB]
  refine jS (jR (jm rfl (jM ?_)))
  refine Ops.m (qJ.app rfl rfl zd (kE) rfl jd hl hrv (dB [x]) jo jo) rfl ?_
  rintro _ w1 ⟨C, c1, rfl, ho1, hf1, hob1⟩
  refine ja rfl (jO (jN (jv1 6 ?_)))
  refine jT ?_
  refine qZ (qL rfl ?_)
  exact ⟨C, c1, rfl, by rw [hend]; exact ho1, hf1, fun b hb => by rcases hob1 with h | h; exact .inl (h ▸ hb); rw [h, za] at hb; exact .inr jo⟩
 have hin : i < l.length := jo
 obtain ⟨g, rfl⟩ : ∃ g, B = some ⟨g, 0, none⟩ := by
  rcases hl.cases with ⟨_, h0, _⟩ | ⟨g, _, h0, _⟩
  · omega
  exact ⟨g, h0⟩
 refine jQ (jN (jv5 0 1 2 7 8 ?_))
 refine jS (jS (jR (jm rfl (jm rfl (jb rfl rfl (Bin.add_i64 _ _ jo) (jm rfl (je (Run.capS rfl zd) (jb rfl rfl (Bin.gtrN _ _) (jO (jN (jv6 0 1 2 7 8 31 ?_)))))))))))
 refine jD rfl (fun hc3 => ?_) fun hc3 => ?_
 ·
  refine jS (jR (jm rfl (jm rfl (je (Run.sliceS 0 _ rfl zd zl evB.none_ (evB.some_ rfl) jo jo) ?_))))
  rw [dI]
  refine jm rfl (jm rfl (jb rfl rfl (Bin.add_i64 _ _ jo) (jm rfl (jb rfl rfl (Bin.sub_i64 _ _ jo jo) ?_))))
  have hpre := (hl.short (k := i) hi).rd
  rw [lH l i hi] at hpre
  refine Ops.m (qJ.appMake (n := i) (cap := d) (k := l.length + 1 - i) rfl rfl zd zac (kE) rfl jd hpre jo jo jo jo jo) rfl ?_
  rintro _ w1 ⟨c1, zs, rfl, ho1, hzs, hf1⟩
  have hc1 := ho1.le
  have hpl : (SB (l.take i)).length = i * 1 := by rw [pK, zg, zaf hi]
  rw [show i + (l.length + 1 - i) = l.length + 1 by omega] at ho1 hc1 ⊢
  generalize hgn : w.heap.size = gn at ho1 ⊢
  refine ja rfl (jO (jN (jv5 0 1 2 7 9 ?_)))
  refine jS (jR (jm rfl (jm rfl (je (Run.sliceS _ _ rfl zd zl (evB.some_ rfl) evB.none_ jo jo) ?_))))
  rw [dE jo]
  refine jM ?_
  refine Ops.m (qJ.copyOwn (g := gn) (o := i * 1) rfl rfl zd zl ho1 1 (hrv.frm hf1 jp) (zaf jo) (by rw [zi, hpl, hzs, (mF x)]; omega) (dB [x])) rfl ?_
  rintro _ w2 ⟨rfl, ho2, hf2, hs2⟩
  rw [(mF x), mC hpl jo] at ho2
  have hf02 : Frm [] w w2 := hf1.trans hf2 (fun y hy => by rw [za] at hy; right; omega)
  have hd2 := bJ.drew w2
  have ho2 := ho2.drawn hd2
  have hcut := (hl.rd.frm (hf02.drawn hd2) jp).cut (l := i) (r := l.length) (cap := d) hi (zw _) hle
  rw [zq (by rw [zp, hcl]; omega)] at hcut
  refine jO (jN (jv4 0 1 7 9 ?_))
  refine jS ?_
  refine VC.tail 8 jK jK ?_
  simp only [zby, zcv, zcs, zbs]
  refine qM ?_
  refine qM ?_
  refine qM ?_
  refine qE (Run.bin rfl rfl (Bin.add_i64 _ _ jo)) ?_
  refine qE (Run.sliceS _ _ rfl zd zl (evB.some_ rfl) evB.none_ jo jo) ?_
  rw [dE jo]
  refine qM ?_
  refine qM ?_
  refine qE (Run.sliceS _ _ rfl zd zl (evB.some_ rfl) evB.none_ jo jo) ?_
  refine bV.nil ?_
  refine Ops.m (qJ.copyOwn (g := gn) (o := (i + 1) * 1) rfl rfl zd zl ho2 (l.length - i) hcut (zaf jo) (by rw [zi, zi, zp, zp, hpl, hzs, hcl, (mF x)]; omega) (fun v hv => dB l v (zba hv))) rfl ?_
  rintro _ w3 ⟨rfl, ho3, hf3, hs3⟩
  have hal : (SB (l.take i) ++ [encStr x]).length = (i + 1) * 1 := by rw [zi, hpl, (mF x)]; omega
  have hz0 : (zs.drop 1).drop ((SB l).drop (i * 1)).length = [] := zaq (by rw [zp, zp, hzs, hcl]; omega)
  rw [mC hal (by rw [zp, zp, hzs, hcl]; omega), hz0, zbh, ← lH l i hi, ← hil] at ho3
  have hf03 : Frm [] w w3 := (hf02.drawn hd2).trans hf3 (fun y hy => by rw [za] at hy; right; omega)
  refine jO (jN (jv1 9 ?_))
  refine jS (jR (jm rfl (ja rfl (jO (jN (jv1 6 ?_))))))
  refine jT ?_
  refine qZ (qL rfl ?_)
  exact ⟨_, c1, rfl, ho3, hf03.mono jp, fun b hb => by simp only [ob, za] at hb; exact .inr jo⟩
 refine jQ (jN (jv5 0 1 2 7 8 ?_))
 refine jS (jR (jm rfl (jm rfl (jm rfl (jb rfl rfl (Bin.add_i64 _ _ jo) (je (Run.sliceS 0 _ rfl zd zl evB.none_ (evB.some_ rfl) jo jo) ?_))))))
 rw [dI]
 obtain ⟨zs, hmo, hzs⟩ := hl.more (N := l.length + 1) jo jo
 obtain ⟨cur, hcur, hcs⟩ : ∃ cur, Blk w g 9 cur ∧ cur.size ≠ 0 := by
  rcases hl.cases with ⟨h0, _⟩ | ⟨g', cur, hA, hb, h1, _, h3, _⟩
  · cases h0
  cases hA
  exact ⟨cur, hb, jo⟩
 refine ja rfl (jO (jN (jv5 0 1 2 7 8 ?_)))
 refine jS (jS (jR (jm rfl (jm rfl (jm rfl (jm rfl (jb rfl rfl (Bin.add_i64 _ _ jo) (je (Run.sliceS _ _ rfl zd zl (evB.some_ rfl) evB.none_ jo jo) ?_))))))))
 rw [dE jo]
 refine je (Run.ext2 rfl rfl (oB hv hcur (by simpa [ob] using hne) hcs _ _ _ _)) (je (Run.not rfl) (jO (jN (jv6 0 1 2 7 8 68 ?_))))
 refine VC.condT rfl (rfl) ?_
 refine jS ?_
 refine VC.tail 8 jK jK ?_
 simp only [zby, zcv, zcs, zbs]
 refine qM ?_
 refine qM ?_
 refine qM ?_
 refine qE (Run.bin rfl rfl (Bin.add_i64 _ _ jo)) ?_
 refine qE (Run.sliceS _ _ rfl zd zl (evB.some_ rfl) evB.none_ jo jo) ?_
 rw [dE jo]
 refine qM ?_
 refine qM ?_
 refine qE (Run.sliceS _ _ rfl zd zl (evB.some_ rfl) evB.none_ jo jo) ?_
 refine bV.nil ?_
 have hd1 := bJ.drew w
 have hmo := hmo.drawn hd1
 have hcut := hmo.rd.cut (l := i) (r := l.length) (cap := d) hi jo jo
 rw [zed jo, zaj (by rw [zp, hcl]; omega), zq (by rw [zp, hcl]; omega), show l.length - i = l.length + 1 - (i + 1) by omega] at hcut
 refine Ops.m (qJ.copyOwn (g := g) (o := (i + 1) * 1) rfl rfl zd zl hmo (l.length + 1 - (i + 1)) hcut (Nat.min_eq_right jo) (by rw [zi, zp, hzs, hcl]; omega) (fun v hv => dB l v (zba hv))) rfl ?_
 rintro _ w2 ⟨rfl, ho2, hf2, hs2⟩
 have hz0 : (SB l ++ zs).drop ((i + 1) * 1 + ((SB l).drop (i * 1)).length) = [] := zaq (by rw [zi, zp, hzs, hcl]; omega)
 rw [hz0, zbh, show (i + 1) * 1 = i * 1 + 1 by omega] at ho2
 have hf02 : Frm [g] w w2 := (hd1.frm.mono jp).trans hf2 (fun y hy => .inl hy)
 have hv2 : Rd w2 1 (some ⟨gv, 0, none⟩) 1 [encStr x] := hrv.frm hf02 (by simpa [ob, eq_comm] using hne)
 refine jO (jN (jv3 0 1 2 ?_))
 refine jS (jR (jm rfl (jm rfl (je (Run.sliceS _ _ rfl zd zl (evB.some_ rfl) evB.none_ jo jo) ?_))))
 rw [dE jo]
 refine jM ?_
 refine Ops.m (qJ.copyOwn (g := g) (o := i * 1) rfl rfl zd zl ho2 1 hv2 (zaf jo) (by rw [zi, zg, zi, zp, hzs, hcl, (mF x)]; omega) (dB [x])) rfl ?_
 rintro _ w3 ⟨rfl, ho3, hf3, hs3⟩
 rw [(mF x), qXs (by rw [zi, hzs, hcl]; omega) jo, ← hil] at ho3
 refine jO (jN (jv1 0 ?_))
 refine jS (jR (jm rfl (ja rfl (jO (jN (jv1 6 ?_))))))
 refine jT ?_
 refine qZ (qL rfl ?_)
 exact ⟨_, d, rfl, ho3, hf02.trans hf3 (fun y hy => .inl hy), fun b hb => .inl hb⟩
end
section
open Go.RowKit Go.Sort
def lM (l : List Tx) (t : Tx) (i : Nat) : Prop := i ≤ l.length ∧ (∀ j (h : j < l.length), j < i → l[j] < t) ∧ ∀ j (h : j < l.length), i ≤ j → ¬ l[j] < t
theorem fO {l : List Tx} {t : Tx} {i : Nat} (h : lM l t i) : l.filter (fun x => decide (x < t)) = l.take i := by
 obtain ⟨h1, h2, h3⟩ := h
 conv => lhs; rw [← zao i l]
 rw [zbl, List.filter_eq_self.2, List.filter_eq_nil_iff.2, zbh]
 ·
  intro x hx
  obtain ⟨j, hj, rfl⟩ := zo hx
  rw [zp] at hj
  rw [zda]
  simpa using h3 (i + j) jo jo
 intro x hx
 obtain ⟨j, hj, rfl⟩ := zo hx
 rw [zg] at hj
 rw [zcb]
 simpa using h2 j jo jo
theorem gX {l : List Tx} (h : l.Pairwise (· < ·)) {i j : Nat} (hi : i < l.length) (hj : j < l.length) (hij : i < j) : l[i] < l[j] := by
 have := zbv.1 h i j (by simpa using hi) (by simpa using hj) hij
 simpa using this
theorem oC {l : List Tx} {t : Tx} {i : Nat} (hr : l.Pairwise (· < ·)) (h : lM l t i) : (∃ hi : i < l.length, l[i] = t) ↔ t ∈ l := by
 constructor
 ·
  rintro ⟨hi, he⟩
  rw [← he]
  exact zm hi
 intro hm
 obtain ⟨j, hj, rfl⟩ := zo hm
 have hij : i ≤ j := by
  rcases zcq j i with h4 | h4
  · exact absurd (h.2.1 j hj h4) (bH _)
  exact h4
 have hi : i < l.length := jo
 refine ⟨hi, ?_⟩
 by_cases e : i = j
 · subst e; rfl
 exact absurd (gX hr hi hj jo) (h.2.2 i hi (zw _))
theorem kM {l : List Tx} {t : Tx} {i : Nat} (hr : l.Pairwise (· < ·)) (hi : i < l.length) (he : l[i] = t) : l.filter (fun x => decide (t < x)) = l.drop (i + 1) := by
 conv => lhs; rw [← zao (i + 1) l]
 rw [zbl, List.filter_eq_nil_iff.2, List.filter_eq_self.2, zbg]
 ·
  intro x hx
  obtain ⟨j, hj, rfl⟩ := zo hx
  rw [zp] at hj
  rw [zda, ← he]
  simpa using gX hr hi (j := i + 1 + j) jo jo
 intro x hx
 obtain ⟨j, hj, rfl⟩ := zo hx
 rw [zg] at hj
 rw [zcb]
 simp only [decide_eq_true_eq]
 intro h2
 rw [← he] at h2
 by_cases e : i = j
 · subst e; exact bH _ h2
 exact bH _ (cH h2 (gX hr (i := j) jo hi jo))
theorem nV {l : List Tx} {t : Tx} {i : Nat} (h : lM l t i) (hn : t ∉ l) : l.filter (fun x => decide (t < x)) = l.drop i := by
 conv => lhs; rw [← zao i l]
 rw [zbl, List.filter_eq_nil_iff.2, List.filter_eq_self.2, zbg]
 ·
  intro x hx
  have hx2 := zba hx
  obtain ⟨j, hj, rfl⟩ := zo hx
  rw [zp] at hj
  rw [zda] at hx2 ⊢
  have h1 := h.2.2 (i + j) jo jo
  simp only [decide_eq_true_eq]
  rcases Classical.em (t < l[i + j]) with h2 | h2
  · exact h2
  exact absurd (by rw [← kY h1 h2]; exact hx2) hn
 intro x hx
 obtain ⟨j, hj, rfl⟩ := zo hx
 rw [zg] at hj
 rw [zcb]
 simp only [decide_eq_true_eq]
 intro h2
 exact bH _ (cH h2 (h.2.1 j jo jo))
def eA (l : List Tx) (t : Tx) (on : Bool) : List Tx := l.filter (fun x => decide (x < t)) ++ (if on then [t] else []) ++ l.filter (fun x => decide (t < x))
def nO (m : MailP) (s : Tx) (on : Bool) : Except Nat MailP :=
 if ¬ qI m then .error 1 else if ¬ isN s then .error 18 else if 24 < (eA m.subs (qQ s) on).length then .error 5 else .ok { m with subs := eA m.subs (qQ s) on }
theorem yX {l : List Tx} {i : Nat} (hi : i < l.length) : l = l.take i ++ l[i] :: l.drop (i + 1) := by
 conv => lhs; rw [← zao i l]
 rw [zav hi]
theorem qXt {l : List Tx} {t : Tx} {i : Nat} (hr : l.Pairwise (· < ·)) (h : lM l t i) (hi : i < l.length) (he : l[i] = t) : eA l t true = l := by
 unfold eA
 rw [fO h, kM hr hi he, if_pos rfl, ← he, zca]
 exact (yX hi).symm
theorem qQf {l : List Tx} {t : Tx} {i : Nat} (hr : l.Pairwise (· < ·)) (h : lM l t i) (hi : i < l.length) (he : l[i] = t) : eA l t false = l.take i ++ l.drop (i + 1) := by
 unfold eA
 rw [fO h, kM hr hi he, if_neg jd, zbh]
theorem qQg {l : List Tx} {t : Tx} {i : Nat} (h : lM l t i) (hn : t ∉ l) : eA l t false = l := by
 unfold eA
 rw [fO h, nV h hn, if_neg jd, zbh, zao]
theorem qQh {l : List Tx} {t : Tx} {i : Nat} (h : lM l t i) (hn : t ∉ l) : eA l t true = l.take i ++ t :: l.drop i := by
 unfold eA
 rw [fO h, nV h hn, if_pos rfl, zca]
 rfl
abbrev MlC.ws (m : MlC) (S : Option Addr) (d : Nat) (ss : List Tx) : MlC := { m with S := S, d := d, ss := ss }
theorem pB {w w' : World} {m : MlC} {S : Option Addr} {d : Nat} {ss : List Tx} (ho : Own w' 9 1 S ss.length d (SB ss)) (hf : ∀ b ∈ ob S, w.heap.size ≤ b) (hl : ss.length ≤ 1000000) (hq : ∀ q ∈ ss, q.length ≤ 1000000) : bA w w' (ob S) m (m.ws S d ss) := by
 refine ⟨hf, fun w'' T kT hT hm => ?_⟩
 have ho := ho.frm kT (fun y hy h => hT y h hy)
 exact ⟨hm.l, ho.rd, hm.lc, ho.le, hm.ln, hl, hq⟩
theorem qZk {w : World} {e size n c : Nat} {A : Option Addr} {xs : List Value} (h : Own w e size A n c xs) : ∀ b ∈ ob A, b < w.heap.size := by
 intro b hb
 rcases h.cases with ⟨h0, _⟩ | ⟨g, cur, h0, hbb, _⟩
 · rw [h0] at hb; simp [ob] at hb
 rw [h0] at hb
 simp only [ob, za] at hb
 rw [hb]
 exact hbb.lt
theorem bA.here {w w' : World} {m : MlC} : bA w w' [] m m := ⟨jp, fun _ _ _ _ h => h⟩
theorem yZ (q : Tx) (w : World) : Calls Tryz.prog 154 #[encStr q] w fun e w' => e = .returned (.bool false) ∧ w = w' := by
 refine VC.calls (nt := 6) (res := #[.tmp 2]) Tryz.func154 rfl Tryz.ntmps154 Tryz.results154 rfl ?_
 refine jS (jR (ja rfl (jO (jN (jv1 0 ?_)))))
 refine jS (jR (jm rfl (jm rfl (je (Run.neqT rfl rfl) (ja rfl (jO (jN (jv1 2 ?_))))))))
 refine jT ?_
 refine qL rfl ?_
 exact ⟨jp, rfl⟩
theorem yJ (q : Tx) (w : World) : Calls Tryz.prog 121 #[encStr q] w fun e w' => e = .returned (.bool false) ∧ w = w' := by
 refine VC.calls (nt := 6) (res := #[.tmp 2]) Tryz.func121 rfl Tryz.ntmps121 Tryz.results121 rfl ?_
 refine jS (jR (ja rfl (jO (jN (jv1 0 ?_)))))
 refine jS (jR (jm rfl (jm rfl (je (Run.neqT rfl rfl) (ja rfl (jO (jN (jv1 2 ?_))))))))
 refine jT ?_
 refine qL rfl ?_
 exact ⟨jp, rfl⟩
theorem vL (a b : Tx) (w : World) : Calls Tryz.prog 120 #[encStr a, encStr b] w fun e w' => e = .returned (.bool (decide (a < b))) ∧ w = w' := by
 refine VC.calls (nt := 17) (res := #[.tmp 4]) Tryz.func120 rfl Tryz.ntmps120 Tryz.results120 rfl ?_
 refine jS (jR (ja rfl (jO (jN (jv2 0 1 ?_)))))
 refine jS (jR (jM ?_))
 refine Ops.cl (jE1 Tryz.call154) (yZ a _) rfl ?_
 rintro e _ ⟨rfl, rfl⟩
 refine ⟨_, rfl, ?_⟩
 refine jM ?_
 refine Ops.sk rfl (rfl) rfl ?_
 refine Ops.sk rfl (rfl) rfl ?_
 refine Ops.sk rfl (rfl) rfl ?_
 refine je (Run.pickF rfl rfl (rfl)) (jM ?_)
 refine Ops.rg rfl (rfl) (Run.mv rfl) rfl ?_
 refine Ops.rg rfl (rfl) (Run.mv rfl) rfl ?_
 refine Ops.rg rfl (rfl) (Run.lssT rfl rfl) rfl ?_
 refine je (Run.pickF rfl rfl (rfl)) (ja rfl (jO (jN (jv1 4 ?_))))
 refine jT ?_
 refine qL rfl ?_
 exact ⟨rfl, rfl⟩
theorem sQ (A : Option Addr) (c : Nat) (l : List Tx) (q : Tx) (w : World) (hr : Rd w 1 A l.length (SB l)) (hn : l.length ≤ 1000000) (hs : l.Pairwise (· < ·)) :
  Calls Tryz.prog 73 #[.slice A l.length c, encStr q] w fun e w' => ∃ k : Nat, e = .returned (.tuple #[.int .i64 ((k : Nat) : Int), .bool (decide (q ∈ l))]) ∧ lM l q k ∧ w = w' := by
 refine VC.calls (nt := 54) (res := #[.tmp 4, .tmp 5]) Tryz.func73 rfl Tryz.ntmps73 Tryz.results73 rfl ?_
 refine jS (jR (jz 0 (ja rfl (jO (jN (jv2 0 1 ?_))))))
 refine jS (jR (jm rfl (je (Run.lenS rfl zd) (ja rfl (jO (jN (jv3 0 1 6 ?_)))))))
 refine jS (jR (jm rfl (jz 0 (ja rfl (jO (jN (jv5 0 1 6 7 8 ?_)))))))
 refine jS (jB ?_)
 refine VC.loop (σ := Nat × Nat) (fun s => [(0, .slice A l.length c), (1, encStr q), (6, .int .i64 ((l.length : Nat) : Int)), (7, .int .i64 ((s.1 : Nat) : Int)), (8, .int .i64 ((s.2 : Nat) : Int))]) (fun s wr => s.1 ≤ s.2 ∧ s.2 ≤ l.length ∧ (∀ j (h : j < l.length), j < s.1 → l[j] < q) ∧ (∀ j (h : j < l.length), s.2 ≤ j → ¬ l[j] < q) ∧ w = wr) (fun s => s.2 - s.1) (0, l.length) (js5 rfl rfl rfl rfl rfl) ⟨zal _, zw _, fun _ _ h => jo, fun _ _ h => jo, rfl⟩ ?_
 rintro ⟨i, j⟩ _ ⟨hij, hj, hlo, hhi, rfl⟩
 dsimp only at *
 refine jS (jS (jR (jm rfl (jm rfl (jb rfl rfl (Bin.lssN _ _) (jO (jN (jv6 0 1 6 7 8 15 ?_))))))))
 refine jD rfl (fun hc1 => ?_) fun hc1 => ?_
 ·
  have hh : (i + j) / 2 < l.length := jo
  obtain ⟨ad, had, hc⟩ := mR hr hh
  have hup := fun k (hk : k < l.length) (h : k < (i + j) / 2) => gX hs hk hh h
  have hdn := fun k (hk : k < l.length) (h : (i + j) / 2 < k) => gX hs hh hk h
  obtain ⟨h, hhd⟩ : ∃ h, h = (i + j) / 2 := ⟨_, rfl⟩
  simp only [← hhd] at hh hc hup hdn
  refine jQ (jN (jv5 0 1 6 7 8 ?_))
  refine jB (jS (jR (jm rfl (jm rfl (jb rfl rfl (Bin.add_i64 _ _ jo) (je (Run.convN _ rfl zac zde (by simp only [bmax]; omega)) (jb rfl rfl (Bin.shr_u64 _ 1 jo) ?_)))))))
  rw [show (i + j) / 2 ^ 1 = h from hhd.symm]
  refine je (Run.convN _ rfl zde zac (by simp only [bmax]; omega)) (ja rfl (jO (jN (jv6 0 1 6 7 8 9 ?_))))
  refine jS (jR (jm rfl (jm rfl (je (Run.index1 h (show _ = some (Value.slice (some ad) l.length c) by rw [← had]; rfl) rfl zd zl hh) (jl rfl zab hc (jM ?_))))))
  refine Ops.cl (jE2 Tryz.call120) (vL l[h] q _) rfl ?_
  rintro e _ ⟨rfl, rfl⟩
  refine ⟨_, rfl, ?_⟩
  refine jO (jN (jv7 0 1 6 7 8 9 27 ?_))
  refine VC.condB rfl (fun hc2 => ?_) (fun hc2 => ?_)
  ·
   have hc2 : l[h] < q := by first | exact hc2 | exact of_decide_eq_true hc2
   refine jR (jm rfl (jb rfl rfl (Bin.add_i64 _ 1 jo) (ja rfl (jO ?_))))
   refine qR (jN ⟨(h + 1, j), (js5 rfl rfl rfl rfl rfl), ?_, ?_⟩)
   ·
    refine ⟨by dsimp only; omega, hj, fun k hk h2 => ?_, hhi, rfl⟩
    by_cases e : k = h
    · subst e; exact hc2
    exact cH (hup k hk (by dsimp only at h2; omega)) hc2
   first | omega | (dsimp only; omega)
  have hc2 : ¬ l[h] < q := by first | exact hc2 | exact of_decide_eq_false hc2
  refine jR (jm rfl (ja rfl (jO ?_)))
  refine qR (jN ⟨(i, h), (js5 rfl rfl rfl rfl rfl), ?_, ?_⟩)
  ·
   refine ⟨by dsimp only; omega, by dsimp only; omega, hlo, fun k hk h2 h3 => ?_, rfl⟩
   by_cases e : k = h
   · subst e; exact hc2 h3
   exact hc2 (cH (hdn k hk (by dsimp only at h2; omega)) h3)
  first | omega | (dsimp only; omega)
 obtain rfl : i = j := jo
 have hpos : lM l q i := ⟨hj, hlo, hhi⟩
 have hin := oC hs hpos
 refine jX ?_
 refine qT (qT (bZ ?_))
 refine jN (jv4 0 1 6 7 ?_)
 refine jS ?_
 refine VC.splitR [(4, .int .i64 ((i : Nat) : Int))] (fun wz => w = wz) 5 (.bool (decide (q ∈ l))) ?_ ?_
 ·
  refine jR ?_
  refine jm rfl (jm rfl (jm rfl (jb rfl rfl (Bin.lssN _ _) ?_)))
  by_cases hs34 : i < l.length
  ·
   obtain ⟨ad, had, hc⟩ := mR hr hs34
   have hin : l[i] = q ↔ q ∈ l := ⟨fun h => hin.1 ⟨hs34, h⟩, fun h => (hin.2 h).2⟩
   generalize hx : l[i] = x at *
   refine jM ?_
   refine jG ?_
   refine jG ?_
   refine jk (Run.index1 i (show _ = some (Value.slice (some ad) l.length c) by rw [← had]; rfl) rfl zd zl hs34) ?_
   refine jk (Run.load rfl zab hc) ?_
   refine jG ?_
   refine jk (Run.eqlT rfl rfl) ?_
   by_cases hs41 : x = q
   ·
    refine jG ?_
    refine jU ?_
    refine jU ?_
    refine jU ?_
    refine jU ?_
    refine jU ?_
    refine jU ?_
    refine Ops.skU rfl rfl ?_
    refine Ops.skU rfl rfl ?_
    refine jU ?_
    refine jk (Run.pickT rfl rfl au) ?_
    refine je (Run.pickT rfl rfl au) (ja rfl (ja rfl (jO ?_)))
    refine jN ⟨(js2 (jC (by first | exact (decide_eq_true (hin.1 hs41)).symm | exact (decide_eq_false (fun h => hs41 (hin.2 h))).symm | exact (decide_eq_false hnot).symm)) rfl), (rfl)⟩
   refine jG ?_
   refine jG ?_
   refine jG ?_
   refine jk (Run.index1 i (show _ = some (Value.slice (some ad) l.length c) by rw [← had]; rfl) rfl zd zl hs34) ?_
   refine jk (Run.load rfl zab hc) ?_
   refine Ops.clg rfl au (jE1 Tryz.call121) (yJ x _) rfl ?_
   rintro e _ ⟨rfl, rfl⟩
   refine ⟨_, rfl, ?_⟩
   refine jG ?_
   refine jU ?_
   refine jU ?_
   refine jk (Run.pickF rfl rfl au) ?_
   refine jk (Run.pickF rfl rfl au) ?_
   refine je (Run.pickT rfl rfl au) (ja rfl (ja rfl (jO ?_)))
   refine jN ⟨(js2 (jC (by first | exact (decide_eq_true (hin.1 hs41)).symm | exact (decide_eq_false (fun h => hs41 (hin.2 h))).symm | exact (decide_eq_false hnot).symm)) rfl), (rfl)⟩
  have hnot : ¬ q ∈ l := fun h => hs34 (hin.2 h).1
  refine jM ?_
  refine jU ?_
  refine jU ?_
  refine jU ?_
  refine jU ?_
  refine jU ?_
  refine jU ?_
  refine jU ?_
  refine Ops.skU rfl rfl ?_
  refine Ops.skU rfl rfl ?_
  refine Ops.skU rfl rfl ?_
  refine Ops.skU rfl rfl ?_
  refine Ops.skU rfl rfl ?_
  refine Ops.skU rfl rfl ?_
  refine Ops.skU rfl rfl ?_
  refine Ops.skU rfl rfl ?_
  refine Ops.skU rfl rfl ?_
  refine jU ?_
  refine je (Run.pickF rfl rfl au) (ja rfl (ja rfl (jO ?_)))
  refine jN ⟨(js2 (jC (by first | exact (decide_eq_true (hin.1 hs41)).symm | exact (decide_eq_false (fun h => hs41 (hin.2 h))).symm | exact (decide_eq_false hnot).symm)) rfl), (rfl)⟩
 intro Γ wz hΓ hwz
 refine jN (VC.sub _ hΓ ?_)
 refine jT ?_
 refine fJ rfl rfl ?_
 exact ⟨i, rfl, hpos, hwz⟩
set_option maxHeartbeats 1000000 in
theorem oD (m : MlC) (q : Tx) (on : Bool) (w : World) (hm : RdL w m) (hs : q.length ≤ 900000) (hv : cX w) :
  Calls Tryz.prog 24 #[m.val, encStr q, .bool on] w fun e w' => ∃ (m' : MlC) (k : Nat), e = .returned (.tuple #[m'.val, .int .i64 ((k : Nat) : Int)]) ∧ bF w w' m (nO m.p q on) m' k ∧ Frm [] w w' := by
 have hln := hm.ln
 have hsn := hm.sn
 have htl := bD q
 refine VC.calls (nt := 57) (res := #[.cell 6 25, .tmp 7]) Tryz.func24 rfl Tryz.ntmps24 Tryz.results24 rfl ?_
 refine jS (jR ?_)
 refine Ops.m (qJ.box rfl) rfl ?_
 rintro _ w1 ⟨rfl, hF_w1⟩
 have hb1 : Blk w1 w.heap.size 25 #[.slice m.A m.l.length m.c, .slice m.S m.ss.length m.d, .int .i64 m.v, .int .i64 m.b] := hF_w1.blk
 have K := hF_w1.frm
 generalize hg1 : w.heap.size = g1 at hb1 ⊢
 refine Ops.m (qJ.alloc qD) rfl ?_
 rintro _ w2 ⟨rfl, hF2⟩
 have hb4 := hF2.blk
 have hg4 : w.heap.size ≤ w1.heap.size := K.size
 have hb1 := hb1.frm hF2.frm jp
 have hl1 := hb1.lt
 have hl4 := hb4.lt
 have K := K.trans hF2.frm jp
 have hne14 : g1 ≠ w1.heap.size := by have := hF_w1.size; omega
 have hg1s : w.heap.size ≤ g1 := jo
 generalize hg4' : w1.heap.size = g4 at hb4 hg4 hne14 hl4 ⊢
 refine jz 0 (jO (jN (jv4 1 2 3 6 ?_)))
 refine jS (jS (jR (je (Run.loadA rfl zc zb hb1.cells (by first | rfl | (simp; done))) ?_)))
 refine Ops.cl (jE1 zdh) (cF m _ (hm.frm K) (hv.frm K)) rfl ?_
 rintro e w3 ⟨rfl, hf3⟩
 refine ⟨_, rfl, ?_⟩
 have hb1 := hb1.frm hf3 jp
 have hb4 := hb4.frm hf3 jp
 have hKs_hf3 := K.size
 have K := K.trans hf3 jp
 refine je (Run.not rfl) (jO (jN (jv5 1 2 3 6 12 ?_)))
 refine VC.condB rfl (fun hc1 => ?_) (fun hc1 => ?_)
 ·
  have hc1 : ¬ qI m.p := by simpa using hc1
  refine jS (jR (je (Run.build evs.nil qD (qW).choose_spec.1 (qW).choose_spec.2 rfl) ?_))
  refine Ops.st (qK.storeA rfl rfl zb hb4 rfl (MlC.cells_one qV)) ?_
  rintro wz ⟨hb4, (hfwz : Frm [g4] _ _), hswz⟩
  have hb4 : Blk wz g4 25 qV.cells.toArray := hb4
  have K := K.own hfwz (fun y hy => by rw [za] at hy; omega)
  refine jz 1 (jO (jN (jv2 6 7 ?_)))
  refine jT ?_
  refine qZ (bQ ?_)
  refine qH rfl zc zb (fun j v hj => hb4.cells j v hj) (by first | rfl | (simp; done)) ?_
  refine qN rfl ?_
  refine qP ?_
  exact ⟨qV, 1, rfl, bF.err jd (by unfold nO; rw [if_pos hc1]), K⟩
 have hc1 : qI m.p := by simpa using hc1
 obtain ⟨hm24, hv1, hv2, hb0, hb2, hr, hin⟩ := cZ hc1
 have hsr : m.ss.Pairwise (· < ·) := xZ hc1
 have hs24 : m.ss.length ≤ 24 := hc1.1.2.1.1
 refine jQ (jN (jv4 1 2 3 6 ?_))
 refine jS (jS (jR (jM ?_)))
 refine Ops.cl (jE1 zbp) (bC q _ jo (hv.frm K)) rfl ?_
 rintro e _ ⟨rfl, rfl⟩
 refine ⟨_, rfl, ?_⟩
 refine je (Run.not rfl) (jO (jN (jv5 1 2 3 6 16 ?_)))
 refine VC.condB rfl (fun hc2 => ?_) (fun hc2 => ?_)
 ·
  have hc2 : ¬ isN q := by simpa using hc2
  refine jS (jR (je (Run.build evs.nil qD (qW).choose_spec.1 (qW).choose_spec.2 rfl) ?_))
  refine Ops.st (qK.storeA rfl rfl zb hb4 rfl (MlC.cells_one qV)) ?_
  rintro wz ⟨hb4, (hfwz : Frm [g4] _ _), hswz⟩
  have hb4 : Blk wz g4 25 qV.cells.toArray := hb4
  have K := K.own hfwz (fun y hy => by rw [za] at hy; omega)
  refine jz 18 (jO (jN (jv2 6 7 ?_)))
  refine jT ?_
  refine qZ (bQ ?_)
  refine qH rfl zc zb (fun j v hj => hb4.cells j v hj) (by first | rfl | (simp; done)) ?_
  refine qN rfl ?_
  refine qP ?_
  exact ⟨qV, 18, rfl, bF.err jd (by unfold nO; rw [if_neg (fun h => h hc1), if_pos hc2]), K⟩
 have hc2 : isN q := by simpa using hc2
 refine jQ (jN (jv4 1 2 3 6 ?_))
 refine jS (jR (jM ?_))
 refine Ops.cl (jE1 zbz) (bS q _ jo (hv.frm K)) rfl ?_
 rintro e w4 ⟨rfl, hf4⟩
 refine ⟨_, rfl, ?_⟩
 have hb1 := hb1.frm hf4 jp
 have hb4 := hb4.frm hf4 jp
 have hKs_hf4 := K.size
 have K := K.trans hf4 jp
 generalize ht : qQ q = t at *
 refine ja rfl (jO (jN (jv4 1 2 3 6 ?_)))
 refine jS (jR (jf rfl zh rfl zae (jl rfl zbe (hb1.cell 1) (jM ?_))))
 refine Ops.cl (jE2 Tryz.call73) (sQ m.S m.d m.ss t _ (hm.s.frm K jp) hsn hsr) rfl ?_
 rintro e _ ⟨k, rfl, hpos, rfl⟩
 refine ⟨_, rfl, ?_⟩
 have hth := oC hsr hpos
 have hsP : ∀ on, nO m.p q on = if 24 < (eA m.ss t on).length then .error 5 else .ok { m.p with subs := eA m.ss t on } := fun on => by
  unfold nO
  rw [if_neg (fun h => h hc1), if_neg (fun h => h hc2), ht]
  rfl
 refine jm rfl (je (Run.extract rfl rfl) (je (Run.extract rfl rfl) (ja rfl (ja rfl (jO (jN (jv6 1 2 3 6 8 9 ?_)))))))
 refine jS (jB (jS (jR (jm rfl (jm rfl (je (Run.eqlB rfl rfl zbx) (ja rfl (jO (jN (jv6 1 2 3 6 8 35 ?_))))))))))
 refine VC.condB rfl (fun hc3 => ?_) (fun hc3 => ?_)
 ·
  have hfin : eA m.ss t on = m.ss := by
   have hc3 : decide (t ∈ m.ss) = on := by simpa using hc3
   cases on with
   | true => obtain ⟨h1, h2⟩ := hth.2 (of_decide_eq_true hc3); exact qXt hsr hpos h1 h2
   | false => exact qQg hpos (of_decide_eq_false hc3)
  refine jQ ?_
  refine qR (jN ?_)
  refine jv2 3 6 ?_
  refine jS (jR (je (Run.loadA rfl zc zb (hb1.cells) (by first | rfl | (simp; done))) ?_))
  refine Ops.st (qK.storeA rfl rfl zb hb4 rfl (MlC.cells_one _)) ?_
  rintro w9 ⟨hbn, (hfw9 : Frm [g4] _ _), hsw9⟩
  have hb4 : Blk w9 g4 25 (m).cells.toArray := hbn
  have K := K.own hfw9 (fun y hy => by rw [za] at hy; omega)
  refine jz 0 (jO (jN (jv2 6 7 ?_)))
  refine jT ?_
  refine bQ ?_
  refine qH rfl zc zb (fun j v hj => hb4.cells j v hj) (by first | rfl | (simp; done)) ?_
  refine qN rfl ?_
  refine qP ?_
  exact ⟨m, 0, rfl, ⟨⟨[], bA.here⟩, .inl ⟨rfl, by rw [hsP, hfin, if_neg jo]; rfl⟩⟩, K⟩
 have hc3 : decide (t ∈ m.ss) ≠ on := by simpa using hc3
 refine jS (jR (jm rfl (je (Run.not rfl) (ja rfl (jO (jN (jv5 1 3 6 8 39 ?_)))))))
 refine VC.condB rfl (fun hc4 => ?_) (fun hc4 => ?_)
 ·
  obtain rfl : on = false := by simpa using hc4
  obtain ⟨hk, hke⟩ := hth.2 (by simpa using hc3)
  have hfin := qQf hsr hpos hk hke
  have hqs : ∀ x ∈ m.ss.take k ++ m.ss.drop (k + 1), x.length ≤ 1000000 := fun x hx => hm.sq x (by rcases List.mem_append.1 hx with h | h; exact zcp h; exact zba h)
  have hlk : (m.ss.take k ++ m.ss.drop (k + 1)).length = m.ss.length - 1 := by rw [zi, zg, zp]; omega
  refine jR (jf rfl zh rfl zae (jl rfl zbe (hb1.cell 1) ?_))
  refine Ops.cl (jE1 Tryz.call75) (fY m.S m.d m.ss _ (hm.s.frm K jp) jo) rfl ?_
  rintro e w5 ⟨B, d, rfl, ho, hob, hf5⟩
  have ho1 := ho.ne_blk (hb1.frm hf5 jp) jd
  have ho4 := ho.ne_blk (hb4.frm hf5 jp) jd
  refine ⟨_, rfl, ?_⟩
  have hb1 := hb1.frm hf5 jp
  have hb4 := hb4.frm hf5 jp
  have hKs_hf5 := K.size
  have K := K.trans hf5 jp
  refine jm rfl (jm rfl (jb rfl rfl (Bin.add_i64 _ 1 jo) ?_))
  refine Ops.cl (jE3 Tryz.call74) (rL B d k m.ss _ ho hsn hk) rfl ?_
  rintro e w6 ⟨rfl, ho, hf6⟩
  refine ⟨_, rfl, ?_⟩
  rw [← hlk] at ho ⊢
  have hob : ∀ b ∈ ob B, w.heap.size ≤ b := fun b hb => zar hKs_hf5 (hob b hb)
  have hb1 := hb1.frm hf6 ho1
  have hb4 := hb4.frm hf6 ho4
  have K := K.own hf6 hob
  refine jf rfl zh rfl zae ?_
  have hx1 := ho.ne_blk hb1 jd
  refine Ops.st (qK.store rfl rfl zae hb1 rfl rfl) ?_
  rintro w7 ⟨hbn, (hfw7 : Frm [g1] _ _), hsw7⟩
  have hb1 : Blk w7 g1 25 (m.ws B d (m.ss.take k ++ m.ss.drop (k + 1))).cells.toArray := hbn
  have hb4 := hb4.frm hfw7 (by simp; omega)
  have ho := ho.frm hfw7 (fun y hy h => by rw [za] at h; subst h; exact hx1 hy)
  have K := K.own hfw7 (fun y hy => by rw [za] at hy; omega)
  refine jO ?_
  refine qR (jN ?_)
  refine jv2 3 6 ?_
  refine jS (jR (je (Run.loadA rfl zc zb (hb1.cells) (by first | rfl | (simp; done))) ?_))
  have hx4 := ho.ne_blk hb4 jd
  refine Ops.st (qK.storeA rfl rfl zb hb4 rfl (MlC.cells_one _)) ?_
  rintro w9 ⟨hbn, (hfw9 : Frm [g4] _ _), hsw9⟩
  have hb4 : Blk w9 g4 25 (m.ws B d (m.ss.take k ++ m.ss.drop (k + 1))).cells.toArray := hbn
  have ho := ho.frm hfw9 (fun y hy h => by rw [za] at h; subst h; exact hx4 hy)
  have K := K.own hfw9 (fun y hy => by rw [za] at hy; omega)
  refine jz 0 (jO (jN (jv2 6 7 ?_)))
  refine jT ?_
  refine bQ ?_
  refine qH rfl zc zb (fun j v hj => hb4.cells j v hj) (by first | rfl | (simp; done)) ?_
  refine qN rfl ?_
  refine qP ?_
  exact ⟨_, 0, rfl, ⟨⟨_, pB ho hob jo (fun x hx => hqs x hx)⟩, .inl ⟨rfl, by rw [hsP, hfin, if_neg jo]; rfl⟩⟩, K⟩
 obtain rfl : on = true := by simpa using hc4
 have hno : t ∉ m.ss := by simpa using hc3
 have hfin := qQh hpos hno
 have hkl : k ≤ m.ss.length := hpos.1
 have hqs : ∀ x ∈ m.ss.take k ++ t :: m.ss.drop k, x.length ≤ 1000000 := fun x hx => by
  rcases List.mem_append.1 hx with h | h
  · exact hm.sq x (zcp h)
  rcases zy.1 h with h | h
  · rw [h]; omega
  exact hm.sq x (zba h)
 have hlk : (m.ss.take k ++ t :: m.ss.drop k).length = m.ss.length + 1 := by rw [zi, zat, zg, zp]; omega
 refine jS (jR (jf rfl zh rfl zae (jl rfl zbe (hb1.cell 1) (je (Run.lenS rfl zd) (jb rfl rfl (Bin.eqlN _ 24) (ja rfl (jO (jN (jv5 1 3 6 8 50 ?_)))))))))
 refine jD rfl (fun hc5 => ?_) fun hc5 => ?_
 ·
  refine jS (jR (je (Run.build evs.nil qD (qW).choose_spec.1 (qW).choose_spec.2 rfl) ?_))
  refine Ops.st (qK.storeA rfl rfl zb hb4 rfl (MlC.cells_one qV)) ?_
  rintro wz ⟨hb4, (hfwz : Frm [g4] _ _), hswz⟩
  have hb4 : Blk wz g4 25 qV.cells.toArray := hb4
  have K := K.own hfwz (fun y hy => by rw [za] at hy; omega)
  refine jz 5 (jO (jN (jv2 6 7 ?_)))
  refine jT ?_
  refine qC (qZ (bQ ?_))
  refine qH rfl zc zb (fun j v hj => hb4.cells j v hj) (by first | rfl | (simp; done)) ?_
  refine qN rfl ?_
  refine qP ?_
  exact ⟨qV, 5, rfl, bF.err jd (by rw [hsP, hfin, if_pos jo]), K⟩
 refine jR (jf rfl zh rfl zae (jl rfl zbe (hb1.cell 1) ?_))
 refine Ops.cl (jE1 Tryz.call75) (fY m.S m.d m.ss _ (hm.s.frm K jp) jo) rfl ?_
 rintro e w5 ⟨B, d, rfl, ho, hob, hf5⟩
 have ho1 := ho.ne_blk (hb1.frm hf5 jp) jd
 have ho4 := ho.ne_blk (hb4.frm hf5 jp) jd
 refine ⟨_, rfl, ?_⟩
 have hb1 := hb1.frm hf5 jp
 have hb4 := hb4.frm hf5 jp
 have hKs_hf5 := K.size
 have K := K.trans hf5 jp
 refine jm rfl (jM ?_)
 refine Ops.m (qJ.buildS1 rfl zd zl hG jd jd rfl rfl) rfl ?_
 rintro _ w6 ⟨rfl, hF6⟩
 have hb6 : Blk w6 w5.heap.size 9 #[encStr t] := hF6.blk
 have hne6 : w5.heap.size ∉ ob B := fun h => Nat.lt_irrefl _ (qZk ho _ h)
 have hf6 := hF6.frm
 have ho := ho.frm hf6 jp
 have hb1 := hb1.frm hf6 jp
 have hb4 := hb4.frm hf6 jp
 have hK5 := K.size
 have K := K.trans hf6 jp
 have hK6 := K.size
 refine Ops.cl (jE3 Tryz.call76) (rO B d k _ m.ss t _ ho hsn hkl hb6 hne6) rfl ?_
 rintro e w7 ⟨C, d7, rfl, ho7, hf7, hob7⟩
 refine ⟨_, rfl, ?_⟩
 rw [← hlk] at ho7 ⊢
 have hb1 := hb1.frm hf7 (ho.ne_blk hb1 jd)
 have hb4 := hb4.frm hf7 (ho.ne_blk hb4 jd)
 have hobB : ∀ b ∈ ob B, w.heap.size ≤ b := fun b hb => zar hKs_hf5 (hob b hb)
 have K := K.own hf7 hobB
 have ho := ho7
 have hob : ∀ b ∈ ob C, w.heap.size ≤ b := fun b hb => by
  rcases hob7 b hb with h | h
  · exact hobB b h
  omega
 refine jf rfl zh rfl zae ?_
 have hx1 := ho.ne_blk hb1 jd
 refine Ops.st (qK.store rfl rfl zae hb1 rfl rfl) ?_
 rintro w8 ⟨hbn, (hfw8 : Frm [g1] _ _), hsw8⟩
 have hb1 : Blk w8 g1 25 (m.ws C d7 (m.ss.take k ++ t :: m.ss.drop k)).cells.toArray := hbn
 have hb4 := hb4.frm hfw8 (by simp; omega)
 have ho := ho.frm hfw8 (fun y hy h => by rw [za] at h; subst h; exact hx1 hy)
 have K := K.own hfw8 (fun y hy => by rw [za] at hy; omega)
 refine jO ?_
 refine qR (jN ?_)
 refine jv2 3 6 ?_
 refine jS (jR (je (Run.loadA rfl zc zb (hb1.cells) (by first | rfl | (simp; done))) ?_))
 have hx4 := ho.ne_blk hb4 jd
 refine Ops.st (qK.storeA rfl rfl zb hb4 rfl (MlC.cells_one _)) ?_
 rintro w9 ⟨hbn, (hfw9 : Frm [g4] _ _), hsw9⟩
 have hb4 : Blk w9 g4 25 (m.ws C d7 (m.ss.take k ++ t :: m.ss.drop k)).cells.toArray := hbn
 have ho := ho.frm hfw9 (fun y hy h => by rw [za] at h; subst h; exact hx4 hy)
 have K := K.own hfw9 (fun y hy => by rw [za] at hy; omega)
 refine jz 0 (jO (jN (jv2 6 7 ?_)))
 refine jT ?_
 refine bQ ?_
 refine qH rfl zc zb (fun j v hj => hb4.cells j v hj) (by first | rfl | (simp; done)) ?_
 refine qN rfl ?_
 refine qP ?_
 exact ⟨_, 0, rfl, ⟨⟨_, pB ho hob jo (fun x hx => hqs x hx)⟩, .inl ⟨rfl, by rw [hsP, hfin, if_neg jo]; rfl⟩⟩, K⟩
end
section
open Go.RowKit Go.Sort
def dF (m : MailP) (s : Tx) (x : MsgP) : Except Nat (MailP × Int) :=
 if ¬ qI m then .error 1 else if ¬ isN s then .error 18 else
 match cC m.l (qQ s) with
 | none => .error 6
 | some b => if m.blob = 2147483647 then .error 19 else match bT b { x with blob := m.blob.toNat + 1 } with
  | .error e => .error e
  | .ok b' => .ok ({ m with blob := m.blob + 1, l := bK m.l (qQ s) b' }, b.next)
def mY (w' : World) (F : Except Nat (MailP × Int)) (m : MlC) (u : Int) (k : Nat) : Prop := RdL w' m ∧ ((k = 0 ∧ F = .ok (m.p, u)) ∨ (k ≠ 0 ∧ F = .error k ∧ m = qV ∧ u = 0))
theorem mY.err {w' : World} {F : Except Nat (MailP × Int)} {k : Nat} (hk : k ≠ 0) (h : F = .error k) : mY w' F qV 0 k := ⟨RdL.zero _, .inr ⟨hk, h, rfl, rfl⟩⟩
def dG (w : World) (y : Nat) : Prop := (∀ cs, ¬ Blk w y 60 cs) ∧ ∀ cs, ¬ Blk w y 9 cs
theorem dG.of_blk {w : World} {y : Nat} {t : TypeId} {cs : Array Value} (h : Blk w y t cs) (h1 : 60 ≠ t) (h2 : 9 ≠ t) : dG w y := ⟨fun _ hb => hb.ne h h1 rfl, fun _ hb => hb.ne h h2 rfl⟩
def Kt (w w' : World) (m m' : MlC) : Prop := ∀ w'' T, Frm T w' w'' → (∀ y ∈ T, y < w.heap.size ∧ dG w' y) → RdL w'' m → RdL w'' m'
theorem bA.kt {w w' : World} {S : List Nat} {m m' : MlC} (h : bA w w' S m m') : Kt w w' m m' := fun w'' T k hT hm => h.2 w'' T k (fun y hy hS => by have := (hT y hy).1; have := h.1 y hS; omega) hm
theorem Kt.zero (w w' : World) (m : MlC) : Kt w w' m qV := fun _ _ _ _ _ => RdL.zero _
theorem yK {w : World} {e size n c y : Nat} {A : Option Addr} {xs : List Value} (h : Own w e size A n c xs) (hn : ∀ cs, ¬ Blk w y e cs) : y ∉ ob A := by
 intro hy
 rcases h.cases with ⟨h0, _⟩ | ⟨g, cur, h0, hbb, _⟩
 · rw [h0] at hy; simp [ob] at hy
 rw [h0] at hy
 simp only [ob, za] at hy
 subst hy
 exact hn _ hbb
theorem OwM.typed {w w' : World} {A : Option Addr} {d : Nat} {l : List Mc} {T : List Nat} (h : OwM w A d l) (k : Frm T w w') (hT : ∀ y ∈ T, dG w y) : OwM w' A d l :=
 ⟨h.own.frm k (fun y hy hy2 => yK h.own (hT y hy2).1 hy), fun x hx => (h.fl x hx).frm k (fun y hy hy2 => yK (h.fl x hx) (hT y hy2).2 hy), h.fit⟩
theorem qZl {w w' : World} {m : MlC} {i : Nat} (hi : i < m.l.length) {v n b : Int} {B A : Option Addr} {d c : Nat} {lm : List Mc} (hO : OwM w' B d lm) (hn : lm.length ≤ 900000) (ho : Own w' 45 4 A m.l.length c (NDC (m.l.set i ⟨(m.l[i]).nm, v, n, B, d, lm⟩))) (hf : ∀ y ∈ ob A, w.heap.size ≤ y) :
  Kt w w' m { m with A := A, c := c, l := m.l.set i ⟨(m.l[i]).nm, v, n, B, d, lm⟩, b := b } := by
 intro w'' T k hT hm
 have ho := ho.frm k (fun y hy hy2 => by have := (hT y hy2).1; have := hf y hy; omega)
 have hO := hO.typed k (fun y hy => (hT y hy).2)
 have hq := (hm.l.el _ (zm hi)).q
 have hlen : (m.l.set i ⟨(m.l[i]).nm, v, n, B, d, lm⟩).length = m.l.length := zcd ..
 exact ⟨⟨by dsimp only; rw [hlen]; exact ho.rd, mK hm.l.el ⟨hO.rdm, hn, hq⟩⟩, hm.s, by dsimp only; rw [hlen]; exact ho.le, hm.sc, by dsimp only; rw [hlen]; exact hm.ln, hm.sn, hm.sq⟩
theorem rQ {b b' : BoxV} {m : MsgP} (h : bT b m = .ok b') : b'.l.length ≤ 128 := by
 unfold bT at h
 split at h
 · cases h
 split at h
 · cases h
 split at h
 · cases h
 injection h with h
 subst h
 simp
 omega
theorem fC.len27 {w : World} {b : BoxV} {x : MsgP} {v n : Int} {B : Option Addr} {d : Nat} {l : List Mc} {k : Nat} (h : fC w (bT b x) v n B d l k) : l.length ≤ 128 := by
 obtain ⟨_, ⟨_, h2⟩ | ⟨_, _, _, _, _, _, rfl⟩⟩ := h
 ·
  have := rQ h2
  simpa [Ms] using this
 simp
theorem kN {m : MlC} {t : Tx} {i : Nat} (hr : bW m.p.l) (h : eG m.p.l t i) (ht : t ∈ qB m.p) : ∃ hi : i < m.l.length, (m.l[i]).nm = t := by
 obtain ⟨hi, he⟩ := (jZ hr h).2 ht
 have hi' : i < m.l.length := by have := dJ m; omega
 refine ⟨hi', ?_⟩
 rw [dZ m hi' hi] at he
 exact he
theorem jY {m : MlC} {t : Tx} {i : Nat} (hr : bW m.p.l) (hi : i < m.l.length) (he : (m.l[i]).nm = t) : cC m.p.l t = some (m.l[i]).p.2 := by
 have hi2 : i < m.p.l.length := by rw [dJ]; exact hi
 have := gE (t := t) hr hi2 (by rw [dZ m hi hi2]; exact he)
 rw [this, dZ m hi hi2]
theorem lN {m : MlC} {t : Tx} {i : Nat} {v n : Int} {B : Option Addr} {d : Nat} {lm : List Mc} (hr : bW m.p.l) (h : eG m.p.l t i) (hi : i < m.l.length) (he : (m.l[i]).nm = t) : Ns (m.l.set i ⟨(m.l[i]).nm, v, n, B, d, lm⟩) = bK m.p.l t ⟨v, n, Ms lm⟩ := by
 have hi2 : i < m.p.l.length := by rw [dJ]; exact hi
 rw [zV hr h hi2 (by rw [dZ m hi hi2]; exact he)]
 show List.map Nc.p (m.l.set i _) = (List.map Nc.p m.l).set i _
 rw [List.map_set, he]
 rfl
set_option maxHeartbeats 1000000 in
theorem mG (m : MlC) (q : Tx) (x : Mc) (w : World) (hm : RdL w m) (hs : q.length ≤ 900000) (hx : x.At w) (hv : cX w) :
  Calls Tryz.prog 35 #[m.val, encStr q, .agg x.cells.toArray] w fun e w' => ∃ (m' : MlC) (u : Int) (k : Nat), e = .returned (.tuple #[m'.val, .int .i64 u, .int .i64 ((k : Nat) : Int)]) ∧ mY w' (dF m.p q x.m) m' u k ∧ Kt w w' m m' ∧ Frm [] w w' := by
 have hln := hm.ln
 have hpl := dJ m
 refine VC.calls (nt := 68) (res := #[.cell 6 25, .tmp 7, .tmp 8]) Tryz.func35 rfl Tryz.ntmps35 Tryz.results35 rfl ?_
 refine jS (jR ?_)
 refine Ops.m (qJ.box rfl) rfl ?_
 rintro _ w1 ⟨rfl, hF_w1⟩
 have hb1 : Blk w1 w.heap.size 25 #[.slice m.A m.l.length m.c, .slice m.S m.ss.length m.d, .int .i64 m.v, .int .i64 m.b] := hF_w1.blk
 have K := hF_w1.frm
 generalize hg1 : w.heap.size = g1 at hb1 ⊢
 refine Ops.m (qJ.box rfl) rfl ?_
 rintro _ w2 ⟨rfl, hF2⟩
 have hb5 : Blk w2 w1.heap.size 60 x.cells.toArray := hF2.blk
 have hb1 := hb1.frm hF2.frm jp
 have hlt := hb1.lt
 have K := K.trans hF2.frm jp
 have hg5 : w.heap.size ≤ w1.heap.size := hF_w1.size ▸ Nat.le_succ _
 have h15 : g1 ≠ w1.heap.size := by have := hF_w1.size; omega
 generalize hg5' : w1.heap.size = g5 at hb5 hg5 h15 ⊢
 refine Ops.m (qJ.alloc qD) rfl ?_
 rintro _ w3 ⟨rfl, hF3⟩
 have hb4 := hF3.blk
 have hg4 : w.heap.size ≤ w2.heap.size := K.size
 have hb1 := hb1.frm hF3.frm jp
 have hb5 := hb5.frm hF3.frm jp
 have hl1 := hb1.lt
 have hl5 := hb5.lt
 have hl4 := hb4.lt
 have K := K.trans hF3.frm jp
 have hne14 : g1 ≠ w2.heap.size := fun e => by have := hF2.size; have := hF_w1.size; omega
 have hne54 : g5 ≠ w2.heap.size := fun e => by have := hF2.size; omega
 have hg1s : w.heap.size ≤ g1 := jo
 generalize hg4' : w2.heap.size = g4 at hb4 hg4 hne14 hne54 hl4 ⊢
 refine jz 0 (jz 0 (jO (jN (jv4 1 3 5 6 ?_))))
 refine jS (jS (jR (je (Run.loadA rfl zc zb hb1.cells (by first | rfl | (simp; done))) ?_)))
 refine Ops.cl (jE1 zdh) (cF m _ (hm.frm K) (hv.frm K)) rfl ?_
 rintro e w4 ⟨rfl, hf4⟩
 refine ⟨_, rfl, ?_⟩
 have hb1 := hb1.frm hf4 jp
 have hb4 := hb4.frm hf4 jp
 have hKs_hf4 := K.size
 have K := K.trans hf4 jp
 have hb5 := hb5.frm hf4 jp
 refine je (Run.not rfl) (jO (jN (jv5 1 3 5 6 16 ?_)))
 refine VC.condB rfl (fun hc1 => ?_) (fun hc1 => ?_)
 ·
  have hc1 : ¬ qI m.p := by simpa using hc1
  refine jS (jR (je (Run.build evs.nil qD (qW).choose_spec.1 (qW).choose_spec.2 rfl) ?_))
  refine Ops.st (qK.storeA rfl rfl zb hb4 rfl (MlC.cells_one qV)) ?_
  rintro wz ⟨hb4, (hfwz : Frm [g4] _ _), hswz⟩
  have hb4 : Blk wz g4 25 qV.cells.toArray := hb4
  have K := K.own hfwz (fun y hy => by rw [za] at hy; omega)
  refine jz 0 (jz 1 (jO (jN (jv3 6 7 8 ?_))))
  refine jT ?_
  refine qZ (bQ ?_)
  refine qH rfl zc zb (fun j v hj => hb4.cells j v hj) (by first | rfl | (simp; done)) ?_
  refine qN rfl ?_
  refine qN rfl ?_
  refine qP ?_
  exact ⟨qV, 0, 1, rfl, mY.err jd (by unfold dF; rw [if_pos hc1]), Kt.zero _ _ _, K⟩
 have hc1 : qI m.p := by simpa using hc1
 obtain ⟨hm24, hv1, hv2, hb0, hb2, hr, hin⟩ := cZ hc1
 refine jQ (jN (jv4 1 3 5 6 ?_))
 refine jS (jR (je (Run.loadA rfl zc zb hb1.cells (by first | rfl | (simp; done))) (jM ?_)))
 refine Ops.cl (jE2 zcm) (bE m q _ (hm.frm K).l hln jo hr (hv.frm K)) rfl ?_
 rintro e w5 ⟨i, rfl, hpos, hf5⟩
 refine ⟨_, rfl, ?_⟩
 have hb1 := hb1.frm hf5 jp
 have hb4 := hb4.frm hf5 jp
 have hKs_hf5 := K.size
 have K := K.trans hf5 jp
 have hb5 := hb5.frm hf5 jp
 refine jm rfl (je (Run.extract rfl rfl) (je (Run.extract rfl rfl) (ja rfl (ja rfl (jO (jN (jv6 1 3 5 6 9 10 ?_)))))))
 refine jS (jB (jS (jR (jM ?_))))
 refine Ops.cl (jE1 zbp) (bC q _ jo (hv.frm K)) rfl ?_
 rintro e _ ⟨rfl, rfl⟩
 refine ⟨_, rfl, ?_⟩
 refine je (Run.not rfl) (ja rfl (jO (jN (jv6 3 5 6 9 10 24 ?_))))
 refine VC.condB rfl (fun hc2 => ?_) (fun hc2 => ?_)
 ·
  have hc2 : ¬ isN q := by simpa using hc2
  refine jS (jR (je (Run.build evs.nil qD (qW).choose_spec.1 (qW).choose_spec.2 rfl) ?_))
  refine Ops.st (qK.storeA rfl rfl zb hb4 rfl (MlC.cells_one qV)) ?_
  rintro wz ⟨hb4, (hfwz : Frm [g4] _ _), hswz⟩
  have hb4 : Blk wz g4 25 qV.cells.toArray := hb4
  have K := K.own hfwz (fun y hy => by rw [za] at hy; omega)
  refine jz 0 (jz 18 (jO (jN (jv3 6 7 8 ?_))))
  refine jT ?_
  refine qC (qZ (bQ ?_))
  refine qH rfl zc zb (fun j v hj => hb4.cells j v hj) (by first | rfl | (simp; done)) ?_
  refine qN rfl ?_
  refine qN rfl ?_
  refine qP ?_
  exact ⟨qV, 0, 18, rfl, mY.err jd (by unfold dF; rw [if_neg (fun h => h hc1), if_pos hc2]), Kt.zero _ _ _, K⟩
 have hc2 : isN q := by simpa using hc2
 refine jS (jR (jm rfl (je (Run.not rfl) (ja rfl (jO (jN (jv5 3 5 6 9 29 ?_)))))))
 refine VC.condB rfl (fun hc3 => ?_) (fun hc3 => ?_)
 ·
  have hc3 : qQ q ∉ qB m.p := by simpa using hc3
  refine jS (jR (je (Run.build evs.nil qD (qW).choose_spec.1 (qW).choose_spec.2 rfl) ?_))
  refine Ops.st (qK.storeA rfl rfl zb hb4 rfl (MlC.cells_one qV)) ?_
  rintro wz ⟨hb4, (hfwz : Frm [g4] _ _), hswz⟩
  have hb4 : Blk wz g4 25 qV.cells.toArray := hb4
  have K := K.own hfwz (fun y hy => by rw [za] at hy; omega)
  refine jz 0 (jz 6 (jO (jN (jv3 6 7 8 ?_))))
  refine jT ?_
  refine qC (qZ (bQ ?_))
  refine qH rfl zc zb (fun j v hj => hb4.cells j v hj) (by first | rfl | (simp; done)) ?_
  refine qN rfl ?_
  refine qN rfl ?_
  refine qP ?_
  exact ⟨qV, 0, 6, rfl, mY.err jd (by unfold dF; rw [if_neg (fun h => h hc1), if_neg (fun h => h hc2), gG hc3]), Kt.zero _ _ _, K⟩
 have hc3 : qQ q ∈ qB m.p := by simpa using hc3
 obtain ⟨hi, hie⟩ := kN hr hpos hc3
 have hbx := jY hr hi hie
 obtain ⟨nb, hnb⟩ : ∃ nb : Nat, m.b = (nb : Int) := ⟨m.b.toNat, jo⟩
 have hcb : ∀ W, Blk W g1 25 #[.slice m.A m.l.length m.c, .slice m.S m.ss.length m.d, .int .i64 m.v, .int .i64 m.b] → W.cell? ⟨g1, 3, none⟩ = some (.int .i64 ((nb : Nat) : Int)) := fun W h => by rw [← hnb]; exact h.cell 3
 have hF : dF m.p q x.m = if m.b = 2147483647 then .error 19 else match bT (m.l[i]).p.2 { x.m with blob := nb + 1 } with
   | .error e => .error e
   | .ok b' => .ok ({ m.p with blob := m.b + 1, l := bK m.p.l (qQ q) b' }, (m.l[i]).n) := by
  unfold dF
  rw [if_neg (fun h => h hc1), if_neg (fun h => h hc2), hbx]
  dsimp only
  rw [show m.p.blob = m.b from rfl, show m.b.toNat = nb by omega]
  rfl
 have hyl := ((hm.frm K).l.el _ (zm hi)).n
 generalize hy : m.l[i] = y at *
 refine jS (jR (jf rfl zh rfl zk (jl rfl zu (hb1.cell 3) (jb rfl rfl (Bin.eql _ 2147483647) (ja rfl (jO (jN (jv5 3 5 6 9 33 ?_))))))))
 refine jD rfl (fun hc4 => ?_) fun hc4 => ?_
 ·
  refine jS (jR (je (Run.build evs.nil qD (qW).choose_spec.1 (qW).choose_spec.2 rfl) ?_))
  refine Ops.st (qK.storeA rfl rfl zb hb4 rfl (MlC.cells_one qV)) ?_
  rintro wz ⟨hb4, (hfwz : Frm [g4] _ _), hswz⟩
  have hb4 : Blk wz g4 25 qV.cells.toArray := hb4
  have K := K.own hfwz (fun y hy => by rw [za] at hy; omega)
  refine jz 0 (jz 19 (jO (jN (jv3 6 7 8 ?_))))
  refine jT ?_
  refine qC (qZ (bQ ?_))
  refine qH rfl zc zb (fun j v hj => hb4.cells j v hj) (by first | rfl | (simp; done)) ?_
  refine qN rfl ?_
  refine qN rfl ?_
  refine qP ?_
  exact ⟨qV, 0, 19, rfl, mY.err jd (by rw [hF, if_pos hc4]), Kt.zero _ _ _, K⟩
 have hnb2 : nb < 2147483647 := jo
 refine jQ ?_
 refine qR (jN ?_)
 refine jv4 3 5 6 9 ?_
 refine jS (jR (jf rfl zh rfl zk (jl rfl zu (hcb _ hb1) (je (Run.convN _ rfl zac zet (by simp only [bmax]; omega)) (jb rfl rfl (Bin.add_u64 _ 1 jo) (jf rfl zaw rfl zeg ?_))))))
 refine Ops.st (qK.store rfl rfl zeg hb5 rfl rfl) ?_
 rintro w6 ⟨hbn, (hf6 : Frm [g5] _ _), hs6⟩
 have hb5 : Blk w6 g5 60 (⟨{ x.m with blob := nb + 1 }, x.A, x.c⟩ : Mc).cells.toArray := hbn
 have hb1 := hb1.frm hf6 (by simp; omega)
 have hb4 := hb4.frm hf6 (by simp; omega)
 have K := K.own hf6 (fun y hy => by rw [za] at hy; omega)
 have hxA : (⟨{ x.m with blob := nb + 1 }, x.A, x.c⟩ : Mc).At w6 := ⟨(hx.frm K jp).rd, hx.n, hx.q⟩
 obtain ⟨ad, had, hel⟩ : ∃ ad, m.A = some ad ∧ ∀ W, Frm [] w6 W → ∀ j v, y.cells[j]? = some v → W.cell? ((ad.add (i * 4)).add j) = some v := by
  obtain ⟨ad, hA, _⟩ := (hm.frm K).l.elem hi
  refine ⟨ad, hA, fun W hW => ?_⟩
  obtain ⟨ad', hA', h⟩ := (hm.frm (K.trans hW jp)).l.elem hi
  rw [hA] at hA'
  cases hA'
  rw [hy] at h
  exact h
 have hya : y.At w6 := by rw [← hy]; exact (hm.frm K).l.el _ (zm hi)
 refine jO (jN (jv4 3 5 6 9 ?_))
 refine jS ?_
 refine VC.held (fun W => Frm [] w6 W) jK ?_
 have hS : Frm [] w6 w6.drew := (Frm.refl _ _).drew
 refine jH 0 rfl hS (fun w0 hw0 => Run.fieldAddr rfl zh rfl zad jd) ?_
 refine jH 1 rfl hS (fun w0 hw0 => Run.load rfl zaz ((hb1.frm hw0 jp).cell 0)) ?_
 refine jH 2 rfl hS (fun w0 hw0 => Run.mv rfl) ?_
 refine jH 3 rfl hS (fun w0 hw0 => Run.indexS i (show _ = some (Value.slice (some ad) m.l.length m.c) by rw [← had]; rfl) rfl zf zt hi) ?_
 refine jH 4 rfl hS (fun w0 hw0 => Run.fieldAddr rfl zag rfl zj jd) ?_
 refine jH 5 rfl hS (fun w0 hw0 => Run.loadA rfl zai zj (cs := BVc y.v y.n y.A y.l.length y.c) (fun j v hj => by rw [Go.Proofs.YtgmbmfpfhcekiaaGreat.add_add]; exact hel _ hw0 (1 + j) v (by rw [zem]; exact hj)) (by first | rfl | (simp; done))) ?_
 refine jH 6 rfl hS (fun w0 hw0 => Run.loadA rfl zcr zan (fun j v hj => (hb5.frm hw0 jp).cells j v hj) (by first | rfl | (simp; done))) ?_
 refine qS.par (target := #[true, true, true, true, true, true, true, true, true, true, true, true, true, false, false, false]) [⟨7, 51, [], false, fun _ u lo hi W => ∃ v' n' B d l' k', u = .tuple #[.agg #[.int .i64 v', .int .i64 n', .slice B l'.length d], .int .i64 (if k' = 0 then y.n else 0), .int .i64 ((k' : Nat) : Int)] ∧ fC W (bT y.p.2 { x.m with blob := nb + 1 }) v' n' B d l' k' ∧ OwM W B d l'⟩, PT.mv 8 43 51 [], PT.part 9 52 43 0 [51], PT.part 10 53 43 1 [51], PT.part 11 54 43 2 [51], PT.made 12 11 43 #[.int .i64 0, .int .i64 0, .slice none 0 0]] 6 rfl jK (show List.Nodup ([51, 43, 52, 53, 54, 11] : List Nat) by decide) (show List.Nodup ([7, 8, 9, 10, 11, 12] : List Nat) by decide) (fun t ht => ?_) (fun t ht => ?_) (fun W hW => ?_) (fun t ht => ?_) (fun t ht => ?_) (fun t ht W g hW hD hE => ?_) (fun g W hW hA => ?_)
 ·
  simp only [zy, zaa, or_false] at ht
  rcases ht with rfl | rfl | rfl | rfl | rfl | rfl
  · rfl
  · rfl
  · rfl
  · rfl
  · rfl
  rfl
 ·
  simp only [zy, zaa, or_false] at ht
  rcases ht with rfl | rfl | rfl | rfl | rfl | rfl
  · exact fun x hx => absurd hx jp
  ·
   intro x hx
   simp only [zy, zaa, or_false] at hx
   rcases hx with rfl
   exact ⟨_, (.head _), rfl⟩
  ·
   intro x hx
   simp only [zy, zaa, or_false] at hx
   rcases hx with rfl | rfl
   · exact ⟨_, (.tail _ (.head _)), rfl⟩
   exact ⟨_, (.head _), rfl⟩
  ·
   intro x hx
   simp only [zy, zaa, or_false] at hx
   rcases hx with rfl | rfl
   · exact ⟨_, (.tail _ (.head _)), rfl⟩
   exact ⟨_, (.head _), rfl⟩
  ·
   intro x hx
   simp only [zy, zaa, or_false] at hx
   rcases hx with rfl | rfl
   · exact ⟨_, (.tail _ (.head _)), rfl⟩
   exact ⟨_, (.head _), rfl⟩
  exact fun x hx => absurd hx jp
 · exact hS.trans hW jp
 ·
  simp only [zy, zaa, or_false] at ht
  rcases ht with rfl | rfl | rfl | rfl | rfl | rfl
  · exact fun _ v lo hi W W' hf ⟨v', n', B, d, l', k', h1, h2, h3⟩ => ⟨v', n', B, d, l', k', h1, ⟨h2.1.frm hf, h2.2⟩, h3.frm hf⟩
  · exact fun _ _ _ _ _ _ _ h => h
  · exact fun _ _ _ _ _ _ _ h => h
  · exact fun _ _ _ _ _ _ _ h => h
  · exact fun _ _ _ _ _ _ _ h => h
  exact PT.made_st
 ·
  simp only [zy, zaa, or_false] at ht
  rcases ht with rfl | rfl | rfl | rfl | rfl | rfl
  · exact fun _ _ _ _ _ _ _ h => h
  · exact fun ρ ρ' v lo hi W h e => e.trans (h _ (.head _))
  · exact fun ρ ρ' v lo hi W h ⟨xs, h1, h2⟩ => ⟨xs, (h _ (.head _)).symm.trans h1, h2⟩
  · exact fun ρ ρ' v lo hi W h ⟨xs, h1, h2⟩ => ⟨xs, (h _ (.head _)).symm.trans h1, h2⟩
  · exact fun ρ ρ' v lo hi W h ⟨xs, h1, h2⟩ => ⟨xs, (h _ (.head _)).symm.trans h1, h2⟩
  exact fun _ _ _ _ _ _ _ h => h
 ·
  simp only [zy, zaa, or_false] at ht
  rcases ht with rfl | rfl | rfl | rfl | rfl | rfl
  ·
   refine cU.cl rfl rfl rfl rfl rfl (jE2 Tryz.call85) (nQ y.v y.n y.A y.c y.l (⟨{ x.m with blob := nb + 1 }, x.A, x.c⟩ : Mc) W (hya.rd.frm (hS.trans hW jp)) hyl (hxA.frm (hS.trans hW jp) jp)) ?_
   rintro e W' ⟨hf, v', n', B, d, l', k', rfl, h2, h3⟩
   exact ⟨_, rfl, hf, v', n', B, d, l', k', rfl, h2, h3⟩
  · exact cU.r rfl rfl rfl rfl (fun _ => Run.mv rfl) rfl
  ·
   have h1 := hD _ (.tail _ (.head _)) jp
   have h2 := hD _ (.head _) jp
   obtain ⟨v', n', B, d, l', k', h2e, _⟩ := h2
   exact cU.r rfl rfl rfl rfl (fun _ => Run.extract (congrArg some (h1.trans h2e)) rfl) ⟨_, h1.trans h2e, rfl⟩
  ·
   have h1 := hD _ (.tail _ (.head _)) jp
   have h2 := hD _ (.head _) jp
   obtain ⟨v', n', B, d, l', k', h2e, _⟩ := h2
   exact cU.r rfl rfl rfl rfl (fun _ => Run.extract (congrArg some (h1.trans h2e)) rfl) ⟨_, h1.trans h2e, rfl⟩
  ·
   have h1 := hD _ (.tail _ (.head _)) jp
   have h2 := hD _ (.head _) jp
   obtain ⟨v', n', B, d, l', k', h2e, _⟩ := h2
   exact cU.r rfl rfl rfl rfl (fun _ => Run.extract (congrArg some (h1.trans h2e)) rfl) ⟨_, h1.trans h2e, rfl⟩
  exact PT.made_ok rfl rfl bL
 have hA51 := hA.1 _ (.head _)
 have hA43 := hA.1 _ (.tail _ (.head _))
 have hA52 := hA.1 _ (.tail _ (.tail _ (.head _)))
 have hA53 := hA.1 _ (.tail _ (.tail _ (.tail _ (.head _))))
 have hA54 := hA.1 _ (.tail _ (.tail _ (.tail _ (.tail _ (.head _)))))
 have hA11 := hA.1 _ (.tail _ (.tail _ (.tail _ (.tail _ (.tail _ (.head _))))))
 have hA51_11 := hA.2 _ (.head _) _ (.tail _ (.tail _ (.tail _ (.tail _ (.tail _ (.head _)))))) (show (51 : Nat) ≠ 11 by decide)
 clear hA
 simp only [zap, zct, zdd, zbg]
 dsimp only at hA51 hA43 hA52 hA53 hA54 hA11 hA51_11
 generalize g 51 = q51 at *
 obtain ⟨u51, lo51, hi51⟩ := q51
 generalize g 43 = q43 at *
 obtain ⟨u43, lo43, hi43⟩ := q43
 generalize g 52 = q52 at *
 obtain ⟨u52, lo52, hi52⟩ := q52
 generalize g 53 = q53 at *
 obtain ⟨u53, lo53, hi53⟩ := q53
 generalize g 54 = q54 at *
 obtain ⟨u54, lo54, hi54⟩ := q54
 generalize g 11 = q11 at *
 obtain ⟨u11, lo11, hi11⟩ := q11
 dsimp only at hA51 hA43 hA52 hA53 hA54 hA11 hA51_11 ⊢
 obtain ⟨⟨⟨rfl, hlt11⟩, hb11⟩, hA11⟩ := hA11
 obtain ⟨v', n', B, d, l', k', rfl, hI, hO⟩ := hA51.1
 have hS := hS.trans hW jp
 change w6.heap.size ≤ _ ∧ _ at hA11
 clear hA51
 obtain rfl := hA43.1
 obtain ⟨xs52, e1_52, e2_52⟩ := hA52.1
 injection e1_52 with e1_52
 subst e1_52
 have e2_52 := Option.some.inj e2_52
 subst e2_52
 obtain ⟨xs53, e1_53, e2_53⟩ := hA53.1
 injection e1_53 with e1_53
 subst e1_53
 have e2_53 := Option.some.inj e2_53
 subst e2_53
 obtain ⟨xs54, e1_54, e2_54⟩ := hA54.1
 injection e1_54 with e1_54
 subst e1_54
 have e2_54 := Option.some.inj e2_54
 subst e2_54
 have hbo := hb11
 refine qS.st 13 rfl jK (qK.storeA rfl rfl zj hb11 rfl (bU v' n' B l'.length d)) trivial rfl ?_
 rintro w8 ⟨hbn, (hf_w8 : Frm [lo11] _ _), hs_w8⟩
 have hb11 : Blk w8 lo11 43 (BVc v' n' B l'.length d).toArray := hbn
 have hO := hO.blk hf_w8 hbo jd jd
 have hS := hS.own hf_w8 (fun y hy => by rw [za] at hy; omega)
 refine ⟨hS, ?_⟩
 have hb1 := hb1.frm hS jp
 have hb4 := hb4.frm hS jp
 have hK6 := K.size
 have hg1l := hl1
 have K := K.trans hS jp
 refine jH 14 rfl hS (fun w0 hw0 => Run.asg rfl) ?_
 refine jH 15 rfl hS (fun w0 hw0 => Run.asg rfl) ?_
 refine qS.done jK ?_
 refine jN (jv6 3 6 9 11 12 13 ?_)
 refine jS (jS (jR (jm rfl (jb rfl rfl (Bin.neqN _ 0) (jO (jN (jv7 3 6 9 11 12 13 56 ?_)))))))
 refine jD rfl (fun hc5 => ?_) fun hc5 => ?_
 ·
  have hc5 : k' ≠ 0 := by simpa using hc5
  have hFe : dF m.p q x.m = .error k' := by
   rw [hF, if_neg hc4]
   obtain ⟨_, ⟨h, _⟩ | ⟨_, h, _⟩⟩ := hI
   · exact absurd h hc5
   rw [h]
  refine jS (jR (je (Run.build evs.nil qD (qW).choose_spec.1 (qW).choose_spec.2 rfl) (jM ?_)))
  refine Ops.st (qK.storeA rfl rfl zb hb4 rfl (MlC.cells_one qV)) ?_
  rintro wz ⟨hb4, (hfwz : Frm [g4] _ _), hswz⟩
  have hb4 : Blk wz g4 25 qV.cells.toArray := hb4
  have K := K.own hfwz (fun y hy => by rw [za] at hy; omega)
  refine jz 0 (ja rfl (jO (jN (jv3 6 7 8 ?_))))
  refine jT ?_
  refine qZ (bQ ?_)
  refine qH rfl zc zb (fun j v hj => hb4.cells j v hj) (by first | rfl | (simp; done)) ?_
  refine qN rfl ?_
  refine qN rfl ?_
  refine qP ?_
  exact ⟨qV, 0, k', rfl, mY.err hc5 hFe, Kt.zero _ _ _, K⟩
 obtain rfl : k' = 0 := by simpa using hc5
 have hlb := hI.len27
 have hFo : dF m.p q x.m = .ok ({ m.p with blob := m.b + 1, l := bK m.p.l (qQ q) ⟨v', n', Ms l'⟩ }, y.n) := by
  rw [hF, if_neg hc4]
  obtain ⟨_, ⟨_, h⟩ | ⟨h, _⟩⟩ := hI
  · rw [h]
  exact absurd rfl h
 have hb1o := hb1
 refine jQ (jN (jv5 3 6 9 11 12 ?_))
 refine jS (jR (jf rfl zh rfl zk (jl rfl zu (hcb _ hb1) (jb rfl rfl (Bin.add_i64 _ 1 jo) (jf rfl zh rfl zk ?_)))))
 refine Ops.st (qK.store rfl rfl zk hb1 rfl rfl) ?_
 rintro w9 ⟨hbn, (hf9 : Frm [g1] _ _), hs9⟩
 have hb1 : Blk w9 g1 25 ({ m with b := ((nb + 1 : Nat) : Int) } : MlC).cells.toArray := hbn
 have hb4 := hb4.frm hf9 (by simp; omega)
 have hO := hO.blk hf9 hb1o jd jd
 have hb11 := hb11.frm hf9 (by simp; have := hb1o.ne hb11 jd; omega)
 have K := K.own hf9 (fun y hy => by rw [za] at hy; omega)
 have hRm : RdL w9 { m with b := ((nb + 1 : Nat) : Int) } := by
  have h := hm.frm K
  exact ⟨h.l, h.s, h.lc, h.sc, h.ln, h.sn, h.sq⟩
 refine jO (jN (jv5 3 6 9 11 12 ?_))
 refine jS (jR (je (Run.loadA rfl zc zb hb1.cells (by first | rfl | (simp; done))) (jm rfl (je (Run.loadA rfl zai zj (fun j v hj => hb11.cells j v hj) (by first | rfl | (simp; done))) ?_))))
 refine Ops.cl (jE3 Tryz.call86) (jW { m with b := ((nb + 1 : Nat) : Int) } i v' n' B d l' _ hRm hi hO.rdm jo) rfl ?_
 rintro e w10 ⟨A', c', rfl, hoA, hobA, hf10⟩
 refine ⟨_, rfl, ?_⟩
 have hKs := K.size
 have hobA : ∀ b ∈ ob A', w.heap.size ≤ b := fun b hb => zar hKs (hobA b hb)
 have hb4 := hb4.frm hf10 jp
 have hO := hO.frm hf10
 have K := K.trans hf10 jp
 have hb40 := hb4
 have hx4 := hoA.ne_blk hb4 jd
 refine jM ?_
 refine Ops.st (qK.storeA rfl rfl zb hb4 rfl (MlC.cells_one _)) ?_
 rintro w11 ⟨hb4, (hf11 : Frm [g4] _ _), hs11⟩
 have hoA := hoA.frm hf11 (fun y hy h => by rw [za] at h; subst h; exact hx4 hy)
 have hO := hO.blk hf11 hb40 jd jd
 have K := K.own hf11 (fun y hy => by rw [za] at hy; omega)
 have hkt := qZl (w := w) (b := ((nb + 1 : Nat) : Int)) hi hO jo hoA hobA
 refine ja rfl (jz 0 (jO (jN (jv3 6 7 8 ?_))))
 refine jT ?_
 refine bQ ?_
 refine qH rfl zc zb (fun j v hj => hb4.cells j v hj) (by first | rfl | (simp; done)) ?_
 refine qN rfl ?_
 refine qN rfl ?_
 refine qP ?_
 refine ⟨_, y.n, 0, rfl, ⟨hkt _ [] (Frm.refl _ _) jp (hm.frm K), .inl ⟨rfl, ?_⟩⟩, hkt, K⟩
 rw [hFo, ← lN hr hpos hi (by rw [hy]; exact hie)]
 congr 2
 show MailP.mk _ _ _ _ = MailP.mk _ _ _ _
 rw [show m.b + 1 = ((nb + 1 : Nat) : Int) by omega]
 rfl
end
section
open Go.RowKit Go.Sort
def qQ1 (S : List Nat) (w : World) (f : FuncId) (us : List Value) (p : Int → Bool) : Prop :=
 (∀ args w, (callFunc f args).run Tryz.prog w = .ok (.enter f args) w) ∧ ∀ W (x : Int), Frm S w W → Calls Tryz.prog f (.int .i64 x :: us).toArray W fun e w' => e = .returned (.bool (p x)) ∧ Frm [] W w'
theorem tK (f : FuncId) (us : List Value) (p : Int → Bool) (A : Option Addr) (c : Nat) (l : List Int) (w : World) (hl : Rd w 1 A l.length (IB l)) (hn : l.length ≤ 1000000) (S : List Nat) (hp : qQ1 S w f us p) :
  Calls Tryz.prog 128 #[.slice A l.length c, .func (.func f) #[] us.toArray] w fun e w' => Frm [] w w' ∧ ∃ k, (∀ j (hj : j < l.length), j < k → p l[j] = false) ∧ ((k = l.length ∧ e = .returned (.int .i64 (-1))) ∨ (∃ hk : k < l.length, p l[k] = true ∧ e = .returned (.int .i64 ((k : Nat) : Int)))) := by
 refine VC.calls (nt := 19) (res := #[.tmp 4]) Tryz.func128 rfl Tryz.ntmps128 Tryz.results128 rfl ?_
 refine jS (jR (jz 0 (jO (jN (jv2 0 1 ?_)))))
 refine jS (jS (jR (jm rfl (je (Run.lenS rfl zdn) ?_))))
 refine jx .i64 0 ?_
 refine jO (jN (jv4 0 1 7 8 ?_))
 refine jB ?_
 refine VC.loop (σ := Nat) (fun s => [(0, .slice A l.length c), (1, .func (.func f) #[] us.toArray), (7, .int .i64 ((l.length : Nat) : Int)), (8, .int .i64 ((s : Nat) : Int))]) (fun s wr => s ≤ l.length ∧ Frm [] w wr ∧ ∀ j (hj : j < l.length), j < s → p l[j] = false) (fun s => l.length - s) 0 (js4 rfl rfl rfl rfl) ⟨jo, Frm.refl _ _, jp⟩ ?_
 rintro i wr ⟨hi, hfr, hf⟩
 refine jS (jR (jb rfl rfl (Bin.lssN _ _) (jO (jN (jS ?_)))))
 refine jD rfl (fun hc1 => ?_) fun hc1 => ?_
 ·
  obtain ⟨ad, rfl, hcell⟩ := (hl.frm hfr jp).elem hc1
  skip
  refine jQ (jN (jv4 0 1 7 8 ?_))
  refine jS (jB (jS (jR (jm rfl (ja rfl (jO (jN (jv5 0 1 5 7 8 ?_))))))))
  refine jS (jR (jm rfl (jm rfl (jm rfl (je (Run.indexS i rfl rfl zdn zk hc1) (jl rfl zu (hcell 0 (.int .i64 l[i]) (by simp [IB, hc1])) ?_))))))
  refine Ops.cl (bN.dyn rfl (evs.cons rfl evs.nil) hp.1) (hp.2 _ l[i] (hfr.mono jp)) rfl ?_
  rintro e w2 ⟨rfl, hf2⟩
  refine ⟨_, rfl, ?_⟩
  have hfr2 := hfr.trans hf2 jp
  refine jO (jN (jv6 0 1 5 7 8 16 ?_))
  refine VC.condB rfl (fun hc2 => ?_) (fun hc2 => ?_)
  ·
   refine jS (jR (jm rfl (ja rfl (jO (jN (jv1 4 ?_))))))
   refine jT ?_
   refine qC (qZ (qZ (qC (qZ (qL rfl ?_)))))
   exact ⟨hfr2, i, hf, .inr ⟨hc1, hc2, rfl⟩⟩
  refine jQ ?_
  refine qR (jN ?_)
  refine jv4 0 1 7 8 ?_
  refine jR (jb rfl rfl (Bin.add_i64 _ 1 jo) (jm rfl (jO ?_)))
  refine jN ⟨(i + 1), (js4 rfl rfl rfl rfl), ?_, ?_⟩
  ·
   refine ⟨hc1, hfr2, fun j hj hji => ?_⟩
   rcases zcq j i with h | h
   · exact hf j hj h
   obtain rfl : j = i := jo
   simpa using hc2
  first | omega | (dsimp only; omega)
 refine jX ?_
 refine qT (qT (bZ ?_))
 refine jN ?_
 refine VC.sub [] .nil ?_
 refine jS (jR ?_)
 refine Ops.r (v := .int .i64 (-1)) (Run.asg rfl) rfl ?_
 refine jO (jN (jT ?_))
 refine qL rfl ?_
 exact ⟨hfr, i, hf, .inl ⟨jo, rfl⟩⟩
theorem vO (f : FuncId) (us : List Value) (p : Int → Bool) (A : Option Addr) (c : Nat) (l : List Int) (w : World) (hl : Rd w 1 A l.length (IB l)) (hn : l.length ≤ 1000000) (S : List Nat) (hp : qQ1 S w f us p) :
  Calls Tryz.prog 88 #[.slice A l.length c, .func (.func f) #[] us.toArray] w fun e w' => e = .returned (.bool (decide (∃ x ∈ l, p x = true))) ∧ Frm [] w w' := by
 refine VC.calls (nt := 9) (res := #[.tmp 4]) Tryz.func88 rfl Tryz.ntmps88 Tryz.results88 rfl ?_
 refine jS (jR (ja rfl (jO (jN (jv2 0 1 ?_)))))
 refine jS (jR (jm rfl (jM ?_)))
 refine Ops.cl (jE2 Tryz.call128) (tK f us p A c l _ hl hn S hp) rfl ?_
 rintro e w1 ⟨hf1, k, hk1, hk2⟩
 obtain ⟨z, rfl, hz⟩ : ∃ z : Int, e = .returned (.int .i64 z) ∧ (0 ≤ z ↔ ∃ x ∈ l, p x = true) := by
  rcases hk2 with ⟨h1, h2⟩ | ⟨h1, h2, h3⟩
  ·
   refine ⟨_, h2, ⟨fun h => jo, fun ⟨x, hx, hpx⟩ => ?_⟩⟩
   obtain ⟨j, hj, rfl⟩ := zo hx
   rw [hk1 j hj jo] at hpx
   cases hpx
  exact ⟨_, h3, ⟨fun _ => ⟨_, zm h1, h2⟩, fun _ => jo⟩⟩
 refine ⟨_, rfl, ?_⟩
 refine jb rfl rfl (Bin.geq _ 0) (ja rfl (jO (jN (jv1 4 ?_))))
 refine jT ?_
 refine qL rfl ?_
 exact ⟨by rw [decide_eq_decide.2 hz], hf1⟩
def cM : BoxV → List MsgP → Except Nat (BoxV × List Int)
 | b, [] => .ok (b, [])
 | b, x :: r => match bT b x with
  | .error e => .error e
  | .ok b' => match cM b' r with
   | .error e => .error e
   | .ok (b2, us) => .ok (b2, b.next :: us)
theorem oQ : ∀ {xs : List MsgP} {b b2 : BoxV} {us : List Int} {x : MsgP} {r : List MsgP}, cM b xs = .ok (b2, us) →
  cM b (xs ++ x :: r) = match bT b2 x with | .error e => .error e | .ok b' => match cM b' r with | .error e => .error e | .ok (b3, vs) => .ok (b3, us ++ b2.next :: vs)
 | [], b, b2, us, x, r, h => by
  simp only [cM, Except.ok.injEq, Prod.mk.injEq] at h
  obtain ⟨rfl, rfl⟩ := h
  rfl
 | y :: xs, b, b2, us, x, r, h => by
  rw [cM] at h
  rw [zdd, cM]
  cases hy : bT b y with
  | error e => rw [hy] at h; cases h
  | ok b' =>
   rw [hy] at h
   dsimp only at h ⊢
   cases hx : cM b' xs with
   | error e => rw [hx] at h; cases h
   | ok q =>
    obtain ⟨b4, vs⟩ := q
    rw [hx] at h
    simp only [Except.ok.injEq, Prod.mk.injEq] at h
    obtain ⟨rfl, rfl⟩ := h
    rw [oQ hx]
    cases bT b4 x with
    | error e => rfl
    | ok b5 =>
     dsimp only
     cases cM b5 r with
     | error e => rfl
     | ok q => rfl
theorem wQ {xs : List MsgP} {b b2 b3 : BoxV} {us : List Int} {x : MsgP} (h : cM b xs = .ok (b2, us)) (h2 : bT b2 x = .ok b3) : cM b (xs ++ [x]) = .ok (b3, us ++ [b2.next]) := by
 rw [oQ h, h2]
 rfl
theorem yV {xs : List MsgP} {b b2 : BoxV} {us : List Int} {x : MsgP} {r : List MsgP} {e : Nat} (h : cM b xs = .ok (b2, us)) (h2 : bT b2 x = .error e) : cM b (xs ++ x :: r) = .error e := by
 rw [oQ h, h2]
def dU (l : List MsgP) (ps : List Int) : List MsgP := ps.map fun p => (l[(p - 1).toNat]?).getD ⟨0, 0, 0, 0, 0, []⟩
def eM (m : MailP) (q : Tx) (ps : List Int) (t : Tx) : Except Nat (MailP × List Int) :=
 if ¬ qI m then .error 1 else if ¬ isN q ∨ ¬ isN t then .error 18 else
 match cC m.l (qQ q), cC m.l (qQ t) with
 | some bf, some bt => if ∃ p ∈ ps, p < 1 ∨ (bf.l.length : Int) < p then .error 4 else match cM bt (dU bf.l ps) with
  | .error e => .error e
  | .ok (b', us) => .ok ({ m with l := bK m.l (qQ t) b' }, us)
 | _, _ => .error 6
theorem qQi {m : MailP} {q t : Tx} {ps : List Int} (h1 : qI m) (h2 : isN q) (h3 : isN t) (h : qQ q ∉ m.l.map Prod.fst ∨ qQ t ∉ m.l.map Prod.fst) : eM m q ps t = .error 6 := by
 unfold eM
 rw [if_neg (fun h => h h1), if_neg (fun h => by rcases h with h | h; exact h h2; exact h h3)]
 rcases h with h | h
 · rw [gG h]
 rw [gG h]
 cases cC m.l (qQ q) <;> rfl
theorem qQj {m : MailP} {q t : Tx} {ps : List Int} {bf bt : BoxV} (h1 : qI m) (h2 : isN q) (h3 : isN t) (e1 : cC m.l (qQ q) = some bf) (e2 : cC m.l (qQ t) = some bt) : eM m q ps t = if ∃ p ∈ ps, p < 1 ∨ (bf.l.length : Int) < p then .error 4 else match cM bt (dU bf.l ps) with
  | .error e => .error e
  | .ok (b', us) => .ok ({ m with l := bK m.l (qQ t) b' }, us) := by
 unfold eM
 rw [if_neg (fun h => h h1), if_neg (fun h => by rcases h with h | h; exact h h2; exact h h3), e1, e2]
def cO (w : World) (m : MlC) (B : Option Addr) (d : Nat) (lm : List Mc) : Prop := OwM w B d lm ∨ ∃ x ∈ m.l, x.A = B ∧ x.l = lm
theorem cO.rdm {w : World} {m : MlC} {B : Option Addr} {d : Nat} {lm : List Mc} (h : cO w m B d lm) (hm : RdL w m) : RdM w B lm := by
 rcases h with h | ⟨x, hx, rfl, rfl⟩
 · exact h.rdm
 exact (hm.l.el x hx).rd
theorem cO.frm {w w' : World} {m : MlC} {B : Option Addr} {d : Nat} {lm : List Mc} (h : cO w m B d lm) (k : Frm [] w w') : cO w' m B d lm := by
 rcases h with h | h
 · exact .inl (h.frm k)
 exact .inr h
theorem cO.blk {w w' : World} {m : MlC} {B : Option Addr} {d g : Nat} {lm : List Mc} {t : TypeId} {cs : Array Value} (h : cO w m B d lm) (k : Frm [g] w w') (hb : Blk w g t cs) (h1 : 60 ≠ t) (h2 : 9 ≠ t) : cO w' m B d lm := by
 rcases h with h | h
 · exact .inl (h.blk k hb h1 h2)
 exact .inr h
theorem cO.own {w w' : World} {m : MlC} {B C : Option Addr} {d size n c : Nat} {lm : List Mc} {e : TypeId} {xs : List Value} (h : cO w m B d lm) (k : Frm (ob C) w w') (hC : Own w e size C n c xs) (h1 : 60 ≠ e) (h2 : 9 ≠ e) : cO w' m B d lm := by
 rcases h with h | h
 · exact .inl (h.offO k hC h1 h2)
 exact .inr h
theorem qXu {w w' : World} {m : MlC} {i : Nat} (hi : i < m.l.length) {v n b : Int} {B A : Option Addr} {d c : Nat} {lm : List Mc} (hO : cO w' m B d lm) (hn : lm.length ≤ 900000) (ho : Own w' 45 4 A m.l.length c (NDC (m.l.set i ⟨(m.l[i]).nm, v, n, B, d, lm⟩))) (hf : ∀ y ∈ ob A, w.heap.size ≤ y) :
  Kt w w' m { m with A := A, c := c, l := m.l.set i ⟨(m.l[i]).nm, v, n, B, d, lm⟩, b := b } := by
 intro w'' T k hT hm
 have ho := ho.frm k (fun y hy hy2 => by have := (hT y hy2).1; have := hf y hy; omega)
 have hO : RdM w'' B lm := by
  rcases hO with h | ⟨x, hx, rfl, rfl⟩
  · exact (h.typed k (fun y hy => (hT y hy).2)).rdm
  exact (hm.l.el x hx).rd
 have hq := (hm.l.el _ (zm hi)).q
 have hlen : (m.l.set i ⟨(m.l[i]).nm, v, n, B, d, lm⟩).length = m.l.length := zcd ..
 exact ⟨⟨by dsimp only; rw [hlen]; exact ho.rd, mK hm.l.el ⟨hO, hn, hq⟩⟩, hm.s, by dsimp only; rw [hlen]; exact ho.le, hm.sc, by dsimp only; rw [hlen]; exact hm.ln, hm.sn, hm.sq⟩
def mH (w' : World) (F : Except Nat (MailP × List Int)) (m : MlC) (U : Option Addr) (us : List Int) (k : Nat) : Prop := RdL w' m ∧ Rd w' 1 U us.length (IB us) ∧ us.length ≤ 1000000 ∧ ((k = 0 ∧ F = .ok (m.p, us)) ∨ (k ≠ 0 ∧ F = .error k ∧ m = qV ∧ us = []))
theorem mH.err {w' : World} {F : Except Nat (MailP × List Int)} {k : Nat} (hk : k ≠ 0) (h : F = .error k) : mH w' F qV none [] k := ⟨RdL.zero _, Rd.nil _ _ _, jd, .inr ⟨hk, h, rfl, rfl⟩⟩
theorem qXv (a : List Int) (x : Int) : IB (a ++ [x]) = IB a ++ IB [x] := by simp [IB]
theorem qXw (a : List Int) : ∀ v ∈ IB a, v.oneCell' = true := by
 intro v hv
 obtain ⟨x, _, rfl⟩ := List.mem_map.1 hv
 rfl
theorem yW {l : List MsgP} {ps : List Int} {i : Nat} (h : i < ps.length) : dU l (ps.take (i + 1)) = dU l (ps.take i) ++ [(l[(ps[i] - 1).toNat]?).getD ⟨0, 0, 0, 0, 0, []⟩] := by
 unfold dU
 rw [zas, ze h, zbi]
 rfl
theorem wX {l : List MsgP} {ps : List Int} {i : Nat} (h : i < ps.length) : dU l ps = dU l (ps.take i) ++ (l[(ps[i] - 1).toNat]?).getD ⟨0, 0, 0, 0, 0, []⟩ :: dU l (ps.drop (i + 1)) := by
 unfold dU
 conv => lhs; rw [← zao i ps, zav h]
 rw [zbi, zap]
theorem tV (x : Int) (g : Nat) (A : Option Addr) (n c : Nat) (w : World) (hb : Blk w g 41 #[.slice A n c]) :
  Calls Tryz.prog 89 #[.int .i64 x, .pointer (some ⟨g, 0, none⟩)] w fun e w' => e = .returned (.bool (decide (x < 1 ∨ (n : Int) < x))) ∧ Frm [] w w' := by
 refine VC.calls (nt := 12) (res := #[.tmp 3]) Tryz.func89 rfl Tryz.ntmps89 Tryz.results89 rfl ?_
 refine jS (jR (ja rfl (jO (jN (jv2 0 1 ?_)))))
 refine jS ?_
 refine VC.split1 [] .nil 3 (.bool (decide (x < 1 ∨ (n : Int) < x))) ?_ ?_
 ·
  refine jR ?_
  refine jm rfl (jb rfl rfl (Bin.lss _ 1) ?_)
  by_cases hs5 : x < 1
  ·
   refine jM ?_
   refine jU ?_
   refine jU ?_
   refine jU ?_
   refine jU ?_
   refine je (Run.pickT rfl rfl au) (ja rfl (jO ?_))
   refine jN ⟨(js1 (jC (by first | exact (decide_eq_true (.inl hs5)).symm | exact decide_eq_decide.2 ⟨.inr, fun h => h.resolve_left hs5⟩))), rfl⟩
  refine jM ?_
  refine jG ?_
  refine jk (Run.load rfl zbf (hb.cell 0)) ?_
  refine jk (Run.lenS rfl zx) ?_
  refine jk (Run.bin rfl rfl (Bin.gtr _ _)) ?_
  refine je (Run.pickF rfl rfl au) (ja rfl (jO ?_))
  refine jN ⟨(js1 (jC (by first | exact (decide_eq_true (.inl hs5)).symm | exact decide_eq_decide.2 ⟨.inr, fun h => h.resolve_left hs5⟩))), rfl⟩
 intro Γ hΓ
 refine jN (VC.sub _ hΓ ?_)
 refine jT ?_
 refine qL rfl ?_
 exact ⟨rfl, Frm.refl _ _⟩
end
section
open Go.RowKit Go.Sort
set_option maxHeartbeats 2000000 in
theorem wZ (m : MlC) (q t : Tx) (P : Option Addr) (cp : Nat) (ps : List Int) (w : World) (hm : RdL w m) (hq : q.length ≤ 900000) (ht : t.length ≤ 900000) (hps : Rd w 1 P ps.length (IB ps)) (hpn : ps.length ≤ 1000000) (hv : cX w) :
  Calls Tryz.prog 37 #[m.val, encStr q, .slice P ps.length cp, encStr t] w fun e w' => ∃ (m' : MlC) (U : Option Addr) (du : Nat) (us : List Int) (k : Nat), e = .returned (.tuple #[m'.val, .slice U us.length du, .int .i64 ((k : Nat) : Int)]) ∧ mH w' (eM m.p q ps t) m' U us k ∧ Kt w w' m m' ∧ Frm [] w w' := by
 have hln := hm.ln
 have hpl := dJ m
 refine VC.calls (nt := 106) (res := #[.cell 8 25, .tmp 9, .tmp 10]) Tryz.func37 rfl Tryz.ntmps37 Tryz.results37 rfl ?_
 refine jS (jR ?_)
 refine Ops.m (qJ.box rfl) rfl ?_
 rintro _ w1 ⟨rfl, hF_w1⟩
 have hb1 : Blk w1 w.heap.size 25 #[.slice m.A m.l.length m.c, .slice m.S m.ss.length m.d, .int .i64 m.v, .int .i64 m.b] := hF_w1.blk
 have K := hF_w1.frm
 generalize hg1 : w.heap.size = g1 at hb1 ⊢
 refine Ops.m (qJ.alloc qD) rfl ?_
 rintro _ w2 ⟨rfl, hF2⟩
 have hb4 := hF2.blk
 have hg4 : w.heap.size ≤ w1.heap.size := K.size
 have hb1 := hb1.frm hF2.frm jp
 have hl1 := hb1.lt
 have hl4 := hb4.lt
 have K := K.trans hF2.frm jp
 have hne14 : g1 ≠ w1.heap.size := by have := hF_w1.size; omega
 have hg1s : w.heap.size ≤ g1 := jo
 generalize hg4' : w1.heap.size = g4 at hb4 hg4 hne14 hl4 ⊢
 refine ja rfl (jz 0 (jO (jN (jv5 1 2 3 4 8 ?_))))
 refine jS (jS (jR (je (Run.loadA rfl zc zb hb1.cells (by first | rfl | (simp; done))) ?_)))
 refine Ops.cl (jE1 zdh) (cF m _ (hm.frm K) (hv.frm K)) rfl ?_
 rintro e w3 ⟨rfl, hf3⟩
 refine ⟨_, rfl, ?_⟩
 have hb1 := hb1.frm hf3 jp
 have hb4 := hb4.frm hf3 jp
 have hKs_hf3 := K.size
 have K := K.trans hf3 jp
 refine je (Run.not rfl) (jO (jN (jv6 1 2 3 4 8 25 ?_)))
 refine VC.condB rfl (fun hc1 => ?_) (fun hc1 => ?_)
 ·
  have hc1 : ¬ qI m.p := by simpa using hc1
  refine jS (jR (je (Run.build evs.nil qD (qW).choose_spec.1 (qW).choose_spec.2 rfl) ?_))
  refine Ops.st (qK.storeA rfl rfl zb hb4 rfl (MlC.cells_one qV)) ?_
  rintro wz ⟨hb4, (hfwz : Frm [g4] _ _), hswz⟩
  have hb4 : Blk wz g4 25 qV.cells.toArray := hb4
  have K := K.own hfwz (fun y hy => by rw [za] at hy; omega)
  refine ja rfl (jz 1 (jO (jN (jv3 8 9 10 ?_))))
  refine jT ?_
  refine qZ (bQ ?_)
  refine qH rfl zc zb (fun j v hj => hb4.cells j v hj) (by first | rfl | (simp; done)) ?_
  refine qN rfl ?_
  refine qN rfl ?_
  refine qP ?_
  exact ⟨qV, none, 0, [], 1, rfl, mH.err jd (by unfold eM; rw [if_pos hc1]), Kt.zero _ _ _, K⟩
 have hc1 : qI m.p := by simpa using hc1
 obtain ⟨hm24, hv1, hv2, hb0, hb2, hr, hin⟩ := cZ hc1
 refine jQ (jN (jv5 1 2 3 4 8 ?_))
 refine jS (jR (je (Run.loadA rfl zc zb hb1.cells (by first | rfl | (simp; done))) (jM ?_)))
 refine Ops.cl (jE2 zcm) (bE m q _ (hm.frm K).l hln jo hr (hv.frm K)) rfl ?_
 rintro e w5 ⟨ii, rfl, hposii, hfw5⟩
 refine ⟨_, rfl, ?_⟩
 have hb1 := hb1.frm hfw5 jp
 have hb4 := hb4.frm hfw5 jp
 have hKs_hfw5 := K.size
 have K := K.trans hfw5 jp
 refine jm rfl (je (Run.extract rfl rfl) (je (Run.extract rfl rfl) (ja rfl (ja rfl (jO (jN (jv7 1 2 3 4 8 11 12 ?_)))))))
 refine jS (jR (je (Run.loadA rfl zc zb hb1.cells (by first | rfl | (simp; done))) (jM ?_)))
 refine Ops.cl (jE2 zcm) (bE m t _ (hm.frm K).l hln jo hr (hv.frm K)) rfl ?_
 rintro e w6 ⟨kk, rfl, hposkk, hfw6⟩
 refine ⟨_, rfl, ?_⟩
 have hb1 := hb1.frm hfw6 jp
 have hb4 := hb4.frm hfw6 jp
 have hKs_hfw6 := K.size
 have K := K.trans hfw6 jp
 refine jm rfl (je (Run.extract rfl rfl) (je (Run.extract rfl rfl) (ja rfl (ja rfl (jO (jN (jv9 1 2 3 4 8 11 12 13 14 ?_)))))))
 refine jS (jB (jS ?_))
 refine VC.split1 [(2, _), (4, _), (8, _), (11, _), (12, _), (13, _), (14, _)] (js7 rfl rfl rfl rfl rfl rfl rfl) 39 (.bool (decide (¬ isN q ∨ ¬ isN t))) ?_ ?_
 ·
  refine jR (jM ?_)
  refine Ops.cl (jE1 zbp) (bC q _ jo (hv.frm K)) rfl ?_
  rintro e _ ⟨rfl, rfl⟩
  refine ⟨_, rfl, ?_⟩
  by_cases hs41 : isN q
  ·
   refine je (Run.not rfl) (jM ?_)
   refine jG ?_
   refine Ops.clg rfl au (jE1 zbp) (bC t _ jo (hv.frm K)) rfl ?_
   rintro e _ ⟨rfl, rfl⟩
   refine ⟨_, rfl, ?_⟩
   by_cases hs45 : isN t
   ·
    refine jk (Run.not rfl) ?_
    refine je (Run.pickF rfl rfl au) (ja rfl (jO ?_))
    refine jN ⟨(js8 (jC (by first | (simp [hs41, hs45]; done) | (simp [hs41]; done))) rfl rfl rfl rfl rfl rfl rfl), rfl⟩
   refine jk (Run.not rfl) ?_
   refine je (Run.pickF rfl rfl au) (ja rfl (jO ?_))
   refine jN ⟨(js8 (jC (by first | (simp [hs41, hs45]; done) | (simp [hs41]; done))) rfl rfl rfl rfl rfl rfl rfl), rfl⟩
  refine je (Run.not rfl) (jM ?_)
  refine jU ?_
  refine jU ?_
  refine jU ?_
  refine je (Run.pickT rfl rfl au) (ja rfl (jO ?_))
  refine jN ⟨(js8 (jC (by first | (simp [hs41, hs45]; done) | (simp [hs41]; done))) rfl rfl rfl rfl rfl rfl rfl), rfl⟩
 intro Γ hΓ
 refine jN (VC.sub _ hΓ ?_)
 refine jD rfl (fun hc2 => ?_) fun hc2 => ?_
 ·
  refine jS (jR (je (Run.build evs.nil qD (qW).choose_spec.1 (qW).choose_spec.2 rfl) ?_))
  refine Ops.st (qK.storeA rfl rfl zb hb4 rfl (MlC.cells_one qV)) ?_
  rintro wz ⟨hb4, (hfwz : Frm [g4] _ _), hswz⟩
  have hb4 : Blk wz g4 25 qV.cells.toArray := hb4
  have K := K.own hfwz (fun y hy => by rw [za] at hy; omega)
  refine ja rfl (jz 18 (jO (jN (jv3 8 9 10 ?_))))
  refine jT ?_
  refine qC (qZ (bQ ?_))
  refine qH rfl zc zb (fun j v hj => hb4.cells j v hj) (by first | rfl | (simp; done)) ?_
  refine qN rfl ?_
  refine qN rfl ?_
  refine qP ?_
  exact ⟨qV, none, 0, [], 18, rfl, mH.err jd (by unfold eM; rw [if_neg (fun h => h hc1), if_pos hc2]), Kt.zero _ _ _, K⟩
 obtain ⟨hq1, ht1⟩ : isN q ∧ isN t := by
  rw [not_or, Classical.not_not, Classical.not_not] at hc2
  exact hc2
 refine jS ?_
 refine VC.split1 [(2, _), (4, _), (8, _), (11, _), (13, _)] (js5 rfl rfl rfl rfl rfl) 49 (.bool (decide (qQ q ∉ qB m.p ∨ qQ t ∉ qB m.p))) ?_ ?_
 ·
  refine jR (jM ?_)
  by_cases hs50 : qQ q ∈ qB m.p
  ·
   refine je (Run.not rfl) (jM ?_)
   refine jG ?_
   by_cases hs53 : qQ t ∈ qB m.p
   ·
    refine jk (Run.not rfl) ?_
    refine je (Run.pickF rfl rfl au) (ja rfl (jO ?_))
    refine jN ⟨(js6 (jC (by first | (simp [hs50, hs53]; done) | (simp [hs50]; done))) rfl rfl rfl rfl rfl), rfl⟩
   refine jk (Run.not rfl) ?_
   refine je (Run.pickF rfl rfl au) (ja rfl (jO ?_))
   refine jN ⟨(js6 (jC (by first | (simp [hs50, hs53]; done) | (simp [hs50]; done))) rfl rfl rfl rfl rfl), rfl⟩
  refine je (Run.not rfl) (jM ?_)
  refine jU ?_
  refine jU ?_
  refine je (Run.pickT rfl rfl au) (ja rfl (jO ?_))
  refine jN ⟨(js6 (jC (by first | (simp [hs50, hs53]; done) | (simp [hs50]; done))) rfl rfl rfl rfl rfl), rfl⟩
 intro Γ hΓ
 refine jN (VC.sub _ hΓ ?_)
 refine jD rfl (fun hc3 => ?_) fun hc3 => ?_
 ·
  refine jS (jR (je (Run.build evs.nil qD (qW).choose_spec.1 (qW).choose_spec.2 rfl) ?_))
  refine Ops.st (qK.storeA rfl rfl zb hb4 rfl (MlC.cells_one qV)) ?_
  rintro wz ⟨hb4, (hfwz : Frm [g4] _ _), hswz⟩
  have hb4 : Blk wz g4 25 qV.cells.toArray := hb4
  have K := K.own hfwz (fun y hy => by rw [za] at hy; omega)
  refine ja rfl (jz 6 (jO (jN (jv3 8 9 10 ?_))))
  refine jT ?_
  refine qC (qZ (bQ ?_))
  refine qH rfl zc zb (fun j v hj => hb4.cells j v hj) (by first | rfl | (simp; done)) ?_
  refine qN rfl ?_
  refine qN rfl ?_
  refine qP ?_
  exact ⟨qV, none, 0, [], 6, rfl, mH.err jd (qQi hc1 hq1 ht1 hc3), Kt.zero _ _ _, K⟩
 obtain ⟨hqn, htn⟩ : qQ q ∈ qB m.p ∧ qQ t ∈ qB m.p := by
  rw [not_or, Classical.not_not, Classical.not_not] at hc3
  exact hc3
 obtain ⟨hii, hiie⟩ := kN hr hposii hqn
 obtain ⟨hkk, hkke⟩ := kN hr hposkk htn
 have hF := qQj (ps := ps) hc1 hq1 ht1 (jY hr hii hiie) (jY hr hkk hkke)
 have hyl := ((hm.frm K).l.el _ (zm hii)).n
 have hzl := ((hm.frm K).l.el _ (zm hkk)).n
 have hym := zm hii
 have hzm := zm hkk
 generalize hy : m.l[ii] = y at *
 generalize hz : m.l[kk] = z at *
 have ely : ∀ W, Frm [] w W → ∃ ad, m.A = some ad ∧ ∀ j v, y.cells[j]? = some v → W.cell? ((ad.add (ii * 4)).add j) = some v := fun W hW => by
  obtain ⟨ad, hA, h⟩ := (hm.frm hW).l.elem hii
  rw [hy] at h
  exact ⟨ad, hA, h⟩
 have elz : ∀ W, Frm [] w W → ∃ ad, m.A = some ad ∧ ∀ j v, z.cells[j]? = some v → W.cell? ((ad.add (kk * 4)).add j) = some v := fun W hW => by
  obtain ⟨ad, hA, h⟩ := (hm.frm hW).l.elem hkk
  rw [hz] at h
  exact ⟨ad, hA, h⟩
 have hlen0 : (Ms y.l).length = y.l.length := by simp [Ms]
 obtain ⟨ad, had, hel⟩ := ely _ K
 refine jQ ?_
 refine qR (jN ?_)
 refine jv5 2 4 8 11 13 ?_
 refine jS (jR (jf rfl zh rfl zad (jl rfl zaz (hb1.cell 0) (jm rfl (je (Run.indexS ii (show _ = some (Value.slice (some ad) m.l.length m.c) by rw [← had]; rfl) rfl zf zt hii) (jf rfl zag rfl zj (jf rfl zr rfl zam (jl rfl zbf (hel 3 (.slice y.A y.l.length y.c) rfl) ?_))))))))
 refine Ops.m (qJ.alloc qX4) rfl ?_
 rintro _ w7 ⟨rfl, hF7⟩
 have hb15o := hF7.blk
 have hlt1 := hb1.lt
 have hlt4 := hb4.lt
 have hKs7 := K.size
 have hb1 := hb1.frm hF7.frm jp
 have hb4 := hb4.frm hF7.frm jp
 have K := K.trans hF7.frm jp
 have hne1 : g1 ≠ w6.heap.size := jo
 have hne4 : g4 ≠ w6.heap.size := jo
 generalize hg15 : w6.heap.size = g15 at hb15o hKs7 hne1 hne4 ⊢
 refine Ops.st (qK.store rfl rfl zam hb15o rfl rfl) ?_
 rintro w8 ⟨hbn, (hf8 : Frm [g15] _ _), hs8⟩
 have hb15 : Blk w8 g15 41 #[.slice y.A y.l.length y.c] := hbn
 have hb1 := hb1.frm hf8 (by simp; omega)
 have hb4 := hb4.frm hf8 (by simp; omega)
 have K := K.own hf8 (fun y hy => by rw [za] at hy; omega)
 refine jO (jN (jv5 2 4 8 13 15 ?_))
 refine jS (jS (jR (jm rfl (je (Run.mkFunc evs.nil (evs.cons rfl evs.nil)) ?_))))
 refine Ops.cl (jE2 Tryz.call88) (vO 89 [.pointer (some ⟨g15, 0, none⟩)] (fun x => decide (x < 1 ∨ ((y.l.length : Nat) : Int) < x)) P cp ps _ (hps.frm K jp) hpn [] ⟨Tryz.call89, fun W x hW => tV x g15 y.A y.l.length y.c W (hb15.frm hW jp)⟩) rfl ?_
 rintro e w9 ⟨rfl, hf9⟩
 refine ⟨_, rfl, ?_⟩
 have hb1 := hb1.frm hf9 jp
 have hb4 := hb4.frm hf9 jp
 have hb15 := hb15.frm hf9 jp
 have K := K.trans hf9 jp
 refine jO (jN (jv6 2 4 8 13 15 66 ?_))
 refine VC.condB rfl (fun hc4 => ?_) (fun hc4 => ?_)
 ·
  have hc4 : ∃ p ∈ ps, p < 1 ∨ ((y.l.length : Nat) : Int) < p := by simpa using hc4
  have hFe : eM m.p q ps t = .error 4 := by rw [hF, if_pos]; obtain ⟨p, h1, h2⟩ := hc4; exact ⟨p, h1, by show p < 1 ∨ ((Ms y.l).length : Int) < p; rw [hlen0]; exact h2⟩
  refine jS (jR (je (Run.build evs.nil qD (qW).choose_spec.1 (qW).choose_spec.2 rfl) ?_))
  refine Ops.st (qK.storeA rfl rfl zb hb4 rfl (MlC.cells_one qV)) ?_
  rintro wz ⟨hb4, (hfwz : Frm [g4] _ _), hswz⟩
  have hb4 : Blk wz g4 25 qV.cells.toArray := hb4
  have K := K.own hfwz (fun y hy => by rw [za] at hy; omega)
  refine ja rfl (jz 4 (jO (jN (jv3 8 9 10 ?_))))
  refine jT ?_
  refine qZ (bQ ?_)
  refine qH rfl zc zb (fun j v hj => hb4.cells j v hj) (by first | rfl | (simp; done)) ?_
  refine qN rfl ?_
  refine qN rfl ?_
  refine qP ?_
  exact ⟨qV, none, 0, [], 4, rfl, mH.err jd hFe, Kt.zero _ _ _, K⟩
 have hc4 : ¬ ∃ p ∈ ps, p < 1 ∨ ((y.l.length : Nat) : Int) < p := by simpa using hc4
 have hF2 : eM m.p q ps t = match cM z.p.2 (dU (Ms y.l) ps) with
   | .error e => .error e
   | .ok (b', us) => .ok ({ m.p with l := bK m.p.l (qQ t) b' }, us) := by
  rw [hF, if_neg]
  · rfl
  rintro ⟨p, h1, h2⟩
  rw [show y.p.2.l = Ms y.l from rfl, hlen0] at h2
  exact hc4 ⟨p, h1, h2⟩
 obtain ⟨ad, had, hel⟩ := elz _ K
 refine jQ (jN (jv5 2 4 8 13 15 ?_))
 refine jS (jR (jf rfl zh rfl zad (jl rfl zaz (hb1.cell 0) (jm rfl (je (Run.indexS kk (show _ = some (Value.slice (some ad) m.l.length m.c) by rw [← had]; rfl) rfl zf zt hkk) (jf rfl zag rfl zj (je (Run.loadA rfl zai zj (cs := BVc z.v z.n z.A z.l.length z.c) (fun j v hj => by rw [Go.Proofs.YtgmbmfpfhcekiaaGreat.add_add]; exact hel (1 + j) v (by rw [zem]; exact hj)) (by first | rfl | (simp; done))) ?_)))))))
 refine Ops.m (qJ.alloc bL) rfl ?_
 rintro _ w10 ⟨rfl, hF10⟩
 have hb16o := hF10.blk
 have hlt1 := hb1.lt
 have hlt4 := hb4.lt
 have hlt15 := hb15.lt
 have hKs10 := K.size
 have hb1 := hb1.frm hF10.frm jp
 have hb4 := hb4.frm hF10.frm jp
 have hb15 := hb15.frm hF10.frm jp
 have K := K.trans hF10.frm jp
 have hne16 : g1 ≠ w9.heap.size := jo
 have hne46 : g4 ≠ w9.heap.size := jo
 have hne156 : g15 ≠ w9.heap.size := jo
 generalize hg16 : w9.heap.size = g16 at hb16o hKs10 hne16 hne46 hne156 ⊢
 refine Ops.st (qK.storeA rfl rfl zj hb16o rfl (bU z.v z.n z.A z.l.length z.c)) ?_
 rintro w11 ⟨hbn, (hf11 : Frm [g16] _ _), hs11⟩
 have hb16 : Blk w11 g16 43 (BVc z.v z.n z.A z.l.length z.c).toArray := hbn
 have hb1 := hb1.frm hf11 (by simp; omega)
 have hb4 := hb4.frm hf11 (by simp; omega)
 have hb15 := hb15.frm hf11 (by simp; omega)
 have K := K.own hf11 (fun y hy => by rw [za] at hy; omega)
 refine jO (jN (jv6 2 4 8 13 15 16 ?_))
 refine jS (jR (ja rfl (jO (jN (jS (jS (jR (jm rfl (je (Run.lenS rfl zdn) ?_)))))))))
 refine jx .i64 0 ?_
 refine jO (jN (jv9 4 8 13 15 16 17 74 75 76 ?_))
 refine jB ?_
 refine VC.loop (σ := (Nat × Int × Int) × (Option Addr × Nat × List Mc) × (Option Addr × Nat × List Int)) (fun s => [(4, .pointer (some ⟨g1, 0, none⟩)), (8, .pointer (some ⟨g4, 0, none⟩)), (13, .int .i64 ((kk : Nat) : Int)), (15, .pointer (some ⟨g15, 0, none⟩)), (16, .pointer (some ⟨g16, 0, none⟩)), (17, .slice s.2.2.1 s.2.2.2.2.length s.2.2.2.1), (74, .slice P ps.length cp), (75, .int .i64 ((ps.length : Nat) : Int)), (76, .int .i64 ((s.1.1 : Nat) : Int))]) (fun s wr => s.1.1 ≤ ps.length ∧ Blk wr g1 25 #[.slice m.A m.l.length m.c, .slice m.S m.ss.length m.d, .int .i64 m.v, .int .i64 m.b] ∧ Blk wr g4 25 qV.cells.toArray ∧ Blk wr g15 41 #[.slice y.A y.l.length y.c] ∧ Blk wr g16 43 (BVc s.1.2.1 s.1.2.2 s.2.1.1 s.2.1.2.2.length s.2.1.2.1).toArray ∧ cO wr m s.2.1.1 s.2.1.2.1 s.2.1.2.2 ∧ s.2.1.2.2.length ≤ 900000 ∧ cM z.p.2 (dU (Ms y.l) (ps.take s.1.1)) = .ok (⟨s.1.2.1, s.1.2.2, Ms s.2.1.2.2⟩, s.2.2.2.2) ∧ Own wr 3 1 s.2.2.1 s.2.2.2.2.length s.2.2.2.1 (IB s.2.2.2.2) ∧ s.2.2.2.2.length = s.1.1 ∧ (∀ b ∈ ob s.2.2.1, w.heap.size ≤ b) ∧ Frm [] w wr) (fun s => ps.length - s.1.1) ((0, z.v, z.n), (z.A, z.c, z.l), (none, 0, [])) (js9 rfl rfl rfl rfl rfl rfl rfl rfl rfl) ⟨zal _, hb1, hb4, hb15, hb16, .inr ⟨z, hzm, rfl, rfl⟩, jo, rfl, Own.nil _ _ _, rfl, by simp [ob], K⟩ ?_
 rintro ⟨⟨i, v, n⟩, ⟨B, d, lm⟩, ⟨U, du, us⟩⟩ wr ⟨hi, hb1, hb4, hb15, hb16, hBF, hlm, hap, hou, hul, hob, K⟩
 dsimp only at *
 refine jS (jR (jb rfl rfl (Bin.lssN _ _) (jO (jN (jS ?_)))))
 refine jD rfl (fun hc5 => ?_) fun hc5 => ?_
 ·
  obtain ⟨adp, hadp, hcp⟩ := (hps.frm K jp).elem hc5
  have hcp := hcp 0 (.int .i64 ps[i]) (by simp [IB, hc5])
  have hpi : ¬ (ps[i] < 1 ∨ ((y.l.length : Nat) : Int) < ps[i]) := fun h => hc4 ⟨_, zm hc5, h⟩
  obtain ⟨pn, hpn1⟩ : ∃ pn : Nat, ps[i] = ((pn + 1 : Nat) : Int) := ⟨(ps[i] - 1).toNat, jo⟩
  have hpl2 : pn < y.l.length := jo
  rw [hpn1] at hcp
  have hsn := @yW (Ms y.l) ps i hc5
  have hsp := @wX (Ms y.l) ps i hc5
  have hgd : ((Ms y.l)[(ps[i] - 1).toNat]?).getD ⟨0, 0, 0, 0, 0, []⟩ = (y.l[pn]).m := by
   rw [hpn1, show (((pn + 1 : Nat) : Int) - 1).toNat = pn by omega]
   simp [Ms, ze hpl2]
  rw [hgd] at hsn hsp
  have hyA := (((hm.frm K).l.el _ hym).rd).fl _ (zm hpl2)
  obtain ⟨ady, hady, hely⟩ : ∃ ad, y.A = some ad ∧ ∀ W, Frm [] wr W → ∀ j v, (y.l[pn]).cells[j]? = some v → W.cell? ((ad.add (pn * 6)).add j) = some v := by
   obtain ⟨ad, hA, _⟩ := ((hm.frm K).l.el _ hym).rd.elem hpl2
   refine ⟨ad, hA, fun W hW => ?_⟩
   obtain ⟨ad', hA', h⟩ := ((hm.frm (K.trans hW jp)).l.el _ hym).rd.elem hpl2
   rw [hA] at hA'
   cases hA'
   exact h
  refine jQ (jN (jv9 4 8 13 15 16 17 74 75 76 ?_))
  refine jS (jB (jS (jR (je (Run.indexS i (show _ = some (Value.slice (some adp) ps.length cp) by rw [← hadp]; rfl) rfl zdn zk hc5) (jl rfl zu hcp (ja rfl (jO (jN (jv10 4 8 13 15 16 17 19 74 75 76 ?_)))))))))
  refine jS ?_
  refine VC.held (fun W => Frm [] wr W) jK ?_
  have hS : Frm [] wr wr.drew := (Frm.refl _ _).drew
  refine jH 0 rfl hS (fun w0 hw0 => Run.loadA rfl zai zj (fun j v hj => (hb16.frm hw0 jp).cells j v hj) (by first | rfl | (simp; done))) ?_
  refine jH 1 rfl hS (fun w0 hw0 => Run.load rfl zbf ((hb15.frm hw0 jp).cell 0)) ?_
  refine jH 2 rfl hS (fun w0 hw0 => Run.mv rfl) ?_
  refine jH 3 rfl hS (fun w0 hw0 => Run.bin rfl rfl (Bin.sub_i64 _ 1 jo jo)) ?_
  rw [Nat.add_sub_cancel]
  refine jH 4 rfl hS (fun w0 hw0 => Run.indexS pn (show _ = some (Value.slice (some ady) y.l.length y.c) by rw [← hady]; rfl) rfl zx zan hpl2) ?_
  refine jH 5 rfl hS (fun w0 hw0 => Run.loadA rfl zcr zan (fun j v hj => hely _ hw0 j v hj) (by first | rfl | (simp; done))) ?_
  refine qS.par (target := #[true, true, true, true, true, true, true, true, true, true, true, true, false, false, false]) [⟨6, 87, [], false, fun _ u lo hi W => ∃ v' n' B d l' k', u = .tuple #[.agg #[.int .i64 v', .int .i64 n', .slice B l'.length d], .int .i64 (if k' = 0 then n else 0), .int .i64 ((k' : Nat) : Int)] ∧ fC W (bT ⟨v, n, Ms lm⟩ (y.l[pn]).m) v' n' B d l' k' ∧ OwM W B d l'⟩, PT.mv 7 80 87 [], PT.part 8 88 80 0 [87], PT.part 9 89 80 1 [87], PT.part 10 90 80 2 [87], PT.made 11 20 43 #[.int .i64 0, .int .i64 0, .slice none 0 0]] 6 rfl jK (show List.Nodup ([87, 80, 88, 89, 90, 20] : List Nat) by decide) (show List.Nodup ([6, 7, 8, 9, 10, 11] : List Nat) by decide) (fun t ht => ?_) (fun t ht => ?_) (fun W hW => ?_) (fun t ht => ?_) (fun t ht => ?_) (fun t ht W g hW hD hE => ?_) (fun g W hW hA => ?_)
  ·
   simp only [zy, zaa, or_false] at ht
   rcases ht with rfl | rfl | rfl | rfl | rfl | rfl
   · rfl
   · rfl
   · rfl
   · rfl
   · rfl
   rfl
  ·
   simp only [zy, zaa, or_false] at ht
   rcases ht with rfl | rfl | rfl | rfl | rfl | rfl
   · exact fun x hx => absurd hx jp
   ·
    intro x hx
    simp only [zy, zaa, or_false] at hx
    rcases hx with rfl
    exact ⟨_, (.head _), rfl⟩
   ·
    intro x hx
    simp only [zy, zaa, or_false] at hx
    rcases hx with rfl | rfl
    · exact ⟨_, (.tail _ (.head _)), rfl⟩
    exact ⟨_, (.head _), rfl⟩
   ·
    intro x hx
    simp only [zy, zaa, or_false] at hx
    rcases hx with rfl | rfl
    · exact ⟨_, (.tail _ (.head _)), rfl⟩
    exact ⟨_, (.head _), rfl⟩
   ·
    intro x hx
    simp only [zy, zaa, or_false] at hx
    rcases hx with rfl | rfl
    · exact ⟨_, (.tail _ (.head _)), rfl⟩
    exact ⟨_, (.head _), rfl⟩
   exact fun x hx => absurd hx jp
  · exact hS.trans hW jp
  ·
   simp only [zy, zaa, or_false] at ht
   rcases ht with rfl | rfl | rfl | rfl | rfl | rfl
   · exact fun _ v lo hi W W' hf ⟨v', n', B, d, l', k', h1, h2, h3⟩ => ⟨v', n', B, d, l', k', h1, ⟨h2.1.frm hf, h2.2⟩, h3.frm hf⟩
   · exact fun _ _ _ _ _ _ _ h => h
   · exact fun _ _ _ _ _ _ _ h => h
   · exact fun _ _ _ _ _ _ _ h => h
   · exact fun _ _ _ _ _ _ _ h => h
   exact PT.made_st
  ·
   simp only [zy, zaa, or_false] at ht
   rcases ht with rfl | rfl | rfl | rfl | rfl | rfl
   · exact fun _ _ _ _ _ _ _ h => h
   · exact fun ρ ρ' v lo hi W h e => e.trans (h _ (.head _))
   · exact fun ρ ρ' v lo hi W h ⟨xs, h1, h2⟩ => ⟨xs, (h _ (.head _)).symm.trans h1, h2⟩
   · exact fun ρ ρ' v lo hi W h ⟨xs, h1, h2⟩ => ⟨xs, (h _ (.head _)).symm.trans h1, h2⟩
   · exact fun ρ ρ' v lo hi W h ⟨xs, h1, h2⟩ => ⟨xs, (h _ (.head _)).symm.trans h1, h2⟩
   exact fun _ _ _ _ _ _ _ h => h
  ·
   simp only [zy, zaa, or_false] at ht
   rcases ht with rfl | rfl | rfl | rfl | rfl | rfl
   ·
    refine cU.cl rfl rfl rfl rfl rfl (jE2 Tryz.call85) (nQ v n B d lm y.l[pn] W ((hBF.frm (hS.trans hW jp)).rdm (hm.frm (K.trans (hS.trans hW jp) jp))) hlm (hyA.frm (hS.trans hW jp) jp)) ?_
    rintro e W' ⟨hf, v', n', B, d, l', k', rfl, h2, h3⟩
    exact ⟨_, rfl, hf, v', n', B, d, l', k', rfl, h2, h3⟩
   · exact cU.r rfl rfl rfl rfl (fun _ => Run.mv rfl) rfl
   ·
    have h1 := hD _ (.tail _ (.head _)) jp
    have h2 := hD _ (.head _) jp
    obtain ⟨v', n', B, d, l', k', h2e, _⟩ := h2
    exact cU.r rfl rfl rfl rfl (fun _ => Run.extract (congrArg some (h1.trans h2e)) rfl) ⟨_, h1.trans h2e, rfl⟩
   ·
    have h1 := hD _ (.tail _ (.head _)) jp
    have h2 := hD _ (.head _) jp
    obtain ⟨v', n', B, d, l', k', h2e, _⟩ := h2
    exact cU.r rfl rfl rfl rfl (fun _ => Run.extract (congrArg some (h1.trans h2e)) rfl) ⟨_, h1.trans h2e, rfl⟩
   ·
    have h1 := hD _ (.tail _ (.head _)) jp
    have h2 := hD _ (.head _) jp
    obtain ⟨v', n', B, d, l', k', h2e, _⟩ := h2
    exact cU.r rfl rfl rfl rfl (fun _ => Run.extract (congrArg some (h1.trans h2e)) rfl) ⟨_, h1.trans h2e, rfl⟩
   exact PT.made_ok rfl rfl bL
  have hA87 := hA.1 _ (.head _)
  have hA80 := hA.1 _ (.tail _ (.head _))
  have hA88 := hA.1 _ (.tail _ (.tail _ (.head _)))
  have hA89 := hA.1 _ (.tail _ (.tail _ (.tail _ (.head _))))
  have hA90 := hA.1 _ (.tail _ (.tail _ (.tail _ (.tail _ (.head _)))))
  have hA20 := hA.1 _ (.tail _ (.tail _ (.tail _ (.tail _ (.tail _ (.head _))))))
  have hA87_20 := hA.2 _ (.head _) _ (.tail _ (.tail _ (.tail _ (.tail _ (.tail _ (.head _)))))) (show (87 : Nat) ≠ 20 by decide)
  clear hA
  simp only [zap, zct, zdd, zbg]
  dsimp only at hA87 hA80 hA88 hA89 hA90 hA20 hA87_20
  generalize g 87 = q87 at *
  obtain ⟨u87, lo87, hi87⟩ := q87
  generalize g 80 = q80 at *
  obtain ⟨u80, lo80, hi80⟩ := q80
  generalize g 88 = q88 at *
  obtain ⟨u88, lo88, hi88⟩ := q88
  generalize g 89 = q89 at *
  obtain ⟨u89, lo89, hi89⟩ := q89
  generalize g 90 = q90 at *
  obtain ⟨u90, lo90, hi90⟩ := q90
  generalize g 20 = q20 at *
  obtain ⟨u20, lo20, hi20⟩ := q20
  dsimp only at hA87 hA80 hA88 hA89 hA90 hA20 hA87_20 ⊢
  obtain ⟨⟨⟨rfl, hlt20⟩, hb20⟩, hA20⟩ := hA20
  obtain ⟨v', n', B', d', l', k', rfl, hI, hO⟩ := hA87.1
  have hS := hS.trans hW jp
  change wr.heap.size ≤ _ ∧ _ at hA20
  clear hA87
  obtain rfl := hA80.1
  obtain ⟨xs88, e1_88, e2_88⟩ := hA88.1
  injection e1_88 with e1_88
  subst e1_88
  have e2_88 := Option.some.inj e2_88
  subst e2_88
  obtain ⟨xs89, e1_89, e2_89⟩ := hA89.1
  injection e1_89 with e1_89
  subst e1_89
  have e2_89 := Option.some.inj e2_89
  subst e2_89
  obtain ⟨xs90, e1_90, e2_90⟩ := hA90.1
  injection e1_90 with e1_90
  subst e1_90
  have e2_90 := Option.some.inj e2_90
  subst e2_90
  have hbo := hb20
  refine qS.st 12 rfl jK (qK.storeA rfl rfl zj hb20 rfl (bU v' n' B' l'.length d')) trivial rfl ?_
  rintro w12 ⟨hbn, (hf_w12 : Frm [lo20] _ _), hs_w12⟩
  have hb20 : Blk w12 lo20 43 (BVc v' n' B' l'.length d').toArray := hbn
  have hO := hO.blk hf_w12 hbo jd jd
  have hS := hS.own hf_w12 (fun y hy => by rw [za] at hy; omega)
  refine ⟨hS, ?_⟩
  have h16l := hb16.lt
  have hb1 := hb1.frm hS jp
  have hb4 := hb4.frm hS jp
  have hb15 := hb15.frm hS jp
  have hb16 := hb16.frm hS jp
  have hou := hou.frm hS jp
  have hKr := K.size
  have K := K.trans hS jp
  refine jH 13 rfl hS (fun w0 hw0 => Run.asg rfl) ?_
  refine jH 14 rfl hS (fun w0 hw0 => Run.asg rfl) ?_
  refine qS.done jK ?_
  refine jN (jv12 4 8 13 15 16 17 20 21 22 74 75 76 ?_)
  refine jS (jS (jR (jm rfl (jb rfl rfl (Bin.neqN _ 0) (jO (jN (jv13 4 8 13 15 16 17 20 21 22 74 75 76 92 ?_)))))))
  refine jD rfl (fun hc6 => ?_) fun hc6 => ?_
  ·
   have hc6 : k' ≠ 0 := by simpa using hc6
   have hFe : eM m.p q ps t = .error k' := by
    rw [hF2]
    obtain ⟨_, ⟨h, _⟩ | ⟨_, h, _⟩⟩ := hI
    · exact absurd h hc6
    rw [hsp, yV hap h]
   refine jS (jR (je (Run.build evs.nil qD (qW).choose_spec.1 (qW).choose_spec.2 rfl) (jM ?_)))
   refine Ops.st (qK.storeA rfl rfl zb hb4 rfl (MlC.cells_one qV)) ?_
   rintro wz ⟨hb4, (hfwz : Frm [g4] _ _), hswz⟩
   have hb4 : Blk wz g4 25 qV.cells.toArray := hb4
   have K := K.own hfwz (fun y hy => by rw [za] at hy; omega)
   refine ja rfl (ja rfl (jO (jN (jv3 8 9 10 ?_))))
   refine jT ?_
   refine qZ (qC (qZ (qZ (qC (qZ (bQ ?_))))))
   refine qH rfl zc zb (fun j v hj => hb4.cells j v hj) (by first | rfl | (simp; done)) ?_
   refine qN rfl ?_
   refine qN rfl ?_
   refine qP ?_
   exact ⟨qV, none, 0, [], k', rfl, mH.err hc6 hFe, Kt.zero _ _ _, K⟩
  obtain rfl : k' = 0 := by simpa using hc6
  have hlb := hI.len27
  have hap' : cM z.p.2 (dU (Ms y.l) (ps.take (i + 1))) = .ok (⟨v', n', Ms l'⟩, us ++ [n]) := by
   obtain ⟨_, ⟨_, h⟩ | ⟨h, _⟩⟩ := hI
   · rw [hsn, wQ hap h]
   exact absurd rfl h
  have hb20u := hou.ne_blk hb20 jd
  have hb20n : lo20 ≠ g16 := fun e => by have := hA20.1; omega
  refine jQ (jN (jv11 4 8 13 15 16 17 20 21 74 75 76 ?_))
  refine VC.held (fun W => Blk W lo20 43 (BVc v' n' B' l'.length d').toArray) jK ?_
  have hd0 := (bJ.drew w12).frm
  have hS := hb20.frm hd0 jp
  have hb1 := hb1.frm hd0 jp
  have hb4 := hb4.frm hd0 jp
  have hb15 := hb15.frm hd0 jp
  have hb16 := hb16.frm hd0 jp
  have hou := hou.frm hd0 jp
  have hO := hO.frm hd0
  have K := K.trans hd0 jp
  refine jH 0 rfl hS (fun w0 hw0 => Run.loadA rfl zai zj (fun j v hj => hw0.cells j v hj) (by first | rfl | (simp; done))) ?_
  refine jH 1 rfl hS (fun w0 hw0 => Run.mv rfl) ?_
  refine jH 2 rfl hS (fun w0 hw0 => Run.mv rfl) ?_
  refine qS.m 3 rfl jK (qJ.buildS1 rfl zdn zk uW jd jd rfl rfl) trivial rfl rfl ?_
  rintro _ w13 ⟨rfl, hF13⟩
  have hr13 : Rd w13 1 (some ⟨w12.heap.size, 0, none⟩) 1 (IB [n]) := Rd.of_blk (n := 1) (size := 1) hF13.blk rfl
  have hf13 := hF13.frm
  have hS := hS.frm hf13 jp
  refine ⟨hS, ?_⟩
  have hb1 := hb1.frm hf13 jp
  have hb4 := hb4.frm hf13 jp
  have hb15 := hb15.frm hf13 jp
  have hb16 := hb16.frm hf13 jp
  have hou := hou.frm hf13 jp
  have hO := hO.frm hf13
  have K := K.trans hf13 jp
  have hK13 := K.size
  refine qS.m 4 rfl jK (qJ.app rfl rfl zdn (qZq) rfl jd hou hr13 (qXw _) jo jo) trivial rfl rfl ?_
  rintro _ w14 ⟨U6, du6, rfl, ho6, hf14, hob6⟩
  rw [← qXv] at ho6
  have hS := hS.frm hf14 (hou.ne_blk hS jd)
  refine ⟨hS, ?_⟩
  have hb1 := hb1.frm hf14 (hou.ne_blk hb1 jd)
  have hb4 := hb4.frm hf14 (hou.ne_blk hb4 jd)
  have hb15 := hb15.frm hf14 (hou.ne_blk hb15 jd)
  have hb16 := hb16.frm hf14 (hou.ne_blk hb16 jd)
  have hO := hO.offO hf14 hou jd jd
  have K := K.own hf14 hob
  have hob6 : ∀ b ∈ ob U6, w.heap.size ≤ b := fun b hb => by
   rcases hob6 with h | h
   · rw [h] at hb; exact hob b hb
   rw [h, za] at hb; omega
  have hb16o := hb16
  have hx16 := ho6.ne_blk hb16 jd
  refine qS.st 5 rfl jK (qK.storeA rfl rfl zj hb16 rfl (bU v' n' B' l'.length d')) trivial rfl ?_
  rintro w15 ⟨hbn, (hf15 : Frm [g16] _ _), hs15⟩
  have hb16 : Blk w15 g16 43 (BVc v' n' B' l'.length d').toArray := hbn
  have hS := hS.frm hf15 (by simp; omega)
  refine ⟨hS, ?_⟩
  have hb1 := hb1.frm hf15 (by simp; omega)
  have hb4 := hb4.frm hf15 (by simp; omega)
  have hb15 := hb15.frm hf15 (by simp; omega)
  have hO := hO.blk hf15 hb16o jd jd
  have ho6 := ho6.frm hf15 (fun y hy h => by rw [za] at h; subst h; exact hx16 hy)
  have K := K.own hf15 (fun y hy => by rw [za] at hy; omega)
  refine jH 6 rfl hS (fun w0 hw0 => Run.asg rfl) ?_
  refine qS.done jK ?_
  refine qR (jN ?_)
  refine jv9 4 8 13 15 16 17 74 75 76 ?_
  refine jR (jb rfl rfl (Bin.add_i64 _ 1 jo) (jm rfl (jO ?_)))
  refine jN ⟨((i + 1, v', n'), (B', d', l'), (U6, du6, us ++ [n])), (js9 rfl rfl rfl rfl rfl (by rw [zi]; rfl) rfl rfl rfl), ?_, ?_⟩
  · refine ⟨hc5, hb1, hb4, hb15, hb16, .inl hO, by dsimp only; omega, hap', by rw [zi]; exact ho6, by rw [zi, hul]; rfl, hob6, K⟩
  first | omega | (dsimp only; omega)
 obtain rfl : i = ps.length := jo
 rw [zay] at hap
 have hFo : eM m.p q ps t = .ok ({ m.p with l := bK m.p.l (qQ t) ⟨v, n, Ms lm⟩ }, us) := by rw [hF2, hap]
 refine jX ?_
 refine qT (qT (bZ ?_))
 refine jN (jv5 4 8 13 16 17 ?_)
 refine jS (jR (je (Run.loadA rfl zc zb hb1.cells (by first | rfl | (simp; done))) (jm rfl (je (Run.loadA rfl zai zj (fun j v hj => hb16.cells j v hj) (by first | rfl | (simp; done))) ?_))))
 refine Ops.cl (jE3 Tryz.call86) (jW m kk v n B d lm _ (hm.frm K) hkk (hBF.rdm (hm.frm K)) hlm) rfl ?_
 rintro e w16 ⟨A', c', rfl, hoA, hobA, hf16⟩
 refine ⟨_, rfl, ?_⟩
 have hKs := K.size
 have hobA : ∀ b ∈ ob A', w.heap.size ≤ b := fun b hb => zar hKs (hobA b hb)
 have hb4 := hb4.frm hf16 jp
 have hBF := hBF.frm hf16
 have hou := hou.frm hf16 jp
 have K := K.trans hf16 jp
 have hb40 := hb4
 have hx4 := hoA.ne_blk hb4 jd
 have hu4 := hou.ne_blk hb4 jd
 refine jM ?_
 refine Ops.st (qK.storeA rfl rfl zb hb4 rfl (MlC.cells_one _)) ?_
 rintro w17 ⟨hb4, (hf17 : Frm [g4] _ _), hs17⟩
 have hoA := hoA.frm hf17 (fun y hy h => by rw [za] at h; subst h; exact hx4 hy)
 have hou := hou.frm hf17 (fun y hy h => by rw [za] at h; subst h; exact hu4 hy)
 have hBF := hBF.blk hf17 hb40 jd jd
 have K := K.own hf17 (fun y hy => by rw [za] at hy; omega)
 have hkt := qXu (w := w) (v := v) (n := n) (b := m.b) hkk hBF hlm hoA hobA
 refine ja rfl (jz 0 (jO (jN (jv3 8 9 10 ?_))))
 refine jT ?_
 refine bQ ?_
 refine qH rfl zc zb (fun j v hj => hb4.cells j v hj) (by first | rfl | (simp; done)) ?_
 refine qN rfl ?_
 refine qN rfl ?_
 refine qP ?_
 refine ⟨_, U, du, us, 0, rfl, ⟨hkt _ [] (Frm.refl _ _) jp (hm.frm K), hou.rd, jo, .inl ⟨rfl, ?_⟩⟩, hkt, K⟩
 rw [hFo, ← lN hr hposkk hkk (by rw [hz]; exact hkke)]
 rfl
end
section
open Go.RowKit Go.Sort
def gJ (w0 w : World) (m : MlC) (B : Option Addr) (d : Nat) (lm : List Mc) : Prop := (Own w 60 6 B lm.length d (MC lm) ∨ ∃ x ∈ m.l, x.A = B ∧ x.l = lm) ∧ ∀ y ∈ lm, y.At w0
theorem gJ.frm {w0 w w' : World} {S : List Nat} {m : MlC} {B : Option Addr} {d : Nat} {lm : List Mc} (h : gJ w0 w m B d lm) (k : Frm S w w') (hS : ∀ e, 60 = e → ∀ y ∈ S, ∀ cs, ¬ Blk w y e cs) : gJ w0 w' m B d lm := by
 refine ⟨?_, h.2⟩
 rcases h.1 with h | h
 ·
  refine .inl (h.frm k (fun y hy hyS => ?_))
  rcases h.cases with ⟨h0, _⟩ | ⟨g, cur, h0, hbb, _⟩
  · rw [h0] at hy; simp [ob] at hy
  rw [h0] at hy
  simp only [ob, za] at hy
  subst hy
  exact hS _ rfl _ hyS _ hbb
 exact .inr h
theorem gJ.nil {w0 w w' : World} {m : MlC} {B : Option Addr} {d : Nat} {lm : List Mc} (h : gJ w0 w m B d lm) (k : Frm [] w w') : gJ w0 w' m B d lm := h.frm k (fun _ _ _ hy => by cases hy)
theorem gJ.blk {w0 w w' : World} {m : MlC} {B : Option Addr} {d g : Nat} {lm : List Mc} {t : TypeId} {cs : Array Value} (h : gJ w0 w m B d lm) (k : Frm [g] w w') (hb : Blk w g t cs) (h1 : 60 ≠ t) : gJ w0 w' m B d lm :=
 h.frm k (fun e he y hy cs2 hb2 => by rw [za] at hy; subst hy; exact hb.ne hb2 (fun h => h1 (he.trans h.symm)) rfl)
theorem gJ.own {w0 w w' : World} {m : MlC} {B C : Option Addr} {d size n c : Nat} {lm : List Mc} {e : TypeId} {xs : List Value} (h : gJ w0 w m B d lm) (k : Frm (ob C) w w') (hC : Own w e size C n c xs) (h1 : e ≠ 60) : gJ w0 w' m B d lm :=
 h.frm k (fun e2 he y hy cs2 hb2 => hC.ne_blk hb2 (fun h => h1 (h.trans he.symm)) hy)
end
section
open Go.RowKit
def yY (v b : Int) (x : NmP) : Prop := bR x.2 ∧ x.2.valid ≤ v ∧ ∀ y ∈ x.2.l, (y.blob : Int) ≤ b
theorem yG {l : List Tx} (h : l.Pairwise (· < ·)) : ∀ i (hi : i < l.length), 0 < i → (l[i - 1]?).getD [] < l[i] := by
 intro i hi h0
 rw [ze jo]
 exact zbv.1 h (i - 1) i jo hi jo
theorem gH (l : List Tx) : cL l ↔ l.length ≤ 24 ∧ l.Pairwise (· < ·) ∧ ∀ s ∈ l, eX s := by
 constructor
 ·
  rintro ⟨h1, h2⟩
  refine ⟨h1, kL fun i hi h0 => (h2 i hi).2 h0, fun s hs => ?_⟩
  obtain ⟨i, hi, rfl⟩ := zo hs
  exact (h2 i hi).1
 rintro ⟨h1, h2, h3⟩
 exact ⟨h1, fun i hi => ⟨h3 _ (zm hi), yG h2 i hi⟩⟩
theorem bP (m : MailP) : qI m ↔ (m.l.length ≤ 24 ∧ bW m.l ∧ (∀ x ∈ m.l, eX x.1) ∧ ∃ x ∈ m.l, x.1 = qF) ∧ (∀ x ∈ m.l, yY m.valid m.blob x) ∧ (m.l.map fun x => x.2.valid).Pairwise (· ≠ ·) ∧ cL m.subs ∧ 1 ≤ m.valid ∧ m.valid ≤ 2147483647 ∧ 0 ≤ m.blob ∧ m.blob ≤ 2147483647 := by
 unfold qI cK
 rw [gH (qB m)]
 constructor
 ·
  rintro ⟨⟨⟨h1, h2, h3⟩, h4, h5, h6, h7, h8, h9⟩, hb⟩
  refine ⟨⟨by simpa [qB] using h1, h2, fun x hx => h3 _ (zbo hx), ?_⟩, fun x hx => ?_, ?_, h4, h5, h6, h7, h8⟩
  ·
   obtain ⟨x, hx, e⟩ := List.mem_map.1 h9
   exact ⟨x, hx, e⟩
  ·
   obtain ⟨i, hi, rfl⟩ := zo hx
   obtain ⟨k1, k2, _, k4⟩ := hb i hi
   exact ⟨k1, k2, k4⟩
  rw [zee, zbv]
  intro i j hi hj hij
  have := (hb j hj).2.2.1 m.l[i] (List.mem_iff_getElem.2 ⟨i, by rw [zg]; omega, zcb⟩)
  exact this
 rintro ⟨⟨h1, h2, h3, x, hx, hxe⟩, hb, hd, h4, h5, h6, h7, h8⟩
 refine ⟨⟨⟨by simpa [qB] using h1, h2, fun s hs => ?_⟩, h4, h5, h6, h7, h8, List.mem_map.2 ⟨x, hx, hxe⟩⟩, fun i hi => ?_⟩
 ·
  obtain ⟨y, hy, rfl⟩ := List.mem_map.1 hs
  exact h3 y hy
 obtain ⟨k1, k2, k4⟩ := hb _ (zm hi)
 refine ⟨k1, k2, fun y hy => ?_, k4⟩
 obtain ⟨j, hj, rfl⟩ := zo hy
 rw [zg] at hj
 rw [zcb]
 rw [zee, zbv] at hd
 exact hd j i jo hi jo
theorem lP {l : List NmP} {t : Tx} {b : BoxV} {x : NmP} (h : x ∈ bK l t b) : x = (t, b) ∨ (x ∈ l ∧ x.1 ≠ t) := by
 unfold bK at h
 rcases List.mem_append.1 h with h | h
 ·
  obtain ⟨h1, h2⟩ := List.mem_filter.1 h
  exact .inr ⟨h1, fun e => bH t (by rw [e] at h2; exact of_decide_eq_true h2)⟩
 rcases zy.1 h with h | h
 · exact .inl h
 obtain ⟨h1, h2⟩ := List.mem_filter.1 h
 exact .inr ⟨h1, fun e => bH t (by rw [e] at h2; exact of_decide_eq_true h2)⟩
theorem qQk {l : List NmP} {t : Tx} {b : BoxV} {x : NmP} (h : x ∈ l) (hn : x.1 ≠ t) : x ∈ bK l t b := by
 unfold bK
 by_cases h1 : x.1 < t
 · exact zcx _ (List.mem_filter.2 ⟨h, by simpa using h1⟩)
 refine zcl _ (zce _ (List.mem_filter.2 ⟨h, decide_eq_true ?_⟩))
 rcases Classical.em (t < x.1) with h2 | h2
 · exact h2
 exact absurd (kY h1 h2) hn
theorem pC {l : List NmP} {t : Tx} {b : BoxV} : (t, b) ∈ bK l t b := by
 unfold bK
 exact zcl _ (zdf ..)
theorem sX (l : List NmP) (t : Tx) (b : BoxV) : (bK l t b).length + (l.filter (fun x => decide (x.1 = t))).length = l.length + 1 := by
 induction l with
 | nil => rfl
 | cons x r ih =>
  unfold bK at *
  rw [zi, zat] at *
  simp only [zcg]
  by_cases h1 : x.1 < t
  ·
   have h2 : ¬ t < x.1 := fun h => bH _ (cH h1 h)
   have h3 : ¬ x.1 = t := fun e => bH t (by rw [e] at h1; exact h1)
   simp only [h1, h2, h3, decide_true, decide_false, if_true, zbk, if_false, zat]
   omega
  by_cases h2 : t < x.1
  ·
   have h3 : ¬ x.1 = t := fun e => bH t (by rw [e] at h2; exact h2)
   simp only [h1, h2, h3, decide_true, decide_false, if_true, zbk, if_false, zat]
   omega
  have h3 : x.1 = t := kY h1 h2
  subst h3
  simp only [h1, decide_true, decide_false, if_true, zbk, if_false, zat]
  omega
theorem fN (l : List NmP) (t : Tx) (b : BoxV) : (bK l t b).length ≤ l.length + 1 := by
 have := sX l t b
 omega
theorem fP {l : List NmP} {t : Tx} {b : BoxV} (h : t ∈ l.map Prod.fst) : (bK l t b).length ≤ l.length := by
 have := sX l t b
 obtain ⟨x, hx, e⟩ := List.mem_map.1 h
 have h1 : 0 < (l.filter (fun x => decide (x.1 = t))).length := List.length_pos_of_mem (List.mem_filter.2 ⟨hx, decide_eq_true e⟩)
 omega
theorem fF {m : MailP} (h : qI m) {t : Tx} {b : BoxV} {v' bl' : Int} (ht : eX t) (hlen : (bK m.l t b).length ≤ 24) (hv : m.valid ≤ v') (hv2 : v' ≤ 2147483647) (hbl : m.blob ≤ bl') (hbl2 : bl' ≤ 2147483647) (hb : yY v' bl' (t, b)) (hf : ∀ x ∈ m.l, x.1 ≠ t → x.2.valid ≠ b.valid) : qI { m with l := bK m.l t b, valid := v', blob := bl' } := by
 obtain ⟨⟨h1, h2, h3, x, hx, hxe⟩, hb0, hd, h4, h5, h6, h7, h8⟩ := (bP m).1 h
 refine (bP _).2 ⟨⟨hlen, gW h2, fun y hy => ?_, ?_⟩, fun y hy => ?_, ?_, h4, by dsimp only; omega, hv2, by dsimp only; omega, hbl2⟩
 ·
  rcases lP hy with rfl | ⟨h, _⟩
  · exact ht
  exact h3 y h
 ·
  by_cases e : x.1 = t
  · exact ⟨_, pC, by rw [← e]; exact hxe⟩
  exact ⟨x, qQk hx e, hxe⟩
 ·
  rcases lP hy with rfl | ⟨h, _⟩
  · exact hb
  obtain ⟨k1, k2, k3⟩ := hb0 y h
  exact ⟨k1, by dsimp only; omega, fun z hz => by have := k3 z hz; dsimp only; omega⟩
 dsimp only
 rw [zee]
 unfold bK
 rw [zee] at hd
 have hlo : ∀ y ∈ m.l.filter (fun x => decide (x.1 < t)), y ∈ m.l ∧ y.1 ≠ t := fun y hy => by
  obtain ⟨q1, q2⟩ := List.mem_filter.1 hy
  exact ⟨q1, fun e => bH t (by rw [e] at q2; exact of_decide_eq_true q2)⟩
 have hhi : ∀ y ∈ m.l.filter (fun x => decide (t < x.1)), y ∈ m.l ∧ y.1 ≠ t := fun y hy => by
  obtain ⟨q1, q2⟩ := List.mem_filter.1 hy
  exact ⟨q1, fun e => bH t (by rw [e] at q2; exact of_decide_eq_true q2)⟩
 refine List.pairwise_append.2 ⟨hd.sublist zci, List.pairwise_cons.2 ⟨fun y hy e => hf y (hhi y hy).1 (hhi y hy).2 e.symm, hd.sublist zci⟩, fun a ha c hc => ?_⟩
 rcases zy.1 hc with rfl | hc
 · exact hf a (hlo a ha).1 (hlo a ha).2
 intro e
 have hac : a = c := by
  obtain ⟨i, hi, rfl⟩ := zo (hlo a ha).1
  obtain ⟨j, hj, rfl⟩ := zo (hhi c hc).1
  rw [zbv] at hd
  rcases zes i j with h | h | h
  · exact absurd e (hd i j hi hj h)
  · subst h; rfl
  exact absurd e.symm (hd j i hj hi h)
 have l1 : a.1 < t := of_decide_eq_true (List.mem_filter.1 ha).2
 have l2 : t < c.1 := of_decide_eq_true (List.mem_filter.1 hc).2
 rw [hac] at l1
 exact bH _ (cH l1 l2)
theorem tF {m : MailP} (h : qI m) {l : List NmP} (hs : l.Sublist m.l) (hi : ∃ x ∈ l, x.1 = qF) : qI { m with l := l } := by
 obtain ⟨⟨h1, h2, h3, _⟩, hb0, hd, h4, h5, h6, h7, h8⟩ := (bP m).1 h
 exact (bP _).2 ⟨⟨zar hs.length_le h1, h2.sublist (hs.map _), fun y hy => h3 y (hs.subset hy), hi⟩, fun y hy => hb0 y (hs.subset hy), hd.sublist (hs.map _), h4, h5, h6, h7, h8⟩
theorem nW {m : MailP} (h : qI m) : ∀ x ∈ m.l, x.2.valid ≠ m.valid + 1 := fun x hx => by
 have := ((bP m).1 h).2.1 x hx
 have := this.2.1
 omega
theorem qQl {v : Int} (h1 : 1 ≤ v) (h2 : v ≤ 2147483647) : bR ⟨v, 1, []⟩ := ⟨⟨h1, h2, zbu 1, by show (1 : Int) ≤ 2147483648; decide, zal _⟩, fun j h => absurd h (Nat.not_lt_zero _)⟩
theorem yH {m : MailP} (h : qI m) {x : Tx} (hx : isN x) (h24 : m.l.length + 1 ≤ 24) (hv : m.valid + 1 ≤ 2147483647) : qI (bO m x) := by
 have hr := ((bP m).1 h).2.2.2.2
 refine fF h (v' := m.valid + 1) (bl' := m.blob) ⟨(eC x).2 hx, eO x⟩ (zar (fN _ _ _) h24) jo hv (zbu _) hr.2.2.2 ⟨qQl jo hv, zbu _, fun y hy => by cases hy⟩ (fun y hy _ => nW h y hy)
theorem yM (m : MailP) (x : Tx) : (bO m x).l.length ≤ m.l.length + 1 := fN _ _ _
theorem jL (m : MailP) (x : Tx) : (bO m x).valid = m.valid + 1 := rfl
theorem pD : ∀ (ns : List Tx) (m : MailP), qI m → (∀ x ∈ ns, isN x) → m.l.length + ns.length ≤ 24 → m.valid + (ns.length : Int) ≤ 2147483647 →
  qI (ns.foldl bO m) ∧ (ns.foldl bO m).valid = m.valid + (ns.length : Int) ∧ (ns.foldl bO m).blob = m.blob ∧ (ns.foldl bO m).l.length ≤ m.l.length + ns.length
 | [], m, h, _, _, _ => ⟨h, jp, rfl, jp⟩
 | x :: ns, m, h, hn, h1, h2 => by
  simp only [zat] at h1 h2 ⊢
  have hf := yM m x
  obtain ⟨k1, k2, k3, k4⟩ := pD ns (bO m x) (yH h (hn x (zdf ..)) jo jo) (fun y hy => hn y (zce _ hy)) jo (by rw [jL]; omega)
  rw [jL] at k2
  refine ⟨k1, by rw [zek, k2]; omega, k3, by rw [zek]; omega⟩
theorem sZ {s : Tx} (h : isN s) (h0 : upN s ≠ []) : isN (upN s) := by
 have hu : upN s = (fW (qQ s)).getD [] := by unfold upN; rw [if_pos h]
 obtain ⟨h1, h2, h3, h4, h5, h6⟩ := (eC s).2 h
 rcases Classical.em (∃ i : Nat, (qQ s)[i]? = some 47) with he | he
 ·
  obtain ⟨i, hi, hl⟩ : ∃ i : Nat, (qQ s)[i]? = some 47 ∧ ∀ j : Nat, i < j → (qQ s)[j]? ≠ some 47 := by
   obtain ⟨i, hi⟩ := he
   have hlt := (List.getElem?_eq_some_iff.1 hi).1
   have key : ∀ k i : Nat, (qQ s).length - i ≤ k → (qQ s)[i]? = some 47 → ∃ i : Nat, (qQ s)[i]? = some 47 ∧ ∀ j : Nat, i < j → (qQ s)[j]? ≠ some 47 := by
    intro k
    induction k with
    | zero => intro i hk hi; have := (List.getElem?_eq_some_iff.1 hi).1; omega
    | succ k ih =>
     intro i hk hi
     rcases Classical.em (∃ j : Nat, i < j ∧ (qQ s)[j]? = some 47) with ⟨j, hj, hs⟩ | hno
     ·
      have := (List.getElem?_eq_some_iff.1 hs).1
      exact ih j jo hs
     exact ⟨i, hi, fun j hj hs => hno ⟨j, hj, hs⟩⟩
   exact key _ i (zw _) hi
  have e : upN s = (qQ s).take i := by rw [hu, pQ hi hl]; rfl
  have hil := (List.getElem?_eq_some_iff.1 hi).1
  have hp : 0 < i := by
   rcases zcn i with h | h
   · rw [e, h] at h0; exact absurd rfl h0
   exact h
  rw [e]
  have hlen : ((qQ s).take i).length = i := by rw [zg]; omega
  refine ⟨fun hx => by rw [hx] at hlen; simp at hlen; omega, jo, ?_, ?_, ?_, fun c hc => h6 c (zcp hc)⟩
  · rw [zeq, if_pos hp]; exact h3
  ·
   rw [hlen, zeq, if_pos jo]
   intro h47
   have : gC (qQ s) = true := (kK _).2 ⟨i - 1, h47, by rw [show i - 1 + 1 = i by omega]; exact hi⟩
   rw [h5] at this
   cases this
  rw [← Bool.not_eq_true]
  intro hd
  obtain ⟨j, j1, j2⟩ := (kK _).1 hd
  have jl := (List.getElem?_eq_some_iff.1 j2).1
  rw [hlen] at jl
  rw [zeq, if_pos jo] at j1 j2
  have : gC (qQ s) = true := (kK _).2 ⟨j, j1, j2⟩
  rw [h5] at this
  cases this
 have e : fW (qQ s) = none := hP (fun i hi => he ⟨i, hi⟩)
 rw [hu, e] at h0
 exact absurd rfl h0
theorem qXx {s : Tx} (h : isN s ∨ s = []) : ∀ x ∈ anc s, isN x := by
 have key : ∀ (n : Nat) (s : Tx), s.length ≤ n → (isN s ∨ s = []) → ∀ x ∈ anc s, isN x := by
  intro n
  induction n with
  | zero =>
   intro s hs h x hx
   obtain rfl : s = [] := zv jo
   rw [anc_nil] at hx
   cases hx
  | succ n ih =>
   intro s hs h x hx
   rcases h with h | h
   ·
    have h0 : s ≠ [] := h.1
    rw [eZ h0] at hx
    rcases zy.1 hx with rfl | hx
    · exact h
    have := eY h0
    refine ih (upN s) jo ?_ x hx
    rcases Classical.em (upN s = []) with e | e
    · exact .inr e
    exact .inl (sZ h e)
   subst h
   rw [anc_nil] at hx
   cases hx
 exact key _ s (zw _) h
theorem qQm {l : List NmP} {s : Tx} (h : isN s ∨ s = []) : ∀ x ∈ qO l s, isN x := fun x hx => by
 unfold qO at hx
 rw [List.mem_reverse] at hx
 exact qXx h x (List.mem_filter.1 hx).1
theorem fQ {m : MailP} (h : qI m) {s : Tx} (hs : isN s ∨ s = []) (h24 : m.l.length + (qO m.l s).length ≤ 24) (hv : m.valid + ((qO m.l s).length : Int) ≤ 2147483647) :
  qI (bX m s) ∧ (bX m s).valid = m.valid + ((qO m.l s).length : Int) ∧ (bX m s).blob = m.blob ∧ (bX m s).l.length ≤ m.l.length + (qO m.l s).length :=
 pD _ m h (qQm hs) h24 hv
theorem lR {m x : MailP} {s : Tx} (h : dM m s = .ok x) : qI m ∧ qI x ∧ m.valid ≤ x.valid ∧ m.blob = x.blob ∧ isN s ∧ qQ s ∉ qB m ∧ x = bX m s ∧ m.l.length + (qO m.l s).length ≤ 24 := by
 unfold dM at h
 split at h
 · cases h
 rename_i h1
 have h1 := Classical.not_not.1 h1
 split at h
 · cases h
 rename_i h2
 have h2 := Classical.not_not.1 h2
 split at h
 · cases h
 rename_i h3
 split at h
 · cases h
 rename_i h4
 have h4 := Classical.not_not.1 h4
 obtain ⟨h5, h6⟩ := fE h4
 injection h with h
 subst h
 obtain ⟨k1, k2, k3, k4⟩ := fQ h1 (.inl h2) h5 h6
 exact ⟨h1, k1, jo, k3.symm, h2, h3, rfl, h5⟩
theorem wJ {l : List NmP} (hr : bW l) (t : Tx) (b : BoxV) : cC (bK l t b) t = some b := by
 have hr2 := gW (t := t) (b := b) hr
 obtain ⟨i, hi, he⟩ := zo (pC (l := l) (t := t) (b := b))
 rw [gE hr2 hi (by rw [he]), he]
theorem oE {m x : MailP} {s : Tx} (h : dM m s = .ok x) : ∃ b, eU x s = some b ∧ m.valid < b.valid := by
 obtain ⟨h1, h2, h3, _, h5, h6, rfl, h8⟩ := lR h
 have hs0 : s ≠ [] := h5.1
 have e : qO m.l s = qO m.l (upN s) ++ [s] := by
  unfold qO
  rw [eZ hs0, zcg, if_pos (by simpa using h6), List.reverse_cons]
 have e2 : bX m s = bO (bX m (upN s)) s := by
  unfold bX
  rw [e, zdm]
  rfl
 have hlen : (qO m.l s).length = (qO m.l (upN s)).length + 1 := by rw [e, zi]; rfl
 have hva := (bP _).1 h2
 have hup : isN (upN s) ∨ upN s = [] := by
  rcases Classical.em (upN s = []) with q | q
  · exact .inr q
  exact .inl (sZ h5 q)
 have hv3 : (bX m s).valid = m.valid + ((qO m.l s).length : Int) := by
  unfold dM at h
  rw [if_neg (fun q => q h1), if_neg (fun q => q h5), if_neg h6] at h
  split at h
  · cases h
  rename_i h4
  obtain ⟨_, q⟩ := fE (Classical.not_not.1 h4)
  exact (fQ h1 (.inl h5) h8 q).2.1
 have hup2 := fQ h1 hup jo (by have := hva.2.2.2.2.2.1; omega)
 have hmr := eD hup2.1
 refine ⟨⟨(bX m (upN s)).valid + 1, 1, []⟩, ?_, ?_⟩
 ·
  unfold eU
  rw [if_pos h2, e2]
  exact wJ hmr _ _
 dsimp only
 have := hup2.2.1
 omega
theorem wK {m x : MailP} {s : Tx} (h : dN m s = .ok x) : qI m ∧ qI x ∧ m.valid = x.valid ∧ m.blob = x.blob := by
 unfold dN at h
 split at h
 · cases h
 rename_i h1
 have h1 := Classical.not_not.1 h1
 split at h
 · cases h
 split at h
 · cases h
 split at h
 · cases h
 rename_i h4
 split at h
 · cases h
 injection h with h
 subst h
 obtain ⟨⟨_, _, _, y, hy, hye⟩, _⟩ := (bP m).1 h1
 exact ⟨h1, tF h1 zci ⟨y, List.mem_filter.2 ⟨hy, by simpa [hye] using fun e => h4 e.symm⟩, hye⟩, rfl, rfl⟩
theorem qXy {m x : MailP} {s : Tx} {on : Bool} (h : nO m s on = .ok x) : qI m ∧ qI x ∧ m.valid = x.valid ∧ m.blob = x.blob := by
 unfold nO at h
 split at h
 · cases h
 rename_i h1
 have h1 := Classical.not_not.1 h1
 split at h
 · cases h
 rename_i h2
 have h2 := Classical.not_not.1 h2
 split at h
 · cases h
 rename_i h3
 injection h with h
 subst h
 obtain ⟨q1, q2, q3, h4, q5⟩ := (bP m).1 h1
 refine ⟨h1, (bP _).2 ⟨q1, q2, q3, (gH _).2 ⟨by dsimp only; omega, ?_, ?_⟩, q5⟩, rfl, rfl⟩
 ·
  obtain ⟨_, k2, _⟩ := (gH _).1 h4
  dsimp only
  unfold eA
  refine List.pairwise_append.2 ⟨List.pairwise_append.2 ⟨k2.sublist zci, by split <;> simp, fun a ha c hc => ?_⟩, k2.sublist zci, fun a ha c hc => ?_⟩
  ·
   split at hc
   ·
    rw [za] at hc
    subst hc
    exact of_decide_eq_true (List.mem_filter.1 ha).2
   cases hc
  have l2 : qQ s < c := of_decide_eq_true (List.mem_filter.1 hc).2
  rcases List.mem_append.1 ha with ha | ha
  · exact cH (of_decide_eq_true (List.mem_filter.1 ha).2) l2
  split at ha
  ·
   rw [za] at ha
   subst ha
   exact l2
  cases ha
 obtain ⟨_, _, k3⟩ := (gH _).1 h4
 intro q hq
 dsimp only at hq
 unfold eA at hq
 rcases List.mem_append.1 hq with hq | hq
 ·
  rcases List.mem_append.1 hq with hq | hq
  · exact k3 q (List.mem_filter.1 hq).1
  split at hq
  ·
   rw [za] at hq
   subst hq
   exact ⟨(eC s).2 h2, eO s⟩
  cases hq
 exact k3 q (List.mem_filter.1 hq).1
end
section
open Go.RowKit
theorem sJ {v n : Int} {l : List MsgP} : bR ⟨v, n, l⟩ ↔ (1 ≤ v ∧ v ≤ 2147483647 ∧ 1 ≤ n ∧ n ≤ 2147483648 ∧ l.length ≤ 128) ∧ (l.map MsgP.uid).Pairwise (· < ·) ∧ ∀ m ∈ l, 0 < m.uid ∧ m.uid < n ∧ dY m := by
 constructor
 ·
  intro h
  have hr := qZt h
  refine ⟨h.1, ?_, fun m hm => ?_⟩
  ·
   rw [zbv]
   intro i j hi hj hij
   rw [zbj, zbj]
   exact hr i j (by simpa using hi) (by simpa using hj) hij
  obtain ⟨j, hj, rfl⟩ := zo hm
  obtain ⟨h1, h2, h3⟩ := h.2 j hj
  refine ⟨?_, h2, h3⟩
  have h0 : ∀ j (hj : j < l.length), 0 < l[j].uid := by
   intro j
   induction j with
   | zero => intro hj; exact (h.2 0 hj).1
   | succ j ih =>
    intro hj
    have h4 := ih jo
    have h5 := hr j (j + 1) jo hj jo
    omega
  exact h0 j hj
 rintro ⟨h1, h2, h3⟩
 refine ⟨h1, fun j hj => ?_⟩
 obtain ⟨h4, h5, h6⟩ := h3 _ (zm hj)
 refine ⟨?_, h5, h6⟩
 cases j with
 | zero => exact h4
 | succ j =>
  rw [zbv] at h2
  have hj2 : j + 1 < l.length := hj
  have h7 := h2 j (j + 1) (by simp; omega) (by simpa using hj) jo
  rw [zbj, zbj] at h7
  have hj' : j < l.length := by have : j + 1 < l.length := hj; omega
  show gV l (j + 1) < _
  simp only [gV, ze hj', zdb, zdz]
  exact h7
theorem nY {b b' : BoxV} {m : MsgP} (h : bT b m = .ok b') : bR b ∧ bR b' ∧ b'.next = b.next + 1 ∧ b'.l.length = b.l.length + 1 ∧ b'.valid = b.valid := by
 obtain ⟨v, n, l⟩ := b
 unfold bT at h
 split at h
 · cases h
 rename_i hc
 split at h
 · cases h
 rename_i hl
 split at h
 · cases h
 rename_i hn
 injection h with h
 subst h
 have hm : bR ⟨v, n, l⟩ := Classical.byContradiction fun h => hc (.inl h)
 have hk : dY m := Classical.byContradiction fun h => hc (.inr h)
 have hm0 := hm
 rw [sJ] at hm
 obtain ⟨h1, h2, h3⟩ := hm
 simp only at hl hn
 refine ⟨hm0, sJ.2 ⟨by simp; omega, ?_, ?_⟩, rfl, jp, rfl⟩
 ·
  rw [zbi, List.pairwise_append]
  refine ⟨h2, List.pairwise_singleton _ _, fun a ha b hb => ?_⟩
  obtain ⟨x, hx, rfl⟩ := List.mem_map.1 ha
  simp only [zap, zct, za] at hb
  subst hb
  exact (h3 x hx).2.1
 intro x hx
 rcases List.mem_append.1 hx with hx | hx
 ·
  obtain ⟨h4, h5, h6⟩ := h3 x hx
  exact ⟨h4, show x.uid < n + 1 by omega, h6⟩
 simp only [za] at hx
 subst hx
 exact ⟨by show 0 < n; omega, by show n < n + 1; omega, hk⟩
end
section
open Go.RowKit
theorem pE {b b' : BoxV} {m : MsgP} (h : bT b m = .ok b') : b'.l = b.l ++ [{ m with uid := b.next }] := by
 unfold bT at h
 split at h
 · cases h
 split at h
 · cases h
 split at h
 · cases h
 injection h with h
 subst h
 rfl
theorem jP {l : List NmP} {t : Tx} {b : BoxV} (h : cC l t = some b) : (t, b) ∈ l := by
 unfold cC at h
 obtain ⟨x, hx, rfl⟩ := Option.map_eq_some_iff.1 h
 have h1 := zdw hx
 have h2 : x.1 = t := of_decide_eq_true (List.find?_some (p := fun x : NmP => decide (x.1 = t)) hx)
 rw [← h2]
 exact h1
theorem fR {m : MailP} (h : qI m) {t : Tx} {b : BoxV} (hb : (t, b) ∈ m.l) : ∀ x ∈ m.l, x.1 ≠ t → x.2.valid ≠ b.valid := by
 intro x hx hn e
 have hd := ((bP m).1 h).2.2.1
 obtain ⟨i, hi, rfl⟩ := zo hx
 obtain ⟨j, hj, hje⟩ := zo hb
 rw [zee, zbv] at hd
 have hb2 : (m.l[j]).2.valid = b.valid := by rw [hje]
 have hb1 : (m.l[j]).1 = t := by rw [hje]
 rcases zes i j with k | k | k
 · exact hd i j hi hj k (e.trans hb2.symm)
 · subst k; exact hn hb1
 exact hd j i hj hi k (hb2.trans e.symm)
theorem oF {m y : MailP} {s : Tx} {x : MsgP} {u : Int} (h : dF m s x = .ok (y, u)) : qI m ∧ qI y ∧ m.valid = y.valid ∧ m.blob ≤ y.blob := by
 unfold dF at h
 split at h
 · cases h
 rename_i h1
 have h1 := Classical.not_not.1 h1
 split at h
 · cases h
 rename_i h2
 have h2 := Classical.not_not.1 h2
 cases hb : cC m.l (qQ s) with
 | none => rw [hb] at h; cases h
 | some b =>
  rw [hb] at h
  dsimp only at h
  split at h
  · cases h
  rename_i h3
  cases ha : bT b { x with blob := m.blob.toNat + 1 } with
  | error e => rw [ha] at h; cases h
  | ok b' =>
   rw [ha] at h
   injection h with h
   injection h with h4 h5
   subst h4
   obtain ⟨_, _, _, _, _, _, _, r1, r2⟩ := (bP m).1 h1 |> fun q => (⟨q.1, q.2.1, q.2.2.1, q.2.2.2.1, q.2.2.2.2.1, q.2.2.2.2.2.1, trivial, q.2.2.2.2.2.2.1, q.2.2.2.2.2.2.2⟩ : _ ∧ _ ∧ _ ∧ _ ∧ _ ∧ _ ∧ True ∧ _ ∧ _)
   have hm := jP hb
   obtain ⟨k1, k2, k3⟩ := ((bP m).1 h1).2.1 _ hm
   obtain ⟨_, q2, _, _, q5⟩ := nY ha
   have hl := pE ha
   have hin : qQ s ∈ m.l.map Prod.fst := List.mem_map.2 ⟨_, hm, rfl⟩
   refine ⟨h1, fF h1 (v' := m.valid) (bl' := m.blob + 1) ⟨(eC s).2 h2, eO s⟩ (zar (fP hin) ((bP m).1 h1).1.1) (zbu _) ((bP m).1 h1).2.2.2.2.2.1 jo jo ⟨q2, by dsimp only; rw [q5]; exact k2, fun z hz => ?_⟩ (fun z hz hn => by rw [q5]; exact fR h1 hm z hz hn), rfl, by dsimp only; omega⟩
   dsimp only at hz
   rw [hl] at hz
   rcases List.mem_append.1 hz with hz | hz
   ·
    have := k3 z hz
    omega
   rw [za] at hz
   subst hz
   dsimp only
   omega
theorem sK {bb : Int} : ∀ {xs : List MsgP} {b b' : BoxV} {us : List Int}, cM b xs = .ok (b', us) → bR b → (∀ y ∈ b.l, (y.blob : Int) ≤ bb) → (∀ y ∈ xs, (y.blob : Int) ≤ bb) → bR b' ∧ b'.valid = b.valid ∧ ∀ y ∈ b'.l, (y.blob : Int) ≤ bb
 | [], b, b', us, h, hm, hb, _ => by
  simp only [cM, Except.ok.injEq, Prod.mk.injEq] at h
  obtain ⟨rfl, _⟩ := h
  exact ⟨hm, rfl, hb⟩
 | x :: xs, b, b', us, h, hm, hb, hx => by
  rw [cM] at h
  cases ha : bT b x with
  | error e => rw [ha] at h; cases h
  | ok b1 =>
   rw [ha] at h
   dsimp only at h
   cases hr : cM b1 xs with
   | error e => rw [hr] at h; cases h
   | ok q =>
    obtain ⟨b2, vs⟩ := q
    rw [hr] at h
    simp only [Except.ok.injEq, Prod.mk.injEq] at h
    obtain ⟨rfl, _⟩ := h
    obtain ⟨_, q2, _, _, q5⟩ := nY ha
    obtain ⟨k1, k2, k3⟩ := sK hr q2 (fun y hy => by
     rw [pE ha] at hy
     rcases List.mem_append.1 hy with hy | hy
     · exact hb y hy
     rw [za] at hy
     subst hy
     exact hx x (zdf ..)) (fun y hy => hx y (zce _ hy))
    exact ⟨k1, by rw [k2, q5], k3⟩
theorem qQn {m y : MailP} {s t : Tx} {ps us : List Int} (h : eM m s ps t = .ok (y, us)) : qI m ∧ qI y ∧ m.valid = y.valid ∧ m.blob = y.blob := by
 unfold eM at h
 split at h
 · cases h
 rename_i h1
 have h1 := Classical.not_not.1 h1
 split at h
 · cases h
 rename_i h2
 have h2 : isN t := Classical.not_not.1 fun q => h2 (.inr q)
 cases hb : cC m.l (qQ s) with
 | none => rw [hb] at h; cases h
 | some bf =>
  cases hc : cC m.l (qQ t) with
  | none => rw [hb, hc] at h; cases h
  | some bt =>
   rw [hb, hc] at h
   dsimp only at h
   split at h
   · cases h
   rename_i h3
   cases ha : cM bt (dU bf.l ps) with
   | error e => rw [ha] at h; cases h
   | ok q =>
    obtain ⟨b', vs⟩ := q
    rw [ha] at h
    injection h with h
    injection h with h4 h5
    subst h4
    have hf := (bP m).1 h1
    have hmf := jP hb
    have hmt := jP hc
    obtain ⟨k1, k2, k3⟩ := hf.2.1 _ hmt
    obtain ⟨_, _, j3⟩ := hf.2.1 _ hmf
    have hx : ∀ y ∈ dU bf.l ps, (y.blob : Int) ≤ m.blob := fun y hy => by
     unfold dU at hy
     obtain ⟨p, hp, rfl⟩ := List.mem_map.1 hy
     have hp2 : 1 ≤ p ∧ p ≤ (bf.l.length : Int) := by
      obtain ⟨q1, q2⟩ := not_or.1 (fun q => h3 ⟨p, hp, q⟩)
      omega
     have hlt : (p - 1).toNat < bf.l.length := jo
     rw [ze hlt]
     exact j3 _ (zm hlt)
    obtain ⟨q1, q2, q3⟩ := sK ha k1 k3 hx
    have hin : qQ t ∈ m.l.map Prod.fst := List.mem_map.2 ⟨_, hmt, rfl⟩
    exact ⟨h1, fF h1 (v' := m.valid) (bl' := m.blob) ⟨(eC t).2 h2, eO t⟩ (zar (fP hin) hf.1.1) (zbu _) hf.2.2.2.2.2.1 (zbu _) hf.2.2.2.2.2.2.2 ⟨q1, by dsimp only; rw [q2]; exact k2, q3⟩ (fun z hz hn => by rw [q2]; exact fR h1 hmt z hz hn), rfl, rfl⟩
end
section
open Go.RowKit
theorem tA {u r : Tx} (hr : r = [] ∨ r.head? = some 47) : cQ 47 (u ++ r) = cQ 47 u := by
 induction u with
 | nil =>
  rcases hr with rfl | hr
  · rfl
  cases r with
  | nil => rfl
  | cons x r =>
   simp only [List.head?_cons, Option.some.injEq] at hr
   subst hr
   show cQ 47 (47 :: r) = cQ 47 []
   unfold cQ
   simp
 | cons x u ih =>
  rw [zdd, cQ, cQ]
  split
  · rfl
  rw [ih]
theorem qXz {u r : Tx} (hu : dX u = u) (hr : r = [] ∨ r.head? = some 47) : dX (u ++ r) = u ++ r := by
 rcases eL u with ⟨_, h⟩ | ⟨h1, h2, _, h5⟩
 ·
  unfold dX
  rw [tA hr, if_neg h]
 unfold dX
 rw [tA hr, if_pos h2]
 rw [hu] at h1
 have e : (u ++ r).drop 5 = u.drop 5 ++ r := zed jo
 rw [e, ← zca, ← h1]
theorem qQo {t r : Tx} (ht : isN t) (hr : r = [] ∨ r.head? = some 47) : qQ (qQ t ++ r) = qQ t ++ r := by
 have h1 : dX (qQ t) = qQ t := by
  have := eO t
  unfold qQ at this
  rw [if_pos ht] at this
  rw [if_pos (tU ht)] at this
  unfold qQ
  rw [if_pos ht]
  exact this
 have h2 := qXz h1 hr
 generalize qQ t ++ r = z at *
 unfold qQ
 split
 · exact h2
 rfl
theorem pV {f x : Tx} (hx : eX x) (h : goP f x) : x = qQ f ++ x.drop f.length ∧ (x.drop f.length = [] ∨ (x.drop f.length).head? = some 47) := by
 rcases h with h | ⟨_, _, h⟩
 ·
  have hl : x.length = f.length := by rw [← h, bD]
  rw [zaq jo, zbh]
  exact ⟨h.symm, .inl rfl⟩
 rw [hx.2] at h
 obtain ⟨r, hr⟩ := h
 have hd : x.drop f.length = 47 :: r := by
  rw [← hr, zca, zdp, bD, zdc, zaq (by rw [bD]; exact zw _)]
  rfl
 rw [hd]
 refine ⟨?_, .inr rfl⟩
 rw [← hr, zca]
 rfl
theorem qQp {f t : Tx} {x : NmP} {st : List NmP} (hx : eX x.1) (hg : goP f x.1) (hf : isN f) (ht : isN t) (h : fM st f t x) : (cY f t x).1 = qQ t ++ x.1.drop f.length ∧ eX (cY f t x).1 ∧ (cY f t x).1 ∉ st.map Prod.fst := by
 obtain ⟨e1, e2⟩ := pV hx hg
 obtain ⟨s, hs, hn⟩ := h
 have hs0 := hs
 unfold cB at hs
 rw [if_neg (by rintro (q | q | q); exact q hx.1; exact q hf; exact q ht), hx.2] at hs
 have key : ∀ z : Tx, kA z = .ok s → z = s ∧ isN s := by
  intro z hz
  unfold kA at hz
  split at hz
  ·
   rename_i q
   injection hz with hz
   subst hz
   exact ⟨rfl, q⟩
  cases hz
 have hre : (cY f t x).1 = s := by unfold cY; rw [hs0]; rfl
 have hfin : s = qQ t ++ x.1.drop f.length ∧ isN s := by
  split at hs
  ·
   rename_i q
   obtain ⟨k1, k2⟩ := key _ hs
   have hl : x.1.length = f.length := by rw [q, bD]
   rw [zaq jo, zbh]
   exact ⟨k1.symm, k2⟩
  split at hs
  ·
   obtain ⟨k1, k2⟩ := key _ hs
   exact ⟨k1.symm, k2⟩
  cases hs
 have htold : qQ s = s := by rw [hfin.1]; exact qQo ht e2
 rw [hre]
 exact ⟨hfin.1, ⟨hfin.2, htold⟩, by rw [htold] at hn; exact hn⟩
theorem pF : ∀ (ns : List Tx) (m : MailP) (z : NmP), z ∈ (ns.foldl bO m).l → z ∈ m.l ∨ (m.valid < z.2.valid ∧ ∃ y ∈ ns, z.1 = qQ y)
 | [], m, z, h => .inl h
 | x :: ns, m, z, h => by
  rcases pF ns (bO m x) z h with h | ⟨h1, y, hy, h2⟩
  ·
   rcases lP h with rfl | ⟨h, _⟩
   · exact .inr ⟨by dsimp only; omega, x, zdf .., rfl⟩
   exact .inl h
  rw [jL] at h1
  exact .inr ⟨jo, y, zce _ hy, h2⟩
theorem qZm {s : Tx} : ∀ x ∈ anc s, x.length ≤ s.length := by
 have key : ∀ (n : Nat) (s : Tx), s.length ≤ n → ∀ x ∈ anc s, x.length ≤ s.length := by
  intro n
  induction n with
  | zero =>
   intro s hs x hx
   obtain rfl : s = [] := zv jo
   rw [anc_nil] at hx
   cases hx
  | succ n ih =>
   intro s hs x hx
   rcases Classical.em (s = []) with h | h0
   ·
    subst h
    rw [anc_nil] at hx
    cases hx
   rw [eZ h0] at hx
   rcases zy.1 hx with rfl | hx
   · exact zw _
   have := eY h0
   have := ih (upN s) jo x hx
   omega
 exact key _ s (zw _)
theorem qX0 {l : List NmP} {s : Tx} : ∀ x ∈ qO l s, x.length ≤ s.length := fun x hx => by
 unfold qO at hx
 rw [List.mem_reverse] at hx
 exact qZm x (List.mem_filter.1 hx).1
theorem qQq {m : MailP} {x : NmP} (hx : qQ x.1 = x.1) (hn : x.1 ∉ m.l.map Prod.fst) : gO m x = { m with l := bK m.l x.1 x.2 } := by
 unfold gO vS bK
 dsimp only
 rw [hx]
 congr 3
 refine List.filter_congr fun y hy => ?_
 rw [decide_eq_decide]
 constructor
 ·
  intro h
  rcases Classical.em (x.1 < y.1) with h2 | h2
  · exact h2
  exact absurd (by rw [← kY h h2]; exact zbo hy) hn
 intro h h2
 exact bH _ (cH h h2)
theorem yN (f : Tx) (l : List NmP) : (goF f l).length + (stF f l).length = l.length := by
 induction l with
 | nil => rfl
 | cons x r ih =>
  unfold goF stF at *
  simp only [zcg]
  by_cases h : goP f x.1
  ·
   simp only [h, decide_true, if_true, Bool.not_true, zbk, if_false, zat]
   omega
  simp only [h, decide_false, Bool.not_false, if_true, zbk, if_false, zat]
  omega
theorem tW {f : Tx} (hf : qQ f ≠ qF) : ¬ goP f qF := by
 rintro (h | ⟨_, _, h⟩)
 · exact hf h
 have h47 : (47 : UInt8) ∈ qQ qF := by
  obtain ⟨r, hr⟩ := h
  rw [← hr]
  simp
 exact absurd h47 jd
theorem pA {m : MailP} {f t : Tx} (h : qI m) (hf : isN f) (ht : isN t) (hfi : qQ f ≠ qF) (hall : ∀ j (hj : j < (goF f m.l).length), fM (stF f m.l) f t (goF f m.l)[j]) (hroom : cP m (qO (stF f m.l) (upN t)).length (qO (stF f m.l) (upN t)).length = 0) :
  ∀ j, j ≤ (goF f m.l).length → ∃ o : MailP, (((goF f m.l).map (cY f t)).take j).foldl gO (bX { m with l := stF f m.l } (upN t)) = o ∧ qI o ∧ m.valid ≤ o.valid ∧ o.blob = m.blob ∧ o.l.length ≤ (stF f m.l).length + (qO (stF f m.l) (upN t)).length + j ∧
   ∀ z ∈ o.l, z ∈ stF f m.l ∨ (m.valid < z.2.valid ∧ z.1.length < t.length) ∨ ∃ i, ∃ hi : i < (goF f m.l).length, i < j ∧ z = cY f t (goF f m.l)[i] := by
 have hfl := (bP m).1 h
 obtain ⟨r1, r2⟩ := fE hroom
 have hlen := yN f m.l
 have hst : (stF f m.l).Sublist m.l := zci
 have hgo : (goF f m.l).Sublist m.l := zci
 have hup : isN (upN t) ∨ upN t = [] := by
  rcases Classical.em (upN t = []) with q | q
  · exact .inr q
  exact .inl (sZ ht q)
 have hm1 : qI { m with l := stF f m.l } := by
  obtain ⟨⟨_, _, _, y, hy, hye⟩, _⟩ := hfl
  refine tF h hst ⟨y, List.mem_filter.2 ⟨hy, ?_⟩, hye⟩
  rw [hye, decide_eq_false (tW hfi)]
  rfl
 obtain ⟨k1, k2, k3, k4⟩ := fQ hm1 hup (by dsimp only; omega) (by dsimp only; omega)
 have hut : (upN t).length < t.length := eY ht.1
 have hgt : ∀ x ∈ goF f m.l, eX x.1 ∧ goP f x.1 := fun x hx => ⟨hfl.1.2.2.1 x (hgo.subset hx), of_decide_eq_true (List.mem_filter.1 hx).2⟩
 have hgr : bW (goF f m.l) := hfl.1.2.1.sublist (hgo.map _)
 have hname := fun j (hj : j < (goF f m.l).length) => qQp (hgt _ (zm hj)).1 (hgt _ (zm hj)).2 hf ht (hall j hj)
 intro j
 induction j with
 | zero =>
  intro _
  refine ⟨_, rfl, k1, ?_, k3, by rw [Nat.add_zero]; exact k4, fun z hz => ?_⟩
  ·
   have k2 : (bX { m with l := stF f m.l } (upN t)).valid = m.valid + ((qO (stF f m.l) (upN t)).length : Int) := k2
   show m.valid ≤ (bX { m with l := stF f m.l } (upN t)).valid
   omega
  rcases pF _ _ _ hz with q | ⟨q1, y, hy, q2⟩
  · exact .inl q
  refine .inr (.inl ⟨q1, ?_⟩)
  rw [q2, bD]
  exact Nat.lt_of_le_of_lt (qX0 y hy) hut
 | succ j ih =>
  intro hj
  obtain ⟨o, ho, om, ov, ob, ol, oz⟩ := ih jo
  have hj' : j < (goF f m.l).length := by omega
  obtain ⟨n1, n2, n3⟩ := hname j hj'
  have hxm := hgo.subset (zm hj')
  have hxg := hgt _ (zm hj')
  have hxr := pV hxg.1 hxg.2
  have hxo := fR (t := ((goF f m.l)[j]).1) (b := ((goF f m.l)[j]).2) h (by exact hxm)
  have hxb := hfl.2.1 _ hxm
  have hne : ∀ i (hi : i < (goF f m.l).length), i < j → ((goF f m.l)[i]).1 ≠ ((goF f m.l)[j]).1 := fun i hi hij e => by
   have := eE hgr hi hj' hij
   rw [e] at this
   exact bH _ this
  generalize hxe : (goF f m.l)[j] = x at *
  have hnew : (cY f t x).1 ∉ o.l.map Prod.fst := by
   intro hin
   obtain ⟨z, hz, hze⟩ := List.mem_map.1 hin
   rcases oz z hz with q | ⟨_, q⟩ | ⟨i, hi, hij, rfl⟩
   · exact n3 (by rw [← hze]; exact zbo q)
   ·
    rw [hze, n1, zi, bD] at q
    omega
   obtain ⟨p1, _, _⟩ := hname i hi
   rw [p1, n1] at hze
   have hze := List.append_cancel_left hze
   have hig := hgt _ (zm hi)
   have := (pV hig.1 hig.2).1
   exact hne i hi hij (by rw [this, hze, ← hxr.1])
  have hstep : (((goF f m.l).map (cY f t)).take (j + 1)).foldl gO (bX { m with l := stF f m.l } (upN t)) = { o with l := bK o.l (cY f t x).1 (cY f t x).2 } := by
   rw [zas, zdm, ho, zdk, ze hj', hxe]
   exact qQq n2.2 hnew
  have hvd : ∀ z ∈ o.l, z.1 ≠ (cY f t x).1 → z.2.valid ≠ (cY f t x).2.valid := by
   intro z hz _
   rcases oz z hz with q | ⟨q, _⟩ | ⟨i, hi, hij, rfl⟩
   ·
    refine hxo z (hst.subset q) (fun e => ?_)
    have := (List.mem_filter.1 q).2
    rw [e, decide_eq_true hxg.2] at this
    cases this
   ·
    have := hxb.2.1
    show z.2.valid ≠ x.2.valid
    omega
   show ((goF f m.l)[i]).2.valid ≠ x.2.valid
   exact hxo _ (hgo.subset (zm hi)) (hne i hi hij)
  refine ⟨_, hstep, ?_, ov, ob, ?_, fun z hz => ?_⟩
  ·
   have hof := (bP o).1 om
   refine fF om (v' := o.valid) (bl' := o.blob) n2 ?_ (zbu _) hof.2.2.2.2.2.1 (zbu _) hof.2.2.2.2.2.2.2 ⟨hxb.1, Int.le_trans hxb.2.1 ov, fun y hy => by rw [ob]; exact hxb.2.2 y hy⟩ hvd
   have := fN o.l (cY f t x).1 (cY f t x).2
   omega
  ·
   have := fN o.l (cY f t x).1 (cY f t x).2
   dsimp only
   omega
  rcases lP hz with rfl | ⟨q, _⟩
  · exact .inr (.inr ⟨j, hj', jo, by rw [hxe]⟩)
  rcases oz z q with q | q | ⟨i, hi, hij, q⟩
  · exact .inl q
  · exact .inr (.inl q)
  exact .inr (.inr ⟨i, hi, jo, q⟩)
theorem qZn {m : MailP} {f t : Tx} (h : qI m) (hf : isN f) (ht : isN t) (hfi : qQ f ≠ qF) (hall : ∀ j (hj : j < (goF f m.l).length), fM (stF f m.l) f t (goF f m.l)[j]) (hroom : cP m (qO (stF f m.l) (upN t)).length (qO (stF f m.l) (upN t)).length = 0) : oU m f t := by
 intro j hj
 rw [zau] at hj
 obtain ⟨o, ho, om, _⟩ := pA h hf ht hfi hall hroom j hj
 rw [ho]
 exact eD om
theorem tI {st : List NmP} {f t : Tx} : ∀ {l g : List NmP}, dA st f t l = .ok g → ∀ j (h : j < l.length), fM st f t l[j]
 | [], _, _, j, h => by simp at h
 | x :: r, g, hg, j, h => by
  rw [dA] at hg
  cases hm : cB x.1 f t with
  | error e => rw [hm] at hg; cases hg
  | ok s =>
   rw [hm] at hg
   dsimp only at hg
   split at hg
   · cases hg
   rename_i hn
   cases hr : dA st f t r with
   | error e => rw [hr] at hg; cases hg
   | ok r' =>
    cases j with
    | zero => exact ⟨s, hm, hn⟩
    | succ j => exact tI hr j (by simpa using h)
theorem yP {m y : MailP} {f t : Tx} (h : qI m) (hf : isN f) (ht : isN t) (hfi : qQ f ≠ qF) (hy : eT m f t = .ok y) : qI y ∧ m.valid ≤ y.valid ∧ m.blob = y.blob := by
 unfold eT at hy
 cases hg : dA (stF f m.l) f t (goF f m.l) with
 | error e => rw [hg] at hy; cases hy
 | ok g =>
  rw [hg] at hy
  dsimp only at hy
  split at hy
  · cases hy
  rename_i hr
  have hr := Classical.not_not.1 hr
  injection hy with hy
  have hall := tI hg
  rw [nL hall] at hg
  injection hg with hg
  obtain ⟨o, ho, om, ov, ob, _⟩ := pA h hf ht hfi hall hr _ (zw _)
  rw [zq (by rw [zau]; exact zw _), hg, hy] at ho
  subst ho
  exact ⟨om, ov, ob.symm⟩
end
section
open Go.RowKit
def qZ3 : BoxV := ⟨0, 0, []⟩
def lS (l : List NmP) (t : Tx) : BoxV := (cC l t).getD qZ3
def gZ (m : MailP) (t : Tx) : MailP :=
 { bX m t with valid := (bX m t).valid + 1, l := bK (bK (bX m t).l (qQ t) ⟨(lS (bX m t).l (qQ t)).valid, (lS m.l qF).next, (lS m.l qF).l⟩) qF ⟨(bX m t).valid + 1, 1, []⟩ }
def eJ (m : MailP) (t : Tx) : Except Nat MailP :=
 if cP m (qO m.l t).length ((qO m.l t).length + 1) ≠ 0 then .error (cP m (qO m.l t).length ((qO m.l t).length + 1)) else .ok (gZ m t)
theorem nG {m : MailP} {t : Tx} (hr : bW m.l) (ht : t ≠ []) : qQ t ∈ (bX m t).l.map Prod.fst := by
 rcases Classical.em (qQ t ∈ m.l.map Prod.fst) with h | h
 ·
  have key : ∀ (ns : List Tx) (m : MailP), qQ t ∈ m.l.map Prod.fst → qQ t ∈ (ns.foldl bO m).l.map Prod.fst := by
   intro ns
   induction ns with
   | nil => exact fun m h => h
   | cons x ns ih => exact fun m h => ih _ ((gY _).2 (.inr h))
  exact key _ m h
 have e : qO m.l t = qO m.l (upN t) ++ [t] := by
  unfold qO
  rw [eZ ht, zcg, if_pos (by simpa using h), List.reverse_cons]
 unfold bX
 rw [e, zdm]
 exact (gY _).2 (.inl rfl)
theorem yR {m : MailP} {t : Tx} (h : qI m) (ht : isN t) (htn : qQ t ∉ qB m) (hr : cP m (qO m.l t).length ((qO m.l t).length + 1) = 0) : qI (gZ m t) ∧ m.valid ≤ (gZ m t).valid ∧ (gZ m t).blob = m.blob := by
 obtain ⟨r1, r2⟩ := fE hr
 obtain ⟨k1, k2, k3, k4⟩ := fQ h (.inl ht) r1 jo
 have hmr := eD k1
 have hf := (bP m).1 h
 have hq := (bP _).1 k1
 have hth := nG (eD h) ht.1
 obtain ⟨xn, hxn, hxe⟩ := List.mem_map.1 hth
 obtain ⟨i, hi, hie⟩ := zo hxn
 have hb1 : cC (bX m t).l (qQ t) = some xn.2 := by
  have := gE (t := qQ t) hmr hi (by rw [hie]; exact hxe)
  rw [this, hie]
 obtain ⟨⟨_, _, _, y, hy, hye⟩, _⟩ := id hf
 obtain ⟨j, hj, hje⟩ := zo hy
 have hb2 : cC m.l qF = some y.2 := by
  have := gE (t := qF) (eD h) hj (by rw [hje]; exact hye)
  rw [this, hje]
 have hyb := hf.2.1 y hy
 have hxb := hq.2.1 xn hxn
 have e1 : lS (bX m t).l (qQ t) = xn.2 := by unfold lS; rw [hb1]; rfl
 have e2 : lS m.l qF = y.2 := by unfold lS; rw [hb2]; rfl
 have hxm : (qQ t, xn.2) ∈ (bX m t).l := by rw [← hxe]; exact hxn
 have hmb : bR ⟨xn.2.valid, y.2.next, y.2.l⟩ := by
  obtain ⟨a, b⟩ := hyb.1
  obtain ⟨⟨c1, c2, _⟩, _⟩ := hxb.1
  exact ⟨⟨c1, c2, a.2.2⟩, b⟩
 have h2 : qI { bX m t with l := bK (bX m t).l (qQ t) ⟨xn.2.valid, y.2.next, y.2.l⟩ } :=
  fF k1 (v' := (bX m t).valid) (bl' := (bX m t).blob) ⟨(eC t).2 ht, eO t⟩ (zar (fP hth) hq.1.1) (zbu _) hq.2.2.2.2.2.1 (zbu _) hq.2.2.2.2.2.2.2 ⟨hmb, hxb.2.1, fun z hz => by rw [k3]; exact hyb.2.2 z hz⟩ (fun z hz hn => fR (b := xn.2) k1 hxm z hz hn)
 have h2f := (bP _).1 h2
 have hin : qF ∈ (bK (bX m t).l (qQ t) ⟨xn.2.valid, y.2.next, y.2.l⟩).map Prod.fst := by
  obtain ⟨z, hz, hze⟩ := h2f.1.2.2.2
  exact List.mem_map.2 ⟨z, hz, hze⟩
 have h3 := fF h2 (t := qF) (b := ⟨(bX m t).valid + 1, 1, []⟩) (v' := (bX m t).valid + 1) (bl' := (bX m t).blob) (by unfold eX; decide) (zar (fP hin) h2f.1.1) (by dsimp only; omega) jo (zbu _) hq.2.2.2.2.2.2.2 ⟨qQl jo jo, zbu _, fun z hz => by cases hz⟩ (fun z hz _ => nW h2 z hz)
 have e3 : gZ m t = { bX m t with valid := (bX m t).valid + 1, l := bK (bK (bX m t).l (qQ t) ⟨xn.2.valid, y.2.next, y.2.l⟩) qF ⟨(bX m t).valid + 1, 1, []⟩ } := by
  unfold gZ
  rw [e1, e2]
 rw [e3]
 exact ⟨h3, by dsimp only; omega, k3⟩
theorem wV {m y : MailP} {f t : Tx} (h : bI m f t (eJ m t) = .ok y) : qI m ∧ qI y ∧ m.valid ≤ y.valid ∧ m.blob = y.blob := by
 unfold bI at h
 split at h
 · cases h
 rename_i h1
 have h1 := Classical.not_not.1 h1
 split at h
 · cases h
 rename_i h2
 obtain ⟨h2a, h2b⟩ : isN f ∧ isN t := ⟨Classical.not_not.1 (fun q => h2 (.inl q)), Classical.not_not.1 (fun q => h2 (.inr q))⟩
 split at h
 · cases h
 split at h
 · cases h
 rename_i h4
 split at h
 ·
  unfold eJ at h
  split at h
  · cases h
  rename_i h6
  injection h with h
  subst h
  obtain ⟨k1, k2, k3⟩ := yR h1 h2b h4 (Classical.not_not.1 h6)
  exact ⟨h1, k1, k2, k3.symm⟩
 rename_i h5
 split at h
 · cases h
 obtain ⟨k1, k2, k3⟩ := yP h1 h2a h2b h5 h
 exact ⟨h1, k1, k2, k3⟩
end
section
open Go.RowKit Go.Sort
theorem sV {m : MlC} {t : Tx} {i : Nat} (hr : bW m.p.l) (hi : i < m.l.length) (he : (m.l[i]).nm = t) : lS m.p.l t = (m.l[i]).p.2 := by
 unfold lS
 rw [jY hr hi he]
 rfl
set_option maxHeartbeats 2000000 in
theorem tY (m : MlC) (i : Nat) (t : Tx) (w : World) (hm : RdL w m) (ht : t.length ≤ 400000) (hmay : qI m.p) (hti : isN t) (hi : i < m.l.length) (hie : (m.l[i]).nm = qF) (htn : qQ t ∉ qB m.p) (hv : cX w) :
  Calls Tryz.prog 62 #[m.val, .int .i64 ((i : Nat) : Int), encStr t] w fun e w' => ∃ (m' : MlC) (k : Nat), e = .returned (.tuple #[m'.val, .int .i64 ((k : Nat) : Int)]) ∧ bF w w' m (eJ m.p t) m' k ∧ Frm [] w w' := by
 have hln := hm.ln
 have hpl := dJ m
 have hml := nF m.p.l t
 obtain ⟨hm24, hv1, hv2, hb0, hb2, hr, hin⟩ := cZ hmay
 have hyl := (hm.l.el _ (zm hi)).n
 have hbd := sV hr hi hie
 refine VC.calls (nt := 74) (res := #[.cell 6 25, .tmp 7]) Tryz.func62 rfl Tryz.ntmps62 Tryz.results62 rfl ?_
 refine jS (jR ?_)
 refine Ops.m (qJ.box rfl) rfl ?_
 rintro _ w1 ⟨rfl, hF_w1⟩
 have hb1 : Blk w1 w.heap.size 25 #[.slice m.A m.l.length m.c, .slice m.S m.ss.length m.d, .int .i64 m.v, .int .i64 m.b] := hF_w1.blk
 have K := hF_w1.frm
 generalize hg1 : w.heap.size = g1 at hb1 ⊢
 refine Ops.m (qJ.alloc qD) rfl ?_
 rintro _ w2 ⟨rfl, hF2⟩
 have hb4 := hF2.blk
 have hg4 : w.heap.size ≤ w1.heap.size := K.size
 have hb1 := hb1.frm hF2.frm jp
 have hl1 := hb1.lt
 have hl4 := hb4.lt
 have K := K.trans hF2.frm jp
 have hne14 : g1 ≠ w1.heap.size := by have := hF_w1.size; omega
 have hg1s : w.heap.size ≤ g1 := jo
 generalize hg4' : w1.heap.size = g4 at hb4 hg4 hne14 hl4 ⊢
 refine jz 0 (jO (jN (jv4 1 2 3 6 ?_)))
 refine jS (jR (je (Run.loadA rfl zc zb hb1.cells (by first | rfl | (simp; done))) (jM ?_)))
 refine Ops.cl (jE2 Tryz.call47) (eB m t _ (hm.frm K) jo hr (hv.frm K)) rfl ?_
 rintro e w3 ⟨B3, d3, rfl, _, _, hf3⟩
 refine ⟨_, rfl, ?_⟩
 have hb1 := hb1.frm hf3 jp
 have hb4 := hb4.frm hf3 jp
 have hKs_hf3 := K.size
 have K := K.trans hf3 jp
 generalize hms : qO m.p.l t = ms at *
 refine je (Run.lenS rfl zd) (ja rfl (jO (jN (jv5 1 2 3 6 8 ?_))))
 refine jS (jS (jR (je (Run.loadA rfl zc zb hb1.cells (by first | rfl | (simp; done))) (jm rfl (jm rfl (jb rfl rfl (Bin.add_i64 _ 1 jo) ?_))))))
 refine Ops.cl (jE3 Tryz.call48) (lK m ms.length (ms.length + 1) _ hln jo jo jo jo) rfl ?_
 rintro e w4 ⟨rfl, hf4⟩
 refine ⟨_, rfl, ?_⟩
 have hb1 := hb1.frm hf4 jp
 have hb4 := hb4.frm hf4 jp
 have hKs_hf4 := K.size
 have K := K.trans hf4 jp
 refine ja rfl (jO (jN (jv5 1 2 3 6 9 ?_)))
 refine jS (jR (jm rfl (jb rfl rfl (Bin.neqN _ 0) (jO (jN (jv6 1 2 3 6 9 25 ?_))))))
 refine jD rfl (fun hc1 => ?_) fun hc1 => ?_
 ·
  have hFe : eJ m.p t = .error (cP m.p ms.length (ms.length + 1)) := by unfold eJ; rw [hms, if_pos jo]
  refine jS (jR (je (Run.build evs.nil qD (qW).choose_spec.1 (qW).choose_spec.2 rfl) (jM ?_)))
  refine Ops.st (qK.storeA rfl rfl zb hb4 rfl (MlC.cells_one qV)) ?_
  rintro wz ⟨hb4, (hfwz : Frm [g4] _ _), hswz⟩
  have hb4 : Blk wz g4 25 qV.cells.toArray := hb4
  have K := K.own hfwz (fun y hy => by rw [za] at hy; omega)
  refine ja rfl (jO (jN (jv2 6 7 ?_)))
  refine jT ?_
  refine qZ (bQ ?_)
  refine qH rfl zc zb (fun j v hj => hb4.cells j v hj) (by first | rfl | (simp; done)) ?_
  refine qN rfl ?_
  refine qP ?_
  exact ⟨qV, _, rfl, bF.err jo hFe, K⟩
 have hc1 : cP m.p ms.length (ms.length + 1) = 0 := jo
 have hFo : eJ m.p t = .ok (gZ m.p t) := by unfold eJ; rw [hms, if_neg jo]
 obtain ⟨hro1, hro2⟩ := fE hc1
 have hro3 : m.p.valid + (ms.length : Int) ≤ 2147483647 := jo
 have hro4 : m.v + (ms.length : Int) ≤ 2147483647 := hro3
 have hro5 : m.v + (ms.length : Int) + 1 ≤ 2147483647 := by have : m.p.valid = m.v := rfl; omega
 obtain ⟨ad, had, hel⟩ := (hm.frm K).l.elem hi
 generalize hy : m.l[i] = y at *
 refine jQ (jN (jv4 1 2 3 6 ?_))
 refine jS (jR (jf rfl zh rfl zad (jl rfl zaz (hb1.cell 0) (jm rfl (je (Run.indexS i (show _ = some (Value.slice (some ad) m.l.length m.c) by rw [← had]; rfl) rfl zf zt hi) (jf rfl zag rfl zj (je (Run.loadA rfl zai zj (cs := BVc y.v y.n y.A y.l.length y.c) (fun j v hj => by rw [Go.Proofs.YtgmbmfpfhcekiaaGreat.add_add]; exact hel (1 + j) v (by rw [zem]; exact hj)) (by first | rfl | (simp; done))) ?_)))))))
 refine Ops.m (qJ.alloc bL) rfl ?_
 rintro _ w5 ⟨rfl, hF5⟩
 have hb10o := hF5.blk
 have hlt1 := hb1.lt
 have hlt4 := hb4.lt
 have hK5 := K.size
 have hb1 := hb1.frm hF5.frm jp
 have hb4 := hb4.frm hF5.frm jp
 have K := K.trans hF5.frm jp
 have hn110 : g1 ≠ w4.heap.size := jo
 have hn410 : g4 ≠ w4.heap.size := jo
 generalize hg10 : w4.heap.size = g10 at hb10o hK5 hn110 hn410 ⊢
 refine Ops.st (qK.storeA rfl rfl zj hb10o rfl (bU y.v y.n y.A y.l.length y.c)) ?_
 rintro w6 ⟨hb10, (hf6 : Frm [g10] _ _), hs6⟩
 have hb10 : Blk w6 g10 43 (BVc y.v y.n y.A y.l.length y.c).toArray := hb10
 have hb1 := hb1.frm hf6 (by simp; omega)
 have hb4 := hb4.frm hf6 (by simp; omega)
 have K := K.own hf6 (fun y hy => by rw [za] at hy; omega)
 have hl16 := hb1.lt
 have hl46 := hb4.lt
 have hl106 := hb10.lt
 refine jO (jN (jv4 2 3 6 10 ?_))
 refine jS (jR (je (Run.loadA rfl zc zb hb1.cells (by first | rfl | (simp; done))) (jM ?_)))
 refine Ops.cl (jE2 Tryz.call49) (jI m t _ (hm.frm K) jo hr (by rw [hms]; omega) jo (by rw [hms]; exact hro4) (hv.frm K)) rfl ?_
 rintro e w7 ⟨mq, rfl, hmqp, ⟨S2, hk2⟩, hf7⟩
 refine ⟨_, rfl, ?_⟩
 have hK6 := K.size
 have hb1 := hb1.frm hf7 jp
 have hb4 := hb4.frm hf7 jp
 have hb10 := hb10.frm hf7 jp
 have K := K.trans hf7 jp
 have hS2 : g1 ∉ S2 ∧ g4 ∉ S2 ∧ g10 ∉ S2 := ⟨fun h => by have := hk2.1 _ h; omega, fun h => by have := hk2.1 _ h; omega, fun h => by have := hk2.1 _ h; omega⟩
 have hRq : ∀ W, Frm [g1, g4, g10] w7 W → RdL W m → RdL W mq := fun W hW hmW => hk2.2 W _ hW (fun y hy => by simp only [zy, zaa, or_false] at hy; rcases hy with rfl | rfl | rfl; exact hS2.1; exact hS2.2.1; exact hS2.2.2) hmW
 have F : Frm [g1, g4, g10] w7 w7 := Frm.refl _ _
 obtain ⟨km1, km2, km3, km4⟩ := fQ hmay (.inl hti) (by rw [hms]; exact hro1) (by rw [hms]; exact hro3)
 rw [hms, hpl] at km4
 rw [← hmqp] at km1 km2 km3 km4
 have hqr := eD km1
 have hqf0 := cZ km1
 have hqv : mq.v = m.v + (ms.length : Int) := by rw [hms] at km2; exact km2
 have hqlen : mq.l.length ≤ 24 := hqf0.1
 have hqf := cZ km1
 have hqth : qQ t ∈ qB mq.p := by rw [hmqp]; exact nG hr hti.1
 refine Ops.st (qK.storeA rfl rfl zb hb1 rfl (MlC.cells_one mq)) ?_
 rintro w8 ⟨hb1, (hfw8 : Frm [g1] _ _), hsw8⟩
 have hb1 : Blk w8 g1 25 mq.cells.toArray := hb1
 have hb4 := hb4.frm hfw8 (by simp; omega)
 have hb10 := hb10.frm hfw8 (by simp; omega)
 have K := K.own hfw8 (fun y hy => by rw [za] at hy; omega)
 have F := F.trans hfw8 (fun y hy => .inl (by rw [za] at hy; subst hy; simp))
 refine jO (jN (jv4 2 3 6 10 ?_))
 refine jS (jR (je (Run.loadA rfl zc zb hb1.cells (by first | rfl | (simp; done))) (jM ?_)))
 refine Ops.cl (jE2 zcm) (bE mq t _ (hRq _ F (hm.frm K)).l jo jo hqr (hv.frm K)) rfl ?_
 rintro e w9 ⟨k2, rfl, hpos2, hf9⟩
 refine ⟨_, rfl, ?_⟩
 have hb1 := hb1.frm hf9 jp
 have hb4 := hb4.frm hf9 jp
 have hb10 := hb10.frm hf9 jp
 have K := K.trans hf9 jp
 have F := F.trans hf9 jp
 obtain ⟨hk2i, hk2e⟩ := kN hqr hpos2 hqth
 obtain ⟨ad2, had2, hel2⟩ := (hRq _ F (hm.frm K)).l.elem hk2i
 have hbd2 := sV hqr hk2i hk2e
 have hqln := (hRq _ F (hm.frm K)).ln
 refine jm rfl (je (Run.extract rfl rfl) (je (Run.extract rfl rfl) (ja rfl (ja rfl (jO (jN (jv4 3 6 10 11 ?_)))))))
 refine jS (jR (jf rfl zh rfl zad (jl rfl zaz (hb1.cell 0) (jm rfl (je (Run.indexS k2 (show _ = some (Value.slice (some ad2) mq.l.length mq.c) by rw [← had2]; rfl) rfl zf zt hk2i) (jf rfl zag rfl zj (jf rfl zr rfl zk (jl rfl zu (show _ = some (Value.int .i64 (mq.l[k2]).v) from by rw [Go.Proofs.YtgmbmfpfhcekiaaGreat.add_add]; exact hel2 1 _ rfl) (jf rfl zr rfl zk ?_)))))))))
 refine Ops.st (qK.store rfl rfl zk hb10 rfl rfl) ?_
 rintro w10 ⟨hb10, (hf10 : Frm [g10] _ _), hs10⟩
 have hb10 : Blk w10 g10 43 (BVc (mq.l[k2]).v y.n y.A y.l.length y.c).toArray := hb10
 have hb1 := hb1.frm hf10 (by simp; omega)
 have hb4 := hb4.frm hf10 (by simp; omega)
 have K := K.own hf10 (fun y hy => by rw [za] at hy; omega)
 have F := F.trans hf10 (fun y hy => .inl (by rw [za] at hy; subst hy; simp))
 have hym : ∀ W, Frm [] w W → RdM W y.A y.l := fun W hW => by have := (hm.frm hW).l.el _ (zm hi); rw [hy] at this; exact this.rd
 refine jO (jN (jv4 3 6 10 11 ?_))
 refine jS (jR (je (Run.loadA rfl zc zb hb1.cells (by first | rfl | (simp; done))) (jm rfl (je (Run.loadA rfl zai zj (fun j v hj => hb10.cells j v hj) (by first | rfl | (simp; done))) ?_))))
 refine Ops.cl (jE3 Tryz.call86) (jW mq k2 (mq.l[k2]).v y.n y.A y.c y.l _ (hRq _ F (hm.frm K)) hk2i (hym _ K) hyl) rfl ?_
 rintro e w11 ⟨A1, c1, rfl, hoA, hobA, hf11⟩
 refine ⟨_, rfl, ?_⟩
 have hKs := K.size
 have hobA : ∀ b ∈ ob A1, w.heap.size ≤ b := fun b hb => zar hKs (hobA b hb)
 have hb1 := hb1.frm hf11 jp
 have hb4 := hb4.frm hf11 jp
 have hb10 := hb10.frm hf11 jp
 have K := K.trans hf11 jp
 have F := F.trans hf11 jp
 have hlen1 : (mq.l.set k2 ⟨(mq.l[k2]).nm, (mq.l[k2]).v, y.n, y.A, y.c, y.l⟩ : List Nc).length = mq.l.length := zcd ..
 have hx1 := hoA.ne_blk hb1 jd
 obtain ⟨m1, hm1⟩ : ∃ m1 : MlC, m1 = (mq.wl A1 c1 (mq.l.set k2 ⟨(mq.l[k2]).nm, (mq.l[k2]).v, y.n, y.A, y.c, y.l⟩)) := ⟨_, rfl⟩
 have hm1p : m1.p = { mq.p with l := bK mq.p.l (qQ t) ⟨(mq.l[k2]).v, y.n, Ms y.l⟩ } := by rw [hm1, MlC.wl_p, lN hqr hpos2 hk2i hk2e]
 rw [← hm1]
 have hm1A : m1.A = A1 ∧ m1.l.length = mq.l.length ∧ m1.S = mq.S ∧ m1.ss = mq.ss ∧ m1.d = mq.d ∧ m1.b = mq.b ∧ m1.v = mq.v := by rw [hm1]; exact ⟨rfl, hlen1, rfl, rfl, rfl, rfl, rfl⟩
 have hR1 : ∀ W, RdL W mq → RdM W y.A y.l → Own W 45 4 A1 mq.l.length c1 (NDC (mq.l.set k2 ⟨(mq.l[k2]).nm, (mq.l[k2]).v, y.n, y.A, y.c, y.l⟩)) → RdL W m1 := fun W h hyW ho => by
  rw [hm1]
  exact ⟨⟨by dsimp only; rw [hlen1]; exact ho.rd, mK h.l.el ⟨hyW, hyl, (h.l.el _ (zm hk2i)).q⟩⟩, h.s, by dsimp only; rw [hlen1]; exact ho.le, h.sc, by dsimp only; rw [hlen1]; exact h.ln, h.sn, h.sq⟩
 refine Ops.st (qK.storeA rfl rfl zb hb1 rfl (MlC.cells_one m1)) ?_
 rintro w12 ⟨hb1, (hfw12 : Frm [g1] _ _), hsw12⟩
 have hb1 : Blk w12 g1 25 m1.cells.toArray := hb1
 have hb4 := hb4.frm hfw12 (by simp; omega)
 have hb10 := hb10.frm hfw12 (by simp; omega)
 have K := K.own hfw12 (fun y hy => by rw [za] at hy; omega)
 have F := F.trans hfw12 (fun y hy => .inl (by rw [za] at hy; subst hy; simp))
 have hoA := hoA.frm hfw12 (fun y hy h => by rw [za] at h; subst h; exact hx1 hy)
 refine jO (jN (jv2 3 6 ?_))
 refine jS (jR (jf rfl zh rfl zk (jl rfl zu (hb1.cell 2) (jb rfl rfl (Bin.addZ _ 1 jo jo) (jf rfl zh rfl zk ?_)))))
 refine Ops.st (qK.store rfl rfl zk hb1 rfl rfl) ?_
 rintro w13 ⟨hb1, (hfw13 : Frm [g1] _ _), hsw13⟩
 have hb1 : Blk w13 g1 25 ({ m1 with v := m1.v + 1 } : MlC).cells.toArray := hb1
 have hb4 := hb4.frm hfw13 (by simp; omega)
 have hb10 := hb10.frm hfw13 (by simp; omega)
 have K := K.own hfw13 (fun y hy => by rw [za] at hy; omega)
 have F := F.trans hfw13 (fun y hy => .inl (by rw [za] at hy; subst hy; simp))
 have hoA := hoA.frm hfw13 (fun y hy h => by rw [za] at h; subst h; exact hx1 hy)
 obtain ⟨m2, hm2⟩ : ∃ m2 : MlC, m2 = { m1 with v := m1.v + 1 } := ⟨_, rfl⟩
 rw [← hm2] at hb1
 have hR2 : RdL w13 m2 := by
  have h := hR1 _ (hRq _ F (hm.frm K)) (hym _ K) hoA
  rw [hm2]
  exact ⟨h.l, h.s, h.lc, h.sc, h.ln, h.sn, h.sq⟩
 have hm2p : m2.p.l = bK mq.p.l (qQ t) ⟨(mq.l[k2]).v, y.n, Ms y.l⟩ := by
  rw [hm2]
  show m1.p.l = _
  rw [hm1p]
 have hm2r : bW m2.p.l := by rw [hm2p]; exact gW hqr
 have hm2i : qQ qF ∈ qB m2.p := by
  show qQ qF ∈ m2.p.l.map Prod.fst
  rw [hm2p, gY, show qQ qF = qF by decide]
  exact .inr hqf.2.2.2.2.2.2
 have hm2v : m2.v = mq.v + 1 := by rw [hm2]; show m1.v + 1 = _; rw [hm1A.2.2.2.2.2.2]
 have hnew : bR ⟨m2.v, 1, []⟩ := qQl jo jo
 refine jO (jN (jv2 3 6 ?_))
 refine jS (jR (je (Run.loadA rfl zc zb hb1.cells (by first | rfl | (simp; done))) ?_))
 refine Ops.cl (jE2 zcm) (bE m2 qF _ hR2.l hR2.ln jd hm2r (hv.frm K)) rfl ?_
 rintro e w14 ⟨k3, rfl, hpos3, hf14⟩
 refine ⟨_, rfl, ?_⟩
 have hb1 := hb1.frm hf14 jp
 have hb4 := hb4.frm hf14 jp
 have hb10 := hb10.frm hf14 jp
 have hoA := hoA.frm hf14 jp
 have K := K.trans hf14 jp
 have F := F.trans hf14 jp
 have hR2 := hR2.frm hf14
 obtain ⟨hk3i, hk3e⟩ := kN hm2r hpos3 hm2i
 refine jm rfl (je (Run.extract rfl rfl) (je (Run.extract rfl rfl) (ja rfl (jO (jN (jv3 1 3 6 ?_))))))
 refine jS (jR (jf rfl zh rfl zk (jl rfl zu (hb1.cell 2) ?_)))
 refine Ops.cl (jE1 Tryz.call82) (nD m2.v _) rfl ?_
 rintro e w15 ⟨hf15, hc15⟩
 obtain rfl : e = .returned (.tuple #[.agg #[.int .i64 m2.v, .int .i64 1, .slice none 0 0], .int .i64 0]) := by
  rcases hc15 with ⟨_, h⟩ | ⟨h, _⟩
  · exact h
  exact absurd hnew h
 refine ⟨_, rfl, ?_⟩
 have hb1 := hb1.frm hf15 jp
 have hb4 := hb4.frm hf15 jp
 have hb10 := hb10.frm hf15 jp
 have hoA := hoA.frm hf15 jp
 have K := K.trans hf15 jp
 have F := F.trans hf15 jp
 have hR2 := hR2.frm hf15
 refine jm rfl (je (Run.extract rfl rfl) (je (Run.extract rfl rfl) ?_))
 refine Ops.m (qJ.alloc bL) rfl ?_
 rintro _ w16 ⟨rfl, hF16⟩
 have hb13 := hF16.blk
 have hl1g := hb1.lt
 have hl4g := hb4.lt
 have hl10g := hb10.lt
 have hK16 := K.size
 have hF7s := F.size
 have hb1 := hb1.frm hF16.frm jp
 have hb4 := hb4.frm hF16.frm jp
 have hb10 := hb10.frm hF16.frm jp
 have hoA := hoA.frm hF16.frm jp
 have K := K.trans hF16.frm jp
 have F := F.trans hF16.frm jp
 have hR2 := hR2.frm hF16.frm
 have hn113 : g1 ≠ w15.heap.size := by omega
 have hn413 : g4 ≠ w15.heap.size := by omega
 generalize hg13 : w15.heap.size = g13 at hb13 hK16 hn113 hn413 hF7s ⊢
 have hx13 := hoA.ne_blk hb13 jd
 refine Ops.st (qK.storeA rfl rfl zj hb13 rfl (bU m2.v 1 none 0 0)) ?_
 rintro w17 ⟨hb13, (hf17 : Frm [g13] _ _), hs17⟩
 have hb13 : Blk w17 g13 43 (BVc m2.v 1 none 0 0).toArray := hb13
 have hb1 := hb1.frm hf17 (by simp; omega)
 have hb4 := hb4.frm hf17 (by simp; omega)
 have K := K.own hf17 (fun y hy => by rw [za] at hy; omega)
 have F := F.trans hf17 (fun y hy => .inr (by rw [za] at hy; have := hF7s; omega))
 have hoA := hoA.frm hf17 (fun y hy h => by rw [za] at h; subst h; exact hx13 hy)
 have hR2' : RdL w17 m2 := by
  have h := hR1 _ (hRq _ F (hm.frm K)) (hym _ K) hoA
  rw [hm2]
  exact ⟨h.l, h.s, h.lc, h.sc, h.ln, h.sn, h.sq⟩
 refine ja rfl (jO (jN (jv4 1 3 6 13 ?_)))
 refine jS (jR (je (Run.loadA rfl zc zb hb1.cells (by first | rfl | (simp; done))) (jm rfl (je (Run.loadA rfl zai zj (fun j v hj => hb13.cells j v hj) (by first | rfl | (simp; done))) ?_))))
 refine Ops.cl (jE3 Tryz.call86) (jW m2 k3 m2.v 1 none 0 [] _ hR2' hk3i (RdM.nil _ _) (zal _)) rfl ?_
 rintro e w18 ⟨A2, c2, rfl, hoA2, hobA2, hf18⟩
 refine ⟨_, rfl, ?_⟩
 have hKs2 := K.size
 have hobA2 : ∀ b ∈ ob A2, w.heap.size ≤ b := fun b hb => zar hKs2 (hobA2 b hb)
 have hb4 := hb4.frm hf18 jp
 have K := K.trans hf18 jp
 have F := F.trans hf18 jp
 have hlen2 : (m2.l.set k3 ⟨(m2.l[k3]).nm, m2.v, 1, none, 0, []⟩ : List Nc).length = m2.l.length := zcd ..
 have hx4 := hoA2.ne_blk hb4 jd
 refine Ops.st (qK.storeA rfl rfl zb hb4 rfl (MlC.cells_one _)) ?_
 rintro w19 ⟨hb4, (hf19 : Frm [g4] _ _), hs19⟩
 have hoA2 := hoA2.frm hf19 (fun y hy h => by rw [za] at h; subst h; exact hx4 hy)
 have K := K.own hf19 (fun y hy => by rw [za] at hy; omega)
 have F := F.trans hf19 (fun y hy => .inl (by rw [za] at hy; subst hy; simp))
 obtain ⟨m3, hm3⟩ : ∃ m3 : MlC, m3 = m2.wl A2 c2 (m2.l.set k3 ⟨(m2.l[k3]).nm, m2.v, 1, none, 0, []⟩) := ⟨_, rfl⟩
 have hm3p : m3.p = { m2.p with l := bK m2.p.l qF ⟨m2.v, 1, []⟩ } := by
  have e := lN (v := m2.v) (n := 1) (B := none) (d := 0) (lm := []) hm2r hpos3 hk3i hk3e
  rw [hm3, MlC.wl_p, e]
  rfl
 have hkt : bA w w19 (S2 ++ ob A2) m m3 := by
  refine ⟨fun b hb => ?_, fun w'' T kT hT hmw => ?_⟩
  ·
   rcases List.mem_append.1 hb with h | h
   · have := hk2.1 b h; omega
   exact hobA2 b h
  have F2 : Frm ([g1, g4, g10] ++ T) w7 w'' := (F.mono (fun y hy => .inl (zcx _ hy))).trans kT (fun y hy => .inl (zcl _ hy))
  have hq' : RdL w'' mq := hk2.2 w'' _ F2 (fun y hy hS => by
   rcases List.mem_append.1 hy with h | h
   ·
    simp only [zy, zaa, or_false] at h
    rcases h with rfl | rfl | rfl
    · exact hS2.1 hS
    · exact hS2.2.1 hS
    exact hS2.2.2 hS
   exact hT y h (zcx _ hS)) hmw
  have ho2 := hoA2.frm kT (fun y hy h => hT y h (zcl _ hy))
  have hyw : RdM w'' y.A y.l := by have := hmw.l.el _ (zm hi); rw [hy] at this; exact this.rd
  have el1 : ∀ z ∈ m1.l, z.At w'' := by
   rw [hm1]
   exact mK hq'.l.el ⟨hyw, hyl, (hq'.l.el _ (zm hk2i)).q⟩
  have hm2l : m2.l = m1.l := by rw [hm2]
  have el2 : ∀ z ∈ m2.l, z.At w'' := by rw [hm2l]; exact el1
  have hS : m2.S = mq.S ∧ m2.ss = mq.ss ∧ m2.d = mq.d := by rw [hm2]; exact ⟨hm1A.2.2.1, hm1A.2.2.2.1, hm1A.2.2.2.2.1⟩
  have hll : m2.l.length = mq.l.length := by rw [hm2l]; exact hm1A.2.1
  rw [hm3]
  refine ⟨⟨by dsimp only; rw [hlen2]; exact ho2.rd, mK el2 ⟨RdM.nil _ _, zal _, (el2 _ (zm hk3i)).q⟩⟩, by dsimp only; rw [hS.1, hS.2.1]; exact hq'.s, by dsimp only; rw [hlen2]; exact ho2.le, by dsimp only; rw [hS.2.1, hS.2.2]; exact hq'.sc, by dsimp only; rw [hlen2, hll]; exact hq'.ln, by dsimp only; rw [hS.2.1]; exact hq'.sn, by dsimp only; rw [hS.2.1]; exact hq'.sq⟩
 rw [← hm3] at hb4
 refine jz 0 (jO (jN (jv2 6 7 ?_)))
 refine jT ?_
 refine bQ ?_
 refine qH rfl zc zb (fun j v hj => hb4.cells j v hj) (by first | rfl | (simp; done)) ?_
 refine qN rfl ?_
 refine qP ?_
 refine ⟨m3, 0, rfl, ⟨⟨_, hkt⟩, .inl ⟨rfl, ?_⟩⟩, K⟩
 rw [hFo, hm3p]
 unfold gZ
 rw [← hmqp, hbd2, hbd]
 congr 1
 show MailP.mk _ _ _ _ = MailP.mk _ _ _ _
 have e1 : m2.p.subs = mq.p.subs := by rw [hm2]; exact hm1A.2.2.2.1
 have e2 : m2.p.valid = mq.p.valid + 1 := hm2v
 have e3 : m2.p.blob = mq.p.blob := by rw [hm2]; exact hm1A.2.2.2.2.2.1
 rw [e1, e2, e3, hm2p, hm2v]
 rfl
end
section
open Go.RowKit Go.Sort
set_option maxHeartbeats 1000000 in
theorem wW (m : MlC) (q t : Tx) (w : World) (hm : RdL w m) (hq : q.length ≤ 400000) (ht : t.length ≤ 400000) (hv : cX w) :
  Calls Tryz.prog 19 #[m.val, encStr q, encStr t] w fun e w' => ∃ (m' : MlC) (k : Nat), e = .returned (.tuple #[m'.val, .int .i64 ((k : Nat) : Int)]) ∧ bF w w' m (bI m.p q t (eJ m.p t)) m' k ∧ Frm [] w w' := by
 have hln := hm.ln
 have hpl := dJ m
 refine VC.calls (nt := 65) (res := #[.cell 6 25, .tmp 7]) Tryz.func19 rfl Tryz.ntmps19 Tryz.results19 rfl ?_
 refine jS (jR ?_)
 refine Ops.m (qJ.box rfl) rfl ?_
 rintro _ w1 ⟨rfl, hF_w1⟩
 have hb1 : Blk w1 w.heap.size 25 #[.slice m.A m.l.length m.c, .slice m.S m.ss.length m.d, .int .i64 m.v, .int .i64 m.b] := hF_w1.blk
 have K := hF_w1.frm
 generalize hg1 : w.heap.size = g1 at hb1 ⊢
 refine Ops.m (qJ.alloc qD) rfl ?_
 rintro _ w2 ⟨rfl, hF2⟩
 have hb4 := hF2.blk
 have hg4 : w.heap.size ≤ w1.heap.size := K.size
 have hb1 := hb1.frm hF2.frm jp
 have hl1 := hb1.lt
 have hl4 := hb4.lt
 have K := K.trans hF2.frm jp
 have hne14 : g1 ≠ w1.heap.size := by have := hF_w1.size; omega
 have hg1s : w.heap.size ≤ g1 := jo
 generalize hg4' : w1.heap.size = g4 at hb4 hg4 hne14 hl4 ⊢
 refine jz 0 (jO (jN (jv4 1 2 3 6 ?_)))
 refine jS (jS (jR (je (Run.loadA rfl zc zb hb1.cells (by first | rfl | (simp; done))) ?_)))
 refine Ops.cl (jE1 zdh) (cF m _ (hm.frm K) (hv.frm K)) rfl ?_
 rintro e w3 ⟨rfl, hf3⟩
 refine ⟨_, rfl, ?_⟩
 have hb1 := hb1.frm hf3 jp
 have hb4 := hb4.frm hf3 jp
 have hKs_hf3 := K.size
 have K := K.trans hf3 jp
 refine je (Run.not rfl) (jO (jN (jv5 1 2 3 6 14 ?_)))
 refine VC.condB rfl (fun hc1 => ?_) (fun hc1 => ?_)
 ·
  have hc1 : ¬ qI m.p := by simpa using hc1
  refine jS (jR (je (Run.build evs.nil qD (qW).choose_spec.1 (qW).choose_spec.2 rfl) ?_))
  refine Ops.st (qK.storeA rfl rfl zb hb4 rfl (MlC.cells_one qV)) ?_
  rintro w4 ⟨hb4, (hfw4 : Frm [g4] _ _), hsw4⟩
  have hb4 : Blk w4 g4 25 qV.cells.toArray := hb4
  have K := K.own hfw4 (fun y hy => by rw [za] at hy; omega)
  refine jz 1 (jO (jN (jv2 6 7 ?_)))
  refine jT ?_
  refine qZ (bQ ?_)
  refine qH rfl zc zb (hb4.cells) (by first | rfl | (simp; done)) ?_
  refine qN rfl ?_
  refine qP ?_
  exact ⟨qV, 1, rfl, bF.err jd (by unfold bI; rw [if_pos hc1]), K⟩
 have hc1 : qI m.p := by simpa using hc1
 obtain ⟨hm24, hv1, hv2, hb0, hb2, hr, hinb⟩ := cZ hc1
 refine jQ (jN (jv4 1 2 3 6 ?_))
 refine jS (jS ?_)
 refine VC.split1 [(1, _), (2, _), (3, _), (6, _)] (js4 rfl rfl rfl rfl) 23 (.bool (decide (¬ isN q ∨ ¬ isN t))) ?_ ?_
 ·
  refine jR (jM ?_)
  refine Ops.cl (jE1 zbp) (bC q _ jo (hv.frm K)) rfl ?_
  rintro e _ ⟨rfl, rfl⟩
  refine ⟨_, rfl, ?_⟩
  by_cases hs17 : isN q
  ·
   refine je (Run.not rfl) (jM ?_)
   refine jG ?_
   refine Ops.clg rfl au (jE1 zbp) (bC t _ jo (hv.frm K)) rfl ?_
   rintro e _ ⟨rfl, rfl⟩
   refine ⟨_, rfl, ?_⟩
   refine jk (Run.not rfl) ?_
   refine je (Run.pickF rfl rfl au) (jO ?_)
   refine jN ⟨(js5 (jC (by simp [*])) rfl rfl rfl rfl), rfl⟩
  refine je (Run.not rfl) (jM ?_)
  refine jU ?_
  refine jU ?_
  refine jU ?_
  refine je (Run.pickT rfl rfl au) (jO ?_)
  refine jN ⟨(js5 (jC (by simp [*])) rfl rfl rfl rfl), rfl⟩
 intro Γ hΓ
 refine jN (VC.sub _ hΓ ?_)
 refine jD rfl (fun hc2 => ?_) fun hc2 => ?_
 ·
  refine jS (jR (je (Run.build evs.nil qD (qW).choose_spec.1 (qW).choose_spec.2 rfl) ?_))
  refine Ops.st (qK.storeA rfl rfl zb hb4 rfl (MlC.cells_one qV)) ?_
  rintro w4 ⟨hb4, (hfw4 : Frm [g4] _ _), hsw4⟩
  have hb4 : Blk w4 g4 25 qV.cells.toArray := hb4
  have K := K.own hfw4 (fun y hy => by rw [za] at hy; omega)
  refine jz 18 (jO (jN (jv2 6 7 ?_)))
  refine jT ?_
  refine qZ (bQ ?_)
  refine qH rfl zc zb (hb4.cells) (by first | rfl | (simp; done)) ?_
  refine qN rfl ?_
  refine qP ?_
  exact ⟨qV, 18, rfl, bF.err jd (by unfold bI; rw [if_neg (not_not_intro hc1), if_pos hc2]), K⟩
 obtain ⟨hc2a, hc2b⟩ : isN q ∧ isN t := ⟨Classical.not_not.1 (fun h => hc2 (.inl h)), Classical.not_not.1 (fun h => hc2 (.inr h))⟩
 refine jQ (jN (jv4 1 2 3 6 ?_))
 refine jS (jR (je (Run.loadA rfl zc zb hb1.cells (by first | rfl | (simp; done))) (jM ?_)))
 refine Ops.cl (jE2 zcm) (bE m q _ (hm.frm K).l hln jo hr (hv.frm K)) rfl ?_
 rintro e w4 ⟨kf, rfl, hpos, hf4⟩
 refine ⟨_, rfl, ?_⟩
 have hb1 := hb1.frm hf4 jp
 have hb4 := hb4.frm hf4 jp
 have hKs_hf4 := K.size
 have K := K.trans hf4 jp
 refine jm rfl (je (Run.extract rfl rfl) (je (Run.extract rfl rfl) (ja rfl (ja rfl (jO (jN (jv6 1 2 3 6 8 9 ?_)))))))
 refine jS (jR (je (Run.loadA rfl zc zb hb1.cells (by first | rfl | (simp; done))) (jM ?_)))
 refine Ops.cl (jE2 zcm) (bE m t _ (hm.frm K).l hln jo hr (hv.frm K)) rfl ?_
 rintro e w5 ⟨kt, rfl, hpos2, hf5⟩
 refine ⟨_, rfl, ?_⟩
 have hb1 := hb1.frm hf5 jp
 have hb4 := hb4.frm hf5 jp
 have hKs_hf5 := K.size
 have K := K.trans hf5 jp
 refine jm rfl (je (Run.extract rfl rfl) (je (Run.extract rfl rfl) (ja rfl (ja rfl (jO (jN (jv7 1 2 3 6 8 9 11 ?_)))))))
 refine jS (jB (jS (jR (jm rfl (je (Run.not rfl) (ja rfl (jO (jN (jv7 1 2 3 6 8 11 37 ?_)))))))))
 refine VC.condB rfl (fun hc3 => ?_) (fun hc3 => ?_)
 ·
  have hc3 : qQ q ∉ qB m.p := by simpa using hc3
  refine jS (jR (je (Run.build evs.nil qD (qW).choose_spec.1 (qW).choose_spec.2 rfl) ?_))
  refine Ops.st (qK.storeA rfl rfl zb hb4 rfl (MlC.cells_one qV)) ?_
  rintro w6 ⟨hb4, (hfw6 : Frm [g4] _ _), hsw6⟩
  have hb4 : Blk w6 g4 25 qV.cells.toArray := hb4
  have K := K.own hfw6 (fun y hy => by rw [za] at hy; omega)
  refine jz 6 (jO (jN (jv2 6 7 ?_)))
  refine jT ?_
  refine qC (qZ (bQ ?_))
  refine qH rfl zc zb (hb4.cells) (by first | rfl | (simp; done)) ?_
  refine qN rfl ?_
  refine qP ?_
  exact ⟨qV, 6, rfl, bF.err jd (by unfold bI; rw [if_neg (not_not_intro hc1), if_neg hc2, if_pos hc3]), K⟩
 have hc3 : qQ q ∈ qB m.p := by simpa using hc3
 refine jS (jR (jm rfl (ja rfl (jO (jN (jv6 1 2 3 6 8 41 ?_))))))
 refine VC.condB rfl (fun hc4 => ?_) (fun hc4 => ?_)
 ·
  have hc4 : qQ t ∈ qB m.p := by simpa using hc4
  refine jS (jR (je (Run.build evs.nil qD (qW).choose_spec.1 (qW).choose_spec.2 rfl) ?_))
  refine Ops.st (qK.storeA rfl rfl zb hb4 rfl (MlC.cells_one qV)) ?_
  rintro w6 ⟨hb4, (hfw6 : Frm [g4] _ _), hsw6⟩
  have hb4 : Blk w6 g4 25 qV.cells.toArray := hb4
  have K := K.own hfw6 (fun y hy => by rw [za] at hy; omega)
  refine jz 15 (jO (jN (jv2 6 7 ?_)))
  refine jT ?_
  refine qC (qZ (bQ ?_))
  refine qH rfl zc zb (hb4.cells) (by first | rfl | (simp; done)) ?_
  refine qN rfl ?_
  refine qP ?_
  exact ⟨qV, 15, rfl, bF.err jd (by unfold bI; rw [if_neg (not_not_intro hc1), if_neg hc2, if_neg (not_not_intro hc3), if_pos hc4]), K⟩
 have hc4 : qQ t ∉ qB m.p := by simpa using hc4
 refine jS (jR (jM ?_))
 refine Ops.cl (jE1 zbz) (bS q _ jo (hv.frm K)) rfl ?_
 rintro e w6 ⟨rfl, hf6⟩
 refine ⟨_, rfl, ?_⟩
 have hb1 := hb1.frm hf6 jp
 have hb4 := hb4.frm hf6 jp
 have hKs_hf6 := K.size
 have K := K.trans hf6 jp
 refine je (Run.eqlT rfl rfl) (ja rfl (jO (jN (jv6 1 2 3 6 8 44 ?_))))
 refine jD rfl (fun hc5 => ?_) fun hc5 => ?_
 ·
  have hc5 : qQ q = qF := hc5
  obtain ⟨hki, hkie⟩ := kN hr hpos hc3
  rw [hc5] at hkie
  refine jS (jR (je (Run.loadA rfl zc zb hb1.cells (by first | rfl | (simp; done))) (jm rfl (jM ?_))))
  refine Ops.cl (jE3 Tryz.call62) (tY m kf t _ (hm.frm K) ht hc1 hc2b hki hkie hc4 (hv.frm K)) rfl ?_
  rintro e w8 ⟨m', k, rfl, ⟨⟨S, hkS⟩, hres⟩, hf8⟩
  have hl47 := hb4.lt
  refine ⟨_, rfl, ?_⟩
  have hb1 := hb1.frm hf8 jp
  have hb4 := hb4.frm hf8 jp
  have hKs_hf8 := K.size
  have K := K.trans hf8 jp
  refine je (Run.extract rfl rfl) (je (Run.extract rfl rfl) ?_)
  refine Ops.st (qK.storeA rfl rfl zb hb4 rfl (MlC.cells_one m')) ?_
  rintro w9 ⟨hb4, (hf9 : Frm [g4] _ _), hs9⟩
  have hb4 : Blk w9 g4 25 m'.cells.toArray := hb4
  have hkS9 := (hkS.old hKs_hf8).frm hf9 (fun y hy h => by rw [za] at hy; rw [hy] at h; have := hkS.1 _ h; omega)
  have K := K.own hf9 (fun y hy => by rw [za] at hy; omega)
  refine ja rfl (jO (jN (jv2 6 7 ?_)))
  refine jT ?_
  refine qC (qZ (bQ ?_))
  refine qH rfl zc zb (hb4.cells) (by first | rfl | (simp; done)) ?_
  refine qN rfl ?_
  refine qP ?_
  refine ⟨m', k, rfl, ⟨⟨S, hkS9⟩, ?_⟩, K⟩
  have e : bI m.p q t (eJ m.p t) = eJ m.p t := by
   unfold bI
   rw [if_neg (not_not_intro hc1), if_neg hc2, if_neg (not_not_intro hc3), if_neg hc4, if_pos hc5]
  rw [e]
  exact hres
 have hin : qQ q ≠ qF := hc5
 refine jS (jR (jm rfl (jM ?_)))
 refine Ops.cl (jE2 Tryz.call57) (eS t q _ jo jo (hv.frm K)) rfl ?_
 rintro e w7 ⟨rfl, hf7⟩
 refine ⟨_, rfl, ?_⟩
 have hb1 := hb1.frm hf7 jp
 have hb4 := hb4.frm hf7 jp
 have hKs_hf7 := K.size
 have K := K.trans hf7 jp
 refine ja rfl (jO (jN (jv5 1 2 3 6 54 ?_)))
 refine VC.condB rfl (fun hc6 => ?_) (fun hc6 => ?_)
 ·
  have hc6 : cJ t q := by simpa using hc6
  refine jS (jR (je (Run.build evs.nil qD (qW).choose_spec.1 (qW).choose_spec.2 rfl) ?_))
  refine Ops.st (qK.storeA rfl rfl zb hb4 rfl (MlC.cells_one qV)) ?_
  rintro w8 ⟨hb4, (hfw8 : Frm [g4] _ _), hsw8⟩
  have hb4 : Blk w8 g4 25 qV.cells.toArray := hb4
  have K := K.own hfw8 (fun y hy => by rw [za] at hy; omega)
  refine jz 16 (jO (jN (jv2 6 7 ?_)))
  refine jT ?_
  refine qC (qZ (bQ ?_))
  refine qH rfl zc zb (hb4.cells) (by first | rfl | (simp; done)) ?_
  refine qN rfl ?_
  refine qP ?_
  exact ⟨qV, 16, rfl, bF.err jd (by unfold bI; rw [if_neg (not_not_intro hc1), if_neg hc2, if_neg (not_not_intro hc3), if_neg hc4, if_neg hin, if_pos hc6]), K⟩
 have hc6 : ¬ cJ t q := by simpa using hc6
 refine jQ ?_
 refine qR (jN ?_)
 refine jv4 1 2 3 6 ?_
 refine jS (jR (je (Run.loadA rfl zc zb hb1.cells (by first | rfl | (simp; done))) (jm rfl (jM ?_))))
 refine Ops.cl (jE3 Tryz.call63) (nK m q t _ (hm.frm K) hq ht hr hm24 hv1 hv2 (fun h1 h2 => qZn hc1 hc2a hc2b hin (fun j hj => h1 _ (zm hj)) h2) (hv.frm K)) rfl ?_
 rintro e w8 ⟨m', k, rfl, ⟨⟨S, hkS⟩, hres⟩, hf8⟩
 have hl47 := hb4.lt
 refine ⟨_, rfl, ?_⟩
 have hb1 := hb1.frm hf8 jp
 have hb4 := hb4.frm hf8 jp
 have hKs_hf8 := K.size
 have K := K.trans hf8 jp
 refine je (Run.extract rfl rfl) (je (Run.extract rfl rfl) ?_)
 refine Ops.st (qK.storeA rfl rfl zb hb4 rfl (MlC.cells_one m')) ?_
 rintro w9 ⟨hb4, (hf9 : Frm [g4] _ _), hs9⟩
 have hb4 : Blk w9 g4 25 m'.cells.toArray := hb4
 have hkS9 := (hkS.old hKs_hf8).frm hf9 (fun y hy h => by rw [za] at hy; rw [hy] at h; have := hkS.1 _ h; omega)
 have K := K.own hf9 (fun y hy => by rw [za] at hy; omega)
 refine ja rfl (jO (jN (jv2 6 7 ?_)))
 refine jT ?_
 refine bQ ?_
 refine qH rfl zc zb (hb4.cells) (by first | rfl | (simp; done)) ?_
 refine qN rfl ?_
 refine qP ?_
 refine ⟨m', k, rfl, ⟨⟨S, hkS9⟩, ?_⟩, K⟩
 have e : bI m.p q t (eJ m.p t) = eT m.p q t := by
  unfold bI
  rw [if_neg (not_not_intro hc1), if_neg hc2, if_neg (not_not_intro hc3), if_neg hc4, if_neg hin, if_neg hc6]
 rw [e]
 exact hres
end
end Go.Proofs.YtgmbmfpfhcekiaaGreat
