/-
  Lemmas on the way, joined: StoQL.
-/
import Derived.Test.YtgmbmfpfhcekiaaGreatPk4
set_option maxRecDepth 100000
set_option linter.unusedVariables false
set_option linter.unusedSimpArgs false
namespace Go.Proofs.YtgmbmfpfhcekiaaGreat
section
open Go.RowKit Go.Sort
theorem wO {H : Type} {enc : TypeId × Value → H} {w : World} {base : Nat} {spare : Nat → Bool} {held : Bool} {n : Nat} {cs : List Value} {x : DataW H × List MemPlace} (h : DataW.trod enc Tryz.prog w base spare held n 61 cs = some x) : ∃ (A : Option Addr) (c : Nat) (l : List Int), cs = [.slice A l.length c] ∧ l.length ≤ c ∧ c ≤ 9223372036854775807 ∧ Rd w 1 A l.length (IB l) := xW zat zan jK h
theorem qQs {H : Type} {enc : TypeId × Value → H} {w : World} {base : Nat} {spare : Nat → Bool} {held : Bool} {n : Nat} {cs : List Value} {xx : DataW H × List MemPlace} (h : DataW.trod enc Tryz.prog w base spare held n 63 cs = some xx) :
  ∃ (m : MlC) (x : Mc) (P : Option Addr) (cp : Nat) (ps : List Int) (q : Tx) (t : Tx), cs = (m.cells ++ (x.cells ++ ([.slice P ps.length cp] ++ ([encStr q] ++ ([encStr t] ++ [] : List Value) : List Value) : List Value) : List Value) : List Value) ∧ (RawL w m ∧ m.b ≤ 9223372036854775807) ∧ (Rd w 1 x.A x.m.flags.length (SB x.m.flags) ∧ x.m.flags.length ≤ x.c) ∧ (ps.length ≤ cp ∧ cp ≤ 9223372036854775807 ∧ Rd w 1 P ps.length (IB ps)) ∧ (q.length ≤ 9223372036854775807) ∧ (t.length ≤ 9223372036854775807) := by
 obtain ⟨hlen, n', hf⟩ := gP zdm h
 have hl : cs.length = 13 := hlen.trans jK
 obtain ⟨a0, a1, a2, a3, a4, a5, a6, a7, a8, a9, a10, a11, a12, rfl⟩ : ∃ a0 a1 a2 a3 a4 a5 a6 a7 a8 a9 a10 a11 a12, cs = [a0, a1, a2, a3, a4, a5, a6, a7, a8, a9, a10, a11, a12] := by
  match cs, hl with
  | [a0, a1, a2, a3, a4, a5, a6, a7, a8, a9, a10, a11, a12], _ => exact ⟨a0, a1, a2, a3, a4, a5, a6, a7, a8, a9, a10, a11, a12, rfl⟩
 clear h hlen hl
 obtain ⟨y0, h0⟩ := hf 0 _ rfl
 have h0 : DataW.trod enc Tryz.prog w base spare held n' 25 ([a0, a1, a2, a3, a4, a5, a6, a7, a8, a9, a10, a11, a12].take (Tryz.prog.cellsOf 25)) = some y0 := h0
 rw [show Tryz.prog.cellsOf 25 = 4 by kernel_rfl] at h0
 have h0 : DataW.trod enc Tryz.prog w base spare held n' 25 [a0, a1, a2, a3] = some y0 := h0
 obtain ⟨m, e0, q0⟩ := yI h0
 obtain ⟨y1, h1⟩ := hf 1 _ rfl
 have h1 : DataW.trod enc Tryz.prog w base spare held n' 60 ([a4, a5, a6, a7, a8, a9, a10, a11, a12].take (Tryz.prog.cellsOf 60)) = some y1 := h1
 rw [show Tryz.prog.cellsOf 60 = 6 by kernel_rfl] at h1
 have h1 : DataW.trod enc Tryz.prog w base spare held n' 60 [a4, a5, a6, a7, a8, a9] = some y1 := h1
 obtain ⟨x, e1, q1⟩ := sE h1
 obtain ⟨y2, h2⟩ := hf 2 _ rfl
 have h2 : DataW.trod enc Tryz.prog w base spare held n' 61 ([a10, a11, a12].take (Tryz.prog.cellsOf 61)) = some y2 := h2
 rw [show Tryz.prog.cellsOf 61 = 1 by kernel_rfl] at h2
 have h2 : DataW.trod enc Tryz.prog w base spare held n' 61 [a10] = some y2 := h2
 obtain ⟨P, cp, ps, e2, q2⟩ := wO h2
 obtain ⟨y3, h3⟩ := hf 3 _ rfl
 have h3 : DataW.trod enc Tryz.prog w base spare held n' 9 ([a11, a12].take (Tryz.prog.cellsOf 9)) = some y3 := h3
 rw [show Tryz.prog.cellsOf 9 = 1 by kernel_rfl] at h3
 have h3 : DataW.trod enc Tryz.prog w base spare held n' 9 [a11] = some y3 := h3
 obtain ⟨q, e3, q3⟩ := nU zl h3
 obtain ⟨y4, h4⟩ := hf 4 _ rfl
 have h4 : DataW.trod enc Tryz.prog w base spare held n' 9 ([a12].take (Tryz.prog.cellsOf 9)) = some y4 := h4
 rw [show Tryz.prog.cellsOf 9 = 1 by kernel_rfl] at h4
 have h4 : DataW.trod enc Tryz.prog w base spare held n' 9 [a12] = some y4 := h4
 obtain ⟨t, e4, q4⟩ := nU zl h4
 refine ⟨m, x, P, cp, ps, q, t, ?_, q0, q1, q2, q3, q4⟩
 show ([a0, a1, a2, a3] ++ ([a4, a5, a6, a7, a8, a9] ++ ([a10] ++ ([a11] ++ ([a12] ++ [] : List Value) : List Value) : List Value) : List Value) : List Value) = _
 rw [e0, e1, e2, e3, e4]
 try rfl
theorem eH.same {w w2 : World} {F : Except Nat (MailP × Int)} {a b : MlC} {u v : Int} {k k' : Nat} (h : eH w F a u k) (h' : eH w2 F b v k') : k = k' ∧ u = v ∧ a.p = b.p := by
 obtain ⟨_, h | h⟩ := h <;> obtain ⟨_, h' | h'⟩ := h'
 ·
  obtain ⟨h1, h2⟩ := h
  obtain ⟨h3, h4⟩ := h'
  rw [h2] at h4
  injection h4 with h4
  injection h4 with h4 h5
  exact ⟨by rw [h1, h3], h5, h4⟩
 · rw [h.2] at h'; cases h'.2.1
 · rw [h.2.1] at h'; cases h'.2
 obtain ⟨_, h2, rfl, rfl⟩ := h
 obtain ⟨_, h4, rfl, rfl⟩ := h'
 rw [h2] at h4
 injection h4 with h4
 exact ⟨h4, rfl, rfl⟩
theorem eM.same {w w2 : World} {F : Except Nat (MailP × List Int)} {a b : MlC} {U V : Option Addr} {us vs : List Int} {k k' : Nat} (h : eM w F a U us k) (h' : eM w2 F b V vs k') : k = k' ∧ us = vs ∧ a.p = b.p := by
 obtain ⟨_, _, _, h | h⟩ := h <;> obtain ⟨_, _, _, h' | h'⟩ := h'
 ·
  obtain ⟨h1, h2⟩ := h
  obtain ⟨h3, h4⟩ := h'
  rw [h2] at h4
  injection h4 with h4
  injection h4 with h4 h5
  exact ⟨by rw [h1, h3], h5, h4⟩
 · rw [h.2] at h'; cases h'.2.1
 · rw [h.2.1] at h'; cases h'.2
 obtain ⟨_, h2, rfl, rfl⟩ := h
 obtain ⟨_, h4, rfl, rfl⟩ := h'
 rw [h2] at h4
 injection h4 with h4
 exact ⟨h4, rfl, rfl⟩
theorem fS.err_of {w : World} {F : Except Nat MailP} {a : MlC} {k e : Nat} (h : fS w F a k) (hF : F = .error e) : k = e ∧ a = qP := by
 obtain ⟨_, ⟨_, h⟩ | ⟨_, h, h2⟩⟩ := h
 · rw [hF] at h; cases h
 rw [hF] at h; injection h with h; exact ⟨h.symm, h2⟩
theorem fS.ok_of {w : World} {F : Except Nat MailP} {a : MlC} {k : Nat} {p : MailP} (h : fS w F a k) (hF : F = .ok p) : k = 0 ∧ a.p = p := by
 obtain ⟨_, ⟨h0, h⟩ | ⟨_, h, h2⟩⟩ := h
 · rw [hF] at h; injection h with h; exact ⟨h0, h.symm⟩
 rw [hF] at h; cases h
theorem OwL.off {w w' : World} {m : MlC} {g : Nat} {cs : Array Value} (h : OwL w m) (k : Frm [g] w w') (hb : Blk w g 60 cs) (hg : ∀ x ∈ m.l, g ∉ ob x.A) : OwL w' m :=
 ⟨h.l.frm k (fun y hy h' => by rw [za] at h'; subst h'; exact h.l.ne_blk hb jd hy), fun x hx => ⟨⟨(h.el x hx).1.own.frm k (fun y hy h' => by rw [za] at h'; subst h'; exact hg x hx hy), fun u hu => ((h.el x hx).1.fl u hu).frm k (fun y hy h' => by rw [za] at h'; subst h'; exact ((h.el x hx).1.fl u hu).ne_blk hb jd hy), (h.el x hx).1.fit⟩, (h.el x hx).2⟩, h.s.frm k (fun y hy h' => by rw [za] at h'; subst h'; exact h.s.ne_blk hb jd hy), h.ln, h.sn, h.sq⟩
theorem qXy {m p : MailP} {s : Tx} {b : BoxV} (h6 : bW m) (h7 : qV s ∈ m.l.map Prod.fst) (hp : p = { m with l := bU m.l (qV s) b }) (h8 : ¬ bW p) : jY m s b = .error 1 := by
 subst hp
 unfold jY
 rw [if_neg (fun h => h h6), if_neg (fun h => h h7), if_pos h8]
theorem qXz {m p : MailP} {s : Tx} {b : BoxV} (h6 : bW m) (h7 : qV s ∈ m.l.map Prod.fst) (hp : p = { m with l := bU m.l (qV s) b }) (h8 : bW p) : jY m s b = .ok p := by
 subst hp
 unfold jY
 rw [if_neg (fun h => h h6), if_neg (fun h => h h7), if_neg (fun h => h h8)]
theorem qQt {w : World} {A : Option Addr} {c : Nat} {l : List Int} (h : Rd w 1 A l.length (IB l)) (k : Nat) (hk : k ≤ l.length) (hc : l.length ≤ c) : Rd w 1 (dB A c 0 1) (l.take k).length (IB (l.take k)) := by
 have e := h.cut (l := 0) (r := k) (cap := c) jo hk hc
 have e1 : (l.take k).length = k - 0 := by simp; omega
 have e2 : IB (l.take k) = ((IB l).drop (0 * 1)).take ((k - 0) * 1) := by simp [IB, zdg]
 rw [e1, e2]
 exact e
theorem zQ (q : Tx) : (q.take 70).length ≤ 70 := zco _ _
set_option maxHeartbeats 2000000 in
theorem zX (m : MlC) (x : Mc) (P : Option Addr) (cp : Nat) (ps : List Int) (q t : Tx) (w : World) (hm : RawL w m) (hbb : m.b ≤ 9223372036854775807) (hx : Rd w 1 x.A x.m.flags.length (SB x.m.flags)) (hxc : x.m.flags.length ≤ x.c) (hps : Rd w 1 P ps.length (IB ps)) (hpc : ps.length ≤ cp) (hv : cY w) :
  Calls Tryz.prog 8 #[.agg (m.cells ++ (x.cells ++ ([.slice P ps.length cp] ++ ([encStr q] ++ ([encStr t] ++ [] : List Value) : List Value) : List Value) : List Value) : List Value).toArray] w fun e w' => e = .returned (.bool true) ∧ Frm [] w w' := by
 have hq70 := zQ q
 have ht70 := zQ t
 have hps130 : (ps.take 130).length ≤ 130 := zco _ _
 refine VC.calls (nt := 203) (res := #[.tmp 2]) Tryz.func8 rfl Tryz.ntmps8 Tryz.results8 rfl ?_
 refine jS (jR ?_)
 refine Ops.m (qJ.box rfl) rfl ?_
 rintro _ w1 ⟨rfl, hF1⟩
 have hb1 : Blk w1 w.heap.size 63 (m.cells ++ (x.cells ++ ([.slice P ps.length cp] ++ ([encStr q] ++ ([encStr t] ++ [] : List Value) : List Value) : List Value) : List Value) : List Value).toArray := hF1.blk
 have K := hF1.frm
 generalize hg1 : w.heap.size = g1 at hb1 ⊢
 refine ja rfl (jO (jN (jv1 1 ?_)))
 refine jS ?_
 refine VC.held (fun W => Frm [] w1 W) jK ?_
 have hS : Frm [] w1 w1.drew := (Frm.refl _ _).drew
 refine jH 0 rfl hS (fun w0 hw0 => Run.fieldAddr rfl zdm rfl zb jd) ?_
 refine jH 1 rfl hS (fun w0 hw0 => Run.loadA rfl zg zb ((hb1.frm hw0 jp).sub 0 m.cells rfl) (by first | rfl | (simp; done))) ?_
 refine jH 3 rfl hS (fun w0 hw0 => Run.fieldAddr rfl zdm rfl zp jd) ?_
 refine jH 4 rfl hS (fun w0 hw0 => Run.load rfl zab (show _ = some (encStr q) from (hb1.frm hw0 jp).cell 11)) ?_
 refine jH 6 rfl hS (fun w0 hw0 => Run.fieldAddr rfl zdm rfl zp jd) ?_
 refine jH 7 rfl hS (fun w0 hw0 => Run.load rfl zab (show _ = some (encStr t) from (hb1.frm hw0 jp).cell 12)) ?_
 refine jH 9 rfl hS (fun w0 hw0 => Run.fieldAddr rfl zdm rfl zt jd) ?_
 refine jH 10 rfl hS (fun w0 hw0 => Run.loadA rfl zaz zt ((hb1.frm hw0 jp).sub 4 x.cells rfl) (by first | rfl | (simp; done))) ?_
 refine jH 11 rfl hS (fun w0 hw0 => Run.fieldAddr rfl zdm rfl Tryz.sizeOf61 jd) ?_
 refine jH 12 rfl hS (fun w0 hw0 => Run.load rfl Tryz.isAgg61 (show _ = some (Value.slice P ps.length cp) from (hb1.frm hw0 jp).cell 10)) ?_
 refine qZ.par (target := #[true, true, true, true, true, true, true, true, true, true, true, true, true, true, true, false, false, false, false, false]) [⟨2, 28, [], false, fun _ u lo hi W => ∃ m' : MlC, u = m'.val ∧ m'.p = mT m.p ∧ OwL W m' ∧ m'.b = m.b ∧ (∀ x ∈ m'.l, ∀ b ∈ ob x.A, lo ≤ b ∧ b < hi)⟩, ⟨5, 31, [28], false, fun _ u lo hi W => u = encStr (q.take 70)⟩, ⟨8, 34, [31], false, fun _ u lo hi W => u = encStr (t.take 70)⟩, PT.made 13 3 25 #[.slice none 0 0, .slice none 0 0, .int .i64 0, .int .i64 0], PT.made 14 6 60 #[.int .i64 0, .int .i64 0, .int .i64 0, .int .i64 0, .int .u64 0, .slice none 0 0]] 5 rfl jK (show List.Nodup ([28, 31, 34, 3, 6] : List Nat) by decide) (show List.Nodup ([2, 5, 8, 13, 14] : List Nat) by decide) (fun t ht => ?_) (fun t ht => ?_) (fun W hW => ?_) (fun t ht => ?_) (fun t ht => ?_) (fun t ht W g hW hD hE => ?_) (fun g W hW hA => ?_)
 ·
  simp only [zv, zu, or_false] at ht
  rcases ht with rfl | rfl | rfl | rfl | rfl
  · rfl
  · rfl
  · rfl
  · rfl
  rfl
 ·
  simp only [zv, zu, or_false] at ht
  rcases ht with rfl | rfl | rfl | rfl | rfl
  · exact fun x hx => absurd hx jp
  ·
   intro x hx
   simp only [zv, zu, or_false] at hx
   rcases hx with rfl
   exact ⟨_, (.head _), rfl⟩
  ·
   intro x hx
   simp only [zv, zu, or_false] at hx
   rcases hx with rfl
   exact ⟨_, (.tail _ (.head _)), rfl⟩
  · exact fun x hx => absurd hx jp
  exact fun x hx => absurd hx jp
 · exact hS.trans hW jp
 ·
  simp only [zv, zu, or_false] at ht
  rcases ht with rfl | rfl | rfl | rfl | rfl
  · exact fun _ v lo hi W W' hf ⟨m', h1, h2, h3, h4, h5⟩ => ⟨m', h1, h2, h3.frm hf, h4, h5⟩
  · exact fun _ v lo hi W W' hf h => h
  · exact fun _ v lo hi W W' hf h => h
  · exact PT.made_st
  exact PT.made_st
 ·
  simp only [zv, zu, or_false] at ht
  rcases ht with rfl | rfl | rfl | rfl | rfl
  · exact fun _ _ _ _ _ _ _ h => h
  · exact fun _ _ _ _ _ _ _ h => h
  · exact fun _ _ _ _ _ _ _ h => h
  · exact fun _ _ _ _ _ _ _ h => h
  exact fun _ _ _ _ _ _ _ h => h
 ·
  simp only [zv, zu, or_false] at ht
  rcases ht with rfl | rfl | rfl | rfl | rfl
  ·
   refine bB.cl rfl rfl rfl rfl rfl (jE1 Tryz.call11) (pX m W (hm.frm (K.drew.trans hW jp))) ?_
   rintro e W' ⟨m', rfl, h2, h3, h4, h5, hf⟩
   exact ⟨_, rfl, hf, m', rfl, h2, h3, h4, fun x hx b hb => ⟨h5 x hx b hb, qZi (h3.el x hx).1.own b hb⟩⟩
  ·
   refine bB.cl rfl rfl rfl rfl rfl (jE1 Tryz.call12) (gK q W) ?_
   rintro e _ ⟨rfl, rfl⟩
   exact ⟨_, rfl, Frm.refl _ _, rfl⟩
  ·
   refine bB.cl rfl rfl rfl rfl rfl (jE1 Tryz.call12) (gK t W) ?_
   rintro e _ ⟨rfl, rfl⟩
   exact ⟨_, rfl, Frm.refl _ _, rfl⟩
  · exact PT.made_ok rfl rfl qI
  exact PT.made_ok rfl rfl cP
 have hA28 := hA.1 _ (.head _)
 have hA31 := hA.1 _ (.tail _ (.head _))
 have hA34 := hA.1 _ (.tail _ (.tail _ (.head _)))
 have hA3 := hA.1 _ (.tail _ (.tail _ (.tail _ (.head _))))
 have hA6 := hA.1 _ (.tail _ (.tail _ (.tail _ (.tail _ (.head _)))))
 have hA28_31 := hA.2 _ (.head _) _ (.tail _ (.head _)) (show (28 : Nat) ≠ 31 by decide)
 have hA28_34 := hA.2 _ (.head _) _ (.tail _ (.tail _ (.head _))) (show (28 : Nat) ≠ 34 by decide)
 have hA28_3 := hA.2 _ (.head _) _ (.tail _ (.tail _ (.tail _ (.head _)))) (show (28 : Nat) ≠ 3 by decide)
 have hA28_6 := hA.2 _ (.head _) _ (.tail _ (.tail _ (.tail _ (.tail _ (.head _))))) (show (28 : Nat) ≠ 6 by decide)
 have hA31_34 := hA.2 _ (.tail _ (.head _)) _ (.tail _ (.tail _ (.head _))) (show (31 : Nat) ≠ 34 by decide)
 have hA31_3 := hA.2 _ (.tail _ (.head _)) _ (.tail _ (.tail _ (.tail _ (.head _)))) (show (31 : Nat) ≠ 3 by decide)
 have hA31_6 := hA.2 _ (.tail _ (.head _)) _ (.tail _ (.tail _ (.tail _ (.tail _ (.head _))))) (show (31 : Nat) ≠ 6 by decide)
 have hA34_3 := hA.2 _ (.tail _ (.tail _ (.head _))) _ (.tail _ (.tail _ (.tail _ (.head _)))) (show (34 : Nat) ≠ 3 by decide)
 have hA34_6 := hA.2 _ (.tail _ (.tail _ (.head _))) _ (.tail _ (.tail _ (.tail _ (.tail _ (.head _))))) (show (34 : Nat) ≠ 6 by decide)
 have hA3_6 := hA.2 _ (.tail _ (.tail _ (.tail _ (.head _)))) _ (.tail _ (.tail _ (.tail _ (.tail _ (.head _))))) (show (3 : Nat) ≠ 6 by decide)
 clear hA
 simp only [zal, zbo, zci, zav]
 dsimp only at hA28 hA31 hA34 hA3 hA6 hA28_31 hA28_34 hA28_3 hA28_6 hA31_34 hA31_3 hA31_6 hA34_3 hA34_6 hA3_6
 generalize g 28 = q28 at *
 obtain ⟨u28, lo28, hi28⟩ := q28
 generalize g 31 = q31 at *
 obtain ⟨u31, lo31, hi31⟩ := q31
 generalize g 34 = q34 at *
 obtain ⟨u34, lo34, hi34⟩ := q34
 generalize g 3 = q3 at *
 obtain ⟨u3, lo3, hi3⟩ := q3
 generalize g 6 = q6 at *
 obtain ⟨u6, lo6, hi6⟩ := q6
 dsimp only at hA28 hA31 hA34 hA3 hA6 hA28_31 hA28_34 hA28_3 hA28_6 hA31_34 hA31_3 hA31_6 hA34_3 hA34_6 hA3_6 ⊢
 obtain ⟨⟨⟨rfl, hlt3⟩, hb3⟩, hA3⟩ := hA3
 obtain ⟨⟨⟨rfl, hlt6⟩, hb6⟩, hA6⟩ := hA6
 obtain ⟨m1, rfl, hpm1, hO1, hvm1, hfa1⟩ := hA28.1
 obtain rfl := hA31.1
 obtain rfl := hA34.1
 have hne6 : ∀ x ∈ m1.l, lo6 ∉ ob x.A := fun x hx h => by have := hfa1 x hx _ h; omega
 have hS := hS.trans hW jp
 have hK1 := K.size
 have K := K.trans hS jp
 change w1.heap.size ≤ _ ∧ _ at hA3
 change w1.heap.size ≤ _ ∧ _ at hA6
 have hne36 : lo3 ≠ lo6 := jo
 clear hA28
 refine qZ.st 15 rfl jK (qW.storeA rfl rfl zb hb3 rfl (MlC.cells_one m1)) trivial rfl ?_
 rintro w3 ⟨hbn_w3, hf_w3, hsz_w3⟩
 have hb6 := hb6.frm hf_w3 (by simp; omega)
 have hO1 := hO1.blk hf_w3 hb3 jd jd jd
 have hb3 : Blk w3 lo3 25 (m1.cells.toArray) := hbn_w3
 have K := Frm.own K hf_w3 (fun y hy => by simp at hy; omega)
 have hS := Frm.own hS hf_w3 (fun y hy => by simp at hy; omega)
 refine ⟨hS, ?_⟩
 refine jH 16 rfl hS (fun w0 hw0 => Run.asg rfl) ?_
 refine jH 17 rfl hS (fun w0 hw0 => Run.asg rfl) ?_
 refine qZ.st 18 rfl jK (qW.storeA rfl rfl zt hb6 rfl (x.cells_one)) trivial rfl ?_
 rintro w6 ⟨hbn_w6, hf_w6, hsz_w6⟩
 have hb3 := hb3.frm hf_w6 (by simp; omega)
 have hO1 := hO1.off hf_w6 hb6 hne6
 have hb6 : Blk w6 lo6 60 (x.cells.toArray) := hbn_w6
 have K := Frm.own K hf_w6 (fun y hy => by simp at hy; omega)
 have hS := Frm.own hS hf_w6 (fun y hy => by simp at hy; omega)
 refine ⟨hS, ?_⟩
 refine jH 19 rfl hS (fun w0 hw0 => Run.asg rfl) ?_
 refine qZ.done jK ?_
 refine jN (jv5 3 4 5 6 7 ?_)
 refine jS (jR (jf rfl zac rfl zae (jl rfl zas (hb6.cell 5) ?_)))
 refine Ops.cl (jE1 Tryz.call34) (pQ x.A x.c x.m.flags _ hxc (hx.frm K jp)) rfl ?_
 rintro e w7 ⟨hf_w7, F, dF, rfl, hOF, _⟩
 refine ⟨_, rfl, ?_⟩
 have hb3 := hb3.frm hf_w7 jp
 have hb6 := hb6.frm hf_w7 jp
 have hO1 := hO1.frm hf_w7
 have K := Frm.trans K hf_w7 jp
 have hff := lT x.m.flags
 refine jf rfl zac rfl zae ?_
 refine Ops.st (qW.store rfl rfl zae hb6 rfl rfl) ?_
 rintro w8 ⟨hbn_w8, hf_w8, hsz_w8⟩
 have hb3 := hb3.frm hf_w8 (by simp; omega)
 have hO1 := hO1.off hf_w8 hb6 hne6
 have hOF := hOF.frm hf_w8 (fun y hy => by have := hOF.ne_blk hb6 jd; simp; rintro rfl; exact this hy)
 have hb6 : Blk w8 lo6 60 ((⟨{ x.m with flags := cX x.m.flags }, F, dF⟩ : Mc).cells.toArray) := hbn_w8
 have K := Frm.own K hf_w8 (fun y hy => by simp at hy; omega)
 refine jO (jN (jv5 3 4 5 6 7 ?_))
 refine jS (jS (jR (jm rfl (je (Run.lenS rfl zat) (jb rfl rfl (Bin.gtrN _ 130) (jO (jN (jv6 3 4 5 6 7 45 ?_))))))))
 refine VC.meet (σ := Option Addr × Nat) (fun s => [(3, .pointer (some ⟨lo3, 0, none⟩)), (4, encStr (q.take 70)), (5, encStr (t.take 70)), (6, .pointer (some ⟨lo6, 0, none⟩)), (7, .slice s.1 (ps.take 130).length s.2)]) (fun s wr => w8 = wr ∧ Rd w8 1 s.1 (ps.take 130).length (IB (ps.take 130))) ?_ ?_
 ·
  refine jD rfl (fun hc1 => ?_) fun hc1 => ?_
  ·
   refine jR (jm rfl (je (Run.sliceS 0 130 rfl zat zi evB.none_ (evB.some_ rfl) jo jo) (ja rfl (jO ?_))))
   refine jN ⟨(dB P cp 0 1, cp - 0), (js5 rfl rfl rfl rfl (by rw [show (ps.take 130).length = 130 - 0 by simp; omega]; rfl)), ?_⟩
   exact ⟨rfl, qQt (hps.frm K jp) 130 jo hpc⟩
  refine jQ ?_
  refine jN ⟨(P, cp), (js5 rfl rfl rfl rfl (by rw [zw (l := ps) (i := 130) jo]; rfl)), ?_⟩
  exact ⟨rfl, by rw [zw (l := ps) (i := 130) jo]; exact hps.frm K jp⟩
 rintro ⟨P2, cp2⟩ _ ⟨rfl, hps2⟩ Γ hΓ
 dsimp only at hps2
 have K8 := Frm.refl [] w8
 refine jN (VC.sub _ hΓ (jS (jR (je (Run.loadA rfl zg zb (fun j v hj => hb3.cells j v hj) (by first | rfl | (simp; done))) ?_))))
 refine Ops.cl (jE1 Tryz.call11) (pX m1 _ hO1.raw) rfl ?_
 rintro e w9 ⟨m2, rfl, hpm2, hO2, _, hfa2, hf_w9⟩
 have hsw8 := hb6.lt
 refine ⟨_, rfl, ?_⟩
 have hb3 := hb3.frm hf_w9 jp
 have hb6 := hb6.frm hf_w9 jp
 have hO1 := hO1.frm hf_w9
 have hOF := hOF.frm hf_w9 jp
 have K := Frm.trans K hf_w9 jp
 have K8 := Frm.trans K8 hf_w9 jp
 have K9 := Frm.refl [] w9
 have hne62 : ∀ x ∈ m2.l, lo6 ∉ ob x.A := fun x hx h => by have := hfa2 x hx _ h; have := hb6.lt; have := hsw8; omega
 refine Ops.m (qJ.alloc qI) rfl ?_
 rintro _ w10 ⟨rfl, hF_w10⟩
 have hb8 := hF_w10.blk
 have hs8_K := K.size
 have hs8_K8 := K8.size
 have hs8_K9 := K9.size
 have lt_hb3_8 := hb3.lt
 have lt_hb6_8 := hb6.lt
 have hb3 := hb3.frm hF_w10.frm jp
 have hb6 := hb6.frm hF_w10.frm jp
 have hO1 := hO1.frm hF_w10.frm
 have hOF := hOF.frm hF_w10.frm jp
 have hO2 := hO2.frm hF_w10.frm
 have K := Frm.trans K hF_w10.frm jp
 have K8 := Frm.trans K8 hF_w10.frm jp
 have K9 := Frm.trans K9 hF_w10.frm jp
 generalize hg8 : w9.heap.size = g8 at hb8 hs8_K hs8_K8 hs8_K9 lt_hb3_8 lt_hb6_8 ⊢
 refine Ops.st (qW.storeA rfl rfl zb hb8 rfl (MlC.cells_one m2)) ?_
 rintro w11 ⟨hbn_w11, hf_w11, hsz_w11⟩
 have hb3 := hb3.frm hf_w11 (by simp; omega)
 have hb6 := hb6.frm hf_w11 (by simp; omega)
 have hO1 := hO1.blk hf_w11 hb8 jd jd jd
 have hOF := hOF.frm hf_w11 (fun y hy => by have := hOF.ne_blk hb8 jd; simp; rintro rfl; exact this hy)
 have hO2 := hO2.blk hf_w11 hb8 jd jd jd
 have hb8 : Blk w11 g8 25 (m2.cells.toArray) := hbn_w11
 have K := Frm.own K hf_w11 (fun y hy => by simp at hy; omega)
 have K8 := Frm.own K8 hf_w11 (fun y hy => by simp at hy; omega)
 have K9 := Frm.own K9 hf_w11 (fun y hy => by simp at hy; omega)
 refine jO (jN (jv6 3 4 5 6 7 8 ?_))
 refine jS (jR (je (Run.loadA rfl zg zb (fun j v hj => hb3.cells j v hj) (by first | rfl | (simp; done))) (jm rfl (je (Run.loadA rfl zaz zt (fun j v hj => hb6.cells j v hj) (by first | rfl | (simp; done))) ?_))))
 refine Ops.cl (jE3 Tryz.call35) (sF m1 (q.take 70) (⟨{ x.m with flags := cX x.m.flags }, F, dF⟩ : Mc) _ hO1.rdl jo ⟨hOF.rd, by have := hff.1; dsimp only; omega, fun q hq => by have := hff.2 q hq; omega⟩ (hv.frm K)) rfl ?_
 rintro e w12 ⟨a, u, k, rfl, hI, _, hf_w12⟩
 refine ⟨_, rfl, ?_⟩
 have hb3 := hb3.frm hf_w12 jp
 have hb6 := hb6.frm hf_w12 jp
 have hO1 := hO1.frm hf_w12
 have hOF := hOF.frm hf_w12 jp
 have hO2 := hO2.frm hf_w12
 have hb8 := hb8.frm hf_w12 jp
 have K := Frm.trans K hf_w12 jp
 have K8 := Frm.trans K8 hf_w12 jp
 have K9 := Frm.trans K9 hf_w12 jp
 have K12 := Frm.refl [] w12
 refine jm rfl (je (Run.extract rfl rfl) (je (Run.extract rfl rfl) (je (Run.extract rfl rfl) ?_)))
 refine Ops.m (qJ.alloc qI) rfl ?_
 rintro _ w13 ⟨rfl, hF_w13⟩
 have hb9 := hF_w13.blk
 have hs9_K := K.size
 have hs9_K8 := K8.size
 have hs9_K9 := K9.size
 have hs9_K12 := K12.size
 have lt_hb3_9 := hb3.lt
 have lt_hb6_9 := hb6.lt
 have lt_hb8_9 := hb8.lt
 have hb3 := hb3.frm hF_w13.frm jp
 have hb6 := hb6.frm hF_w13.frm jp
 have hO1 := hO1.frm hF_w13.frm
 have hOF := hOF.frm hF_w13.frm jp
 have hO2 := hO2.frm hF_w13.frm
 have hb8 := hb8.frm hF_w13.frm jp
 have K := Frm.trans K hF_w13.frm jp
 have K8 := Frm.trans K8 hF_w13.frm jp
 have K9 := Frm.trans K9 hF_w13.frm jp
 have K12 := Frm.trans K12 hF_w13.frm jp
 generalize hg9 : w12.heap.size = g9 at hb9 hs9_K hs9_K8 hs9_K9 hs9_K12 lt_hb3_9 lt_hb6_9 lt_hb8_9 ⊢
 refine Ops.st (qW.storeA rfl rfl zb hb9 rfl (MlC.cells_one a)) ?_
 rintro w14 ⟨hbn_w14, hf_w14, hsz_w14⟩
 have hb3 := hb3.frm hf_w14 (by simp; omega)
 have hb6 := hb6.frm hf_w14 (by simp; omega)
 have hO1 := hO1.blk hf_w14 hb9 jd jd jd
 have hOF := hOF.frm hf_w14 (fun y hy => by have := hOF.ne_blk hb9 jd; simp; rintro rfl; exact this hy)
 have hO2 := hO2.blk hf_w14 hb9 jd jd jd
 have hb8 := hb8.frm hf_w14 (by simp; omega)
 have hb9 : Blk w14 g9 25 (a.cells.toArray) := hbn_w14
 have K := Frm.own K hf_w14 (fun y hy => by simp at hy; omega)
 have K8 := Frm.own K8 hf_w14 (fun y hy => by simp at hy; omega)
 have K9 := Frm.own K9 hf_w14 (fun y hy => by simp at hy; omega)
 have K12 := Frm.own K12 hf_w14 (fun y hy => by simp at hy; omega)
 refine ja rfl (ja rfl (jO (jN (jv9 3 4 5 6 7 8 9 10 11 ?_))))
 refine jS (jR (je (Run.loadA rfl zg zb (fun j v hj => hb3.cells j v hj) (by first | rfl | (simp; done))) (jm rfl (je (Run.loadA rfl zaz zt (fun j v hj => hb6.cells j v hj) (by first | rfl | (simp; done))) ?_))))
 refine Ops.cl (jE3 Tryz.call36) (rM m1 (q.take 70) (⟨{ x.m with flags := cX x.m.flags }, F, dF⟩ : Mc) _ hO1.rdl jo ⟨hOF.rd, by have := hff.1; dsimp only; omega, fun q hq => by have := hff.2 q hq; omega⟩ (by rw [hvm1]; exact hbb)) rfl ?_
 rintro e w15 ⟨b, u2, k2, rfl, hJ, hf_w15⟩
 refine ⟨_, rfl, ?_⟩
 have hb3 := hb3.frm hf_w15 jp
 have hb6 := hb6.frm hf_w15 jp
 have hO1 := hO1.frm hf_w15
 have hOF := hOF.frm hf_w15 jp
 have hO2 := hO2.frm hf_w15
 have hb8 := hb8.frm hf_w15 jp
 have hb9 := hb9.frm hf_w15 jp
 have K := Frm.trans K hf_w15 jp
 have K8 := Frm.trans K8 hf_w15 jp
 have K9 := Frm.trans K9 hf_w15 jp
 have K12 := Frm.trans K12 hf_w15 jp
 have K15 := Frm.refl [] w15
 obtain ⟨rfl, rfl, hE⟩ := hI.same hJ
 refine jm rfl (je (Run.extract rfl rfl) (je (Run.extract rfl rfl) (je (Run.extract rfl rfl) ?_)))
 refine Ops.m (qJ.alloc qI) rfl ?_
 rintro _ w16 ⟨rfl, hF_w16⟩
 have hb12 := hF_w16.blk
 have hs12_K := K.size
 have hs12_K8 := K8.size
 have hs12_K9 := K9.size
 have hs12_K12 := K12.size
 have hs12_K15 := K15.size
 have lt_hb3_12 := hb3.lt
 have lt_hb6_12 := hb6.lt
 have lt_hb8_12 := hb8.lt
 have lt_hb9_12 := hb9.lt
 have hb3 := hb3.frm hF_w16.frm jp
 have hb6 := hb6.frm hF_w16.frm jp
 have hO1 := hO1.frm hF_w16.frm
 have hOF := hOF.frm hF_w16.frm jp
 have hO2 := hO2.frm hF_w16.frm
 have hb8 := hb8.frm hF_w16.frm jp
 have hb9 := hb9.frm hF_w16.frm jp
 have K := Frm.trans K hF_w16.frm jp
 have K8 := Frm.trans K8 hF_w16.frm jp
 have K9 := Frm.trans K9 hF_w16.frm jp
 have K12 := Frm.trans K12 hF_w16.frm jp
 have K15 := Frm.trans K15 hF_w16.frm jp
 generalize hg12 : w15.heap.size = g12 at hb12 hs12_K hs12_K8 hs12_K9 hs12_K12 hs12_K15 lt_hb3_12 lt_hb6_12 lt_hb8_12 lt_hb9_12 ⊢
 refine Ops.st (qW.storeA rfl rfl zb hb12 rfl (MlC.cells_one b)) ?_
 rintro w17 ⟨hbn_w17, hf_w17, hsz_w17⟩
 have hb3 := hb3.frm hf_w17 (by simp; omega)
 have hb6 := hb6.frm hf_w17 (by simp; omega)
 have hO1 := hO1.blk hf_w17 hb12 jd jd jd
 have hOF := hOF.frm hf_w17 (fun y hy => by have := hOF.ne_blk hb12 jd; simp; rintro rfl; exact this hy)
 have hO2 := hO2.blk hf_w17 hb12 jd jd jd
 have hb8 := hb8.frm hf_w17 (by simp; omega)
 have hb9 := hb9.frm hf_w17 (by simp; omega)
 have hb12 : Blk w17 g12 25 (b.cells.toArray) := hbn_w17
 have K := Frm.own K hf_w17 (fun y hy => by simp at hy; omega)
 have K8 := Frm.own K8 hf_w17 (fun y hy => by simp at hy; omega)
 have K9 := Frm.own K9 hf_w17 (fun y hy => by simp at hy; omega)
 have K12 := Frm.own K12 hf_w17 (fun y hy => by simp at hy; omega)
 have K15 := Frm.own K15 hf_w17 (fun y hy => by simp at hy; omega)
 have hRa := hI.1.frm K12
 have hRb := hJ.1.frm K15
 refine ja rfl (ja rfl (jO (jN (jv12 3 4 5 6 7 8 9 10 11 12 13 14 ?_))))
 refine jS (jS (jR (je (Run.loadA rfl zg zb (fun j v hj => hb9.cells j v hj) (by first | rfl | (simp; done))) (je (Run.loadA rfl zg zb (fun j v hj => hb12.cells j v hj) (by first | rfl | (simp; done))) ?_))))
 refine Ops.cl (jE2 zel) (dD a b _ hRa hRb) rfl ?_
 rintro e w18 ⟨rfl, hf_w18⟩
 rw [decide_eq_true (hE)]
 refine ⟨_, rfl, ?_⟩
 have hb3 := hb3.frm hf_w18 jp
 have hb6 := hb6.frm hf_w18 jp
 have hO1 := hO1.frm hf_w18
 have hOF := hOF.frm hf_w18 jp
 have hO2 := hO2.frm hf_w18
 have hb8 := hb8.frm hf_w18 jp
 have hb9 := hb9.frm hf_w18 jp
 have hb12 := hb12.frm hf_w18 jp
 have K := Frm.trans K hf_w18 jp
 have K8 := Frm.trans K8 hf_w18 jp
 have K9 := Frm.trans K9 hf_w18 jp
 have K12 := Frm.trans K12 hf_w18 jp
 have K15 := Frm.trans K15 hf_w18 jp
 refine je (Run.not rfl) (jM ?_)
 refine jG ?_
 refine jG ?_
 refine jk (Run.bin rfl rfl (Bin.neq _ _)) ?_
 refine je (Run.pickF rfl rfl (rfl)) (jM ?_)
 refine jG ?_
 refine jG ?_
 refine jk (Run.bin rfl rfl (Bin.neq _ _)) ?_
 refine je (Run.pickF rfl rfl jp) (jO (jN (jv7 3 4 5 6 7 8 79 ?_)))
 refine VC.condF rfl jp ?_
 refine jQ (jN (jv6 3 4 5 6 7 8 ?_))
 refine jS (jR (je (Run.loadA rfl zg zb (fun j v hj => hb3.cells j v hj) (by first | rfl | (simp; done))) (jm rfl (jm rfl (jM ?_)))))
 refine Ops.cl (jE4 Tryz.call37) (wI m1 (q.take 70) (t.take 70) P2 cp2 (ps.take 130) _ hO1.rdl jo jo (hps2.frm (K8) jp) jo (hv.frm K)) rfl ?_
 rintro e w19 ⟨c, U, dU, us, k2, rfl, hI2, _, hf_w19⟩
 refine ⟨_, rfl, ?_⟩
 have hb3 := hb3.frm hf_w19 jp
 have hb6 := hb6.frm hf_w19 jp
 have hO1 := hO1.frm hf_w19
 have hOF := hOF.frm hf_w19 jp
 have hO2 := hO2.frm hf_w19
 have hb8 := hb8.frm hf_w19 jp
 have hb9 := hb9.frm hf_w19 jp
 have hb12 := hb12.frm hf_w19 jp
 have K := Frm.trans K hf_w19 jp
 have K8 := Frm.trans K8 hf_w19 jp
 have K9 := Frm.trans K9 hf_w19 jp
 have K12 := Frm.trans K12 hf_w19 jp
 have K15 := Frm.trans K15 hf_w19 jp
 have K19 := Frm.refl [] w19
 refine jm rfl (je (Run.extract rfl rfl) (je (Run.extract rfl rfl) (je (Run.extract rfl rfl) ?_)))
 refine Ops.m (qJ.alloc qI) rfl ?_
 rintro _ w20 ⟨rfl, hF_w20⟩
 have hb15 := hF_w20.blk
 have hs15_K := K.size
 have hs15_K8 := K8.size
 have hs15_K9 := K9.size
 have hs15_K12 := K12.size
 have hs15_K15 := K15.size
 have hs15_K19 := K19.size
 have lt_hb3_15 := hb3.lt
 have lt_hb6_15 := hb6.lt
 have lt_hb8_15 := hb8.lt
 have lt_hb9_15 := hb9.lt
 have lt_hb12_15 := hb12.lt
 have hb3 := hb3.frm hF_w20.frm jp
 have hb6 := hb6.frm hF_w20.frm jp
 have hO1 := hO1.frm hF_w20.frm
 have hOF := hOF.frm hF_w20.frm jp
 have hO2 := hO2.frm hF_w20.frm
 have hb8 := hb8.frm hF_w20.frm jp
 have hb9 := hb9.frm hF_w20.frm jp
 have hb12 := hb12.frm hF_w20.frm jp
 have K := Frm.trans K hF_w20.frm jp
 have K8 := Frm.trans K8 hF_w20.frm jp
 have K9 := Frm.trans K9 hF_w20.frm jp
 have K12 := Frm.trans K12 hF_w20.frm jp
 have K15 := Frm.trans K15 hF_w20.frm jp
 have K19 := Frm.trans K19 hF_w20.frm jp
 generalize hg15 : w19.heap.size = g15 at hb15 hs15_K hs15_K8 hs15_K9 hs15_K12 hs15_K15 hs15_K19 lt_hb3_15 lt_hb6_15 lt_hb8_15 lt_hb9_15 lt_hb12_15 ⊢
 refine Ops.st (qW.storeA rfl rfl zb hb15 rfl (MlC.cells_one c)) ?_
 rintro w21 ⟨hbn_w21, hf_w21, hsz_w21⟩
 have hb3 := hb3.frm hf_w21 (by simp; omega)
 have hb6 := hb6.frm hf_w21 (by simp; omega)
 have hO1 := hO1.blk hf_w21 hb15 jd jd jd
 have hOF := hOF.frm hf_w21 (fun y hy => by have := hOF.ne_blk hb15 jd; simp; rintro rfl; exact this hy)
 have hO2 := hO2.blk hf_w21 hb15 jd jd jd
 have hb8 := hb8.frm hf_w21 (by simp; omega)
 have hb9 := hb9.frm hf_w21 (by simp; omega)
 have hb12 := hb12.frm hf_w21 (by simp; omega)
 have hb15 : Blk w21 g15 25 (c.cells.toArray) := hbn_w21
 have K := Frm.own K hf_w21 (fun y hy => by simp at hy; omega)
 have K8 := Frm.own K8 hf_w21 (fun y hy => by simp at hy; omega)
 have K9 := Frm.own K9 hf_w21 (fun y hy => by simp at hy; omega)
 have K12 := Frm.own K12 hf_w21 (fun y hy => by simp at hy; omega)
 have K15 := Frm.own K15 hf_w21 (fun y hy => by simp at hy; omega)
 have K19 := Frm.own K19 hf_w21 (fun y hy => by simp at hy; omega)
 refine ja rfl (ja rfl (jO (jN (jv9 3 4 5 6 7 8 15 16 17 ?_))))
 refine jS (jR (je (Run.loadA rfl zg zb (fun j v hj => hb3.cells j v hj) (by first | rfl | (simp; done))) (jm rfl (jm rfl (jM ?_)))))
 refine Ops.cl (jE4 Tryz.call38) (uZ m1 (q.take 70) (t.take 70) P2 cp2 (ps.take 130) _ hO1.rdl jo jo (hps2.frm (K8) jp) jo (by rw [hvm1]; exact hbb)) rfl ?_
 rintro e w22 ⟨d, V, dV, vs, k3, rfl, hJ2, hf_w22⟩
 refine ⟨_, rfl, ?_⟩
 have hb3 := hb3.frm hf_w22 jp
 have hb6 := hb6.frm hf_w22 jp
 have hO1 := hO1.frm hf_w22
 have hOF := hOF.frm hf_w22 jp
 have hO2 := hO2.frm hf_w22
 have hb8 := hb8.frm hf_w22 jp
 have hb9 := hb9.frm hf_w22 jp
 have hb12 := hb12.frm hf_w22 jp
 have hb15 := hb15.frm hf_w22 jp
 have K := Frm.trans K hf_w22 jp
 have K8 := Frm.trans K8 hf_w22 jp
 have K9 := Frm.trans K9 hf_w22 jp
 have K12 := Frm.trans K12 hf_w22 jp
 have K15 := Frm.trans K15 hf_w22 jp
 have K19 := Frm.trans K19 hf_w22 jp
 have K22 := Frm.refl [] w22
 obtain ⟨rfl, rfl, hE2⟩ := hI2.same hJ2
 refine jm rfl (je (Run.extract rfl rfl) (je (Run.extract rfl rfl) (je (Run.extract rfl rfl) ?_)))
 refine Ops.m (qJ.alloc qI) rfl ?_
 rintro _ w23 ⟨rfl, hF_w23⟩
 have hb18 := hF_w23.blk
 have hs18_K := K.size
 have hs18_K8 := K8.size
 have hs18_K9 := K9.size
 have hs18_K12 := K12.size
 have hs18_K15 := K15.size
 have hs18_K19 := K19.size
 have hs18_K22 := K22.size
 have lt_hb3_18 := hb3.lt
 have lt_hb6_18 := hb6.lt
 have lt_hb8_18 := hb8.lt
 have lt_hb9_18 := hb9.lt
 have lt_hb12_18 := hb12.lt
 have lt_hb15_18 := hb15.lt
 have hb3 := hb3.frm hF_w23.frm jp
 have hb6 := hb6.frm hF_w23.frm jp
 have hO1 := hO1.frm hF_w23.frm
 have hOF := hOF.frm hF_w23.frm jp
 have hO2 := hO2.frm hF_w23.frm
 have hb8 := hb8.frm hF_w23.frm jp
 have hb9 := hb9.frm hF_w23.frm jp
 have hb12 := hb12.frm hF_w23.frm jp
 have hb15 := hb15.frm hF_w23.frm jp
 have K := Frm.trans K hF_w23.frm jp
 have K8 := Frm.trans K8 hF_w23.frm jp
 have K9 := Frm.trans K9 hF_w23.frm jp
 have K12 := Frm.trans K12 hF_w23.frm jp
 have K15 := Frm.trans K15 hF_w23.frm jp
 have K19 := Frm.trans K19 hF_w23.frm jp
 have K22 := Frm.trans K22 hF_w23.frm jp
 generalize hg18 : w22.heap.size = g18 at hb18 hs18_K hs18_K8 hs18_K9 hs18_K12 hs18_K15 hs18_K19 hs18_K22 lt_hb3_18 lt_hb6_18 lt_hb8_18 lt_hb9_18 lt_hb12_18 lt_hb15_18 ⊢
 refine Ops.st (qW.storeA rfl rfl zb hb18 rfl (MlC.cells_one d)) ?_
 rintro w24 ⟨hbn_w24, hf_w24, hsz_w24⟩
 have hb3 := hb3.frm hf_w24 (by simp; omega)
 have hb6 := hb6.frm hf_w24 (by simp; omega)
 have hO1 := hO1.blk hf_w24 hb18 jd jd jd
 have hOF := hOF.frm hf_w24 (fun y hy => by have := hOF.ne_blk hb18 jd; simp; rintro rfl; exact this hy)
 have hO2 := hO2.blk hf_w24 hb18 jd jd jd
 have hb8 := hb8.frm hf_w24 (by simp; omega)
 have hb9 := hb9.frm hf_w24 (by simp; omega)
 have hb12 := hb12.frm hf_w24 (by simp; omega)
 have hb15 := hb15.frm hf_w24 (by simp; omega)
 have hb18 : Blk w24 g18 25 (d.cells.toArray) := hbn_w24
 have K := Frm.own K hf_w24 (fun y hy => by simp at hy; omega)
 have K8 := Frm.own K8 hf_w24 (fun y hy => by simp at hy; omega)
 have K9 := Frm.own K9 hf_w24 (fun y hy => by simp at hy; omega)
 have K12 := Frm.own K12 hf_w24 (fun y hy => by simp at hy; omega)
 have K15 := Frm.own K15 hf_w24 (fun y hy => by simp at hy; omega)
 have K19 := Frm.own K19 hf_w24 (fun y hy => by simp at hy; omega)
 have K22 := Frm.own K22 hf_w24 (fun y hy => by simp at hy; omega)
 have hRc := hI2.1.frm K19
 have hRd := hJ2.1.frm K22
 have hU := hI2.2.1.frm K19 jp
 have hV := hJ2.2.1.frm K22 jp
 have hul := hI2.2.2.1
 refine ja rfl (ja rfl (jO (jN (jv10 3 4 6 8 15 16 17 18 19 20 ?_))))
 refine jS (jS (jR (je (Run.loadA rfl zg zb (fun j v hj => hb15.cells j v hj) (by first | rfl | (simp; done))) (je (Run.loadA rfl zg zb (fun j v hj => hb18.cells j v hj) (by first | rfl | (simp; done))) ?_))))
 refine Ops.cl (jE2 zel) (dD c d _ hRc hRd) rfl ?_
 rintro e w25 ⟨rfl, hf_w25⟩
 rw [decide_eq_true (hE2)]
 refine ⟨_, rfl, ?_⟩
 have hb3 := hb3.frm hf_w25 jp
 have hb6 := hb6.frm hf_w25 jp
 have hO1 := hO1.frm hf_w25
 have hOF := hOF.frm hf_w25 jp
 have hO2 := hO2.frm hf_w25
 have hb8 := hb8.frm hf_w25 jp
 have hb9 := hb9.frm hf_w25 jp
 have hb12 := hb12.frm hf_w25 jp
 have hb15 := hb15.frm hf_w25 jp
 have hb18 := hb18.frm hf_w25 jp
 have K := Frm.trans K hf_w25 jp
 have K8 := Frm.trans K8 hf_w25 jp
 have K9 := Frm.trans K9 hf_w25 jp
 have K12 := Frm.trans K12 hf_w25 jp
 have K15 := Frm.trans K15 hf_w25 jp
 have K19 := Frm.trans K19 hf_w25 jp
 have K22 := Frm.trans K22 hf_w25 jp
 refine je (Run.not rfl) (jM ?_)
 refine jG ?_
 refine jk (Run.lenS rfl zat) ?_
 refine jG ?_
 refine jk (Run.lenS rfl zat) ?_
 refine jk (Run.bin rfl rfl (Bin.neqN _ _)) ?_
 refine je (Run.pickF rfl rfl (rfl)) (jM ?_)
 refine jG ?_
 refine jG ?_
 refine jk (Run.bin rfl rfl (Bin.neqN _ _)) ?_
 refine je (Run.pickF rfl rfl jp) (jM ?_)
 refine jk (Run.loadA rfl zg zb (fun j v hj => hb3.cells j v hj) (by first | rfl | (simp; done))) ?_
 refine jk (Run.loadA rfl zg zb (fun j v hj => hb8.cells j v hj) (by first | rfl | (simp; done))) ?_
 refine Ops.clg rfl au (jE2 zel) (dD m1 m2 _ hO1.rdl hO2.rdl) rfl ?_
 rintro e w26 ⟨rfl, hf_w26⟩
 rw [decide_eq_true (by rw [hpm2, hpm1, yE])]
 refine ⟨_, rfl, ?_⟩
 have hb3 := hb3.frm hf_w26 jp
 have hb6 := hb6.frm hf_w26 jp
 have hO1 := hO1.frm hf_w26
 have hOF := hOF.frm hf_w26 jp
 have hO2 := hO2.frm hf_w26
 have hb8 := hb8.frm hf_w26 jp
 have hb9 := hb9.frm hf_w26 jp
 have hb12 := hb12.frm hf_w26 jp
 have hb15 := hb15.frm hf_w26 jp
 have hb18 := hb18.frm hf_w26 jp
 have K := Frm.trans K hf_w26 jp
 have K8 := Frm.trans K8 hf_w26 jp
 have K9 := Frm.trans K9 hf_w26 jp
 have K12 := Frm.trans K12 hf_w26 jp
 have K15 := Frm.trans K15 hf_w26 jp
 have K19 := Frm.trans K19 hf_w26 jp
 have K22 := Frm.trans K22 hf_w26 jp
 refine jk (Run.not rfl) ?_
 refine je (Run.pickF rfl rfl jp) (jO (jN (jv6 3 4 6 16 19 119 ?_)))
 refine VC.condF rfl jp ?_
 refine jQ (jN (jv5 3 4 6 16 19 ?_))
 refine jS (jS (jR (jz 0 (jO (jN (jB ?_))))))
 have hUn := hU.frm (hf_w25.trans hf_w26 jp) jp
 have hVn := hV.frm (hf_w25.trans hf_w26 jp) jp
 have K26 := Frm.refl [] w26
 refine VC.loop (σ := Nat) (fun s => [(3, .pointer (some ⟨lo3, 0, none⟩)), (4, encStr (q.take 70)), (6, .pointer (some ⟨lo6, 0, none⟩)), (16, .slice U us.length dU), (19, .slice V us.length dV), (21, .int .i64 ((s : Nat) : Int))]) (fun s wr => s ≤ us.length ∧ Frm [] w26 wr) (fun s => us.length - s) 0 (js6 rfl rfl rfl rfl rfl rfl) ⟨zam _, K26⟩ ?_
 rintro i wr ⟨hi, F26⟩
 refine jS (jS (jR (jm rfl (jm rfl (je (Run.lenS rfl zat) (jb rfl rfl (Bin.lssN _ _) (jO (jN (jv7 3 4 6 16 19 21 123 ?_)))))))))
 refine jD rfl (fun hc4 => ?_) fun hc4 => ?_
 ·
  have F26 := F26.trans (qO.drew wr).frm jp
  obtain ⟨adu, hadu, hcu⟩ := (hUn.frm F26 jp).elem hc4
  have hcu := hcu 0 (.int .i64 us[i]) (by simp [IB, hc4])
  obtain ⟨adv, hadv, hcv⟩ := (hVn.frm F26 jp).elem hc4
  have hcv := hcv 0 (.int .i64 us[i]) (by simp [IB, hc4])
  refine jQ (jN (jv6 3 4 6 16 19 21 ?_))
  refine jS (jB (jS ?_))
  refine VC.still jK jK ?_
  refine qM ?_
  refine qM ?_
  refine qE (Run.indexS i (show _ = some (Value.slice (some adu) us.length dU) by rw [← hadu]; rfl) rfl zat zi hc4) ?_
  refine qE (Run.load rfl zn hcu) ?_
  refine qM ?_
  refine qM ?_
  refine qE (Run.indexS i (show _ = some (Value.slice (some adv) us.length dV) by rw [← hadv]; rfl) rfl zat zi hc4) ?_
  refine qE (Run.load rfl zn hcv) ?_
  refine qE (Run.bin rfl rfl (Bin.neq _ _)) ?_
  refine bJ.nil ?_
  refine jN (jv7 3 4 6 16 19 21 134 ?_)
  refine VC.condF rfl jp ?_
  refine jQ ?_
  refine qT (jN ?_)
  refine jv6 3 4 6 16 19 21 ?_
  refine jR (jm rfl (jb rfl rfl (Bin.add_i64 _ 1 jo) (ja rfl (jO ?_))))
  refine jN ⟨(i + 1), (js6 rfl rfl rfl rfl rfl rfl), ?_, ?_⟩
  · exact ⟨hc4, F26⟩
  first | omega | (dsimp only; omega)
 have hb3 := hb3.frm F26 jp
 have hb6 := hb6.frm F26 jp
 have hO1 := hO1.frm F26
 have hOF := hOF.frm F26 jp
 have hO2 := hO2.frm F26
 have hb8 := hb8.frm F26 jp
 have hb9 := hb9.frm F26 jp
 have hb12 := hb12.frm F26 jp
 have hb15 := hb15.frm F26 jp
 have hb18 := hb18.frm F26 jp
 have K := Frm.trans K F26 jp
 refine jX ?_
 refine qH (qH (qF ?_))
 refine jN (jv3 3 4 6 ?_)
 refine jS (jR (je (Run.loadA rfl zaz zt (fun j v hj => hb6.cells j v hj) (by first | rfl | (simp; done))) ?_))
 refine Ops.m (qJ.buildS1 rfl zk zt cP jd jd rfl rfl) rfl ?_
 rintro _ w27 ⟨rfl, hF_w27⟩
 have hBx := kV (x := (⟨{ x.m with flags := cX x.m.flags }, F, dF⟩ : Mc)) hF_w27
 have hb3 := hb3.frm hF_w27.frm jp
 have hb6 := hb6.frm hF_w27.frm jp
 have hO1 := hO1.frm hF_w27.frm
 have hOF := hOF.frm hF_w27.frm jp
 have hO2 := hO2.frm hF_w27.frm
 have hb8 := hb8.frm hF_w27.frm jp
 have hb9 := hb9.frm hF_w27.frm jp
 have hb12 := hb12.frm hF_w27.frm jp
 have hb15 := hb15.frm hF_w27.frm jp
 have hb18 := hb18.frm hF_w27.frm jp
 have K := Frm.trans K hF_w27.frm jp
 generalize hgn : wr.heap.size = gn at hBx ⊢
 have K27 := Frm.refl [] w27
 have hBR : RdM w27 (some ⟨gn, 0, none⟩) [(⟨{ x.m with flags := cX x.m.flags }, F, dF⟩ : Mc)] := ⟨hBx, fun u hu => by rw [za] at hu; subst hu; exact ⟨hOF.rd, by have := hff.1; dsimp only; omega, fun q hq => by have := hff.2 q hq; omega⟩⟩
 refine je (Run.build (evs.cons rfl (evs.cons rfl (evs.cons rfl evs.nil))) bH (bV).choose_spec.1 (bV).choose_spec.2 rfl) ?_
 refine Ops.m (qJ.alloc bH) rfl ?_
 rintro _ w28 ⟨rfl, hF_w28⟩
 have hb22 := hF_w28.blk
 have hs22_K := K.size
 have hs22_K27 := K27.size
 have lt_hb3_22 := hb3.lt
 have lt_hb6_22 := hb6.lt
 have lt_hb8_22 := hb8.lt
 have lt_hb9_22 := hb9.lt
 have lt_hb12_22 := hb12.lt
 have lt_hb15_22 := hb15.lt
 have lt_hb18_22 := hb18.lt
 have hb3 := hb3.frm hF_w28.frm jp
 have hb6 := hb6.frm hF_w28.frm jp
 have hO1 := hO1.frm hF_w28.frm
 have hOF := hOF.frm hF_w28.frm jp
 have hO2 := hO2.frm hF_w28.frm
 have hb8 := hb8.frm hF_w28.frm jp
 have hb9 := hb9.frm hF_w28.frm jp
 have hb12 := hb12.frm hF_w28.frm jp
 have hb15 := hb15.frm hF_w28.frm jp
 have hb18 := hb18.frm hF_w28.frm jp
 have K := Frm.trans K hF_w28.frm jp
 have K27 := Frm.trans K27 hF_w28.frm jp
 generalize hg22 : w27.heap.size = g22 at hb22 hs22_K hs22_K27 lt_hb3_22 lt_hb6_22 lt_hb8_22 lt_hb9_22 lt_hb12_22 lt_hb15_22 lt_hb18_22 ⊢
 refine Ops.st (qW.storeA rfl rfl zf hb22 rfl (bK 1 9 (some ⟨gn, 0, none⟩) 1 1)) ?_
 rintro w29 ⟨hbn_w29, hf_w29, hsz_w29⟩
 have hb3 := hb3.frm hf_w29 (by simp; omega)
 have hb6 := hb6.frm hf_w29 (by simp; omega)
 have hO1 := hO1.blk hf_w29 hb22 jd jd jd
 have hOF := hOF.frm hf_w29 (fun y hy => by have := hOF.ne_blk hb22 jd; simp; rintro rfl; exact this hy)
 have hO2 := hO2.blk hf_w29 hb22 jd jd jd
 have hb8 := hb8.frm hf_w29 (by simp; omega)
 have hb9 := hb9.frm hf_w29 (by simp; omega)
 have hb12 := hb12.frm hf_w29 (by simp; omega)
 have hb15 := hb15.frm hf_w29 (by simp; omega)
 have hb18 := hb18.frm hf_w29 (by simp; omega)
 have hb22 : Blk w29 g22 43 ((BVc 1 9 (some ⟨gn, 0, none⟩) [(⟨{ x.m with flags := cX x.m.flags }, F, dF⟩ : Mc)].length 1).toArray) := hbn_w29
 have K := Frm.own K hf_w29 (fun y hy => by simp at hy; omega)
 have K27 := Frm.own K27 hf_w29 (fun y hy => by simp at hy; omega)
 refine jO (jN (jv3 3 4 22 ?_))
 refine jS (jR (je (Run.loadA rfl zg zb (fun j v hj => hb3.cells j v hj) (by first | rfl | (simp; done))) (jm rfl (je (Run.loadA rfl zad zf (fun j v hj => hb22.cells j v hj) (by first | rfl | (simp; done))) ?_))))
 refine Ops.cl (jE3 Tryz.call39) (wL m1 (q.take 70) 1 9 (some ⟨gn, 0, none⟩) 1 [(⟨{ x.m with flags := cX x.m.flags }, F, dF⟩ : Mc)] _ hO1.rdl jo (hBR.frm K27) (zda rfl) (hv.frm K)) rfl ?_
 rintro e w30 ⟨y, k4, rfl, hP, hf_w30⟩
 refine ⟨_, rfl, ?_⟩
 have hb3 := hb3.frm hf_w30 jp
 have hb6 := hb6.frm hf_w30 jp
 have hO1 := hO1.frm hf_w30
 have hOF := hOF.frm hf_w30 jp
 have hO2 := hO2.frm hf_w30
 have hb8 := hb8.frm hf_w30 jp
 have hb9 := hb9.frm hf_w30 jp
 have hb12 := hb12.frm hf_w30 jp
 have hb15 := hb15.frm hf_w30 jp
 have hb18 := hb18.frm hf_w30 jp
 have hb22 := hb22.frm hf_w30 jp
 have K := Frm.trans K hf_w30 jp
 have K27 := Frm.trans K27 hf_w30 jp
 have K30 := Frm.refl [] w30
 refine jm rfl (je (Run.extract rfl rfl) (je (Run.extract rfl rfl) ?_))
 refine Ops.m (qJ.alloc qI) rfl ?_
 rintro _ w31 ⟨rfl, hF_w31⟩
 have hb23 := hF_w31.blk
 have hs23_K := K.size
 have hs23_K27 := K27.size
 have hs23_K30 := K30.size
 have lt_hb3_23 := hb3.lt
 have lt_hb6_23 := hb6.lt
 have lt_hb8_23 := hb8.lt
 have lt_hb9_23 := hb9.lt
 have lt_hb12_23 := hb12.lt
 have lt_hb15_23 := hb15.lt
 have lt_hb18_23 := hb18.lt
 have lt_hb22_23 := hb22.lt
 have hb3 := hb3.frm hF_w31.frm jp
 have hb6 := hb6.frm hF_w31.frm jp
 have hO1 := hO1.frm hF_w31.frm
 have hOF := hOF.frm hF_w31.frm jp
 have hO2 := hO2.frm hF_w31.frm
 have hb8 := hb8.frm hF_w31.frm jp
 have hb9 := hb9.frm hF_w31.frm jp
 have hb12 := hb12.frm hF_w31.frm jp
 have hb15 := hb15.frm hF_w31.frm jp
 have hb18 := hb18.frm hF_w31.frm jp
 have hb22 := hb22.frm hF_w31.frm jp
 have K := Frm.trans K hF_w31.frm jp
 have K27 := Frm.trans K27 hF_w31.frm jp
 have K30 := Frm.trans K30 hF_w31.frm jp
 generalize hg23 : w30.heap.size = g23 at hb23 hs23_K hs23_K27 hs23_K30 lt_hb3_23 lt_hb6_23 lt_hb8_23 lt_hb9_23 lt_hb12_23 lt_hb15_23 lt_hb18_23 lt_hb22_23 ⊢
 refine Ops.st (qW.storeA rfl rfl zb hb23 rfl (MlC.cells_one y)) ?_
 rintro w32 ⟨hbn_w32, hf_w32, hsz_w32⟩
 have hb3 := hb3.frm hf_w32 (by simp; omega)
 have hb6 := hb6.frm hf_w32 (by simp; omega)
 have hO1 := hO1.blk hf_w32 hb23 jd jd jd
 have hOF := hOF.frm hf_w32 (fun y hy => by have := hOF.ne_blk hb23 jd; simp; rintro rfl; exact this hy)
 have hO2 := hO2.blk hf_w32 hb23 jd jd jd
 have hb8 := hb8.frm hf_w32 (by simp; omega)
 have hb9 := hb9.frm hf_w32 (by simp; omega)
 have hb12 := hb12.frm hf_w32 (by simp; omega)
 have hb15 := hb15.frm hf_w32 (by simp; omega)
 have hb18 := hb18.frm hf_w32 (by simp; omega)
 have hb22 := hb22.frm hf_w32 (by simp; omega)
 have hb23 : Blk w32 g23 25 (y.cells.toArray) := hbn_w32
 have K := Frm.own K hf_w32 (fun y hy => by simp at hy; omega)
 have K27 := Frm.own K27 hf_w32 (fun y hy => by simp at hy; omega)
 have K30 := Frm.own K30 hf_w32 (fun y hy => by simp at hy; omega)
 refine ja rfl (jO (jN (jv5 3 4 22 23 24 ?_)))
 refine jS (jS (jR (je (Run.loadA rfl zg zb (fun j v hj => hb3.cells j v hj) (by first | rfl | (simp; done))) ?_)))
 refine Ops.cl (jE1 Tryz.call26) (gB m1 _ hO1.rdl (by rw [hvm1]; exact hbb)) rfl ?_
 rintro e w33 ⟨rfl, hf_w33⟩
 refine ⟨_, rfl, ?_⟩
 have hb3 := hb3.frm hf_w33 jp
 have hb6 := hb6.frm hf_w33 jp
 have hO1 := hO1.frm hf_w33
 have hOF := hOF.frm hf_w33 jp
 have hO2 := hO2.frm hf_w33
 have hb8 := hb8.frm hf_w33 jp
 have hb9 := hb9.frm hf_w33 jp
 have hb12 := hb12.frm hf_w33 jp
 have hb15 := hb15.frm hf_w33 jp
 have hb18 := hb18.frm hf_w33 jp
 have hb22 := hb22.frm hf_w33 jp
 have hb23 := hb23.frm hf_w33 jp
 have K := Frm.trans K hf_w33 jp
 have K27 := Frm.trans K27 hf_w33 jp
 have K30 := Frm.trans K30 hf_w33 jp
 refine je (Run.not rfl) (jO (jN (jv6 3 4 22 23 24 147 ?_)))
 refine VC.condB rfl (fun hc6 => ?_) (fun hc6 => ?_)
 ·
  have hc6 : ¬ bW m1.p := by simpa using hc6
  obtain ⟨rfl, rfl⟩ := hP.err_of (e := 1) (by unfold jY; rw [if_pos hc6])
  refine jS (jR (je (Run.loadA rfl zg zb (fun j v hj => hb23.cells j v hj) (by first | rfl | (simp; done))) (je (Run.build evs.nil qI (qR).choose_spec.1 (qR).choose_spec.2 rfl) ?_)))
  refine Ops.cl (jE2 zel) (dD qP qP _ (RdL.zero _) (RdL.zero _)) rfl ?_
  rintro e w40 ⟨rfl, hf_w40⟩
  rw [decide_eq_true (rfl)]
  refine ⟨_, rfl, ?_⟩
  have hb3 := hb3.frm hf_w40 jp
  have hb6 := hb6.frm hf_w40 jp
  have hO1 := hO1.frm hf_w40
  have hOF := hOF.frm hf_w40 jp
  have hO2 := hO2.frm hf_w40
  have hb8 := hb8.frm hf_w40 jp
  have hb9 := hb9.frm hf_w40 jp
  have hb12 := hb12.frm hf_w40 jp
  have hb15 := hb15.frm hf_w40 jp
  have hb18 := hb18.frm hf_w40 jp
  have hb22 := hb22.frm hf_w40 jp
  have hb23 := hb23.frm hf_w40 jp
  have K := Frm.trans K hf_w40 jp
  have K27 := Frm.trans K27 hf_w40 jp
  have K30 := Frm.trans K30 hf_w40 jp
  refine jM ?_
  refine jG ?_
  refine jk (Run.bin rfl rfl (Bin.eqlN _ 1)) ?_
  refine je (Run.pickT rfl rfl au) (jM ?_)
  refine Ops.clg rfl au (jE0 Tryz.call16) (fB _ (hv.frm K)) rfl ?_
  rintro e w41 ⟨rfl, hf_w41⟩
  refine ⟨_, rfl, ?_⟩
  have hb3 := hb3.frm hf_w41 jp
  have hb6 := hb6.frm hf_w41 jp
  have hO1 := hO1.frm hf_w41
  have hOF := hOF.frm hf_w41 jp
  have hO2 := hO2.frm hf_w41
  have hb8 := hb8.frm hf_w41 jp
  have hb9 := hb9.frm hf_w41 jp
  have hb12 := hb12.frm hf_w41 jp
  have hb15 := hb15.frm hf_w41 jp
  have hb18 := hb18.frm hf_w41 jp
  have hb22 := hb22.frm hf_w41 jp
  have hb23 := hb23.frm hf_w41 jp
  have K := Frm.trans K hf_w41 jp
  have K27 := Frm.trans K27 hf_w41 jp
  have K30 := Frm.trans K30 hf_w41 jp
  refine je (Run.pickT rfl rfl au) (ja rfl (jO (jN (jv1 2 ?_))))
  refine jT ?_
  refine qQ (qC rfl ?_)
  exact ⟨rfl, K⟩
 have hc6 : bW m1.p := by simpa using hc6
 obtain ⟨hm24, hv1, hv2, hb0, hb2, hr, hin⟩ := cA hc6
 refine jQ (jN (jv5 3 4 22 23 24 ?_))
 refine jS (jS (jR (jf rfl zd rfl zx (jl rfl zah (hb3.cell 0) (jM ?_)))))
 refine Ops.cl (jE2 zek) (fV m1.A m1.c m1.l (q.take 70) _ hO1.rdl.l jo jo) rfl ?_
 rintro e w34 ⟨rfl, hf_w34⟩
 refine ⟨_, rfl, ?_⟩
 have hb3 := hb3.frm hf_w34 jp
 have hb6 := hb6.frm hf_w34 jp
 have hO1 := hO1.frm hf_w34
 have hOF := hOF.frm hf_w34 jp
 have hO2 := hO2.frm hf_w34
 have hb8 := hb8.frm hf_w34 jp
 have hb9 := hb9.frm hf_w34 jp
 have hb12 := hb12.frm hf_w34 jp
 have hb15 := hb15.frm hf_w34 jp
 have hb18 := hb18.frm hf_w34 jp
 have hb22 := hb22.frm hf_w34 jp
 have hb23 := hb23.frm hf_w34 jp
 have K := Frm.trans K hf_w34 jp
 have K27 := Frm.trans K27 hf_w34 jp
 have K30 := Frm.trans K30 hf_w34 jp
 refine jb rfl rfl (Bin.lss _ 0) (jO (jN (jv6 3 4 22 23 24 162 ?_)))
 refine jD rfl (fun hc7 => ?_) fun hc7 => ?_
 ·
  have hc7 : qV (q.take 70) ∉ m1.p.l.map Prod.fst := kD.1 hc7
  obtain ⟨rfl, rfl⟩ := hP.err_of (e := 6) (by unfold jY; rw [if_neg (fun h => h hc6), if_pos hc7])
  refine jS (jR (je (Run.loadA rfl zg zb (fun j v hj => hb23.cells j v hj) (by first | rfl | (simp; done))) (je (Run.build evs.nil qI (qR).choose_spec.1 (qR).choose_spec.2 rfl) ?_)))
  refine Ops.cl (jE2 zel) (dD qP qP _ (RdL.zero _) (RdL.zero _)) rfl ?_
  rintro e w40 ⟨rfl, hf_w40⟩
  rw [decide_eq_true (rfl)]
  refine ⟨_, rfl, ?_⟩
  have hb3 := hb3.frm hf_w40 jp
  have hb6 := hb6.frm hf_w40 jp
  have hO1 := hO1.frm hf_w40
  have hOF := hOF.frm hf_w40 jp
  have hO2 := hO2.frm hf_w40
  have hb8 := hb8.frm hf_w40 jp
  have hb9 := hb9.frm hf_w40 jp
  have hb12 := hb12.frm hf_w40 jp
  have hb15 := hb15.frm hf_w40 jp
  have hb18 := hb18.frm hf_w40 jp
  have hb22 := hb22.frm hf_w40 jp
  have hb23 := hb23.frm hf_w40 jp
  have K := Frm.trans K hf_w40 jp
  have K27 := Frm.trans K27 hf_w40 jp
  have K30 := Frm.trans K30 hf_w40 jp
  refine jM ?_
  refine jG ?_
  refine jk (Run.bin rfl rfl (Bin.eqlN _ 6)) ?_
  refine je (Run.pickT rfl rfl au) (jM ?_)
  refine Ops.clg rfl au (jE0 Tryz.call16) (fB _ (hv.frm K)) rfl ?_
  rintro e w41 ⟨rfl, hf_w41⟩
  refine ⟨_, rfl, ?_⟩
  have hb3 := hb3.frm hf_w41 jp
  have hb6 := hb6.frm hf_w41 jp
  have hO1 := hO1.frm hf_w41
  have hOF := hOF.frm hf_w41 jp
  have hO2 := hO2.frm hf_w41
  have hb8 := hb8.frm hf_w41 jp
  have hb9 := hb9.frm hf_w41 jp
  have hb12 := hb12.frm hf_w41 jp
  have hb15 := hb15.frm hf_w41 jp
  have hb18 := hb18.frm hf_w41 jp
  have hb22 := hb22.frm hf_w41 jp
  have hb23 := hb23.frm hf_w41 jp
  have K := Frm.trans K hf_w41 jp
  have K27 := Frm.trans K27 hf_w41 jp
  have K30 := Frm.trans K30 hf_w41 jp
  refine je (Run.pickT rfl rfl au) (ja rfl (jO (jN (jv1 2 ?_))))
  refine jT ?_
  refine qQ (qC rfl ?_)
  exact ⟨rfl, K⟩
 have hc7 : qV (q.take 70) ∈ m1.p.l.map Prod.fst := Classical.not_not.1 (fun h => hc7 (kD.2 h))
 refine jQ (jN (jv5 3 4 22 23 24 ?_))
 refine jS (jR (je (Run.loadA rfl zg zb (fun j v hj => hb3.cells j v hj) (by first | rfl | (simp; done))) ?_))
 refine Ops.m (qJ.alloc qI) rfl ?_
 rintro _ w35 ⟨rfl, hF_w35⟩
 have hb25 := hF_w35.blk
 have hs25_K := K.size
 have hs25_K27 := K27.size
 have hs25_K30 := K30.size
 have lt_hb3_25 := hb3.lt
 have lt_hb6_25 := hb6.lt
 have lt_hb8_25 := hb8.lt
 have lt_hb9_25 := hb9.lt
 have lt_hb12_25 := hb12.lt
 have lt_hb15_25 := hb15.lt
 have lt_hb18_25 := hb18.lt
 have lt_hb22_25 := hb22.lt
 have lt_hb23_25 := hb23.lt
 have hb3 := hb3.frm hF_w35.frm jp
 have hb6 := hb6.frm hF_w35.frm jp
 have hO1 := hO1.frm hF_w35.frm
 have hOF := hOF.frm hF_w35.frm jp
 have hO2 := hO2.frm hF_w35.frm
 have hb8 := hb8.frm hF_w35.frm jp
 have hb9 := hb9.frm hF_w35.frm jp
 have hb12 := hb12.frm hF_w35.frm jp
 have hb15 := hb15.frm hF_w35.frm jp
 have hb18 := hb18.frm hF_w35.frm jp
 have hb22 := hb22.frm hF_w35.frm jp
 have hb23 := hb23.frm hF_w35.frm jp
 have K := Frm.trans K hF_w35.frm jp
 have K27 := Frm.trans K27 hF_w35.frm jp
 have K30 := Frm.trans K30 hF_w35.frm jp
 generalize hg25 : w34.heap.size = g25 at hb25 hs25_K hs25_K27 hs25_K30 lt_hb3_25 lt_hb6_25 lt_hb8_25 lt_hb9_25 lt_hb12_25 lt_hb15_25 lt_hb18_25 lt_hb22_25 lt_hb23_25 ⊢
 refine Ops.st (qW.storeA rfl rfl zb hb25 rfl (MlC.cells_one m1)) ?_
 rintro w36 ⟨hbn_w36, hf_w36, hsz_w36⟩
 have hb3 := hb3.frm hf_w36 (by simp; omega)
 have hb6 := hb6.frm hf_w36 (by simp; omega)
 have hO1 := hO1.blk hf_w36 hb25 jd jd jd
 have hOF := hOF.frm hf_w36 (fun y hy => by have := hOF.ne_blk hb25 jd; simp; rintro rfl; exact this hy)
 have hO2 := hO2.blk hf_w36 hb25 jd jd jd
 have hb8 := hb8.frm hf_w36 (by simp; omega)
 have hb9 := hb9.frm hf_w36 (by simp; omega)
 have hb12 := hb12.frm hf_w36 (by simp; omega)
 have hb15 := hb15.frm hf_w36 (by simp; omega)
 have hb18 := hb18.frm hf_w36 (by simp; omega)
 have hb22 := hb22.frm hf_w36 (by simp; omega)
 have hb23 := hb23.frm hf_w36 (by simp; omega)
 have hb25 : Blk w36 g25 25 (m1.cells.toArray) := hbn_w36
 have K := Frm.own K hf_w36 (fun y hy => by simp at hy; omega)
 have K27 := Frm.own K27 hf_w36 (fun y hy => by simp at hy; omega)
 have K30 := Frm.own K30 hf_w36 (fun y hy => by simp at hy; omega)
 refine jO (jN (jv6 3 4 22 23 24 25 ?_))
 refine jS (jR (jf rfl zd rfl zx (jl rfl zah (hb3.cell 0) (jm rfl (je (Run.loadA rfl zad zf (fun j v hj => hb22.cells j v hj) (by first | rfl | (simp; done))) ?_)))))
 refine Ops.cl (jE3 Tryz.call40) (lB m1.A m1.c m1.l (q.take 70) 1 9 (some ⟨gn, 0, none⟩) 1 [(⟨{ x.m with flags := cX x.m.flags }, F, dF⟩ : Mc)] _ hO1.rdl.l jo jo) rfl ?_
 rintro e w37 ⟨C, d2, rfl, hoC, _, hf_w37⟩
 refine ⟨_, rfl, ?_⟩
 have hb3 := hb3.frm hf_w37 jp
 have hb6 := hb6.frm hf_w37 jp
 have hO1 := hO1.frm hf_w37
 have hOF := hOF.frm hf_w37 jp
 have hO2 := hO2.frm hf_w37
 have hb8 := hb8.frm hf_w37 jp
 have hb9 := hb9.frm hf_w37 jp
 have hb12 := hb12.frm hf_w37 jp
 have hb15 := hb15.frm hf_w37 jp
 have hb18 := hb18.frm hf_w37 jp
 have hb22 := hb22.frm hf_w37 jp
 have hb23 := hb23.frm hf_w37 jp
 have hb25 := hb25.frm hf_w37 jp
 have K := Frm.trans K hf_w37 jp
 have K27 := Frm.trans K27 hf_w37 jp
 have K30 := Frm.trans K30 hf_w37 jp
 refine jf rfl zd rfl zx ?_
 refine Ops.st (qW.store rfl rfl zx hb25 rfl rfl) ?_
 rintro w38 ⟨hbn_w38, hf_w38, hsz_w38⟩
 have hb3 := hb3.frm hf_w38 (by simp; omega)
 have hb6 := hb6.frm hf_w38 (by simp; omega)
 have hO1 := hO1.blk hf_w38 hb25 jd jd jd
 have hOF := hOF.frm hf_w38 (fun y hy => by have := hOF.ne_blk hb25 jd; simp; rintro rfl; exact this hy)
 have hO2 := hO2.blk hf_w38 hb25 jd jd jd
 have hb8 := hb8.frm hf_w38 (by simp; omega)
 have hb9 := hb9.frm hf_w38 (by simp; omega)
 have hb12 := hb12.frm hf_w38 (by simp; omega)
 have hb15 := hb15.frm hf_w38 (by simp; omega)
 have hb18 := hb18.frm hf_w38 (by simp; omega)
 have hb22 := hb22.frm hf_w38 (by simp; omega)
 have hb23 := hb23.frm hf_w38 (by simp; omega)
 have hoC := hoC.frm hf_w38 (fun y hy => by have := hoC.ne_blk hb25 jd; simp; rintro rfl; exact this hy)
 have hb25 : Blk w38 g25 25 ((m1.wl C d2 (dS m1.l ⟨qV (q.take 70), 1, 9, some ⟨gn, 0, none⟩, 1, [(⟨{ x.m with flags := cX x.m.flags }, F, dF⟩ : Mc)]⟩)).cells.toArray) := hbn_w38
 have K := Frm.own K hf_w38 (fun y hy => by simp at hy; omega)
 have K27 := Frm.own K27 hf_w38 (fun y hy => by simp at hy; omega)
 have K30 := Frm.own K30 hf_w38 (fun y hy => by simp at hy; omega)
 obtain ⟨z, hz⟩ : ∃ z : MlC, z = m1.wl C d2 (dS m1.l ⟨qV (q.take 70), 1, 9, some ⟨gn, 0, none⟩, 1, [(⟨{ x.m with flags := cX x.m.flags }, F, dF⟩ : Mc)]⟩) := ⟨_, rfl⟩
 have hzp : z.p = { m1.p with l := bU m1.p.l (qV (q.take 70)) ⟨1, 9, [(⟨{ x.m with flags := cX x.m.flags }, F, dF⟩ : Mc).m]⟩ } := by
  rw [hz, MlC.wl_p, pS]
  rfl
 have hRz : RdL w38 z := by rw [hz]; exact mU (b := m1.b) hO1.rdl hm24 (by rw [cW]; omega) (hBR.frm K27) (zda rfl) hoC
 rw [← hz] at hb25
 have K38 := Frm.refl [] w38
 refine jO (jN (jv3 23 24 25 ?_))
 refine jS (jS (jR (je (Run.loadA rfl zg zb (fun j v hj => hb25.cells j v hj) (by first | rfl | (simp; done))) ?_)))
 refine Ops.cl (jE1 Tryz.call26) (gB z _ hRz (by rw [hz]; show m1.b ≤ _; rw [hvm1]; exact hbb)) rfl ?_
 rintro e w39 ⟨rfl, hf_w39⟩
 refine ⟨_, rfl, ?_⟩
 have hb3 := hb3.frm hf_w39 jp
 have hb6 := hb6.frm hf_w39 jp
 have hO1 := hO1.frm hf_w39
 have hOF := hOF.frm hf_w39 jp
 have hO2 := hO2.frm hf_w39
 have hb8 := hb8.frm hf_w39 jp
 have hb9 := hb9.frm hf_w39 jp
 have hb12 := hb12.frm hf_w39 jp
 have hb15 := hb15.frm hf_w39 jp
 have hb18 := hb18.frm hf_w39 jp
 have hb22 := hb22.frm hf_w39 jp
 have hb23 := hb23.frm hf_w39 jp
 have hb25 := hb25.frm hf_w39 jp
 have hoC := hoC.frm hf_w39 jp
 have K := Frm.trans K hf_w39 jp
 have K27 := Frm.trans K27 hf_w39 jp
 have K30 := Frm.trans K30 hf_w39 jp
 have K38 := Frm.trans K38 hf_w39 jp
 refine je (Run.not rfl) (jO (jN (jv4 23 24 25 182 ?_)))
 refine VC.condB rfl (fun hc8 => ?_) (fun hc8 => ?_)
 ·
  have hc8 : ¬ bW z.p := by simpa using hc8
  obtain ⟨rfl, rfl⟩ := hP.err_of (e := 1) (qXy hc6 hc7 hzp hc8)
  refine jS (jR (je (Run.loadA rfl zg zb (fun j v hj => hb23.cells j v hj) (by first | rfl | (simp; done))) (je (Run.build evs.nil qI (qR).choose_spec.1 (qR).choose_spec.2 rfl) ?_)))
  refine Ops.cl (jE2 zel) (dD qP qP _ (RdL.zero _) (RdL.zero _)) rfl ?_
  rintro e w40 ⟨rfl, hf_w40⟩
  rw [decide_eq_true (rfl)]
  refine ⟨_, rfl, ?_⟩
  have hb3 := hb3.frm hf_w40 jp
  have hb6 := hb6.frm hf_w40 jp
  have hO1 := hO1.frm hf_w40
  have hOF := hOF.frm hf_w40 jp
  have hO2 := hO2.frm hf_w40
  have hb8 := hb8.frm hf_w40 jp
  have hb9 := hb9.frm hf_w40 jp
  have hb12 := hb12.frm hf_w40 jp
  have hb15 := hb15.frm hf_w40 jp
  have hb18 := hb18.frm hf_w40 jp
  have hb22 := hb22.frm hf_w40 jp
  have hb23 := hb23.frm hf_w40 jp
  have hb25 := hb25.frm hf_w40 jp
  have hoC := hoC.frm hf_w40 jp
  have K := Frm.trans K hf_w40 jp
  have K27 := Frm.trans K27 hf_w40 jp
  have K30 := Frm.trans K30 hf_w40 jp
  have K38 := Frm.trans K38 hf_w40 jp
  refine jM ?_
  refine jG ?_
  refine jk (Run.bin rfl rfl (Bin.eqlN _ 1)) ?_
  refine je (Run.pickT rfl rfl au) (jM ?_)
  refine Ops.clg rfl au (jE0 Tryz.call16) (fB _ (hv.frm K)) rfl ?_
  rintro e w41 ⟨rfl, hf_w41⟩
  refine ⟨_, rfl, ?_⟩
  have hb3 := hb3.frm hf_w41 jp
  have hb6 := hb6.frm hf_w41 jp
  have hO1 := hO1.frm hf_w41
  have hOF := hOF.frm hf_w41 jp
  have hO2 := hO2.frm hf_w41
  have hb8 := hb8.frm hf_w41 jp
  have hb9 := hb9.frm hf_w41 jp
  have hb12 := hb12.frm hf_w41 jp
  have hb15 := hb15.frm hf_w41 jp
  have hb18 := hb18.frm hf_w41 jp
  have hb22 := hb22.frm hf_w41 jp
  have hb23 := hb23.frm hf_w41 jp
  have hb25 := hb25.frm hf_w41 jp
  have hoC := hoC.frm hf_w41 jp
  have K := Frm.trans K hf_w41 jp
  have K27 := Frm.trans K27 hf_w41 jp
  have K30 := Frm.trans K30 hf_w41 jp
  have K38 := Frm.trans K38 hf_w41 jp
  refine je (Run.pickT rfl rfl au) (ja rfl (jO (jN (jv1 2 ?_))))
  refine jT ?_
  refine qQ (qC rfl ?_)
  exact ⟨rfl, K⟩
 have hc8 : bW z.p := by simpa using hc8
 obtain ⟨rfl, hyz⟩ := hP.ok_of (p := z.p) (qXz hc6 hc7 hzp hc8)
 refine jQ (jN (jv3 23 24 25 ?_))
 refine jS (jR (je (Run.loadA rfl zg zb (fun j v hj => hb23.cells j v hj) (by first | rfl | (simp; done))) (je (Run.loadA rfl zg zb (fun j v hj => hb25.cells j v hj) (by first | rfl | (simp; done))) ?_)))
 refine Ops.cl (jE2 zel) (dD y z _ (hP.1.frm K30) (hRz.frm K38)) rfl ?_
 rintro e w42 ⟨rfl, hf_w42⟩
 rw [decide_eq_true (hyz)]
 refine ⟨_, rfl, ?_⟩
 have hb3 := hb3.frm hf_w42 jp
 have hb6 := hb6.frm hf_w42 jp
 have hO1 := hO1.frm hf_w42
 have hOF := hOF.frm hf_w42 jp
 have hO2 := hO2.frm hf_w42
 have hb8 := hb8.frm hf_w42 jp
 have hb9 := hb9.frm hf_w42 jp
 have hb12 := hb12.frm hf_w42 jp
 have hb15 := hb15.frm hf_w42 jp
 have hb18 := hb18.frm hf_w42 jp
 have hb22 := hb22.frm hf_w42 jp
 have hb23 := hb23.frm hf_w42 jp
 have hb25 := hb25.frm hf_w42 jp
 have hoC := hoC.frm hf_w42 jp
 have K := Frm.trans K hf_w42 jp
 have K27 := Frm.trans K27 hf_w42 jp
 have K30 := Frm.trans K30 hf_w42 jp
 have K38 := Frm.trans K38 hf_w42 jp
 refine jM ?_
 refine jG ?_
 refine jk (Run.bin rfl rfl (Bin.eqlN _ 0)) ?_
 refine je (Run.pickT rfl rfl au) (jM ?_)
 refine Ops.clg rfl au (jE0 Tryz.call16) (fB _ (hv.frm K)) rfl ?_
 rintro e w43 ⟨rfl, hf_w43⟩
 refine ⟨_, rfl, ?_⟩
 have hb3 := hb3.frm hf_w43 jp
 have hb6 := hb6.frm hf_w43 jp
 have hO1 := hO1.frm hf_w43
 have hOF := hOF.frm hf_w43 jp
 have hO2 := hO2.frm hf_w43
 have hb8 := hb8.frm hf_w43 jp
 have hb9 := hb9.frm hf_w43 jp
 have hb12 := hb12.frm hf_w43 jp
 have hb15 := hb15.frm hf_w43 jp
 have hb18 := hb18.frm hf_w43 jp
 have hb22 := hb22.frm hf_w43 jp
 have hb23 := hb23.frm hf_w43 jp
 have hb25 := hb25.frm hf_w43 jp
 have hoC := hoC.frm hf_w43 jp
 have K := Frm.trans K hf_w43 jp
 have K27 := Frm.trans K27 hf_w43 jp
 have K30 := Frm.trans K30 hf_w43 jp
 have K38 := Frm.trans K38 hf_w43 jp
 refine je (Run.pickT rfl rfl au) (ja rfl (jO (jN (jv1 2 ?_))))
 refine jT ?_
 refine qC rfl ?_
 exact ⟨rfl, K⟩
end
end Go.Proofs.YtgmbmfpfhcekiaaGreat
