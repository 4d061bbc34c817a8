/-
  Lemmas on the way, joined: NamW, BoxG, StoA, NamV, StoB, StoC, BoxD, BoxS, StoD, BoxC, StoE, StoF, StoG, StoH, StoI, StoJ, StoK, StoL, StoN, StoR, StoU.
-/
import Derived.Lib.Overlaps
import Derived.Test.YtgmbmfpfhcekiaaGreatPk1
set_option maxRecDepth 100000
set_option linter.unusedVariables false
set_option linter.unusedSimpArgs false
namespace Go.Proofs.YtgmbmfpfhcekiaaGreat
section
open Go.RowKit Go.Sort
def cQ (w : World) : Prop := ∃ m, w.cell? ⟨0, 0, none⟩ = some (.int .i64 m)
theorem cQ.frm {w w' : World} (h : cQ w) (k : Frm [] w w') : cQ w' := by
 obtain ⟨m, hm⟩ := h
 exact ⟨m, k.cell hm jp⟩
def eH (o : Option UInt8) : Nat := (o.map UInt8.toNat).getD 0
theorem xL (o : Option UInt8) : eH o = 47 ↔ o = some 47 := by
 cases o with
 | none => simp [eH]
 | some x =>
  simp only [eH, zcz, zdz, Option.some.injEq]
  exact ⟨fun h => UInt8.toNat_inj.1 h, fun h => by rw [h]; rfl⟩
def hdC (q : Tx) : Nat := eH q[0]?
def laC (q : Tx) : Nat := eH q[q.length - 1]?
def jF (q : Tx) : Prop := q = [] ∨ 60 < q.length ∨ hdC q = 47 ∨ laC q = 47 ∨ jP q = true
instance (q : Tx) : Decidable (jF q) := by unfold jF; infer_instance
theorem pA (q : Tx) : isN q ↔ ¬ jF q ∧ ∀ c ∈ q, gU c := by
 unfold isN jF hdC laC
 rw [xL, xL]
 constructor
 ·
  rintro ⟨h1, h2, h3, h4, h5, h6⟩
  exact ⟨by simp [h1, h3, h4, h5]; omega, h6⟩
 rintro ⟨h, h6⟩
 simp only [not_or, Bool.not_eq_true] at h
 exact ⟨h.1, jo, h.2.2.1, h.2.2.2.1, h.2.2.2.2, h6⟩
theorem qKk (c : UInt8) : 0 ≤ Lib.indexByte mX c ↔ c ∈ mX := by
 rcases gV mX c with ⟨h1, h2⟩ | ⟨a, b, h1, h2, h3⟩
 · rw [h1]; simp [h2]
 rw [h3, h1]
 simp
theorem qZg (c : UInt8) : gU c ↔ ¬ (c.toNat < 33 ∨ 126 < c.toNat ∨ c ∈ mX) := by
 unfold gU
 constructor
 ·
  rintro ⟨h1, h2, h3⟩ (h | h | h)
  · omega
  · omega
  exact h3 h
 intro h
 simp only [not_or] at h
 exact ⟨jo, jo, h.2.2⟩
theorem qQo (s : Tx) (c : UInt8) (w : World) : Calls Tryz.prog 101 #[encStr s, .int .u8 ((c.toNat : Nat) : Int)] w fun e w' => e = .returned (.int .i64 (Lib.indexByte s c)) ∧ w = w' := by
 have h := Tryz.strings_IndexByte ⟨s.toArray⟩ ((c.toNat : Nat) : Int) w
 have e1 : (((c.toNat : Nat) : Int)).toNat.toUInt8 = c := jp
 rw [e1] at h
 exact h.mono fun e w' ⟨h, hw⟩ => ⟨h, hw.symm⟩
theorem qQp (s : Tx) (w : World) (hs : s.length ≤ 1000000) (hv : cQ w) : Calls Tryz.prog 100 #[encStr s, encStr [47, 47]] w fun e w' => e = .returned (.bool (jP s)) ∧ w = w' := by
 obtain ⟨m, hm⟩ := hv
 have h := Tryz.strings_Contains ⟨s.toArray⟩ ⟨#[47, 47]⟩ m w (by show s.toArray.size < _; simp; omega) hm
 refine h.mono fun e w' ⟨h, hw⟩ => ⟨?_, hw.symm⟩
 rw [← vF]
 exact h
theorem xO (s : Tx) (w : World) (hs : s.length ≤ 1000000) : Calls Tryz.prog 135 #[encStr s, .int .u8 ((47 : Nat) : Int)] w fun e w' => e = .returned (.int .i64 (Lib.lastIndexByte ⟨s.toArray⟩ 47)) ∧ w = w' := by
 have h := Tryz.strings_LastIndexByte ⟨s.toArray⟩ ((47 : Nat) : Int) (by show s.toArray.size < _; simp; omega) w
 exact h.mono fun e w' ⟨h, hw⟩ => ⟨h, hw.symm⟩
theorem qQq (s p : Tx) (w : World) : Calls Tryz.prog 110 #[encStr s, encStr p] w fun e w' => e = .returned (.bool (p.isPrefixOf s)) ∧ w = w' := by
 have h := Tryz.strings_HasPrefix ⟨s.toArray⟩ ⟨p.toArray⟩ w
 exact h.mono fun e w' ⟨h, hw⟩ => ⟨h, hw.symm⟩
theorem fM {q : Tx} {i : Nat} (h : i < q.length) : ∃ x, q[i]? = some x := ⟨_, zb h⟩
theorem yQ {s : Tx} {i : Nat} {x : UInt8} (h : s[i]? = some x) : s.take (i + 1) = s.take i ++ [x] := by rw [zan, h]; rfl
theorem cV (q : Tx) (w : World) (hq : q.length ≤ 1000000) (hv : cQ w) : Calls Tryz.prog 45 #[encStr q] w fun e w' => e = .returned (.bool (decide (isN q))) ∧ w = w' := by
 refine VC.calls (nt := 51) (res := #[.tmp 2]) Tryz.func45 rfl Tryz.ntmps45 Tryz.results45 rfl ?_
 refine jS (jR (ja rfl (jO (jN (jv1 0 ?_)))))
 refine jS (jS ?_)
 refine VC.split1 [(0, _)] (js1 rfl) 27 (.bool (decide (jF q))) ?_ ?_
 ·
  refine jR ?_
  refine jm rfl (je (Run.eqlT rfl rfl) ?_)
  by_cases hs5 : q = []
  ·
   refine jM ?_
   refine jU ?_
   refine jU ?_
   refine jU ?_
   refine je (Run.pickT rfl rfl au) (jM ?_)
   refine jU ?_
   refine jU ?_
   refine jU ?_
   refine je (Run.pickT rfl rfl au) (jM ?_)
   refine jU ?_
   refine jU ?_
   refine jU ?_
   refine jU ?_
   refine jU ?_
   refine jU ?_
   refine je (Run.pickT rfl rfl au) (jM ?_)
   refine jU ?_
   refine jU ?_
   refine je (Run.pickT rfl rfl au) (jO ?_)
   refine jN ⟨(js2 (jC (by simp [jF, *])) rfl), rfl⟩
  refine jM ?_
  refine jG ?_
  refine jk (Run.lenT rfl zj) ?_
  refine jk (Run.bin rfl rfl (Bin.gtrN _ 60)) ?_
  by_cases hs9 : 60 < q.length
  ·
   refine je (Run.pickF rfl rfl au) (jM ?_)
   refine jU ?_
   refine jU ?_
   refine jU ?_
   refine je (Run.pickT rfl rfl au) (jM ?_)
   refine jU ?_
   refine jU ?_
   refine jU ?_
   refine jU ?_
   refine jU ?_
   refine jU ?_
   refine je (Run.pickT rfl rfl au) (jM ?_)
   refine jU ?_
   refine jU ?_
   refine je (Run.pickT rfl rfl au) (jO ?_)
   refine jN ⟨(js2 (jC (by simp [jF, *])) rfl), rfl⟩
  have hpos := List.length_pos_iff.2 hs5
  obtain ⟨x0, hx0⟩ := fM hpos
  obtain ⟨x1, hx1⟩ := fM (jo : q.length - 1 < q.length)
  have e0 : hdC q = x0.toNat := by unfold hdC; rw [hx0]; rfl
  have e1 : laC q = x1.toNat := by unfold laC; rw [hx1]; rfl
  refine je (Run.pickF rfl rfl au) (jM ?_)
  refine jG ?_
  refine jk (Run.indexT 0 rfl rfl zj hx0) ?_
  refine jk (Run.bin rfl rfl (Bin.eqlN _ 47)) ?_
  by_cases hs14 : x0.toNat = 47
  ·
   refine je (Run.pickF rfl rfl au) (jM ?_)
   refine jU ?_
   refine jU ?_
   refine jU ?_
   refine jU ?_
   refine jU ?_
   refine jU ?_
   refine je (Run.pickT rfl rfl au) (jM ?_)
   refine jU ?_
   refine jU ?_
   refine je (Run.pickT rfl rfl au) (jO ?_)
   refine jN ⟨(js2 (jC (by simp [jF, *])) rfl), rfl⟩
  refine je (Run.pickF rfl rfl au) (jM ?_)
  refine jG ?_
  refine jG ?_
  refine jk (Run.lenT rfl zj) ?_
  refine jk (Run.bin rfl rfl (Bin.sub_i64 _ 1 jo jo)) ?_
  refine jk (Run.indexT _ rfl rfl zj hx1) ?_
  refine jk (Run.bin rfl rfl (Bin.eqlN _ 47)) ?_
  by_cases hs22 : x1.toNat = 47
  ·
   refine je (Run.pickF rfl rfl au) (jM ?_)
   refine jU ?_
   refine jU ?_
   refine je (Run.pickT rfl rfl au) (jO ?_)
   refine jN ⟨(js2 (jC (by simp [jF, *])) rfl), rfl⟩
  refine je (Run.pickF rfl rfl au) (jM ?_)
  refine jG ?_
  refine Ops.clg rfl au (jE2 Tryz.call100) (qQp q _ hq hv) rfl ?_
  rintro e _ ⟨rfl, rfl⟩
  refine ⟨_, rfl, ?_⟩
  refine je (Run.pickF rfl rfl au) (jO ?_)
  refine jN ⟨(js2 (jC (by simp [jF, *])) rfl), rfl⟩
 intro Γ hΓ
 refine jN (VC.sub _ hΓ ?_)
 refine jD rfl (fun hc1 => ?_) fun hc1 => ?_
 ·
  refine jS (jR (ja rfl (jO (jN (jv1 2 ?_)))))
  refine jT ?_
  refine qZ (qR rfl ?_)
  exact ⟨by rw [decide_eq_false (fun h => ((pA q).1 h).1 hc1)], rfl⟩
 refine jQ (jN (jv1 0 ?_))
 refine jS (jS (jR (jm rfl (je (Run.lenT rfl zj) ?_))))
 refine jx .i64 0 ?_
 refine jO (jN (jv3 0 29 30 ?_))
 refine jB ?_
 refine VC.loop (σ := Nat) (fun s => [(0, encStr q), (29, .int .i64 ((q.length : Nat) : Int)), (30, .int .i64 ((s : Nat) : Int))]) (fun s wr => s ≤ q.length ∧ (∀ c ∈ q.take s, gU c) ∧ w = wr) (fun s => q.length - s) 0 (js3 rfl rfl rfl) ⟨jo, jp, rfl⟩ ?_
 rintro i _ ⟨hi, hd, rfl⟩
 refine jS (jR (jb rfl rfl (Bin.lssN _ _) (jO (jN (jS ?_)))))
 refine jD rfl (fun hc2 => ?_) fun hc2 => ?_
 ·
  obtain ⟨x, hx⟩ := fM hc2
  have hts := yQ hx
  have hxm : x ∈ q := zcr hx
  have hsg := qZg x
  have hge := qKk x
  refine jQ (jN (jv3 0 29 30 ?_))
  refine jS (jB (jS (jR (jm rfl (ja rfl (jO (jN (jv4 0 3 29 30 ?_))))))))
  refine jS ?_
  refine VC.split1 [(0, _), (29, _), (30, _)] (js3 rfl rfl rfl) 49 (.bool (decide (x.toNat < 33 ∨ 126 < x.toNat ∨ x ∈ mX))) ?_ ?_
  ·
   refine jR ?_
   refine jm rfl (jm rfl (je (Run.indexT _ rfl rfl zj hx) (jb rfl rfl (Bin.lssN _ 33) ?_)))
   by_cases hs36 : x.toNat < 33
   ·
    refine jM ?_
    refine jU ?_
    refine jU ?_
    refine jU ?_
    refine jU ?_
    refine je (Run.pickT rfl rfl au) (jM ?_)
    refine jU ?_
    refine jU ?_
    refine jU ?_
    refine jU ?_
    refine jU ?_
    refine je (Run.pickT rfl rfl au) (jO ?_)
    refine jN ⟨(js4 (jC (by simp [*])) rfl rfl rfl), rfl⟩
   refine jM ?_
   refine jG ?_
   refine jG ?_
   refine jk (Run.indexT _ rfl rfl zj hx) ?_
   refine jk (Run.bin rfl rfl (Bin.gtrN _ 126)) ?_
   by_cases hs41 : 126 < x.toNat
   ·
    refine je (Run.pickF rfl rfl au) (jM ?_)
    refine jU ?_
    refine jU ?_
    refine jU ?_
    refine jU ?_
    refine jU ?_
    refine je (Run.pickT rfl rfl au) (jO ?_)
    refine jN ⟨(js4 (jC (by simp [*])) rfl rfl rfl), rfl⟩
   refine je (Run.pickF rfl rfl au) (jM ?_)
   refine jG ?_
   refine jG ?_
   refine jk (Run.indexT _ rfl rfl zj hx) ?_
   refine Ops.clg rfl au (jE2 Tryz.call101) (qQo mX x _) rfl ?_
   rintro e _ ⟨rfl, rfl⟩
   refine ⟨_, rfl, ?_⟩
   refine jk (Run.bin rfl rfl (Bin.geq _ 0)) ?_
   refine je (Run.pickF rfl rfl au) (jO ?_)
   refine jN ⟨(js4 (jC (by simp [*])) rfl rfl rfl), rfl⟩
  intro Γ hΓ
  refine jN (VC.sub _ hΓ ?_)
  refine jD rfl (fun hc3 => ?_) fun hc3 => ?_
  ·
   refine jS (jR (ja rfl (jO (jN (jv1 2 ?_)))))
   refine jT ?_
   refine qH (qZ (qZ (qH (qZ (qR rfl ?_)))))
   exact ⟨by rw [decide_eq_false (fun h => hsg.1 (((pA q).1 h).2 x hxm) hc3)], rfl⟩
  refine jQ ?_
  refine qW (jN ?_)
  refine jv3 0 29 30 ?_
  refine jR (jb rfl rfl (Bin.add_i64 _ 1 jo) (jm rfl (jO ?_)))
  refine jN ⟨(i + 1), (js3 rfl rfl rfl), ?_, ?_⟩
  ·
   refine ⟨hc2, fun y hy => ?_, rfl⟩
   rw [hts] at hy
   rcases zds.1 hy with h | h
   · exact hd y h
   rw [za] at h; subst h; exact hsg.2 hc3
  first | omega | (dsimp only; omega)
 refine jX ?_
 refine qJ (qJ (qN ?_))
 refine jN ?_
 refine VC.sub [] .nil ?_
 refine jS (jR (ja rfl (jO (jN (jT ?_)))))
 refine qR rfl ?_
 have him : i = q.length := jo
 subst him
 rw [zaq] at hd
 exact ⟨by rw [decide_eq_true ((pA q).2 ⟨hc1, hd⟩)], rfl⟩
theorem pI (c : UInt8) : (upC c).toNat = if 97 ≤ c.toNat ∧ c.toNat ≤ 122 then c.toNat - 32 else c.toNat := by
 unfold upC
 split
 ·
  rename_i h
  have h32 : (32 : UInt8).toNat = 32 := rfl
  rw [UInt8.toNat_sub_of_le _ _ (by rw [UInt8.le_iff_toNat_le]; omega), h32]
 rfl
theorem tV {s : Tx} {i : Nat} (h : i < s.length) : ((s.take i).map upC ++ s.drop i).set i (upC s[i]) = (s.take (i + 1)).map upC ++ s.drop (i + 1) := by
 have e1 : ((s.take i).map upC).length = i := by simp; omega
 rw [List.set_append_right _ _ jo, e1, zdq, zav h, List.set_cons_zero]
 have e2 : s.take (i + 1) = s.take i ++ [s[i]] := by rw [zan, zb h]; rfl
 rw [e2]
 simp only [zbc, zbw, zdp, zbf, List.cons_append, zcg]
theorem qZh {s : Tx} {i : Nat} (h : i < s.length) (hl : upC s[i] = s[i]) : (s.take i).map upC ++ s.drop i = (s.take (i + 1)).map upC ++ s.drop (i + 1) := by
 rw [← tV h, hl]
 apply zcl
 intro j
 by_cases hj : j = i
 ·
  subst hj
  have e1 : ((s.take j).map upC).length = j := by simp; omega
  rw [zck (by simp; omega), zbp jo, e1, zdq, zav h]
  rfl
 rw [zdg (Ne.symm hj)]
theorem nP (p : Tx) (w : World) (hp : p.length ≤ 1000000) : Calls Tryz.prog 108 #[encStr p] w fun e w' => e = .returned (encStr (eG p)) ∧ Frm [] w w' := by
 obtain ⟨q, hqq⟩ : ∃ q, q = bF 47 p := ⟨_, rfl⟩
 have hq : q.length ≤ p.length := by rw [hqq]; exact (pD 47 p).1
 have hib := mZ p
 rw [← hqq] at hib
 refine VC.calls (nt := 47) (res := #[.tmp 2]) Tryz.func108 rfl Tryz.ntmps108 Tryz.results108 rfl ?_
 refine jS (jR (ja rfl (jO (jN (jv1 0 ?_)))))
 refine jS (jR (jM ?_))
 refine Ops.cl (jE2 Tryz.call136) (qZf p 47 _ hp) rfl ?_
 rintro e w0 ⟨rfl, K⟩
 refine ⟨_, rfl, ?_⟩
 rw [← hqq]
 refine jm rfl (je (Run.extract rfl rfl) (je (Run.extract rfl rfl) (je (Run.extract rfl rfl) (ja rfl (ja rfl (ja rfl (jO (jN (jv2 0 3 ?_)))))))))
 refine jS (jS (jR (jm rfl (je (Run.lenT rfl zj) (jb rfl rfl (Bin.neqN _ 5) (jO (jN (jv3 0 3 17 ?_))))))))
 refine jD rfl (fun hc1 => ?_) fun hc1 => ?_
 ·
  have he : eG p = p := by
   rcases hib with h | h
   · exact h.1
   have := congrArg List.length h.2.1
   rw [kN] at this
   exact absurd this hc1
  refine jS (jR (jm rfl (ja rfl (jO (jN (jv1 2 ?_))))))
  refine jT ?_
  refine qZ (qR rfl ?_)
  exact ⟨by rw [he], K⟩
 refine jQ (jN (jv2 0 3 ?_))
 refine jS (jR (jM ?_))
 refine Ops.m (qV.bytesOfT rfl zj zat zbx) rfl ?_
 rintro _ w1 ⟨c1, cs1, rfl, hF1, ht1, hf1⟩
 have hge : w.heap.size ≤ w0.heap.size := K.size
 have hf1 := K.trans hf1 jp
 generalize hg : w0.heap.size = g1 at hF1 hge ⊢
 refine ja rfl (jO (jN (jv2 0 6 ?_)))
 refine jS (jS (jR (jm rfl (je (Run.lenS rfl zat) ?_))))
 refine jx .i64 0 ?_
 refine jO (jN (jB ?_))
 refine VC.loop (σ := Nat) (fun s => [(0, encStr p), (6, .slice (some ⟨g1, 0, none⟩) q.length c1), (21, .slice (some ⟨g1, 0, none⟩) q.length c1), (22, .int .i64 ((q.length : Nat) : Int)), (23, .int .i64 ((s : Nat) : Int))]) (fun s wr => s ≤ q.length ∧ Frm [] w wr ∧ ∃ cs, Fro wr g1 5 cs ∧ cs.toList.take q.length = U8 ((q.take s).map upC ++ q.drop s)) (fun s => q.length - s) 0 (js5 rfl rfl rfl rfl rfl) ⟨jo, hf1, cs1, hF1, by simpa using ht1⟩ ?_
 rintro i wr ⟨hi, hfr, cs, hF, ht⟩
 refine jS (jR (jb rfl rfl (Bin.lssN _ _) (jO (jN (jS ?_)))))
 refine jD rfl (fun hc2 => ?_) fun hc2 => ?_
 ·
  have hrd : Rd wr 1 (some ⟨g1, 0, none⟩) q.length (U8 ((q.take i).map upC ++ q.drop i)) := by
   have h := hF.rd (l := (q.take i).map upC ++ q.drop i) (by simpa [zau hi, zex hi] using ht)
   simpa [zau hi, zex hi] using h
  have hcell : wr.cell? ((⟨g1, 0, none⟩ : Addr).add (i * 1)) = some (.int .u8 ((q[i].toNat : Nat) : Int)) := by
   rw [zbq]
   obtain ⟨ad, u, hA, hu, hc⟩ := hrd.at1 hc2
   cases hA
   rw [hc, ← hu]
   simp [U8, zbp, zau hi, zb, hc2]
  have hll : ((q.take i).map upC ++ q.drop i).length = q.length := by simp; omega
  have hsz : i < cs.size := by
   have := congrArg List.length ht
   simp [U8] at this
   omega
  refine jQ (jN (jv5 0 6 21 22 23 ?_))
  refine jS (jB (jS (jR (jm rfl (je (Run.indexS i rfl rfl zat zbk hc2) (jl rfl zdd hcell (ja rfl (ja rfl (jO (jN (jv7 0 6 7 8 21 22 23 ?_)))))))))))
  refine jS ?_
  refine VC.split1 [(0, _), (6, _), (7, _), (8, _), (21, _), (22, _), (23, _)] (js7 rfl rfl rfl rfl rfl rfl rfl) 33 (.bool (decide ((97 ≤ q[i].toNat) ∧ (q[i].toNat ≤ 122)))) ?_ ?_
  ·
   by_cases hs0 : 97 ≤ q[i].toNat
   ·
    refine jR (jm rfl (jb rfl rfl (Bin.geqN _ 97) (jM ?_)))
    refine jG ?_
    refine jk (Run.bin rfl rfl (Bin.leqN _ 122)) ?_
    refine je (Run.pickT rfl rfl au) (jO ?_)
    refine jN ⟨(js8 (by rw [oS hs0]; rfl) rfl rfl rfl rfl rfl rfl rfl), rfl⟩
   refine jR (jm rfl (jb rfl rfl (Bin.geqN _ 97) (jM ?_)))
   refine jU ?_
   refine jU ?_
   refine je (Run.pickF rfl rfl au) (jO ?_)
   refine jN ⟨(js8 (by rw [oT hs0]; rfl) rfl rfl rfl rfl rfl rfl rfl), rfl⟩
  intro Γ hΓ
  refine jN (VC.sub _ hΓ ?_)
  refine VC.meet (σ := Unit) (fun s => [(0, encStr p), (6, .slice (some ⟨g1, 0, none⟩) q.length c1), (21, .slice (some ⟨g1, 0, none⟩) q.length c1), (22, .int .i64 ((q.length : Nat) : Int)), (23, .int .i64 ((i : Nat) : Int))]) (fun s wm => Frm [] w wm ∧ ∃ cs, Fro wm g1 5 cs ∧ cs.toList.take q.length = U8 ((q.take (i + 1)).map upC ++ q.drop (i + 1))) ?_ ?_
  ·
   refine jD rfl (fun hc3 => ?_) fun hc3 => ?_
   ·
    refine jR (jm rfl (jm rfl (jm rfl (jb rfl rfl (Bin.sub_u8 _ 32 jo jo) ?_))))
    rw [show (q[i].toNat - 32 : Nat) = (upC q[i]).toNat by rw [pI, if_pos hc3]]
    refine je (Run.indexS i rfl rfl zat zbk hc2) ?_
    rw [show (⟨g1, 0, none⟩ : Addr).add (i * 1) = ⟨g1, i, none⟩ by unfold Addr.add; rw [zbq]; split <;> simp_all]
    refine Ops.st (qP.storeFro rfl rfl zbk hF hsz rfl) ?_
    rintro w2 ⟨hF2, hf2, hs2⟩
    refine jO ?_
    refine jN ⟨(), (js5 rfl rfl rfl rfl rfl), ?_⟩
    exact ⟨hfr.own hf2 (fun x hx => by simp at hx; omega), _, hF2, by rw [qQb ht hll hc2, tV hc2]⟩
   refine jQ ?_
   refine jN ⟨(), (js5 rfl rfl rfl rfl rfl), ?_⟩
   exact ⟨hfr, cs, hF, by rw [ht, qZh hc2 (UInt8.toNat_inj.1 (by rw [pI, if_neg hc3]))]⟩
  rintro _ wm ⟨hfr2, cs2, hF2, ht2⟩ Γ hΓ
  refine qW (jN (VC.sub _ hΓ ?_))
  refine jR (jb rfl rfl (Bin.add_i64 _ 1 jo) (jm rfl (jO ?_)))
  refine jN ⟨(i + 1), (js5 rfl rfl rfl rfl rfl), ?_, ?_⟩
  · exact ⟨hc2, hfr2, cs2, hF2, ht2⟩
  first | omega | (dsimp only; omega)
 refine jX ?_
 refine qJ (qJ (qN ?_))
 refine jN (jv2 0 6 ?_)
 refine jS (jS (jR (jM ?_)))
 have hR : Rd wr 1 (some ⟨g1, 0, none⟩) q.length (U8 (upT q)) := by
  have him : i = q.length := jo
  subst him
  have h := hF.rd (l := upT q) (by rw [kN, ht]; simp [upT])
  rwa [kN] at h
 refine je (Run.strOfT rfl zat zbx zj hR) (je (Run.neqT rfl rfl) (jO (jN (jv2 0 42 ?_))))
 refine jD rfl (fun hc4 => ?_) fun hc4 => ?_
 ·
  have he : eG p = p := by
   rcases hib with h | h
   · exact h.1
   exact absurd h.2.1 hc4
  refine jS (jR (jm rfl (ja rfl (jO (jN (jv1 2 ?_))))))
  refine jT ?_
  refine qZ (qR rfl ?_)
  exact ⟨by rw [he], hfr⟩
 obtain ⟨h1, _, h3, h5⟩ : eG p = qC ++ p.drop 5 ∧ upT q = qC ∧ q = p.take 5 ∧ 5 ≤ p.length := by
  rcases hib with h | h
  · exact absurd (Classical.not_not.1 hc4) h.2
  exact h
 have he : (p.drop 5).take (p.length - 5) = p.drop 5 := zv jp
 refine jQ (jN (jv1 0 ?_))
 refine jS (jR (jm rfl (je (Run.sliceT 5 _ rfl zj (evB.some_ rfl) evB.none_ jo jo) ?_)))
 rw [he]
 refine je (Run.addT rfl rfl (by simp; omega)) (ja rfl (jO (jN (jv1 2 ?_))))
 refine jT ?_
 refine qR rfl ?_
 exact ⟨by rw [h1]; rfl, hfr⟩
theorem bS (q : Tx) (w : World) (hq : q.length ≤ 1000000) (hv : cQ w) : Calls Tryz.prog 53 #[encStr q] w fun e w' => e = .returned (encStr (qS q)) ∧ Frm [] w w' := by
 refine VC.calls (nt := 9) (res := #[.tmp 2]) Tryz.func53 rfl Tryz.ntmps53 Tryz.results53 rfl ?_
 refine jS (jR (ja rfl (jO (jN (jv1 0 ?_)))))
 refine jS (jS (jR (jM ?_)))
 refine Ops.cl (jE1 zct) (cV q _ hq hv) rfl ?_
 rintro e _ ⟨rfl, rfl⟩
 refine ⟨_, rfl, ?_⟩
 refine je (Run.not rfl) (jO (jN (jv2 0 5 ?_)))
 refine VC.condB rfl (fun hc1 => ?_) (fun hc1 => ?_)
 ·
  have hn : ¬ isN q := by simpa using hc1
  refine jS (jR (jm rfl (ja rfl (jO (jN (jv1 2 ?_))))))
  refine jT ?_
  refine qZ (qR rfl ?_)
  exact ⟨by unfold qS; rw [if_neg hn], Frm.refl _ _⟩
 have hn : isN q := by simpa using hc1
 refine jQ (jN (jv1 0 ?_))
 refine jS (jR (jM ?_))
 refine Ops.cl (jE1 Tryz.call108) (nP q _ hq) rfl ?_
 rintro e w1 ⟨rfl, K⟩
 refine ⟨_, rfl, ?_⟩
 refine ja rfl (jO (jN (jv1 2 ?_)))
 refine jT ?_
 refine qR rfl ?_
 exact ⟨by unfold qS; rw [if_pos hn], K⟩
end
section
open Go.RowKit Go.Sort
def qJ0 (S : List Nat) (w : World) (f : FuncId) (us : List Value) (p : MsgP → Bool) : Prop :=
 (∀ args w, (callFunc f args).run Tryz.prog w = .ok (.enter f args) w) ∧ ∀ W (x : Mc), Frm S w W → x.At W → Calls Tryz.prog f (Value.agg x.cells.toArray :: us).toArray W fun e w' => e = .returned (.bool (p x.m)) ∧ Frm [] W w'
theorem fX (A : Option Addr) (cap sz : Nat) : dP A cap 0 sz = A := by
 unfold dP
 split
 · rfl
 cases A with
 | none => rfl
 | some a => simp [Addr.add]
theorem uF (f : FuncId) (us : List Value) (p : MsgP → Bool) (A : Option Addr) (c : Nat) (l : List Mc) (w : World) (hl : RdM w A l) (hn : l.length ≤ 1000000) (S : List Nat) (hp : qJ0 S w f us p) :
  Calls Tryz.prog 118 #[.slice A l.length c, .func (.func f) #[] us.toArray] w fun e w' => Frm [] w w' ∧ ∃ k, (∀ j (hj : j < l.length), j < k → p (l[j]).m = false) ∧ ((k = l.length ∧ e = .returned (.int .i64 (-1))) ∨ (∃ hk : k < l.length, p (l[k]).m = true ∧ e = .returned (.int .i64 ((k : Nat) : Int)))) := by
 refine VC.calls (nt := 19) (res := #[.tmp 4]) Tryz.func118 rfl Tryz.ntmps118 Tryz.results118 rfl ?_
 refine jS (jR (jz 0 (jO (jN (jv2 0 1 ?_)))))
 refine jS (jS (jR (jm rfl (je (Run.lenS rfl zab) ?_))))
 refine jx .i64 0 ?_
 refine jO (jN (jv4 0 1 7 8 ?_))
 refine jB ?_
 refine VC.loop (σ := Nat) (fun s => [(0, .slice A l.length c), (1, .func (.func f) #[] us.toArray), (7, .int .i64 ((l.length : Nat) : Int)), (8, .int .i64 ((s : Nat) : Int))]) (fun s wr => s ≤ l.length ∧ Frm [] w wr ∧ ∀ j (hj : j < l.length), j < s → p (l[j]).m = false) (fun s => l.length - s) 0 (js4 rfl rfl rfl rfl) ⟨jo, Frm.refl _ _, jp⟩ ?_
 rintro i wr ⟨hi, hfr, hf⟩
 refine jS (jR (jb rfl rfl (Bin.lssN _ _) (jO (jN (jS ?_)))))
 refine jD rfl (fun hc1 => ?_) fun hc1 => ?_
 ·
  obtain ⟨ad, rfl, hcell⟩ := (hl.frm hfr).elem hc1
  have hxa := (hl.frm hfr).fl (l[i]) (zaa hc1)
  refine jQ (jN (jv4 0 1 7 8 ?_))
  refine jS (jB (jS (jR (jm rfl (ja rfl (jO (jN (jv5 0 1 5 7 8 ?_))))))))
  refine jS (jR (jm rfl (jm rfl (jm rfl (je (Run.indexS i rfl rfl zab zam hc1) (je (Run.loadA rfl zdb zam hcell (by first | rfl | (simp; done))) ?_))))))
  refine Ops.cl (bQ.dyn rfl (evs.cons rfl evs.nil) hp.1) (hp.2 _ (l[i]) (hfr.mono jp) hxa) rfl ?_
  rintro e w2 ⟨rfl, hf2⟩
  refine ⟨_, rfl, ?_⟩
  have hfr2 := hfr.trans hf2 jp
  refine jO (jN (jv6 0 1 5 7 8 16 ?_))
  refine VC.condB rfl (fun hc2 => ?_) (fun hc2 => ?_)
  ·
   refine jS (jR (jm rfl (ja rfl (jO (jN (jv1 4 ?_))))))
   refine jT ?_
   refine qH (qZ (qZ (qH (qZ (qR rfl ?_)))))
   exact ⟨hfr2, i, hf, .inr ⟨hc1, hc2, rfl⟩⟩
  refine jQ ?_
  refine qW (jN ?_)
  refine jv4 0 1 7 8 ?_
  refine jR (jb rfl rfl (Bin.add_i64 _ 1 jo) (jm rfl (jO ?_)))
  refine jN ⟨(i + 1), (js4 rfl rfl rfl rfl), ?_, ?_⟩
  ·
   refine ⟨hc1, hfr2, fun j hj hji => ?_⟩
   rcases zby j i with h | h
   · exact hf j hj h
   obtain rfl : j = i := jo
   simpa using hc2
  first | omega | (dsimp only; omega)
 refine jX ?_
 refine qJ (qJ (qN ?_))
 refine jN ?_
 refine VC.sub [] .nil ?_
 refine jS (jR ?_)
 refine Ops.r (v := .int .i64 (-1)) (Run.asg rfl) rfl ?_
 refine jO (jN (jT ?_))
 refine qR rfl ?_
 exact ⟨hfr, i, hf, .inl ⟨jo, rfl⟩⟩
end
section
open Go.RowKit Go.Sort
theorem nR (A : Option Addr) (c : Nat) (l : List Nc) (w : World) (hl : RdN w A l) (hn : l.length ≤ 1000000) :
  Calls Tryz.prog 59 #[.slice A l.length c] w fun e w' => ∃ B d, e = .returned (.slice B l.length d) ∧ OwN w' B d l ∧ (∀ b ∈ ob B, w.heap.size ≤ b) ∧ Frm [] w w' := by
 refine VC.calls (nt := 8) (res := #[.tmp 2]) Tryz.func59 rfl Tryz.ntmps59 Tryz.results59 rfl ?_
 refine jS (jR (ja rfl (jO (jN (jv1 0 ?_)))))
 refine jS (jS (jR (jm rfl (je (Run.eqNilS rfl rfl zg) (jO (jN (jv2 0 4 ?_)))))))
 refine VC.condB rfl (fun hc1 => ?_) (fun hc1 => ?_)
 ·
  refine jS (jR (ja rfl (jO (jN (jv1 2 ?_)))))
  refine jT ?_
  refine qZ (qR rfl ?_)
  obtain rfl : A = none := by cases A with | none => rfl | some a => cases hc1
  have hn0 : l.length = 0 := by
   rcases zch l.length with h | h
   · exact h
   obtain ⟨_, h1, _⟩ := hl.rd.2 h; cases h1
  obtain rfl : l = [] := zai hn0
  exact ⟨none, 0, rfl, OwN.nil _, by simp [ob], Frm.refl _ _⟩
 refine jQ (jN (jv1 0 ?_))
 refine jS (jR ?_)
 refine Ops.m (qV.buildS0 zg zq) rfl ?_
 rintro _ w1 ⟨rfl, hF1⟩
 have ho1 : Own w1 45 4 (some ⟨w.heap.size, 0, none⟩) 0 0 (NDC []) := Own.of_blk hF1.blk rfl (by simp [maxLen])
 refine jM ?_
 refine Ops.m (qV.app rfl rfl zg (kM) rfl jd ho1 (hl.rd.frm hF1.frm jp) (fH _) jo jo) rfl ?_
 rintro _ w2 ⟨B, d, rfl, ho2, hf2, hob⟩
 rw [zei] at ho2
 rw [zei]
 have hs1 := hF1.size
 have hf := hF1.frm.own hf2 (by simp [ob])
 refine ja rfl (jO (jN (jv1 2 ?_)))
 refine jT ?_
 refine qR rfl ?_
 refine ⟨B, d, rfl, ⟨ho2, fun x hx => (hl.el x hx).frm hf⟩, fun x hx => ?_, hf⟩
 rcases hob with h | h
 · rw [h] at hx; simp [ob] at hx; omega
 rw [h, za] at hx; omega
theorem qQr (l : List Nc) (i : Nat) (hi : i < l.length) : NDC (l.take i ++ l.drop (i + 1)) = (NDC l).take (i * 4) ++ (NDC l).drop ((i + 1) * 4) := by
 rw [dJ, gD l i jo, tJ l (i + 1) jo]
theorem tW (B : Option Addr) (d i : Nat) (l : List Nc) (w : World) (hl : OwN w B d l) (hn : l.length ≤ 1000000) (hi : i < l.length) :
  Calls Tryz.prog 58 #[.slice B l.length d, .int .i64 ((i : Nat) : Int), .int .i64 ((i + 1 : Nat) : Int)] w fun e w' => e = .returned (.slice B (l.length - 1) d) ∧ Own w' 45 4 B (l.length - 1) d (NDC (l.take i ++ l.drop (i + 1))) ∧ Frm (ob B) w w' := by
 obtain ⟨g, rfl⟩ : ∃ g, B = some ⟨g, 0, none⟩ := by
  rcases hl.own.cases with ⟨_, h0, _⟩ | ⟨g, _, h0, _⟩
  · omega
  exact ⟨g, h0⟩
 have hle := hl.own.le
 have hcl := eV l
 refine VC.calls (nt := 33) (res := #[.tmp 6]) Tryz.func58 rfl Tryz.ntmps58 Tryz.results58 rfl ?_
 refine jS (jR (ja rfl (jO (jN (jv3 0 1 2 ?_)))))
 refine jS (jR (jm rfl (jm rfl (jm rfl (jm rfl (je (Run.lenS rfl zg) (je (Run.slice3 i (i + 1) l.length rfl zg zq rfl rfl rfl jo jo hle) (jO (jN (jv3 0 1 2 ?_))))))))))
 refine jS (jS (jR (jm rfl (jm rfl (jb rfl rfl (Bin.eqlN _ _) (jO (jN (jv4 0 1 2 16 ?_))))))))
 refine VC.condF rfl (decide_eq_false jo) ?_
 refine jQ (jN (jv3 0 1 2 ?_))
 refine jS (jR (jm rfl (je (Run.lenS rfl zg) (ja rfl (jO (jN (jv4 0 1 2 7 ?_)))))))
 refine jS ?_
 refine VC.tail 6 jK jK ?_
 simp only [zda, zdm, zey, zco]
 refine qM ?_
 refine qM ?_
 refine qE (Run.sliceS 0 _ rfl zg zq evB.none_ (evB.some_ rfl) jo jo) ?_
 rw [fX]
 refine qM ?_
 refine qM ?_
 refine qE (Run.sliceS _ _ rfl zg zq (evB.some_ rfl) evB.none_ jo jo) ?_
 refine bZ.nil ?_
 have hd := qK.drew w
 have hown := hl.own.drawn hd
 have hcut := hown.rd.cut (l := i + 1) (r := l.length) (cap := d) jo (zw _) hle
 rw [zv (by rw [zal, hcl]; omega)] at hcut
 refine Ops.m (qV.appIn (n := i) (cap := d) rfl rfl zg zq hown hcut jo (fun v hv => fH l v (zdi hv))) rfl ?_
 rintro _ w1 ⟨rfl, ho1, hf1, hs1⟩
 rw [show i + (l.length - (i + 1)) = l.length - 1 by omega] at ho1 ⊢
 refine ja rfl (jO (jN (jv2 0 7 ?_)))
 refine jS (jR (jm rfl (jm rfl (je (Run.lenS rfl zg) (jm rfl (je (Run.sliceS _ _ rfl zg zq (evB.some_ rfl) (evB.some_ rfl) jo jo) ?_))))))
 refine Ops.m0 (qV.clearCut (m := l.length) (size := 4) rfl zg cJ rfl jd ho1 jo) ?_
 rintro _ w2 ⟨ho2, hf2⟩
 rw [zbb (by rw [zi, zt, zal, hcl]; omega), zv (by rw [zi, zt, zal, hcl]; omega), ← qQr l i hi] at ho2
 refine jO (jN (jv1 0 ?_))
 refine jS (jR (jm rfl (ja rfl (jO (jN (jv1 6 ?_))))))
 refine jT ?_
 refine qR rfl ?_
 exact ⟨rfl, ho2, (((qK.drew w).frm.mono jp).trans hf1 (fun x hx => .inl hx)).trans hf2 (fun x hx => .inl hx)⟩
theorem pL {w : World} {gv g i : Nat} {cv cs : Array Value} (hv : Blk w gv 45 cv) (hg : Blk w g 45 cs) (hne : gv ≠ g) (h0 : cs.size ≠ 0) (la ca lb cb : Nat) :
  (callFunc 165 #[.slice (some ⟨gv, 0, none⟩) la ca, .slice (some ⟨g, i, none⟩) lb cb]).run Tryz.prog w = .ok (.value (.bool false)) w := by
 rw [run_callFunc_extern Tryz.func165 jK jK jK (e := Extern.SlicesOverlaps.overlaps #[22, 22] #[4]) jK,
  Lib.run_overlaps_apart w 22 4 45 zg 4 zq ⟨gv, 0, none⟩ ⟨g, i, none⟩ la ca lb cb hne 45 45 cv.size cs.size hv.shape hg.shape h0 (hv.frozen 0) (hv.frozen _)]
 rfl
theorem qZi (l : List Nc) (x : Nc) (i : Nat) (hi : i ≤ l.length) : NDC (l.take i ++ x :: l.drop i) = (NDC l).take (i * 4) ++ x.cells ++ (NDC l).drop (i * 4) := by
 rw [dJ, gD l i hi, tJ l i hi, show NDC (x :: l.drop i) = x.cells ++ NDC (l.drop i) from rfl, zbf]
theorem qVa {a zs b x : List Value} {o : Nat} (h1 : o + 4 ≤ (a ++ zs).length) (h2 : o ≤ a.length) : ((a ++ zs).take (o + 4) ++ b).take o ++ x ++ ((a ++ zs).take (o + 4) ++ b).drop (o + 4) = a.take o ++ x ++ b := by
 have hl : ((a ++ zs).take (o + 4)).length = o + 4 := by rw [zt]; omega
 rw [zbb jo, zen, zau jo, zbb h2, zes, zbn jo, hl, zdq, zco, zcg]
theorem Nc.cells4 (x : Nc) : x.cells.length = 4 := rfl
theorem wX {a b c : List Value} {o k : Nat} (ha : a.length = o) (hk : k ≤ c.length) : (a ++ c).take o ++ b ++ (a ++ c).drop (o + k) = a ++ b ++ c.drop k := by
 rw [zbb jo, zv jo, zes, zbn jo, zcg, show o + k - a.length = k by omega]
set_option maxHeartbeats 1000000 in
theorem tY (B : Option Addr) (d i gv : Nat) (l : List Nc) (x : Nc) (w : World) (hl : OwN w B d l) (hn : l.length ≤ 1000000) (hi : i ≤ l.length) (hv : Blk w gv 45 x.cells.toArray) (hne : gv ∉ ob B) :
  Calls Tryz.prog 140 #[.slice B l.length d, .int .i64 ((i : Nat) : Int), .slice (some ⟨gv, 0, none⟩) 1 1] w fun e w' => ∃ C d', e = .returned (.slice C (l.length + 1) d') ∧ Own w' 45 4 C (l.length + 1) d' (NDC (l.take i ++ x :: l.drop i)) ∧ Frm (ob B) w w' ∧ ∀ b ∈ ob C, b ∈ ob B ∨ w.heap.size ≤ b := by
 have hle := hl.own.le
 have hcl := eV l
 have hil := qZi l x i hi
 have hrv : Rd w 4 (some ⟨gv, 0, none⟩) 1 x.cells := Rd.of_blk (n := 1) (size := 4) hv rfl
 refine VC.calls (nt := 95) (res := #[.tmp 6]) Tryz.func140 rfl Tryz.ntmps140 Tryz.results140 rfl ?_
 refine jS (jR (ja rfl (jO (jN (jv3 0 1 2 ?_)))))
 refine jS (jR (jm rfl (jm rfl (je (Run.sliceS _ _ rfl zg zq (evB.some_ rfl) evB.none_ jo jo) (jO (jN (jv3 0 1 2 ?_)))))))
 refine jS (jR (jm rfl (je (Run.lenS rfl zg) (ja rfl (jO (jN (jv4 0 1 2 7 ?_)))))))
 refine jS (jS (jR (jm rfl (jb rfl rfl (Bin.eqlN _ 0) (jO (jN (jv5 0 1 2 7 16 ?_)))))))
 refine VC.condF rfl (rfl) ?_
 refine jQ (jN (jv4 0 1 2 7 ?_))
 refine jS (jR (jm rfl (je (Run.lenS rfl zg) (ja rfl (jO (jN (jv5 0 1 2 7 8 ?_)))))))
 refine jS (jS (jR (jm rfl (jm rfl (jb rfl rfl (Bin.eqlN _ _) (jO (jN (jv6 0 1 2 7 8 22 ?_))))))))
 refine jD rfl (fun hc2 => ?_) fun hc2 => ?_
 ·
  obtain rfl : i = l.length := hc2
  have hend : NDC (l.take l.length ++ x :: l.drop l.length) = NDC l ++ x.cells := by
   rw [zaq, List.drop_length, dJ]
   simp
  refine jS (jR (jm rfl (jM ?_)))
  refine Ops.m (qV.app rfl rfl zg (kM) rfl jd hl.own hrv x.cells_one jo jo) rfl ?_
  rintro _ w1 ⟨C, c1, rfl, ho1, hf1, hob1⟩
  refine ja rfl (jO (jN (jv1 6 ?_)))
  refine jT ?_
  refine qZ (qR rfl ?_)
  exact ⟨C, c1, rfl, by rw [hend]; exact ho1, hf1, fun b hb => by rcases hob1 with h | h; exact .inl (h ▸ hb); rw [h, za] at hb; exact .inr jo⟩
 have hin : i < l.length := jo
 obtain ⟨g, rfl⟩ : ∃ g, B = some ⟨g, 0, none⟩ := by
  rcases hl.own.cases with ⟨_, h0, _⟩ | ⟨g, _, h0, _⟩
  · omega
  exact ⟨g, h0⟩
 refine jQ (jN (jv5 0 1 2 7 8 ?_))
 refine jS (jS (jR (jm rfl (jm rfl (jb rfl rfl (Bin.add_i64 _ _ jo) (jm rfl (je (Run.capS rfl zg) (jb rfl rfl (Bin.gtrN _ _) (jO (jN (jv6 0 1 2 7 8 31 ?_)))))))))))
 refine jD rfl (fun hc3 => ?_) fun hc3 => ?_
 ·
  refine jS (jR (jm rfl (jm rfl (je (Run.sliceS 0 _ rfl zg zq evB.none_ (evB.some_ rfl) jo jo) ?_))))
  rw [fX]
  refine jm rfl (jm rfl (jb rfl rfl (Bin.add_i64 _ _ jo) (jm rfl (jb rfl rfl (Bin.sub_i64 _ _ jo jo) ?_))))
  have hpre := (hl.own.short (k := i) hi).rd
  rw [gD l i hi] at hpre
  refine Ops.m (qV.appMake (n := i) (cap := d) (k := l.length + 1 - i) rfl rfl zg zac (kM) rfl jd hpre jo jo jo jo jo) rfl ?_
  rintro _ w1 ⟨c1, zs, rfl, ho1, hzs, hf1⟩
  have hc1 := ho1.le
  have hpl : (NDC (l.take i)).length = i * 4 := by rw [eV, zt, zau hi]
  rw [show i + (l.length + 1 - i) = l.length + 1 by omega] at ho1 hc1 ⊢
  generalize hgn : w.heap.size = gn at ho1 ⊢
  refine ja rfl (jO (jN (jv5 0 1 2 7 9 ?_)))
  refine jS (jR (jm rfl (jm rfl (je (Run.sliceS _ _ rfl zg zq (evB.some_ rfl) evB.none_ jo jo) ?_))))
  rw [kS jo]
  refine jM ?_
  refine Ops.m (qV.copyOwn (g := gn) (o := i * 4) rfl rfl zg zq ho1 1 (hrv.frm hf1 jp) (zau jo) (by rw [zi, hpl, hzs, x.cells4]; omega) x.cells_one) rfl ?_
  rintro _ w2 ⟨rfl, ho2, hf2, hs2⟩
  rw [x.cells4, wX hpl jo] at ho2
  have hf02 : Frm [] w w2 := hf1.trans hf2 (fun y hy => by rw [za] at hy; right; omega)
  have hd2 := qK.drew w2
  have ho2 := ho2.drawn hd2
  have hcut := (hl.own.rd.frm (hf02.drawn hd2) jp).cut (l := i) (r := l.length) (cap := d) hi (zw _) hle
  rw [zv (by rw [zal, hcl]; omega)] at hcut
  refine jO (jN (jv4 0 1 7 9 ?_))
  refine jS ?_
  refine VC.tail 8 jK jK ?_
  simp only [zda, zdm, zey, zco]
  refine qM ?_
  refine qM ?_
  refine qM ?_
  refine qE (Run.bin rfl rfl (Bin.add_i64 _ _ jo)) ?_
  refine qE (Run.sliceS _ _ rfl zg zq (evB.some_ rfl) evB.none_ jo jo) ?_
  rw [kS jo]
  refine qM ?_
  refine qM ?_
  refine qE (Run.sliceS _ _ rfl zg zq (evB.some_ rfl) evB.none_ jo jo) ?_
  refine bZ.nil ?_
  refine Ops.m (qV.copyOwn (g := gn) (o := (i + 1) * 4) rfl rfl zg zq ho2 (l.length - i) hcut (zau jo) (by rw [zi, zi, zal, zal, hpl, hzs, hcl, x.cells4]; omega) (fun v hv => fH l v (zdi hv))) rfl ?_
  rintro _ w3 ⟨rfl, ho3, hf3, hs3⟩
  have hal : (NDC (l.take i) ++ x.cells).length = (i + 1) * 4 := by rw [zi, hpl, x.cells4]; omega
  have hz0 : (zs.drop 4).drop ((NDC l).drop (i * 4)).length = [] := zbn (by rw [zal, zal, hzs, hcl]; omega)
  rw [wX hal (by rw [zal, zal, hzs, hcl]; omega), hz0, zbs, ← gD l i hi, ← hil] at ho3
  have hf03 : Frm [] w w3 := (hf02.drawn hd2).trans hf3 (fun y hy => by rw [za] at hy; right; omega)
  refine jO (jN (jv1 9 ?_))
  refine jS (jR (jm rfl (ja rfl (jO (jN (jv1 6 ?_))))))
  refine jT ?_
  refine qZ (qR rfl ?_)
  exact ⟨_, c1, rfl, ho3, hf03.mono jp, fun b hb => by simp only [ob, za] at hb; exact .inr jo⟩
 refine jQ (jN (jv5 0 1 2 7 8 ?_))
 refine jS (jR (jm rfl (jm rfl (jm rfl (jb rfl rfl (Bin.add_i64 _ _ jo) (je (Run.sliceS 0 _ rfl zg zq evB.none_ (evB.some_ rfl) jo jo) ?_))))))
 rw [fX]
 obtain ⟨zs, hmo, hzs⟩ := hl.own.more (N := l.length + 1) jo jo
 obtain ⟨cur, hcur, hcs⟩ : ∃ cur, Blk w g 45 cur ∧ cur.size ≠ 0 := by
  rcases hl.own.cases with ⟨h0, _⟩ | ⟨g', cur, hA, hb, h1, _, h3, _⟩
  · cases h0
  cases hA
  exact ⟨cur, hb, jo⟩
 refine ja rfl (jO (jN (jv5 0 1 2 7 8 ?_)))
 refine jS (jS (jR (jm rfl (jm rfl (jm rfl (jm rfl (jb rfl rfl (Bin.add_i64 _ _ jo) (je (Run.sliceS _ _ rfl zg zq (evB.some_ rfl) evB.none_ jo jo) ?_))))))))
 rw [kS jo]
 refine je (Run.ext2 rfl rfl (pL hv hcur (by simpa [ob] using hne) hcs _ _ _ _)) (je (Run.not rfl) (jO (jN (jv6 0 1 2 7 8 68 ?_))))
 refine VC.condT rfl (rfl) ?_
 refine jS ?_
 refine VC.tail 8 jK jK ?_
 simp only [zda, zdm, zey, zco]
 refine qM ?_
 refine qM ?_
 refine qM ?_
 refine qE (Run.bin rfl rfl (Bin.add_i64 _ _ jo)) ?_
 refine qE (Run.sliceS _ _ rfl zg zq (evB.some_ rfl) evB.none_ jo jo) ?_
 rw [kS jo]
 refine qM ?_
 refine qM ?_
 refine qE (Run.sliceS _ _ rfl zg zq (evB.some_ rfl) evB.none_ jo jo) ?_
 refine bZ.nil ?_
 have hd1 := qK.drew w
 have hmo := hmo.drawn hd1
 have hcut := hmo.rd.cut (l := i) (r := l.length) (cap := d) hi jo jo
 rw [List.drop_append_of_le_length jo, zbb (by rw [zal, hcl]; omega), zv (by rw [zal, hcl]; omega), show l.length - i = l.length + 1 - (i + 1) by omega] at hcut
 refine Ops.m (qV.copyOwn (g := g) (o := (i + 1) * 4) rfl rfl zg zq hmo (l.length + 1 - (i + 1)) hcut (Nat.min_eq_right jo) (by rw [zi, zal, hzs, hcl]; omega) (fun v hv => fH l v (zdi hv))) rfl ?_
 rintro _ w2 ⟨rfl, ho2, hf2, hs2⟩
 have hz0 : (NDC l ++ zs).drop ((i + 1) * 4 + ((NDC l).drop (i * 4)).length) = [] := zbn (by rw [zi, zal, hzs, hcl]; omega)
 rw [hz0, zbs, show (i + 1) * 4 = i * 4 + 4 by omega] at ho2
 have hf02 : Frm [g] w w2 := (hd1.frm.mono jp).trans hf2 (fun y hy => .inl hy)
 have hv2 : Rd w2 4 (some ⟨gv, 0, none⟩) 1 x.cells := hrv.frm hf02 (by simpa [ob, eq_comm] using hne)
 refine jO (jN (jv3 0 1 2 ?_))
 refine jS (jR (jm rfl (jm rfl (je (Run.sliceS _ _ rfl zg zq (evB.some_ rfl) evB.none_ jo jo) ?_))))
 rw [kS jo]
 refine jM ?_
 refine Ops.m (qV.copyOwn (g := g) (o := i * 4) rfl rfl zg zq ho2 1 hv2 (zau jo) (by rw [zi, zt, zi, zal, hzs, hcl, x.cells4]; omega) x.cells_one) rfl ?_
 rintro _ w3 ⟨rfl, ho3, hf3, hs3⟩
 rw [x.cells4, qVa (by rw [zi, hzs, hcl]; omega) jo, ← hil] at ho3
 refine jO (jN (jv1 0 ?_))
 refine jS (jR (jm rfl (ja rfl (jO (jN (jv1 6 ?_))))))
 refine jT ?_
 refine qZ (qR rfl ?_)
 exact ⟨_, d, rfl, ho3, hf02.trans hf3 (fun y hy => .inl hy), fun b hb => .inl hb⟩
end
section
open Go.RowKit Go.Sort
theorem lW (q : Tx) (w : World) (hq : q.length ≤ 1000000) (hv : cQ w) : Calls Tryz.prog 104 #[encStr q] w fun e w' => e = .returned (encStr (upN q)) ∧ Frm [] w w' := by
 obtain ⟨k, hk⟩ : ∃ k, Lib.lastIndexByte ⟨q.toArray⟩ 47 = k := ⟨_, rfl⟩
 have hlc := uP q
 rw [hk] at hlc
 refine VC.calls (nt := 17) (res := #[.tmp 2]) Tryz.func104 rfl Tryz.ntmps104 Tryz.results104 rfl ?_
 refine jS (jR (ja rfl (jO (jN (jv1 0 ?_)))))
 refine jS (jR (jM ?_))
 refine Ops.cl (jE2 Tryz.call135) (xO q _ hq) rfl ?_
 rintro e _ ⟨rfl, rfl⟩
 refine ⟨_, rfl, ?_⟩
 rw [hk]
 refine ja rfl (jO (jN (jv2 0 3 ?_)))
 refine jS (jS ?_)
 refine VC.split1 [(0, _), (3, _)] (js2 rfl rfl) 12 (.bool (decide (¬ isN q ∨ k < 0))) ?_ ?_
 ·
  refine jR (jM ?_)
  refine Ops.cl (jE1 zct) (cV q _ jo (hv)) rfl ?_
  rintro e _ ⟨rfl, rfl⟩
  refine ⟨_, rfl, ?_⟩
  by_cases hs7 : isN q
  ·
   refine je (Run.not rfl) (jM ?_)
   refine jG ?_
   refine jk (Run.bin rfl rfl (Bin.lss _ 0)) ?_
   by_cases hs11 : k < 0
   ·
    refine je (Run.pickF rfl rfl au) (jO ?_)
    refine jN ⟨(js3 (jC (by first | (simp [*]; done) | (simp; omega))) rfl rfl), rfl⟩
   refine je (Run.pickF rfl rfl au) (jO ?_)
   refine jN ⟨(js3 (jC (by first | (simp [*]; done) | (simp; omega))) rfl rfl), rfl⟩
  refine je (Run.not rfl) (jM ?_)
  refine jU ?_
  refine jU ?_
  refine je (Run.pickT rfl rfl au) (jO ?_)
  refine jN ⟨(js3 (jC (by first | (simp [*]; done) | (simp; omega))) rfl rfl), rfl⟩
 intro Γ hΓ
 refine jN (VC.sub _ hΓ ?_)
 refine jD rfl (fun hc1 => ?_) fun hc1 => ?_
 ·
  have hu : upN q = [] := by
   by_cases hn : isN q
   ·
    rcases hlc with ⟨_, h⟩ | ⟨i, _, h, _⟩
    · exact qX4 h
    rcases hc1 with h1 | h1
    · exact absurd hn h1
    omega
   exact qKc hn
  refine jS (jR (ja rfl (jO (jN (jv1 2 ?_)))))
  refine jT ?_
  refine qZ (qR rfl ?_)
  exact ⟨by rw [hu], Frm.refl _ _⟩
 have hn : isN q := Classical.byContradiction fun h => hc1 (.inl h)
 obtain ⟨i, hi, rfl, h1, h2⟩ := hlc.resolve_left fun h => hc1 (.inr jo)
 have hu := qK8 hn h1 h2
 have htl := cH q
 refine jQ (jN (jv2 0 3 ?_))
 refine jS (jR (jM ?_))
 refine Ops.cl (jE1 zcp) (bS q _ jo (hv)) rfl ?_
 rintro e w1 ⟨rfl, hf_w1⟩
 refine ⟨_, rfl, ?_⟩
 refine jm rfl (je (Run.sliceT 0 i rfl zj evB.none_ (evB.some_ rfl) jo jo) (ja rfl (jO (jN (jv1 2 ?_)))))
 refine jT ?_
 refine qR rfl ?_
 exact ⟨by rw [hu]; rfl, hf_w1⟩
theorem lY {q p : Tx} (h1 : isN q) (h2 : isN p) : (qS p ++ [47]).isPrefixOf (qS q) = decide (cK q p) := by
 rw [zbt, decide_eq_true_iff, List.isPrefixOf_iff_prefix]
 exact ⟨fun h => ⟨h1, h2, h⟩, fun h => h.2.2⟩
theorem fD (q p : Tx) (w : World) (hq : q.length ≤ 1000000) (hp : p.length ≤ 1000000) (hv : cQ w) : Calls Tryz.prog 57 #[encStr q, encStr p] w fun e w' => e = .returned (.bool (decide (cK q p))) ∧ Frm [] w w' := by
 have K := Frm.refl [] w
 have htq := cH q
 have htp := cH p
 refine VC.calls (nt := 19) (res := #[.tmp 4]) Tryz.func57 rfl Tryz.ntmps57 Tryz.results57 rfl ?_
 refine jS (jR (ja rfl (jO (jN (jv2 0 1 ?_)))))
 refine jS ?_
 refine VC.splitR [] (Frm [] w) 4 (.bool (decide (cK q p))) ?_ ?_
 ·
  refine jR (jM ?_)
  refine Ops.cl (jE1 zct) (cV q _ jo (hv)) rfl ?_
  rintro e _ ⟨rfl, rfl⟩
  refine ⟨_, rfl, ?_⟩
  by_cases hs6 : isN q
  ·
   refine jM ?_
   refine jG ?_
   refine Ops.clg rfl au (jE1 zct) (cV p _ jo (hv)) rfl ?_
   rintro e _ ⟨rfl, rfl⟩
   refine ⟨_, rfl, ?_⟩
   by_cases hs9 : isN p
   ·
    refine je (Run.pickT rfl rfl au) (jM ?_)
    refine jG ?_
    refine Ops.clg rfl au (jE1 zcp) (bS q _ jo (hv)) rfl ?_
    rintro e w1 ⟨rfl, hf_w1⟩
    refine ⟨_, rfl, ?_⟩
    have K := K.trans hf_w1 jp
    refine jG ?_
    refine Ops.clg rfl au (jE1 zcp) (bS p _ jo (hv.frm K)) rfl ?_
    rintro e w2 ⟨rfl, hf_w2⟩
    refine ⟨_, rfl, ?_⟩
    have K := K.trans hf_w2 jp
    refine jk (Run.addT rfl rfl (by simp; omega)) ?_
    refine Ops.clg rfl au (jE2 Tryz.call110) (qQq (qS q) (qS p ++ [47]) _) rfl ?_
    rintro e _ ⟨rfl, rfl⟩
    refine ⟨_, rfl, ?_⟩
    refine je (Run.pickT rfl rfl au) (ja rfl (jO ?_))
    refine jN ⟨(js1 (jC (by first | exact lY hs6 hs9 | exact (decide_eq_false (fun h => hs9 h.2.1)).symm | exact (decide_eq_false (fun h => hs6 h.1)).symm))), (K)⟩
   refine je (Run.pickT rfl rfl au) (jM ?_)
   refine jU ?_
   refine jU ?_
   refine jU ?_
   refine jU ?_
   refine jU ?_
   refine jU ?_
   refine je (Run.pickF rfl rfl au) (ja rfl (jO ?_))
   refine jN ⟨(js1 (jC (by first | exact lY hs6 hs9 | exact (decide_eq_false (fun h => hs9 h.2.1)).symm | exact (decide_eq_false (fun h => hs6 h.1)).symm))), (K)⟩
  refine jM ?_
  refine jU ?_
  refine jU ?_
  refine je (Run.pickF rfl rfl au) (jM ?_)
  refine jU ?_
  refine jU ?_
  refine jU ?_
  refine jU ?_
  refine jU ?_
  refine jU ?_
  refine je (Run.pickF rfl rfl au) (ja rfl (jO ?_))
  refine jN ⟨(js1 (jC (by first | exact lY hs6 hs9 | exact (decide_eq_false (fun h => hs9 h.2.1)).symm | exact (decide_eq_false (fun h => hs6 h.1)).symm))), (K)⟩
 intro Γ wz hΓ hRz
 refine jN (VC.sub _ hΓ ?_)
 refine jT ?_
 refine qR rfl ?_
 exact ⟨rfl, hRz⟩
theorem yX (q f t : Tx) (w : World) (hq : q.length ≤ 1000000) (hf : f.length ≤ 1000000) (ht : t.length ≤ 400000) (hv : cQ w) : Calls Tryz.prog 112 #[encStr q, encStr f, encStr t] w fun e w' => ∃ r k, e = .returned (.tuple #[encStr r, .int .i64 ((k : Nat) : Int)]) ∧ Frm [] w w' ∧ ((k = 0 ∧ cA q f t = .ok r) ∨ (k ≠ 0 ∧ cA q f t = .error k ∧ r = [])) := by
 have K := Frm.refl [] w
 have htq := cH q
 have htf := cH f
 have htt := cH t
 refine VC.calls (nt := 46) (res := #[.tmp 6, .tmp 7]) Tryz.func112 rfl Tryz.ntmps112 Tryz.results112 rfl ?_
 refine jS (jR (ja rfl (jz 0 (jO (jN (jv3 0 1 2 ?_))))))
 refine jS (jS ?_)
 refine VC.split1 [(0, _), (1, _), (2, _)] (js3 rfl rfl rfl) 21 (.bool (decide (¬ isN q ∨ ¬ isN f ∨ ¬ isN t))) ?_ ?_
 ·
  refine jR (jM ?_)
  refine Ops.cl (jE1 zct) (cV q _ jo (hv)) rfl ?_
  rintro e _ ⟨rfl, rfl⟩
  refine ⟨_, rfl, ?_⟩
  by_cases hs10 : isN q
  ·
   refine je (Run.not rfl) (jM ?_)
   refine jG ?_
   refine Ops.clg rfl au (jE1 zct) (cV f _ jo (hv)) rfl ?_
   rintro e _ ⟨rfl, rfl⟩
   refine ⟨_, rfl, ?_⟩
   by_cases hs14 : isN f
   ·
    refine jk (Run.not rfl) ?_
    refine je (Run.pickF rfl rfl au) (jM ?_)
    refine jG ?_
    refine Ops.clg rfl au (jE1 zct) (cV t _ jo (hv)) rfl ?_
    rintro e _ ⟨rfl, rfl⟩
    refine ⟨_, rfl, ?_⟩
    by_cases hs19 : isN t
    ·
     refine jk (Run.not rfl) ?_
     refine je (Run.pickF rfl rfl au) (jO ?_)
     refine jN ⟨(js4 (jC (by first | (simp [*]; done) | (simp; omega))) rfl rfl rfl), rfl⟩
    refine jk (Run.not rfl) ?_
    refine je (Run.pickF rfl rfl au) (jO ?_)
    refine jN ⟨(js4 (jC (by first | (simp [*]; done) | (simp; omega))) rfl rfl rfl), rfl⟩
   refine jk (Run.not rfl) ?_
   refine je (Run.pickF rfl rfl au) (jM ?_)
   refine jU ?_
   refine jU ?_
   refine jU ?_
   refine je (Run.pickT rfl rfl au) (jO ?_)
   refine jN ⟨(js4 (jC (by first | (simp [*]; done) | (simp; omega))) rfl rfl rfl), rfl⟩
  refine je (Run.not rfl) (jM ?_)
  refine jU ?_
  refine jU ?_
  refine jU ?_
  refine je (Run.pickT rfl rfl au) (jM ?_)
  refine jU ?_
  refine jU ?_
  refine jU ?_
  refine je (Run.pickT rfl rfl au) (jO ?_)
  refine jN ⟨(js4 (jC (by first | (simp [*]; done) | (simp; omega))) rfl rfl rfl), rfl⟩
 intro Γ hΓ
 refine jN (VC.sub _ hΓ ?_)
 refine jD rfl (fun hc1 => ?_) fun hc1 => ?_
 ·
  refine jS (jR (ja rfl (jz 18 (jO (jN (jv2 6 7 ?_))))))
  refine jT ?_
  refine qZ (cF rfl rfl ?_)
  refine ⟨[], 18, rfl, Frm.refl _ _, .inr ⟨jd, ?_, rfl⟩⟩
  unfold cA; rw [if_pos hc1]
 have hm : cA q f t = if qS q = qS f then oZ (qS t) else if cK q f then oZ (qS t ++ (qS q).drop f.length) else .error 6 := by unfold cA; rw [if_neg hc1]
 have hqn : isN q := Classical.byContradiction fun h => hc1 (.inl h)
 have hq60 := hqn.2.1
 refine jQ (jN (jv3 0 1 2 ?_))
 refine jS (jR (ja rfl (jO (jN (jv3 0 1 2 ?_)))))
 refine jS (jB (jS (jR (jM ?_))))
 refine Ops.cl (jE1 zcp) (bS q _ jo (hv)) rfl ?_
 rintro e w1 ⟨rfl, hf_w1⟩
 refine ⟨_, rfl, ?_⟩
 have K := K.trans hf_w1 jp
 refine jM ?_
 refine Ops.cl (jE1 zcp) (bS f _ jo (hv.frm K)) rfl ?_
 rintro e w2 ⟨rfl, hf_w2⟩
 refine ⟨_, rfl, ?_⟩
 have K := K.trans hf_w2 jp
 refine je (Run.eqlT rfl rfl) (ja rfl (jO (jN (jv4 0 1 2 22 ?_))))
 refine VC.meet (σ := Tx) (fun s => [(8, encStr s)]) (fun s wz => s.length ≤ 1000000 ∧ cA q f t = oZ s ∧ Frm [] w wz) ?_ ?_
 ·
  refine jD rfl (fun hc2 => ?_) fun hc2 => ?_
  ·
   rw [if_pos hc2] at hm
   refine jR (jM ?_)
   refine Ops.cl (jE1 zcp) (bS t _ jo (hv.frm K)) rfl ?_
   rintro e w3 ⟨rfl, hf_w3⟩
   refine ⟨_, rfl, ?_⟩
   have K := K.trans hf_w3 jp
   refine ja rfl (jO ?_)
   refine jN ⟨(qS t), (js1 rfl), ?_⟩
   exact ⟨jo, hm, K⟩
  rw [if_neg hc2] at hm
  refine jS (jR (jm rfl (jM ?_)))
  refine Ops.cl (jE2 Tryz.call57) (fD q f _ hq hf (hv.frm K)) rfl ?_
  rintro e w4 ⟨rfl, hf4⟩
  refine ⟨_, rfl, ?_⟩
  have K := K.trans hf4 jp
  refine ja rfl (jO (jN (jv4 0 1 2 30 ?_)))
  refine VC.condB rfl (fun hc3 => ?_) (fun hc3 => ?_)
  ·
   have hc3 : cK q f := by simpa using hc3
   rw [if_pos hc3] at hm
   have hfl : f.length ≤ q.length := by
    have h1 := hc3.2.2.length_le
    rw [zi, htf, htq] at h1
    simp at h1
    omega
   refine jR (jM ?_)
   refine Ops.cl (jE1 zcp) (bS t _ jo (hv.frm K)) rfl ?_
   rintro e w5 ⟨rfl, hf_w5⟩
   refine ⟨_, rfl, ?_⟩
   have K := K.trans hf_w5 jp
   refine jM ?_
   refine Ops.cl (jE1 zcp) (bS q _ jo (hv.frm K)) rfl ?_
   rintro e w6 ⟨rfl, hf_w6⟩
   refine ⟨_, rfl, ?_⟩
   have K := K.trans hf_w6 jp
   refine jm rfl (je (Run.lenT rfl zj) (je (Run.sliceT f.length (qS q).length rfl zj (evB.some_ rfl) evB.none_ jo jo) ?_))
   rw [zv (by rw [zal]; omega)]
   refine je (Run.addT rfl rfl (by simp; omega)) (ja rfl (jO ?_))
   refine jN ⟨(qS t ++ (qS q).drop f.length), (js1 rfl), ?_⟩
   exact ⟨by simp; omega, hm, K⟩
  have hc3 : ¬ cK q f := by simpa using hc3
  rw [if_neg hc3] at hm
  refine jS (jR (ja rfl (jz 6 (jO (jN (jv2 6 7 ?_))))))
  refine jT ?_
  refine qZ (qH (qZ (cF rfl rfl ?_)))
  exact ⟨[], 6, rfl, K, .inr ⟨jd, hm, rfl⟩⟩
 rintro s wz ⟨hsl, hms, K⟩ Γ hΓ
 refine qW (jN (VC.sub _ hΓ ?_))
 refine jS (jS (jR (jM ?_)))
 refine Ops.cl (jE1 zct) (cV s _ jo (hv.frm K)) rfl ?_
 rintro e _ ⟨rfl, rfl⟩
 refine ⟨_, rfl, ?_⟩
 refine je (Run.not rfl) (jO (jN (jv2 8 44 ?_)))
 refine VC.condB rfl (fun hc4 => ?_) (fun hc4 => ?_)
 ·
  have hn : ¬ isN s := by simpa using hc4
  refine jS (jR (ja rfl (jz 18 (jO (jN (jv2 6 7 ?_))))))
  refine jT ?_
  refine qZ (cF rfl rfl ?_)
  refine ⟨[], 18, rfl, K, .inr ⟨jd, ?_, rfl⟩⟩
  rw [hms]; exact if_neg hn
 have hn : isN s := by simpa using hc4
 refine jQ (jN (jv1 8 ?_))
 refine jS (jR (jm rfl (ja rfl (jz 0 (jO (jN (jv2 6 7 ?_)))))))
 refine jT ?_
 refine cF rfl rfl ?_
 refine ⟨s, 0, rfl, K, .inl ⟨rfl, ?_⟩⟩
 rw [hms]; exact if_pos hn
end
section
open Go.RowKit Go.Sort
theorem qKl {l : List Tx} {i : Nat} (h0 : 0 < i) (hi : i - 1 < l.length) : (l[i - 1]?).getD [] = l[i - 1] := by rw [zb hi]; rfl
theorem bJ.iff1 {l : List Tx} {i : Nat} {q : Tx} : bJ l i q ↔ (isN q ∧ qS q = q) ∧ (0 < i → (l[i - 1]?).getD [] < q) := Iff.rfl
theorem nS (A : Option Addr) (c : Nat) (l : List Tx) (w : World) (hr : Rd w 1 A l.length (SB l)) (hn : l.length ≤ 1000000) (hq : ∀ q ∈ l, q.length ≤ 1000000) (hv : cQ w) :
  Calls Tryz.prog 66 #[.slice A l.length c] w fun e w' => e = .returned (.bool (decide (dZ l))) ∧ Frm [] w w' := by
 refine VC.calls (nt := 38) (res := #[.tmp 2]) Tryz.func66 rfl Tryz.ntmps66 Tryz.results66 rfl ?_
 refine jS (jR (ja rfl (jO (jN (jv1 0 ?_)))))
 refine jS (jS (jR (jm rfl (je (Run.lenS rfl zc) ?_))))
 refine jx .i64 0 ?_
 refine jO (jN (jB ?_))
 refine VC.loop (σ := Nat) (fun s => [(0, .slice A l.length c), (5, .slice A l.length c), (6, .int .i64 ((l.length : Nat) : Int)), (7, .int .i64 ((s : Nat) : Int))]) (fun s wr => s ≤ l.length ∧ (∀ j (h : j < l.length), j < s → bJ l j l[j]) ∧ Frm [] w wr) (fun s => l.length - s) 0 (js4 rfl rfl rfl rfl) ⟨zae _, fun _ _ h => jo, Frm.refl _ _⟩ ?_
 rintro i wr ⟨hi, hd, K⟩
 refine jS (jR (jb rfl rfl (Bin.lssN _ _) (jO (jN (jS ?_)))))
 refine jD rfl (fun hc1 => ?_) fun hc1 => ?_
 ·
  obtain ⟨ad, rfl, hc⟩ := eZ (hr.frm K jp) hc1
  have hql := hq _ (zaa hc1)
  have hna := @bJ.iff1 l i l[i]
  generalize hx : l[i] = q at *
  refine jQ (jN (jv4 0 5 6 7 ?_))
  refine jS (jB (jS (jR (jm rfl (je (Run.index1 _ rfl rfl zc zm jo) (jl rfl zx hc (ja rfl (ja rfl (jO (jN (jv6 0 3 4 5 6 7 ?_)))))))))))
  refine jS ?_
  refine VC.splitR [(0, .slice (some ad) l.length c), (5, .slice (some ad) l.length c), (6, .int .i64 ((l.length : Nat) : Int)), (7, .int .i64 ((i : Nat) : Int))] (Frm [] w) 33 (.bool (decide (¬ bJ l i q))) ?_ ?_
  ·
   refine jR (jM ?_)
   refine Ops.cl (jE1 zct) (cV q _ jo (hv.frm K)) rfl ?_
   rintro e _ ⟨rfl, rfl⟩
   refine ⟨_, rfl, ?_⟩
   by_cases hs13 : isN q
   ·
    refine je (Run.not rfl) (jM ?_)
    refine jG ?_
    refine Ops.clg rfl au (jE1 zcp) (bS q _ jo (hv.frm K)) rfl ?_
    rintro e w1 ⟨rfl, hf_w1⟩
    refine ⟨_, rfl, ?_⟩
    have K := K.trans hf_w1 jp
    refine jG ?_
    refine jk (Run.neqT rfl rfl) ?_
    by_cases hs19 : qS q ≠ q
    ·
     refine je (Run.pickF rfl rfl au) (jM ?_)
     refine jU ?_
     refine jU ?_
     refine jU ?_
     refine Ops.skU rfl rfl ?_
     refine Ops.skU rfl rfl ?_
     refine Ops.skU rfl rfl ?_
     refine Ops.skU rfl rfl ?_
     refine Ops.skU rfl rfl ?_
     refine Ops.skU rfl rfl ?_
     refine Ops.skU rfl rfl ?_
     refine jU ?_
     refine je (Run.pickT rfl rfl au) (jO ?_)
     refine jN ⟨(js5 (jC (by first | exact (decide_eq_true (p := ¬ bJ l i q) (fun h => hs13 (hna.1 h).1.1)).symm | exact (decide_eq_true (p := ¬ bJ l i q) (fun h => hs19 (hna.1 h).1.2)).symm | (rw [decide_eq_false hs31]; exact (decide_eq_true (p := ¬ bJ l i q) (fun h => hs31 ((hna.1 h).2 hs23))).symm) | (rw [decide_eq_true (Classical.not_not.1 hs31)]; exact (decide_eq_false (p := ¬ bJ l i q) (fun h => h (hna.2 ⟨⟨hs13, Classical.not_not.1 hs19⟩, fun _ => Classical.not_not.1 hs31⟩))).symm) | exact (decide_eq_false (p := ¬ bJ l i q) (fun h => h (hna.2 ⟨⟨hs13, Classical.not_not.1 hs19⟩, fun h0 => absurd h0 hs23⟩))).symm)) rfl rfl rfl rfl), (K)⟩
    refine je (Run.pickF rfl rfl au) (jM ?_)
    refine jG ?_
    refine jk (Run.bin rfl rfl (Bin.gtrN _ 0)) ?_
    by_cases hs23 : 0 < i
    ·
     obtain ⟨ad2, e2, hcp⟩ := eZ (hr.frm K jp) (jo : i - 1 < l.length)
     cases e2
     rw [← qKl hs23 (jo : i - 1 < l.length)] at hcp
     refine jG ?_
     refine jG ?_
     refine jG ?_
     refine jG ?_
     refine jk (Run.bin rfl rfl (Bin.sub_i64 _ 1 jo jo)) ?_
     refine jk (Run.index1 _ rfl rfl zc zm jo) ?_
     refine jk (Run.load rfl zx hcp) ?_
     refine jk (Run.leqT rfl rfl) ?_
     by_cases hs31 : ¬ (l[i - 1]?).getD [] < q
     ·
      refine jk (Run.pickT rfl rfl au) ?_
      refine je (Run.pickF rfl rfl au) (jO ?_)
      refine jN ⟨(js5 (jC (by first | exact (decide_eq_true (p := ¬ bJ l i q) (fun h => hs13 (hna.1 h).1.1)).symm | exact (decide_eq_true (p := ¬ bJ l i q) (fun h => hs19 (hna.1 h).1.2)).symm | (rw [decide_eq_false hs31]; exact (decide_eq_true (p := ¬ bJ l i q) (fun h => hs31 ((hna.1 h).2 hs23))).symm) | (rw [decide_eq_true (Classical.not_not.1 hs31)]; exact (decide_eq_false (p := ¬ bJ l i q) (fun h => h (hna.2 ⟨⟨hs13, Classical.not_not.1 hs19⟩, fun _ => Classical.not_not.1 hs31⟩))).symm) | exact (decide_eq_false (p := ¬ bJ l i q) (fun h => h (hna.2 ⟨⟨hs13, Classical.not_not.1 hs19⟩, fun h0 => absurd h0 hs23⟩))).symm)) rfl rfl rfl rfl), (K)⟩
     refine jk (Run.pickT rfl rfl au) ?_
     refine je (Run.pickF rfl rfl au) (jO ?_)
     refine jN ⟨(js5 (jC (by first | exact (decide_eq_true (p := ¬ bJ l i q) (fun h => hs13 (hna.1 h).1.1)).symm | exact (decide_eq_true (p := ¬ bJ l i q) (fun h => hs19 (hna.1 h).1.2)).symm | (rw [decide_eq_false hs31]; exact (decide_eq_true (p := ¬ bJ l i q) (fun h => hs31 ((hna.1 h).2 hs23))).symm) | (rw [decide_eq_true (Classical.not_not.1 hs31)]; exact (decide_eq_false (p := ¬ bJ l i q) (fun h => h (hna.2 ⟨⟨hs13, Classical.not_not.1 hs19⟩, fun _ => Classical.not_not.1 hs31⟩))).symm) | exact (decide_eq_false (p := ¬ bJ l i q) (fun h => h (hna.2 ⟨⟨hs13, Classical.not_not.1 hs19⟩, fun h0 => absurd h0 hs23⟩))).symm)) rfl rfl rfl rfl), (K)⟩
    refine jG ?_
    refine jU ?_
    refine jU ?_
    refine jU ?_
    refine jU ?_
    refine jU ?_
    refine jU ?_
    refine jU ?_
    refine jk (Run.pickF rfl rfl au) ?_
    refine je (Run.pickF rfl rfl au) (jO ?_)
    refine jN ⟨(js5 (jC (by first | exact (decide_eq_true (p := ¬ bJ l i q) (fun h => hs13 (hna.1 h).1.1)).symm | exact (decide_eq_true (p := ¬ bJ l i q) (fun h => hs19 (hna.1 h).1.2)).symm | (rw [decide_eq_false hs31]; exact (decide_eq_true (p := ¬ bJ l i q) (fun h => hs31 ((hna.1 h).2 hs23))).symm) | (rw [decide_eq_true (Classical.not_not.1 hs31)]; exact (decide_eq_false (p := ¬ bJ l i q) (fun h => h (hna.2 ⟨⟨hs13, Classical.not_not.1 hs19⟩, fun _ => Classical.not_not.1 hs31⟩))).symm) | exact (decide_eq_false (p := ¬ bJ l i q) (fun h => h (hna.2 ⟨⟨hs13, Classical.not_not.1 hs19⟩, fun h0 => absurd h0 hs23⟩))).symm)) rfl rfl rfl rfl), (K)⟩
   refine je (Run.not rfl) (jM ?_)
   refine jU ?_
   refine jU ?_
   refine jU ?_
   refine jU ?_
   refine je (Run.pickT rfl rfl au) (jM ?_)
   refine jU ?_
   refine jU ?_
   refine jU ?_
   refine Ops.skU rfl rfl ?_
   refine Ops.skU rfl rfl ?_
   refine Ops.skU rfl rfl ?_
   refine Ops.skU rfl rfl ?_
   refine Ops.skU rfl rfl ?_
   refine Ops.skU rfl rfl ?_
   refine Ops.skU rfl rfl ?_
   refine jU ?_
   refine je (Run.pickT rfl rfl au) (jO ?_)
   refine jN ⟨(js5 (jC (by first | exact (decide_eq_true (p := ¬ bJ l i q) (fun h => hs13 (hna.1 h).1.1)).symm | exact (decide_eq_true (p := ¬ bJ l i q) (fun h => hs19 (hna.1 h).1.2)).symm | (rw [decide_eq_false hs31]; exact (decide_eq_true (p := ¬ bJ l i q) (fun h => hs31 ((hna.1 h).2 hs23))).symm) | (rw [decide_eq_true (Classical.not_not.1 hs31)]; exact (decide_eq_false (p := ¬ bJ l i q) (fun h => h (hna.2 ⟨⟨hs13, Classical.not_not.1 hs19⟩, fun _ => Classical.not_not.1 hs31⟩))).symm) | exact (decide_eq_false (p := ¬ bJ l i q) (fun h => h (hna.2 ⟨⟨hs13, Classical.not_not.1 hs19⟩, fun h0 => absurd h0 hs23⟩))).symm)) rfl rfl rfl rfl), (K)⟩
  intro Γ wz hΓ K
  refine jN (VC.sub _ hΓ ?_)
  refine jD rfl (fun hc2 => ?_) fun hc2 => ?_
  ·
   have hbad : ¬ dZ l := fun h => by
    have := h.2 i hc1
    rw [hx] at this
    exact hc2 this
   refine jS (jR (ja rfl (jO (jN (jv1 2 ?_)))))
   refine jT ?_
   refine qH (qZ (qZ (qH (qZ (qR rfl ?_)))))
   exact ⟨by rw [decide_eq_false hbad], K⟩
  have hc2 := Classical.not_not.1 hc2
  refine jQ ?_
  refine qW (jN ?_)
  refine jv4 0 5 6 7 ?_
  refine jR (jb rfl rfl (Bin.add_i64 _ 1 jo) (jm rfl (jO ?_)))
  refine jN ⟨(i + 1), (js4 rfl rfl rfl rfl), ?_, ?_⟩
  ·
   refine ⟨hc1, fun j hj h => ?_, K⟩
   by_cases e : j = i
   · subst e; rw [hx]; exact hc2
   exact hd j hj jo
  first | omega | (dsimp only; omega)
 refine jX ?_
 refine qJ (qJ (qN ?_))
 refine jN (jv1 0 ?_)
 refine jS (jR (jm rfl (je (Run.lenS rfl zc) (jb rfl rfl (Bin.leqN _ 24) (ja rfl (jO (jN (jv1 2 ?_))))))))
 refine jT ?_
 refine qR rfl ?_
 exact ⟨by rw [decide_eq_decide.2 (show dZ l ↔ l.length ≤ 24 from ⟨fun h => h.1, fun h => ⟨h, fun j hj => hd j hj jo⟩⟩)], K⟩
theorem jZ (m : MlC) (w : World) (hm : RdL w m) :
  Calls Tryz.prog 55 #[m.val] w fun e w' => ∃ B d, e = .returned (.slice B m.l.length d) ∧ Own w' 9 1 B m.l.length d (SB (qB m.p)) ∧ (∀ b ∈ ob B, w.heap.size ≤ b) ∧ Frm [] w w' := by
 have hln := hm.ln
 refine VC.calls (nt := 20) (res := #[.tmp 2]) Tryz.func55 rfl Tryz.ntmps55 Tryz.results55 rfl ?_
 refine jS (jR ?_)
 refine Ops.m (qV.box rfl) rfl ?_
 rintro _ w1 ⟨rfl, hF1⟩
 have hb1 : Blk w1 w.heap.size 25 m.cells.toArray := hF1.blk
 have K := hF1.frm
 refine ja rfl (jO (jN (jv1 1 ?_)))
 refine jS (jR (ja rfl (jO (jN (jS (jS (jR (jf rfl zf rfl zaf (jl rfl zap (hb1.cell 0) (je (Run.lenS rfl zg) ?_))))))))))
 refine jx .i64 0 ?_
 refine jO (jN (jv4 3 7 8 9 ?_))
 refine jB ?_
 refine VC.loop (σ := Nat × Option Addr × Nat) (fun s => [(3, .slice s.2.1 s.1 s.2.2), (7, .slice m.A m.l.length m.c), (8, .int .i64 ((m.l.length : Nat) : Int)), (9, .int .i64 ((s.1 : Nat) : Int))]) (fun s wr => s.1 ≤ m.l.length ∧ Own wr 9 1 s.2.1 s.1 s.2.2 (SB ((m.l.take s.1).map Nc.nm)) ∧ (∀ b ∈ ob s.2.1, w.heap.size ≤ b) ∧ Frm [] w wr) (fun s => m.l.length - s.1) (0, none, 0) (js4 rfl rfl rfl rfl) ⟨zae _, Own.nil _ _ _, by simp [ob], K⟩ ?_
 rintro ⟨i, B, d⟩ wr ⟨hi, ho, hob, K⟩
 dsimp only at *
 refine jS (jR (jb rfl rfl (Bin.lssN _ _) (jO (jN (jS ?_)))))
 refine jD rfl (fun hc1 => ?_) fun hc1 => ?_
 ·
  obtain ⟨ad, hA, hel⟩ := (hm.l.frm K).elem hc1
  rw [hA]
  have hts : (m.l.take (i + 1)).map Nc.nm = (m.l.take i).map Nc.nm ++ [(m.l[i]).nm] := by rw [zan, zb hc1, zbc]; rfl
  generalize hx : m.l[i] = x at *
  refine jQ (jN (jv4 3 7 8 9 ?_))
  refine jS (jB (jS (jR (je (Run.indexS i rfl rfl zg zq hc1) (je (Run.loadA rfl zde zq hel (by first | rfl | (simp; done))) ?_)))))
  refine Ops.m (qV.alloc cJ) rfl ?_
  rintro _ w2 ⟨rfl, hF2⟩
  refine Ops.st (qP.storeA rfl rfl zq hF2.blk rfl x.cells_one) ?_
  rintro w3 ⟨hb3, hf3, hs3⟩
  have hb3 : Blk w3 wr.heap.size 45 x.cells.toArray := hb3
  have K3 : Frm [] wr w3 := hF2.frm.trans hf3 jp
  refine jO (jN (jv5 3 5 7 8 9 ?_))
  refine jR (jm rfl (jf rfl zy rfl zm (jl rfl zx (hb3.cell 0) ?_)))
  refine Ops.m (qV.buildS1 rfl zc zm dI jd jd rfl rfl) rfl ?_
  rintro _ w4 ⟨rfl, hF4⟩
  have hr4 : Rd w4 1 (some ⟨w3.heap.size, 0, none⟩) 1 (SB [x.nm]) := Rd.of_blk (n := 1) (size := 1) hF4.blk rfl
  have K4 := K3.trans hF4.frm jp
  have ho4 := ho.frm K4 jp
  refine Ops.m (qV.app rfl rfl zc (eF) rfl jd ho4 hr4 (dS _) jo jo) rfl ?_
  rintro _ w5 ⟨B5, d5, rfl, ho5, hf5, hob5⟩
  rw [← bA, ← hts] at ho5
  have hks := (K.trans K4 jp).size
  have K5 := (K.trans K4 jp).own hf5 hob
  have hob6 : ∀ b ∈ ob B5, w.heap.size ≤ b := fun b hb => by
   rcases hob5 with h | h
   · rw [h] at hb; exact hob b hb
   rw [h, za] at hb; omega
  refine ja rfl (jO ?_)
  refine qW (jN ?_)
  refine jv4 3 7 8 9 ?_
  refine jR (jb rfl rfl (Bin.add_i64 _ 1 jo) (jm rfl (jO ?_)))
  refine jN ⟨(i + 1, B5, d5), (js4 rfl rfl rfl rfl), ?_, ?_⟩
  · exact ⟨hc1, ho5, hob6, K5⟩
  first | omega | (dsimp only; omega)
 refine jX ?_
 refine qJ (qJ (qN ?_))
 refine jN (jv1 3 ?_)
 refine jS (jR (jm rfl (ja rfl (jO (jN (jv1 2 ?_))))))
 refine jT ?_
 refine qR rfl ?_
 obtain rfl : i = m.l.length := jo
 rw [zaq] at ho
 refine ⟨B, d, rfl, ?_, hob, K⟩
 have e : qB m.p = m.l.map Nc.nm := by simp [qB, MlC.p, Ns, Nc.p]
 rw [e]
 exact ho
end
section
open Go.RowKit Go.Sort
theorem wZ (z : Int) (h : -9223372036854775808 ≤ z ∧ z ≤ 9223372036854775807) : keyOf Tryz.prog 3 (.int .i64 z) = some (.int .i64 z) := by
 have hw : (Lit.int .i64 z).wf = true := by
  simp [Lit.wf, IntKind.min, IntKind.max, IntKind.signed, IntKind.bits]
  omega
 simp [keyOf, mapKey, zac, hw]
abbrev oV : Int → Value := fun z => .int .i64 z
theorem qZj : ∀ a b, oV a = oV b → a = b := fun a b h => by injection h
def MvF (vs : List Int) : Int → Option Value := fun y => if y ∈ vs then some (.bool true) else none
theorem qKm : (fun _ : Int => none) = MvF [] := by funext y; simp [MvF]
theorem qZk (vs : List Int) (x : Int) : (fun y => if y = x then some (.bool true) else MvF vs y) = MvF (vs ++ [x]) := by
 funext y
 unfold MvF
 by_cases h : y = x <;> simp [h]
theorem qKn (vs : List Int) (x : Int) : (MvF vs x).getD (.bool false) = .bool (decide (x ∈ vs)) := by
 unfold MvF
 by_cases h : x ∈ vs <;> simp [h]
def tG (m : MlC) (i : Nat) (x : Nc) : Prop := (bE x.p.2 ∧ x.v ≤ m.v ∧ x.v ∉ (m.l.take i).map Nc.v) ∧ ∀ y ∈ x.l, (y.m.blob : Int) ≤ m.b
theorem wJ (m : MlC) : bV m.p ↔ cX m.p ∧ ∀ i (h : i < m.l.length), tG m i m.l[i] := by
 have key : ∀ i (h : i < m.l.length), oO m.p.valid m.p.blob m.p.l i (m.l[i]).p ↔ tG m i m.l[i] := by
  intro i h
  unfold oO tG
  have e1 : (∀ y ∈ m.p.l.take i, y.2.valid ≠ (m.l[i]).p.2.valid) ↔ (m.l[i]).v ∉ (m.l.take i).map Nc.v := by
   rw [show m.p.l.take i = (m.l.take i).map Nc.p from zdu.symm]
   constructor
   ·
    intro h1 h2
    obtain ⟨y, hy, e⟩ := List.mem_map.1 h2
    exact h1 y.p (zbr hy) e
   intro h1 y hy e
   obtain ⟨z, hz, rfl⟩ := List.mem_map.1 hy
   exact h1 (List.mem_map.2 ⟨z, hz, e⟩)
  have e2 : (∀ y ∈ (m.l[i]).p.2.l, (y.blob : Int) ≤ m.p.blob) ↔ ∀ y ∈ (m.l[i]).l, (y.m.blob : Int) ≤ m.b := by
   constructor
   · intro h1 y hy; exact h1 y.m (zbr hy)
   intro h1 y hy
   obtain ⟨z, hz, rfl⟩ := List.mem_map.1 hy
   exact h1 z hz
  rw [e1, e2]
  constructor
  · rintro ⟨h1, h2, h3, h4⟩; exact ⟨⟨h1, h2, h3⟩, h4⟩
  rintro ⟨⟨h1, h2, h3⟩, h4⟩; exact ⟨h1, h2, h3, h4⟩
 unfold bV
 constructor
 ·
  rintro ⟨h1, h2⟩
  refine ⟨h1, fun i h => (key i h).1 ?_⟩
  have := h2 i (by show i < (Ns m.l).length; rw [bP]; exact h)
  rw [show m.p.l[i]'(by show i < (Ns m.l).length; rw [bP]; exact h) = (m.l[i]).p from zbe _] at this
  exact this
 rintro ⟨h1, h2⟩
 refine ⟨h1, fun i h => ?_⟩
 have h' : i < m.l.length := by have : i < (Ns m.l).length := h; rwa [bP] at this
 have := (key i h').2 (h2 i h')
 rw [show m.p.l[i] = (m.l[i]).p from zbe _]
 exact this
theorem fA (m : MlC) : (qB m.p).length = m.l.length := by simp [qB, MlC.p]
theorem nJ {w : World} {m : MlC} (h : RdL w m) : ∀ q ∈ qB m.p, q.length ≤ 1000000 := by
 intro q hq
 obtain ⟨x, hx, rfl⟩ := List.mem_map.1 hq
 obtain ⟨y, hy, rfl⟩ := List.mem_map.1 hx
 exact (h.l.el y hy).q
theorem yZ (x : Mc) (g nb : Nat) (m : MlC) (w : World) (hb : Blk w g 25 m.cells.toArray) (hm : m.b = (nb : Int)) (hn : nb ≤ 2147483647) :
  Calls Tryz.prog 70 #[.agg x.cells.toArray, .pointer (some ⟨g, 0, none⟩)] w fun e w' => e = .returned (.bool (decide ((nb : Int) < (x.m.blob : Int)))) ∧ Frm [] w w' := by
 refine VC.calls (nt := 10) (res := #[.tmp 3]) Tryz.func70 rfl Tryz.ntmps70 Tryz.results70 rfl ?_
 refine jS (jR ?_)
 refine Ops.m (qV.box rfl) rfl ?_
 rintro _ w1 ⟨rfl, hF1⟩
 have hb1 : Blk w1 w.heap.size 60 x.cells.toArray := hF1.blk
 have hbm := hb.frm hF1.frm jp
 have e3 : m.cells.toArray[3]? = some (.int .i64 ((nb : Nat) : Int)) := by show some (Value.int .i64 m.b) = _; rw [hm]
 have hcm := (hbm.cell 3).trans e3
 refine ja rfl (jO (jN (jv2 1 2 ?_)))
 refine jS (jR (jf rfl zad rfl zd (jl rfl zk (hb1.cell 4) (jf rfl zf rfl zn (jl rfl zp hcm (je (Run.convN nb rfl zac zay (by show nb ≤ 18446744073709551615; omega)) (jb rfl rfl (Bin.gtrN _ _) (ja rfl (jO (jN (jv1 3 ?_)))))))))))
 refine jT ?_
 refine qR rfl ?_
 exact ⟨by congr 2; exact decide_eq_decide.2 jo, hF1.frm⟩
theorem yJ (f : FuncId) (us : List Value) (p : MsgP → Bool) (A : Option Addr) (c : Nat) (l : List Mc) (w : World) (hl : RdM w A l) (hn : l.length ≤ 1000000) (S : List Nat) (hp : qJ0 S w f us p) :
  Calls Tryz.prog 69 #[.slice A l.length c, .func (.func f) #[] us.toArray] w fun e w' => e = .returned (.bool (decide (∃ x ∈ l, p x.m = true))) ∧ Frm [] w w' := by
 refine VC.calls (nt := 9) (res := #[.tmp 4]) Tryz.func69 rfl Tryz.ntmps69 Tryz.results69 rfl ?_
 refine jS (jR (ja rfl (jO (jN (jv2 0 1 ?_)))))
 refine jS (jR (jm rfl (jM ?_)))
 refine Ops.cl (jE2 Tryz.call118) (uF f us p A c l _ hl hn S hp) rfl ?_
 rintro e w1 ⟨hf1, k, hk1, hk2⟩
 obtain ⟨z, rfl, hz⟩ : ∃ z : Int, e = .returned (.int .i64 z) ∧ (0 ≤ z ↔ ∃ x ∈ l, p x.m = true) := by
  rcases hk2 with ⟨h1, h2⟩ | ⟨h1, h2, h3⟩
  ·
   refine ⟨_, h2, ⟨fun h => jo, fun ⟨x, hx, hpx⟩ => ?_⟩⟩
   obtain ⟨j, hj, rfl⟩ := zag hx
   rw [hk1 j hj jo] at hpx
   cases hpx
  exact ⟨_, h3, ⟨fun _ => ⟨_, zaa h1, h2⟩, fun _ => jo⟩⟩
 refine ⟨_, rfl, ?_⟩
 refine jb rfl rfl (Bin.geq _ 0) (ja rfl (jO (jN (jv1 4 ?_))))
 refine jT ?_
 refine qR rfl ?_
 exact ⟨by rw [decide_eq_decide.2 hz], hf1⟩
set_option maxHeartbeats 1000000 in
theorem cO (m : MlC) (w : World) (hm : RdL w m) (hv : cQ w) :
  Calls Tryz.prog 21 #[m.val] w fun e w' => e = .returned (.bool (decide (bV m.p))) ∧ Frm [] w w' := by
 have hln := hm.ln
 have hH : cX m.p ↔ (dZ (qB m.p) ∧ dZ m.ss ∧ 1 ≤ m.v ∧ m.v ≤ 2147483647 ∧ 0 ≤ m.b ∧ m.b ≤ 2147483647 ∧ qC ∈ qB m.p) := Iff.rfl
 have hMi := wJ m
 have hnl := fA m
 have hnq := nJ hm
 refine VC.calls (nt := 79) (res := #[.tmp 2]) Tryz.func21 rfl Tryz.ntmps21 Tryz.results21 rfl ?_
 refine jS (jR ?_)
 refine Ops.m (qV.box rfl) rfl ?_
 rintro _ w1 ⟨rfl, hF1⟩
 have hb1 : Blk w1 w.heap.size 25 #[.slice m.A m.l.length m.c, .slice m.S m.ss.length m.d, .int .i64 m.v, .int .i64 m.b] := hF1.blk
 have K := hF1.frm
 generalize hg1 : w.heap.size = g1 at hb1 ⊢
 refine ja rfl (jO (jN (jv1 1 ?_)))
 refine jS (jS ?_)
 refine VC.splitR [(1, .pointer (some ⟨g1, 0, none⟩))] (fun wz => Frm [] w wz ∧ Blk wz g1 25 #[.slice m.A m.l.length m.c, .slice m.S m.ss.length m.d, .int .i64 m.v, .int .i64 m.b]) 41 (.bool (decide (¬ cX m.p))) ?_ ?_
 ·
  refine jR (je (Run.loadA rfl zo zh hb1.cells (by first | rfl | (simp; done))) ?_)
  refine Ops.cl (jE1 Tryz.call55) (jZ m _ (hm.frm K)) rfl ?_
  rintro e w2 ⟨Bw2, dw2, rfl, how2, _, hfw2⟩
  refine ⟨_, rfl, ?_⟩
  have K := K.trans hfw2 jp
  have hb1 := hb1.frm hfw2 jp
  have hsn := nS Bw2 dw2 (qB m.p) _ (by rw [hnl]; exact how2.rd) jo hnq (hv.frm K)
  rw [hnl] at hsn
  refine Ops.cl (jE1 Tryz.call66) (hsn) rfl ?_
  rintro e w3 ⟨rfl, hf3⟩
  refine ⟨_, rfl, ?_⟩
  have K := K.trans hf3 jp
  have hb1 := hb1.frm hf3 jp
  by_cases hs8 : dZ (qB m.p)
  ·
   refine je (Run.not rfl) (jM ?_)
   refine jk (Run.fieldAddr rfl zf rfl zaj jd) ?_
   refine jk (Run.load rfl zar (hb1.cell 1)) ?_
   refine Ops.clg rfl au (jE1 Tryz.call66) (nS m.S m.d m.ss _ (hm.s.frm K jp) hm.sn hm.sq (hv.frm K)) rfl ?_
   rintro e w4 ⟨rfl, hf4⟩
   refine ⟨_, rfl, ?_⟩
   have K := K.trans hf4 jp
   have hb1 := hb1.frm hf4 jp
   by_cases hs13 : dZ m.ss
   ·
    refine jk (Run.not rfl) ?_
    refine je (Run.pickF rfl rfl au) (jM ?_)
    refine jk (Run.fieldAddr rfl zf rfl zn jd) ?_
    refine jk (Run.load rfl zp (hb1.cell 2)) ?_
    refine jk (Run.bin rfl rfl (Bin.lss _ 1)) ?_
    by_cases hs19 : m.v < 1
    ·
     refine je (Run.pickF rfl rfl au) (jM ?_)
     refine jU ?_
     refine jU ?_
     refine jU ?_
     refine je (Run.pickT rfl rfl au) (jM ?_)
     refine jU ?_
     refine jU ?_
     refine jU ?_
     refine je (Run.pickT rfl rfl au) (jM ?_)
     refine jU ?_
     refine jU ?_
     refine jU ?_
     refine je (Run.pickT rfl rfl au) (jM ?_)
     refine jU ?_
     refine jU ?_
     refine jU ?_
     refine jU ?_
     refine je (Run.pickT rfl rfl au) (jO ?_)
     refine jN ⟨(js2 (jC (by first | exact (decide_eq_true (p := ¬ cX m.p) (fun h => by obtain ⟨h1, h2, h3, h4, h5, h6, h7⟩ := hH.1 h; first | exact absurd h1 hs8 | exact absurd h2 hs13 | omega)).symm | (rw [decide_eq_false hs39]; exact (decide_eq_true (p := ¬ cX m.p) (fun h => hs39 (hH.1 h).2.2.2.2.2.2)).symm) | (rw [decide_eq_true hs39]; exact (decide_eq_false (p := ¬ cX m.p) (fun h => h (hH.2 ⟨hs8, hs13, jo, jo, jo, jo, hs39⟩))).symm))) rfl), (⟨K, hb1⟩)⟩
    refine je (Run.pickF rfl rfl au) (jM ?_)
    refine jk (Run.fieldAddr rfl zf rfl zn jd) ?_
    refine jk (Run.load rfl zp (hb1.cell 2)) ?_
    refine jk (Run.bin rfl rfl (Bin.gtr _ 2147483647)) ?_
    by_cases hs24 : 2147483647 < m.v
    ·
     refine je (Run.pickF rfl rfl au) (jM ?_)
     refine jU ?_
     refine jU ?_
     refine jU ?_
     refine je (Run.pickT rfl rfl au) (jM ?_)
     refine jU ?_
     refine jU ?_
     refine jU ?_
     refine je (Run.pickT rfl rfl au) (jM ?_)
     refine jU ?_
     refine jU ?_
     refine jU ?_
     refine jU ?_
     refine je (Run.pickT rfl rfl au) (jO ?_)
     refine jN ⟨(js2 (jC (by first | exact (decide_eq_true (p := ¬ cX m.p) (fun h => by obtain ⟨h1, h2, h3, h4, h5, h6, h7⟩ := hH.1 h; first | exact absurd h1 hs8 | exact absurd h2 hs13 | omega)).symm | (rw [decide_eq_false hs39]; exact (decide_eq_true (p := ¬ cX m.p) (fun h => hs39 (hH.1 h).2.2.2.2.2.2)).symm) | (rw [decide_eq_true hs39]; exact (decide_eq_false (p := ¬ cX m.p) (fun h => h (hH.2 ⟨hs8, hs13, jo, jo, jo, jo, hs39⟩))).symm))) rfl), (⟨K, hb1⟩)⟩
    refine je (Run.pickF rfl rfl au) (jM ?_)
    refine jk (Run.fieldAddr rfl zf rfl zn jd) ?_
    refine jk (Run.load rfl zp (hb1.cell 3)) ?_
    refine jk (Run.bin rfl rfl (Bin.lss _ 0)) ?_
    by_cases hs29 : m.b < 0
    ·
     refine je (Run.pickF rfl rfl au) (jM ?_)
     refine jU ?_
     refine jU ?_
     refine jU ?_
     refine je (Run.pickT rfl rfl au) (jM ?_)
     refine jU ?_
     refine jU ?_
     refine jU ?_
     refine jU ?_
     refine je (Run.pickT rfl rfl au) (jO ?_)
     refine jN ⟨(js2 (jC (by first | exact (decide_eq_true (p := ¬ cX m.p) (fun h => by obtain ⟨h1, h2, h3, h4, h5, h6, h7⟩ := hH.1 h; first | exact absurd h1 hs8 | exact absurd h2 hs13 | omega)).symm | (rw [decide_eq_false hs39]; exact (decide_eq_true (p := ¬ cX m.p) (fun h => hs39 (hH.1 h).2.2.2.2.2.2)).symm) | (rw [decide_eq_true hs39]; exact (decide_eq_false (p := ¬ cX m.p) (fun h => h (hH.2 ⟨hs8, hs13, jo, jo, jo, jo, hs39⟩))).symm))) rfl), (⟨K, hb1⟩)⟩
    refine je (Run.pickF rfl rfl au) (jM ?_)
    refine jk (Run.fieldAddr rfl zf rfl zn jd) ?_
    refine jk (Run.load rfl zp (hb1.cell 3)) ?_
    refine jk (Run.bin rfl rfl (Bin.gtr _ 2147483647)) ?_
    by_cases hs34 : 2147483647 < m.b
    ·
     refine je (Run.pickF rfl rfl au) (jM ?_)
     refine jU ?_
     refine jU ?_
     refine jU ?_
     refine jU ?_
     refine je (Run.pickT rfl rfl au) (jO ?_)
     refine jN ⟨(js2 (jC (by first | exact (decide_eq_true (p := ¬ cX m.p) (fun h => by obtain ⟨h1, h2, h3, h4, h5, h6, h7⟩ := hH.1 h; first | exact absurd h1 hs8 | exact absurd h2 hs13 | omega)).symm | (rw [decide_eq_false hs39]; exact (decide_eq_true (p := ¬ cX m.p) (fun h => hs39 (hH.1 h).2.2.2.2.2.2)).symm) | (rw [decide_eq_true hs39]; exact (decide_eq_false (p := ¬ cX m.p) (fun h => h (hH.2 ⟨hs8, hs13, jo, jo, jo, jo, hs39⟩))).symm))) rfl), (⟨K, hb1⟩)⟩
    refine je (Run.pickF rfl rfl au) (jM ?_)
    refine jk (Run.loadA rfl zo zh hb1.cells (by first | rfl | (simp; done))) ?_
    refine Ops.clg rfl au (jE1 Tryz.call55) (jZ m _ (hm.frm K)) rfl ?_
    rintro e w5 ⟨Bw5, dw5, rfl, how5, _, hfw5⟩
    refine ⟨_, rfl, ?_⟩
    have K := K.trans hfw5 jp
    have hb1 := hb1.frm hfw5 jp
    have hct := rO Bw5 dw5 (qB m.p) qC _ (by rw [hnl]; exact how5.rd) jo
    rw [hnl] at hct
    refine Ops.clg rfl au (jE2 Tryz.call67) (hct) rfl ?_
    rintro e _ ⟨rfl, rfl⟩
    refine ⟨_, rfl, ?_⟩
    by_cases hs39 : qC ∈ qB m.p
    ·
     refine jk (Run.not rfl) ?_
     refine je (Run.pickF rfl rfl au) (jO ?_)
     refine jN ⟨(js2 (jC (by first | exact (decide_eq_true (p := ¬ cX m.p) (fun h => by obtain ⟨h1, h2, h3, h4, h5, h6, h7⟩ := hH.1 h; first | exact absurd h1 hs8 | exact absurd h2 hs13 | omega)).symm | (rw [decide_eq_false hs39]; exact (decide_eq_true (p := ¬ cX m.p) (fun h => hs39 (hH.1 h).2.2.2.2.2.2)).symm) | (rw [decide_eq_true hs39]; exact (decide_eq_false (p := ¬ cX m.p) (fun h => h (hH.2 ⟨hs8, hs13, jo, jo, jo, jo, hs39⟩))).symm))) rfl), (⟨K, hb1⟩)⟩
    refine jk (Run.not rfl) ?_
    refine je (Run.pickF rfl rfl au) (jO ?_)
    refine jN ⟨(js2 (jC (by first | exact (decide_eq_true (p := ¬ cX m.p) (fun h => by obtain ⟨h1, h2, h3, h4, h5, h6, h7⟩ := hH.1 h; first | exact absurd h1 hs8 | exact absurd h2 hs13 | omega)).symm | (rw [decide_eq_false hs39]; exact (decide_eq_true (p := ¬ cX m.p) (fun h => hs39 (hH.1 h).2.2.2.2.2.2)).symm) | (rw [decide_eq_true hs39]; exact (decide_eq_false (p := ¬ cX m.p) (fun h => h (hH.2 ⟨hs8, hs13, jo, jo, jo, jo, hs39⟩))).symm))) rfl), (⟨K, hb1⟩)⟩
   refine jk (Run.not rfl) ?_
   refine je (Run.pickF rfl rfl au) (jM ?_)
   refine jU ?_
   refine jU ?_
   refine jU ?_
   refine je (Run.pickT rfl rfl au) (jM ?_)
   refine jU ?_
   refine jU ?_
   refine jU ?_
   refine je (Run.pickT rfl rfl au) (jM ?_)
   refine jU ?_
   refine jU ?_
   refine jU ?_
   refine je (Run.pickT rfl rfl au) (jM ?_)
   refine jU ?_
   refine jU ?_
   refine jU ?_
   refine je (Run.pickT rfl rfl au) (jM ?_)
   refine jU ?_
   refine jU ?_
   refine jU ?_
   refine jU ?_
   refine je (Run.pickT rfl rfl au) (jO ?_)
   refine jN ⟨(js2 (jC (by first | exact (decide_eq_true (p := ¬ cX m.p) (fun h => by obtain ⟨h1, h2, h3, h4, h5, h6, h7⟩ := hH.1 h; first | exact absurd h1 hs8 | exact absurd h2 hs13 | omega)).symm | (rw [decide_eq_false hs39]; exact (decide_eq_true (p := ¬ cX m.p) (fun h => hs39 (hH.1 h).2.2.2.2.2.2)).symm) | (rw [decide_eq_true hs39]; exact (decide_eq_false (p := ¬ cX m.p) (fun h => h (hH.2 ⟨hs8, hs13, jo, jo, jo, jo, hs39⟩))).symm))) rfl), (⟨K, hb1⟩)⟩
  refine je (Run.not rfl) (jM ?_)
  refine jU ?_
  refine jU ?_
  refine jU ?_
  refine jU ?_
  refine je (Run.pickT rfl rfl au) (jM ?_)
  refine jU ?_
  refine jU ?_
  refine jU ?_
  refine je (Run.pickT rfl rfl au) (jM ?_)
  refine jU ?_
  refine jU ?_
  refine jU ?_
  refine je (Run.pickT rfl rfl au) (jM ?_)
  refine jU ?_
  refine jU ?_
  refine jU ?_
  refine je (Run.pickT rfl rfl au) (jM ?_)
  refine jU ?_
  refine jU ?_
  refine jU ?_
  refine je (Run.pickT rfl rfl au) (jM ?_)
  refine jU ?_
  refine jU ?_
  refine jU ?_
  refine jU ?_
  refine je (Run.pickT rfl rfl au) (jO ?_)
  refine jN ⟨(js2 (jC (by first | exact (decide_eq_true (p := ¬ cX m.p) (fun h => by obtain ⟨h1, h2, h3, h4, h5, h6, h7⟩ := hH.1 h; first | exact absurd h1 hs8 | exact absurd h2 hs13 | omega)).symm | (rw [decide_eq_false hs39]; exact (decide_eq_true (p := ¬ cX m.p) (fun h => hs39 (hH.1 h).2.2.2.2.2.2)).symm) | (rw [decide_eq_true hs39]; exact (decide_eq_false (p := ¬ cX m.p) (fun h => h (hH.2 ⟨hs8, hs13, jo, jo, jo, jo, hs39⟩))).symm))) rfl), (⟨K, hb1⟩)⟩
 intro Γ wz hΓ ⟨K, hb1⟩
 refine jN (VC.sub _ hΓ ?_)
 refine jD rfl (fun hc1 => ?_) fun hc1 => ?_
 ·
  refine jS (jR (ja rfl (jO (jN (jv1 2 ?_)))))
  refine jT ?_
  refine qZ (qR rfl ?_)
  exact ⟨by rw [decide_eq_false (fun h => hc1 (hMi.1 h).1)], K⟩
 have hc1 := Classical.not_not.1 hc1
 obtain ⟨_, _, hv1, hv2, hb0, hb2, _⟩ := hH.1 hc1
 obtain ⟨nb, hnb⟩ : ∃ nb : Nat, m.b = (nb : Int) := ⟨m.b.toNat, jo⟩
 refine jQ (jN (jv1 1 ?_))
 refine jS (jR ?_)
 refine Ops.m (qV.makeMap (k := 3) (enc := oV)) rfl ?_
 rintro _ w6 ⟨rfl, hmp, hf6, hs6⟩
 have hmp : MpF Tryz.prog 3 oV w6 wz.heap.size (MvF ([])) := by rw [← qKm]; exact hmp
 have hgm : w.heap.size ≤ wz.heap.size := K.size
 have K := K.trans hf6 jp
 have hb1 := hb1.frm hf6 jp
 generalize hgg : wz.heap.size = gm at hmp hgm ⊢
 refine ja rfl (jO (jN (jv2 1 3 ?_)))
 refine jS (jS (jR (jf rfl zf rfl zaf (jl rfl zap (hb1.cell 0) (je (Run.lenS rfl zg) ?_)))))
 refine jx .i64 0 ?_
 refine jO (jN (jv5 1 3 44 45 46 ?_))
 refine jB ?_
 refine VC.loop (σ := Nat) (fun s => [(1, .pointer (some ⟨g1, 0, none⟩)), (3, .map (some gm)), (44, .slice m.A m.l.length m.c), (45, .int .i64 ((m.l.length : Nat) : Int)), (46, .int .i64 ((s : Nat) : Int))]) (fun s wr => s ≤ m.l.length ∧ Blk wr g1 25 #[.slice m.A m.l.length m.c, .slice m.S m.ss.length m.d, .int .i64 m.v, .int .i64 m.b] ∧ MpF Tryz.prog 3 oV wr gm (MvF ((m.l.take s).map Nc.v)) ∧ (∀ j (h : j < m.l.length), j < s → tG m j m.l[j]) ∧ Frm [] w wr) (fun s => m.l.length - s) 0 (js5 rfl rfl rfl rfl rfl) ⟨zae _, hb1, by simpa using hmp, fun _ _ h => jo, K⟩ ?_
 rintro i wr ⟨hi, hb1, hmp, hd, K⟩
 refine jS (jR (jb rfl rfl (Bin.lssN _ _) (jO (jN (jS ?_)))))
 refine jD rfl (fun hc2 => ?_) fun hc2 => ?_
 ·
  obtain ⟨ad, hA, hel⟩ := (hm.l.frm K).elem hc2
  have hxa := (hm.l.frm K).el _ (zaa hc2)
  have hxm := zaa hc2
  have hts : (m.l.take (i + 1)).map Nc.v = (m.l.take i).map Nc.v ++ [(m.l[i]).v] := by rw [zan, zb hc2, zbc]; rfl
  generalize hx : m.l[i] = x at *
  obtain ⟨vs, hvs⟩ : ∃ vs, vs = (m.l.take i).map Nc.v := ⟨_, rfl⟩
  rw [← hvs] at hmp hts
  have hBC : tG m i x ↔ ((bE ⟨x.v, x.n, Ms x.l⟩ ∧ x.v ≤ m.v ∧ x.v ∉ vs) ∧ ∀ y ∈ x.l, (y.m.blob : Int) ≤ m.b) := by rw [hvs]; exact Iff.rfl
  refine jQ (jN (jv5 1 3 44 45 46 ?_))
  refine jS (jB (jS (jR (je (Run.indexS i (show _ = some (Value.slice (some ad) m.l.length m.c) by rw [← hA]; rfl) rfl zg zq hc2) (je (Run.loadA rfl zde zq hel (by first | rfl | (simp; done))) ?_)))))
  refine Ops.m (qV.alloc cJ) rfl ?_
  rintro _ w2 ⟨rfl, hF2⟩
  have hg5 : w.heap.size ≤ wr.heap.size := K.size
  refine Ops.st (qP.storeA rfl rfl zq hF2.blk rfl x.cells_one) ?_
  rintro w3 ⟨hb5, hf3, hs3⟩
  have hb5 : Blk w3 wr.heap.size 45 #[encStr x.nm, .int .i64 x.v, .int .i64 x.n, .slice x.A x.l.length x.c] := hb5
  have K3 : Frm [] wr w3 := hF2.frm.trans hf3 jp
  have K := K.trans K3 jp
  have hb1 := hb1.frm K3 jp
  have hmp := hmp.frm K3 jp
  have hxa := hxa.frm K3
  generalize hgg5 : wr.heap.size = g5 at hb5 hg5 ⊢
  refine jO (jN (jv6 1 3 5 44 45 46 ?_))
  refine jS (jS ?_)
  refine VC.splitR [(1, .pointer (some ⟨g1, 0, none⟩)), (3, .map (some gm)), (5, .pointer (some ⟨g5, 0, none⟩)), (44, .slice m.A m.l.length m.c), (45, .int .i64 ((m.l.length : Nat) : Int)), (46, .int .i64 ((i : Nat) : Int))] (fun wz => Frm [] w wz ∧ Blk wz g1 25 #[.slice m.A m.l.length m.c, .slice m.S m.ss.length m.d, .int .i64 m.v, .int .i64 m.b] ∧ Blk wz g5 45 #[encStr x.nm, .int .i64 x.v, .int .i64 x.n, .slice x.A x.l.length x.c] ∧ MpF Tryz.prog 3 oV wz gm (MvF (vs)) ∧ x.At wz) 68 (.bool (decide (¬ (bE ⟨x.v, x.n, Ms x.l⟩ ∧ x.v ≤ m.v ∧ x.v ∉ vs)))) ?_ ?_
  ·
   refine jR (jf rfl zy rfl zu (je (Run.loadA rfl zaz zu (hb5.sub 1 (BVc x.v x.n x.A x.l.length x.c) rfl) (by first | rfl | (simp; done))) ?_))
   refine Ops.cl (jE1 Tryz.call68) (tZ x.v x.n x.A x.c x.l _ hxa.rd) rfl ?_
   rintro e w7 ⟨rfl, hf7⟩
   refine ⟨_, rfl, ?_⟩
   have K := K.trans hf7 jp
   have hb1 := hb1.frm hf7 jp
   have hb5 := hb5.frm hf7 jp
   have hmp := hmp.frm hf7 jp
   have hxa := hxa.frm hf7
   by_cases hs52 : bE ⟨x.v, x.n, Ms x.l⟩
   ·
    refine je (Run.not rfl) (jM ?_)
    refine jk (Run.fieldAddr rfl zy rfl zu jd) ?_
    refine jk (Run.fieldAddr rfl zl rfl zn jd) ?_
    refine jk (Run.load rfl zp (show _ = some (Value.int .i64 x.v) from hb5.cell 1)) ?_
    refine jk (Run.fieldAddr rfl zf rfl zn jd) ?_
    refine jk (Run.load rfl zp (show _ = some (Value.int .i64 m.v) from hb1.cell 2)) ?_
    refine jk (Run.bin rfl rfl (Bin.gtr _ _)) ?_
    by_cases hs60 : m.v < x.v
    ·
     refine je (Run.pickF rfl rfl au) (jM ?_)
     refine jU ?_
     refine jU ?_
     refine jU ?_
     refine jU ?_
     refine jU ?_
     refine je (Run.pickT rfl rfl au) (jO ?_)
     refine jN ⟨(js7 (jC (by first | exact (decide_eq_true (p := ¬ (bE ⟨x.v, x.n, Ms x.l⟩ ∧ x.v ≤ m.v ∧ x.v ∉ vs)) (fun h => by have h1 := h.1; have h2 := h.2.1; first | exact hs52 h1 | omega)).symm | (rw [decide_eq_true hs67]; exact (decide_eq_true (p := ¬ (bE ⟨x.v, x.n, Ms x.l⟩ ∧ x.v ≤ m.v ∧ x.v ∉ vs)) (fun h => h.2.2 hs67)).symm) | (rw [decide_eq_false hs67]; exact (decide_eq_false (p := ¬ (bE ⟨x.v, x.n, Ms x.l⟩ ∧ x.v ≤ m.v ∧ x.v ∉ vs)) (fun h => h ⟨hs52, jo, hs67⟩)).symm))) rfl rfl rfl rfl rfl rfl), (⟨K, hb1, hb5, hmp, hxa⟩)⟩
    refine je (Run.pickF rfl rfl au) (jM ?_)
    refine jG ?_
    refine jk (Run.fieldAddr rfl zy rfl zu jd) ?_
    refine jk (Run.fieldAddr rfl zl rfl zn jd) ?_
    refine jk (Run.load rfl zp (show _ = some (Value.int .i64 x.v) from hb5.cell 1)) ?_
    refine jk (Run.lookup (enc := oV) (x := x.v) rfl rfl hmp (Go.Maps.int_keyed zac) Tryz.underlying101 qV1 (wZ _ (by have := hs52.1; dsimp only at this; omega))) ?_
    rw [qKn]
    by_cases hs67 : x.v ∈ vs
    ·
     refine je (Run.pickF rfl rfl au) (jO ?_)
     refine jN ⟨(js7 (jC (by first | exact (decide_eq_true (p := ¬ (bE ⟨x.v, x.n, Ms x.l⟩ ∧ x.v ≤ m.v ∧ x.v ∉ vs)) (fun h => by have h1 := h.1; have h2 := h.2.1; first | exact hs52 h1 | omega)).symm | (rw [decide_eq_true hs67]; exact (decide_eq_true (p := ¬ (bE ⟨x.v, x.n, Ms x.l⟩ ∧ x.v ≤ m.v ∧ x.v ∉ vs)) (fun h => h.2.2 hs67)).symm) | (rw [decide_eq_false hs67]; exact (decide_eq_false (p := ¬ (bE ⟨x.v, x.n, Ms x.l⟩ ∧ x.v ≤ m.v ∧ x.v ∉ vs)) (fun h => h ⟨hs52, jo, hs67⟩)).symm))) rfl rfl rfl rfl rfl rfl), (⟨K, hb1, hb5, hmp, hxa⟩)⟩
    refine je (Run.pickF rfl rfl au) (jO ?_)
    refine jN ⟨(js7 (jC (by first | exact (decide_eq_true (p := ¬ (bE ⟨x.v, x.n, Ms x.l⟩ ∧ x.v ≤ m.v ∧ x.v ∉ vs)) (fun h => by have h1 := h.1; have h2 := h.2.1; first | exact hs52 h1 | omega)).symm | (rw [decide_eq_true hs67]; exact (decide_eq_true (p := ¬ (bE ⟨x.v, x.n, Ms x.l⟩ ∧ x.v ≤ m.v ∧ x.v ∉ vs)) (fun h => h.2.2 hs67)).symm) | (rw [decide_eq_false hs67]; exact (decide_eq_false (p := ¬ (bE ⟨x.v, x.n, Ms x.l⟩ ∧ x.v ≤ m.v ∧ x.v ∉ vs)) (fun h => h ⟨hs52, jo, hs67⟩)).symm))) rfl rfl rfl rfl rfl rfl), (⟨K, hb1, hb5, hmp, hxa⟩)⟩
   refine je (Run.not rfl) (jM ?_)
   refine jU ?_
   refine jU ?_
   refine jU ?_
   refine jU ?_
   refine jU ?_
   refine jU ?_
   refine je (Run.pickT rfl rfl au) (jM ?_)
   refine jU ?_
   refine jU ?_
   refine jU ?_
   refine jU ?_
   refine jU ?_
   refine je (Run.pickT rfl rfl au) (jO ?_)
   refine jN ⟨(js7 (jC (by first | exact (decide_eq_true (p := ¬ (bE ⟨x.v, x.n, Ms x.l⟩ ∧ x.v ≤ m.v ∧ x.v ∉ vs)) (fun h => by have h1 := h.1; have h2 := h.2.1; first | exact hs52 h1 | omega)).symm | (rw [decide_eq_true hs67]; exact (decide_eq_true (p := ¬ (bE ⟨x.v, x.n, Ms x.l⟩ ∧ x.v ≤ m.v ∧ x.v ∉ vs)) (fun h => h.2.2 hs67)).symm) | (rw [decide_eq_false hs67]; exact (decide_eq_false (p := ¬ (bE ⟨x.v, x.n, Ms x.l⟩ ∧ x.v ≤ m.v ∧ x.v ∉ vs)) (fun h => h ⟨hs52, jo, hs67⟩)).symm))) rfl rfl rfl rfl rfl rfl), (⟨K, hb1, hb5, hmp, hxa⟩)⟩
  intro Γ wz2 hΓ ⟨K, hb1, hb5, hmp, hxa⟩
  refine jN (VC.sub _ hΓ ?_)
  refine jD rfl (fun hc3 => ?_) fun hc3 => ?_
  ·
   have hbad : ¬ bV m.p := fun h => by
    have := (hMi.1 h).2 i hc2
    rw [hx] at this
    exact hc3 (hBC.1 this).1
   refine jS (jR (ja rfl (jO (jN (jv1 2 ?_)))))
   refine jT ?_
   refine qZ (qH (qZ (qZ (qH (qZ (qR rfl ?_))))))
   exact ⟨by rw [decide_eq_false hbad], K⟩
  have hc3 := Classical.not_not.1 hc3
  refine jQ (jN (jv6 1 3 5 44 45 46 ?_))
  refine jS (jR (jm rfl (jf rfl zy rfl zu (jf rfl zl rfl zn (jl rfl zp (show _ = some (Value.int .i64 x.v) from hb5.cell 1) ?_)))))
  have hne1 := hmp.ne_blk hb1
  have hne5 := hmp.ne_blk hb5
  refine Ops.st (qP.mapUpd (x := x.v) rfl rfl rfl hmp (Go.Maps.int_keyed zac) qZj Tryz.underlying101 (wZ _ (by have := hc3.1.1; dsimp only at this; omega))) ?_
  rintro w8 ⟨hmp8, hf8, hs8⟩
  rw [qZk, ← hts] at hmp8
  have K := K.own hf8 (fun y hy => by rw [za] at hy; omega)
  have hb1 := hb1.frm hf8 (fun h => hne1 (za.1 h).symm)
  have hb5 := hb5.frm hf8 (fun h => hne5 (za.1 h).symm)
  have hxa := (hm.l.el x hxm).frm K
  refine jO (jN (jv6 1 3 5 44 45 46 ?_))
  refine jS (jR (jf rfl zy rfl zu (jf rfl zl rfl zak (jl rfl zas (hb5.cell 3) (je (Run.mkFunc evs.nil (evs.cons rfl evs.nil)) ?_)))))
  refine Ops.cl (jE2 Tryz.call69) (yJ 70 [.pointer (some ⟨g1, 0, none⟩)] (fun y => decide ((nb : Int) < (y.blob : Int))) x.A x.c x.l _ hxa.rd (by have := hxa.n; omega) [] ⟨Tryz.call70, fun W y hW hy => yZ y g1 nb m W (hb1.frm hW jp) hnb jo⟩) rfl ?_
  rintro e w9 ⟨rfl, hf9⟩
  refine ⟨_, rfl, ?_⟩
  have K := K.trans hf9 jp
  have hb1 := hb1.frm hf9 jp
  have hmp8 := hmp8.frm hf9 jp
  refine jO (jN (jv6 1 3 44 45 46 77 ?_))
  refine VC.condB rfl (fun hc4 => ?_) (fun hc4 => ?_)
  ·
   have hbad : ¬ bV m.p := fun h => by
    have := (hMi.1 h).2 i hc2
    rw [hx] at this
    obtain ⟨y, hy, hpy⟩ := of_decide_eq_true hc4
    have := (hBC.1 this).2 y hy
    simp only [decide_eq_true_eq] at hpy
    omega
   refine jS (jR (ja rfl (jO (jN (jv1 2 ?_)))))
   refine jT ?_
   refine qH (qZ (qZ (qH (qZ (qR rfl ?_)))))
   exact ⟨by rw [decide_eq_false hbad], K⟩
  refine jQ ?_
  refine qW (jN ?_)
  refine jv5 1 3 44 45 46 ?_
  refine jR (jb rfl rfl (Bin.add_i64 _ 1 jo) (jm rfl (jO ?_)))
  refine jN ⟨(i + 1), (js5 rfl rfl rfl rfl rfl), ?_, ?_⟩
  ·
   refine ⟨hc2, hb1, hmp8, fun j hj h => ?_, K⟩
   by_cases e : j = i
   ·
    subst e
    rw [hx]
    refine hBC.2 ⟨hc3, fun y hy => ?_⟩
    rcases Int.lt_or_le m.b (y.m.blob : Int) with h2 | h2
    · exact absurd ⟨y, hy, decide_eq_true jo⟩ (of_decide_eq_false hc4)
    exact h2
   exact hd j hj jo
  first | omega | (dsimp only; omega)
 refine jX ?_
 refine qJ (qJ (qN ?_))
 refine jN ?_
 refine VC.sub [] .nil ?_
 refine jS (jR (ja rfl (jO (jN (jT ?_)))))
 refine qR rfl ?_
 exact ⟨by rw [decide_eq_true (hMi.2 ⟨hc1, fun j hj => hd j hj jo⟩)], K⟩
end
section
open Go.RowKit Go.Sort
theorem OwM.set {w w' : World} {A : Option Addr} {d i : Nat} {l : List Mc} {x : Mc} (h : OwM w A d l) (ho : Own w' 60 6 A l.length d (MC (l.set i x))) (k : Frm (ob A) w w') (hx : Own w 9 1 x.A x.m.flags.length x.c (SB x.m.flags)) (hf : x.m.flags.length ≤ 500000 ∧ ∀ q ∈ x.m.flags, q.length ≤ 1000000) : OwM w' A d (l.set i x) := by
 refine ⟨by rw [zdf]; exact ho, fun y hy => ?_, fun y hy => ?_⟩
 ·
  rcases List.mem_or_eq_of_mem_set hy with h1 | h1
  · exact (h.fl y h1).frm k ((h.fl y h1).ne_own h.own jd)
  subst h1; exact hx.frm k (hx.ne_own h.own jd)
 rcases List.mem_or_eq_of_mem_set hy with h1 | h1
 · exact h.fit y h1
 subst h1; exact hf
end
section
open Go.RowKit Go.Sort
def qJ1 (w : World) (f : FuncId) (us : List Value) (n : Nat) (q : Nat → Bool) : Prop :=
 (∀ args w, (callFunc f args).run Tryz.prog w = .ok (.enter f args) w) ∧ ∀ W (i : Nat), Frm [] w W → i < n → Calls Tryz.prog f (Value.int .i64 ((i : Nat) : Int) :: us).toArray W fun e w' => e = .returned (.bool (q i)) ∧ Frm [] W w'
theorem uA (f : FuncId) (us : List Value) (n : Nat) (q : Nat → Bool) (w : World) (hn : n ≤ 1000000) (hp : qJ1 w f us n q) (hq : ∀ i j, i ≤ j → j < n → q i = true → q j = true) :
  Calls Tryz.prog 102 #[.int .i64 ((n : Nat) : Int), .func (.func f) #[] us.toArray] w fun e w' => Frm [] w w' ∧ ∃ k : Nat, e = .returned (.int .i64 ((k : Nat) : Int)) ∧ k ≤ n ∧ (∀ j, j < k → q j = false) ∧ ∀ j, k ≤ j → j < n → q j = true := by
 refine VC.calls (nt := 26) (res := #[.tmp 4]) Tryz.func102 rfl Tryz.ntmps102 Tryz.results102 rfl ?_
 refine jS (jR (jz 0 (jO (jN (jv2 0 1 ?_)))))
 refine jS (jR (jm rfl (jz 0 (ja rfl (jO (jN (jv3 1 5 6 ?_)))))))
 refine jS (jB ?_)
 refine VC.loop (σ := Nat × Nat) (fun s => [(1, .func (.func f) #[] us.toArray), (5, .int .i64 ((s.1 : Nat) : Int)), (6, .int .i64 ((s.2 : Nat) : Int))]) (fun s wr => s.1 ≤ s.2 ∧ s.2 ≤ n ∧ (∀ j, j < s.1 → q j = false) ∧ (∀ j, s.2 ≤ j → j < n → q j = true) ∧ Frm [] w wr) (fun s => s.2 - s.1) (0, n) (js3 rfl rfl rfl) ⟨by dsimp only; omega, by dsimp only; omega, jp, fun j h1 h2 => by dsimp only at h1; omega, Frm.refl _ _⟩ ?_
 rintro ⟨i, j⟩ wr ⟨hij, hjn, h1, h2, hfr⟩
 dsimp only at hij hjn h1 h2 ⊢
 refine jS (jS (jR (jm rfl (jm rfl (jb rfl rfl (Bin.lssN _ _) (jO (jN (jv4 1 5 6 11 ?_))))))))
 refine jD rfl (fun hc1 => ?_) fun hc1 => ?_
 ·
  refine jQ (jN (jv3 1 5 6 ?_))
  refine jB (jS (jR (jm rfl (jm rfl (jb rfl rfl (Bin.add_i64 _ _ jo) (je (Run.convN _ rfl zac zcq (by simp only [bmax]; omega)) ?_))))))
  have hh : (i + j) / 2 ^ 1 = (i + j) / 2 := rfl
  have hmid : i ≤ (i + j) / 2 := jo
  refine jb rfl rfl (Bin.shr_u64 _ 1 jo) (je (Run.convN _ rfl zcq zac (by simp only [bmax]; omega)) (ja rfl (jO (jN (jv4 1 5 6 7 ?_)))))
  refine jS (jR (jm rfl (jM ?_)))
  refine Ops.cl (bQ.dyn rfl (evs.cons rfl evs.nil) hp.1) (hp.2 _ ((i + j) / 2) hfr jo) rfl ?_
  rintro e w2 ⟨rfl, hf2⟩
  refine ⟨_, rfl, ?_⟩
  have hfr2 := hfr.trans hf2 jp
  refine je (Run.not rfl) (jO (jN (jv5 1 5 6 7 21 ?_)))
  refine VC.condB rfl (fun hc2 => ?_) (fun hc2 => ?_)
  ·
   refine jR (jm rfl (jb rfl rfl (Bin.add_i64 _ 1 jo) (ja rfl (jO ?_))))
   refine qW (jN ⟨((i + j) / 2 + 1, j), (js3 rfl rfl rfl), ?_, ?_⟩)
   ·
    have hqf : q ((i + j) / 2) = false := by simpa using hc2
    refine ⟨by dsimp only; omega, hjn, fun k hk => ?_, h2, hfr2⟩
    cases hqk : q k with
    | false => rfl
    | true =>
     have := hq k ((i + j) / 2) (by dsimp only at hk; omega) jo hqk
     rw [hqf] at this; cases this
   first | omega | (dsimp only; omega)
  refine jR (jm rfl (ja rfl (jO ?_)))
  refine qW (jN ⟨(i, (i + j) / 2), (js3 rfl rfl rfl), ?_, ?_⟩)
  ·
   have hqt : q ((i + j) / 2) = true := by simpa using hc2
   exact ⟨by dsimp only; omega, by dsimp only; omega, h1, fun k hk1 hk2 => hq _ k hk1 hk2 hqt, hfr2⟩
  first | omega | (dsimp only; omega)
 refine jX ?_
 refine qJ (qJ (qN ?_))
 refine jN (jv1 5 ?_)
 refine jS (jR (jm rfl (ja rfl (jO (jN (jv1 4 ?_))))))
 refine jT ?_
 refine qR rfl ?_
 have hij2 : i = j := jo
 subst hij2
 exact ⟨hfr, i, rfl, hjn, h1, h2⟩
end
section
open Go.RowKit Go.Sort
theorem cE (m : MlC) {i : Nat} (h : i < m.l.length) (h2 : i < m.p.l.length) : m.p.l[i] = (m.l[i]).p := zbe _
theorem dK (m : MlC) : m.p.l.length = m.l.length := bP m.l
theorem uI (i g1 g2 : Nat) (t : Tx) (m : MlC) (w : World) (hi : i < m.l.length) (hb1 : Blk w g1 25 #[.slice m.A m.l.length m.c, .slice m.S m.ss.length m.d, .int .i64 m.v, .int .i64 m.b]) (hb2 : Blk w g2 9 #[encStr t]) (hl : RdN w m.A m.l) :
  Calls Tryz.prog 103 #[.int .i64 ((i : Nat) : Int), .pointer (some ⟨g1, 0, none⟩), .pointer (some ⟨g2, 0, none⟩)] w fun e w' => e = .returned (.bool (!decide ((m.l[i]).nm < t))) ∧ Frm [] w w' := by
 have hd := qK.drew w
 have hb1 := hb1.drawn hd
 have hb2 := hb2.drawn hd
 obtain ⟨ad, hA, hel⟩ := (hl.frm hd.frm).elem hi
 generalize hx : m.l[i] = x at *
 refine VC.calls (nt := 13) (res := #[.tmp 4]) Tryz.func103 rfl Tryz.ntmps103 Tryz.results103 rfl ?_
 refine jS (jR (ja rfl (jO (jN (jv3 0 1 2 ?_)))))
 refine jS ?_
 refine VC.still jK jK ?_
 refine qE (Run.fieldAddr rfl zf rfl zaf jd) ?_
 refine qE (Run.load rfl zap (hb1.cell 0)) ?_
 refine qM ?_
 refine qE (Run.indexS i (show _ = some (Value.slice (some ad) m.l.length m.c) by rw [← hA]; rfl) rfl zg zq hi) ?_
 refine qE (Run.fieldAddr rfl zy rfl zm jd) ?_
 refine qE (Run.load rfl zx (hel 0 (encStr x.nm) rfl)) ?_
 refine qE (Run.load rfl zx (hb2.cell 0)) ?_
 refine qE (Run.geqT rfl rfl) ?_
 refine qA ?_
 refine bZ.nil ?_
 refine jN (jv1 4 ?_)
 refine jT ?_
 refine qR rfl ?_
 exact ⟨rfl, hd.frm⟩
theorem dV (m : MlC) (s : Tx) (w : World) (hl : RdN w m.A m.l) (hln : m.l.length ≤ 1000000) (hs : s.length ≤ 1000000) (hr : bN m.p.l) (hv : cQ w) :
  Calls Tryz.prog 46 #[m.val, encStr s] w fun e w' => ∃ k : Nat, e = .returned (.tuple #[.int .i64 ((k : Nat) : Int), .bool (decide (qS s ∈ qB m.p))]) ∧ fC m.p.l (qS s) k ∧ Frm [] w w' := by
 have hpl := dK m
 refine VC.calls (nt := 30) (res := #[.tmp 4, .tmp 5]) Tryz.func46 rfl Tryz.ntmps46 Tryz.results46 rfl ?_
 refine jS (jR ?_)
 refine Ops.m (qV.box rfl) rfl ?_
 rintro _ w1 ⟨rfl, hF_w1⟩
 have hb1 : Blk w1 w.heap.size 25 #[.slice m.A m.l.length m.c, .slice m.S m.ss.length m.d, .int .i64 m.v, .int .i64 m.b] := hF_w1.blk
 have K := hF_w1.frm
 generalize hg1 : w.heap.size = g1 at hb1 ⊢
 refine Ops.m (qV.box rfl) rfl ?_
 rintro _ w2 ⟨rfl, hF2⟩
 have hb2 : Blk w2 w1.heap.size 9 #[encStr s] := hF2.blk
 have hb1 := hb1.frm hF2.frm jp
 have hg2 : w.heap.size ≤ w1.heap.size := K.size
 have hlt := hb1.lt
 have hne : g1 ≠ w1.heap.size := fun e => by have h1 := hF_w1.size; omega
 have K := K.trans hF2.frm jp
 generalize hgg2 : w1.heap.size = g2 at hb2 hg2 hne ⊢
 refine jz 0 (ja rfl (jO (jN (jv2 2 3 ?_))))
 refine jS (jR (jl rfl zx (hb2.cell 0) ?_))
 refine Ops.cl (jE1 zcp) (bS s _ hs (hv.frm K)) rfl ?_
 rintro e w3 ⟨rfl, hf3⟩
 refine ⟨_, rfl, ?_⟩
 have K := K.trans hf3 jp
 have hb1 := hb1.frm hf3 jp
 have hb2 := hb2.frm hf3 jp
 refine Ops.st (qP.store rfl rfl zm hb2 rfl rfl) ?_
 rintro w4 ⟨hb2, hf4, hs4⟩
 have hb2 : Blk w4 g2 9 #[encStr (qS s)] := hb2
 have K := K.own hf4 (fun y hy => by rw [za] at hy; omega)
 have hb1 := hb1.frm hf4 (fun h => hne (za.1 h))
 generalize htt : qS s = t at *
 have hTI : qJ1 w4 103 [.pointer (some ⟨g1, 0, none⟩), .pointer (some ⟨g2, 0, none⟩)] m.l.length (fun i => if h : i < m.l.length then !decide ((m.l[i]).nm < t) else true) := ⟨Tryz.call103, fun W i hW hi => by
  have h := uI i g1 g2 t m W hi (hb1.frm hW jp) (hb2.frm hW jp) (hl.frm (K.trans hW jp))
  simpa [hi] using h⟩
 have hmo : ∀ i j, i ≤ j → j < m.l.length → (fun i => if h : i < m.l.length then !decide ((m.l[i]).nm < t) else true) i = true → (fun i => if h : i < m.l.length then !decide ((m.l[i]).nm < t) else true) j = true := fun i j hij hj hi => by
  have hi' : i < m.l.length := jo
  simp only [hi', hj, dif_pos, zcv, decide_eq_false_iff_not] at hi ⊢
  by_cases e : i = j
  · subst e; exact hi
  intro h2
  have h3 := lZ hr (i := i) (j := j) jo jo jo
  rw [cE m hi' jo, cE m hj jo] at h3
  exact hi (gB h3 h2)
 refine jO (jN (jv2 2 3 ?_))
 refine jS (jR (jf rfl zf rfl zaf (jl rfl zap (hb1.cell 0) (je (Run.lenS rfl zg) (je (Run.mkFunc evs.nil (evs.cons rfl (evs.cons rfl evs.nil))) ?_)))))
 refine Ops.cl (jE2 Tryz.call102) (uA 103 [.pointer (some ⟨g1, 0, none⟩), .pointer (some ⟨g2, 0, none⟩)] m.l.length _ _ hln hTI hmo) rfl ?_
 rintro e w5 ⟨hf5, k, rfl, hk, h1, h2⟩
 refine ⟨_, rfl, ?_⟩
 have K0 := K.trans hf5 jp
 have hd := qK.drew w5
 have hb1 := (hb1.frm hf5 jp).drawn hd
 have hb2 := (hb2.frm hf5 jp).drawn hd
 have K := K0.drawn hd
 have hpos : fC m.p.l t k := ⟨jo, fun j hj hjk => by
  have h3 := h1 j hjk
  have hj' : j < m.l.length := jo
  simp only [hj', dif_pos, Bool.not_eq_false', decide_eq_true_eq] at h3
  rw [cE m hj' hj]; exact h3, fun j hj hkj => by
  have hj' : j < m.l.length := jo
  have h3 := h2 j hkj hj'
  simp only [hj', dif_pos, zcv, decide_eq_false_iff_not] at h3
  rw [cE m hj' hj]; exact h3⟩
 have hth := mK hr hpos
 refine ja rfl (jO (jN (jv3 2 3 6 ?_)))
 refine jS ?_
 refine VC.splitR [(4, .int .i64 ((k : Nat) : Int))] (qK w5) 5 (.bool (decide (t ∈ qB m.p))) ?_ ?_
 ·
  refine VC.still jK jK ?_
  refine qM ?_
  refine qM ?_
  refine qE (Run.fieldAddr rfl zf rfl zaf jd) ?_
  refine qE (Run.load rfl zap (hb1.cell 0)) ?_
  refine qE (Run.lenS rfl zg) ?_
  refine qE (Run.bin rfl rfl (Bin.lssN _ _)) ?_
  by_cases hs19 : k < m.l.length
  ·
   obtain ⟨ad, hA, hel⟩ := (hl.frm K).elem hs19
   refine qM ?_
   refine qG (Run.fieldAddr rfl zf rfl zaf jd) ?_
   refine qG (Run.load rfl zap (hb1.cell 0)) ?_
   refine qG (Run.mv rfl) ?_
   refine qG (Run.indexS k (show _ = some (Value.slice (some ad) m.l.length m.c) by rw [← hA]; rfl) rfl zg zq hs19) ?_
   refine qG (Run.fieldAddr rfl zy rfl zm jd) ?_
   refine qG (Run.load rfl zx (hel 0 (encStr (m.l[k]).nm) rfl)) ?_
   refine qG (Run.load rfl zx (hb2.cell 0)) ?_
   refine qG (Run.eqlT rfl rfl) ?_
   by_cases hs28 : (m.l[k]).nm = t
   ·
    refine qE (Run.pickT rfl rfl au) ?_
    refine qA ?_
    refine qA ?_
    refine bZ.nil ?_
    refine jN ⟨(js2 (jC (by first | (rw [decide_eq_true hs28]; exact (decide_eq_true (hth.1 ⟨jo, by rw [cE m hs19 jo]; exact hs28⟩)).symm) | (rw [decide_eq_false hs28]; exact (decide_eq_false (fun h => by obtain ⟨h3, h4⟩ := hth.2 h; rw [cE m hs19 h3] at h4; exact hs28 h4)).symm) | exact (decide_eq_false (fun h => by obtain ⟨h3, h4⟩ := hth.2 h; omega)).symm)) rfl), (qK.drew _)⟩
   refine qE (Run.pickT rfl rfl au) ?_
   refine qA ?_
   refine qA ?_
   refine bZ.nil ?_
   refine jN ⟨(js2 (jC (by first | (rw [decide_eq_true hs28]; exact (decide_eq_true (hth.1 ⟨jo, by rw [cE m hs19 jo]; exact hs28⟩)).symm) | (rw [decide_eq_false hs28]; exact (decide_eq_false (fun h => by obtain ⟨h3, h4⟩ := hth.2 h; rw [cE m hs19 h3] at h4; exact hs28 h4)).symm) | exact (decide_eq_false (fun h => by obtain ⟨h3, h4⟩ := hth.2 h; omega)).symm)) rfl), (qK.drew _)⟩
  refine qM ?_
  refine qU ?_
  refine qU ?_
  refine qU ?_
  refine qU ?_
  refine qU ?_
  refine qU ?_
  refine qU ?_
  refine qU ?_
  refine qE (Run.pickF rfl rfl au) ?_
  refine qA ?_
  refine qA ?_
  refine bZ.nil ?_
  refine jN ⟨(js2 (jC (by first | (rw [decide_eq_true hs28]; exact (decide_eq_true (hth.1 ⟨jo, by rw [cE m hs19 jo]; exact hs28⟩)).symm) | (rw [decide_eq_false hs28]; exact (decide_eq_false (fun h => by obtain ⟨h3, h4⟩ := hth.2 h; rw [cE m hs19 h3] at h4; exact hs28 h4)).symm) | exact (decide_eq_false (fun h => by obtain ⟨h3, h4⟩ := hth.2 h; omega)).symm)) rfl), (qK.drew _)⟩
 intro Γ w6 hΓ hd6
 refine jN (VC.sub _ hΓ ?_)
 refine jT ?_
 refine cF rfl rfl ?_
 exact ⟨k, rfl, hpos, (K0.trans (by exact hd6.frm) jp)⟩
end
section
open Go.RowKit Go.Sort
theorem qKo (l : List Mc) (k : Nat) (hk : k < l.length) (C : Option Addr) (dC : Nat) (r : List Tx) : (MC l).set (k * 6 + 5) (.slice C r.length dC) = MC (l.set k ⟨{ (l[k]).m with flags := r }, C, dC⟩) := by
 apply zcl
 intro j
 have hidx := fun l' => gP Mc.cells 6 jo Mc.cells_len l' j
 have hlen := oL l
 rw [show MC (l.set k ⟨{ (l[k]).m with flags := r }, C, dC⟩) = (l.set k ⟨{ (l[k]).m with flags := r }, C, dC⟩).flatMap Mc.cells from rfl, hidx, zef, zef]
 have hdm : j = j / 6 * 6 + j % 6 := jo
 by_cases h2 : k * 6 + 5 = j
 ·
  have h1 : k = j / 6 := jo
  rw [if_pos h2, if_pos (by rw [hlen]; omega), if_pos h1, if_pos hk]
  have : j % 6 = 5 := jo
  rw [this]
  rfl
 rw [if_neg h2, show MC l = l.flatMap Mc.cells from rfl, hidx]
 by_cases h1 : k = j / 6
 ·
  rw [if_pos h1, if_pos hk, ← h1, zb hk]
  have : j % 6 = 0 ∨ j % 6 = 1 ∨ j % 6 = 2 ∨ j % 6 = 3 ∨ j % 6 = 4 := jo
  rcases this with h | h | h | h | h <;> rw [h] <;> rfl
 rw [if_neg h1]
theorem qVb (l : List Mc) (k : Nat) (x : Mc) : Ms (l.set k x) = (Ms l).set k x.m := by simp [Ms, zfb]
theorem tH (v : Int) (w : World) : Calls Tryz.prog 82 #[.int .i64 v] w fun e w' => Frm [] w w' ∧ ((bE ⟨v, 1, []⟩ ∧ e = .returned (.tuple #[.agg #[.int .i64 v, .int .i64 1, .slice none 0 0], .int .i64 0])) ∨ (¬ bE ⟨v, 1, []⟩ ∧ e = .returned (.tuple #[.agg #[.int .i64 0, .int .i64 0, .slice none 0 0], .int .i64 1]))) := by
 refine VC.calls (nt := 12) (res := #[.cell 2 43, .tmp 3]) Tryz.func82 rfl Tryz.ntmps82 Tryz.results82 rfl ?_
 refine jS (jR ?_)
 refine Ops.m (qV.alloc cN) rfl ?_
 rintro _ w1 ⟨rfl, hF2⟩
 have hb2 := hF2.blk
 have hf2 := hF2.frm
 have hs2 : w.heap.size ≤ w.heap.size := zw _
 generalize hg2 : w.heap.size = g2 at hb2 ⊢
 refine jz 0 (jO (jN (jv2 0 2 ?_)))
 refine jS (jR (jm rfl (je (Run.build (evs.cons rfl (evs.cons rfl evs.nil)) cN (cB).choose_spec.1 (cB).choose_spec.2 rfl) ?_)))
 refine Ops.m (qV.alloc cN) rfl ?_
 rintro _ w2 ⟨rfl, hF4⟩
 have hb4 := hF4.blk
 have hb2 := hb2.frm hF4.frm jp
 have hf4 := hf2.trans hF4.frm jp
 have hs4 : w.heap.size ≤ w1.heap.size := hf2.size
 generalize hg4 : w1.heap.size = g4 at hb4 hs4 ⊢
 have hn24 : g2 < g4 := by rw [← hg4, ← hg2]; have := hF2.size; omega
 refine Ops.st (qP.storeA rfl rfl zu hb4 rfl (cR v 1 none 0 0)) ?_
 rintro w3 ⟨hb43, hf3, hs3⟩
 have hb23 := hb2.frm hf3 (by simp; omega)
 have hfr3 := hf4.own hf3 (fun y hy => by simp at hy; omega)
 refine jO (jN (jv2 2 4 ?_))
 refine jS (jS (jR (je (Run.loadA rfl zaz zu (fun j v hj => hb43.cells j v hj) (by first | rfl | (simp; done))) ?_)))
 refine Ops.cl (jE1 Tryz.call68) (tZ v 1 none 0 [] _ (RdM.nil _ _)) rfl ?_
 rintro e w4 ⟨rfl, hf5⟩
 refine ⟨_, rfl, ?_⟩
 have hfr5 := hfr3.trans hf5 jp
 have hb25 := hb23.frm hf5 jp
 have hb45 := hb43.frm hf5 jp
 refine je (Run.not rfl) (jO (jN (jv3 2 4 9 ?_)))
 refine VC.condB rfl (fun hc1 => ?_) (fun hc1 => ?_)
 ·
  have hm : ¬ bE ⟨v, 1, []⟩ := by simpa [Ms] using hc1
  refine jS (jR (je (Run.build evs.nil cN (cB).choose_spec.1 (cB).choose_spec.2 rfl) ?_))
  refine Ops.st (qP.storeA rfl rfl zu hb25 rfl (cR 0 0 none 0 0)) ?_
  rintro w6 ⟨hbz, hfz, hsz⟩
  refine jz 1 (jO (jN (jv2 2 3 ?_)))
  refine jT ?_
  refine qZ (bT ?_)
  refine qL rfl zaz zu (fun j v hj => hbz.cells j v hj) (by first | rfl | (simp; done)) ?_
  refine qO rfl ?_
  refine bX ?_
  exact ⟨hfr5.own hfz (fun y hy => by simp at hy; omega), .inr ⟨hm, rfl⟩⟩
 have hm : bE ⟨v, 1, []⟩ := by simpa [Ms] using hc1
 refine jQ (jN (jv2 2 4 ?_))
 refine jS (jR (je (Run.loadA rfl zaz zu (fun j v hj => hb45.cells j v hj) (by first | rfl | (simp; done))) ?_))
 refine Ops.st (qP.storeA rfl rfl zu hb25 rfl (cR v 1 none 0 0)) ?_
 rintro w6 ⟨hbz, hfz, hsz⟩
 refine jz 0 (jO (jN (jv2 2 3 ?_)))
 refine jT ?_
 refine bT ?_
 refine qL rfl zaz zu (fun j v hj => hbz.cells j v hj) (by first | rfl | (simp; done)) ?_
 refine qO rfl ?_
 refine bX ?_
 exact ⟨hfr5.own hfz (fun y hy => by simp at hy; omega), .inl ⟨hm, rfl⟩⟩
end
section
open Go.RowKit Go.Sort
abbrev MlC.wl (m : MlC) (A : Option Addr) (c : Nat) (l : List Nc) : MlC := { m with A := A, c := c, l := l }
theorem MlC.wl_val (m : MlC) (A : Option Addr) (c : Nat) (l : List Nc) {k : Nat} (h : l.length = k) : (m.wl A c l).val = .agg #[.slice A k c, .slice m.S m.ss.length m.d, .int .i64 m.v, .int .i64 m.b] := by
 subst h; rfl
def cZ (w w' : World) (S : List Nat) (m m' : MlC) : Prop := (∀ y ∈ S, w.heap.size ≤ y) ∧ ∀ w'' T, Frm T w' w'' → (∀ y ∈ T, y ∉ S) → RdL w'' m → RdL w'' m'
theorem cZ.refl (w : World) (m : MlC) : cZ w w [] m m := ⟨jp, fun _ _ _ _ h => h⟩
theorem cZ.zero (w w' : World) (m : MlC) : cZ w w' [] m qF := ⟨jp, fun _ _ _ _ _ => RdL.zero _⟩
theorem cZ.now {w w' : World} {S : List Nat} {m m' : MlC} (h : cZ w w' S m m') (hm : RdL w' m) : RdL w' m' := h.2 w' [] (Frm.refl _ _) jp hm
theorem cZ.frm {w w' w1 : World} {S T : List Nat} {m m' : MlC} (h : cZ w w' S m m') (k : Frm T w' w1) (hT : ∀ y ∈ T, y ∉ S) : cZ w w1 S m m' :=
 ⟨h.1, fun w'' T2 k2 h2 hm => h.2 w'' (T ++ T2) ((k.mono (fun y hy => .inl (zet _ hy))).trans k2 (fun y hy => .inl (List.mem_append_right _ hy))) (fun y hy => by rcases zds.1 hy with h3 | h3; exact hT y h3; exact h2 y h3) hm⟩
theorem cZ.trans {w w1 w2 : World} {S S2 : List Nat} {m m1 m2 : MlC} (h : cZ w w1 S m m1) (h2 : cZ w1 w2 S2 m1 m2) (k : Frm [] w1 w2) (hs : w.heap.size ≤ w1.heap.size) : cZ w w2 (S ++ S2) m m2 :=
 ⟨fun y hy => by rcases zds.1 hy with h3 | h3; exact h.1 y h3; exact zax hs (h2.1 y h3), fun w'' T kT hT hm => h2.2 w'' T kT (fun y hy h3 => hT y hy (List.mem_append_right _ h3)) (h.2 w'' T ((k.mono jp).trans kT (fun y hy => .inl hy)) (fun y hy h3 => hT y hy (zet _ h3)) hm)⟩
theorem cZ.old {w0 w w' : World} {S : List Nat} {m m' : MlC} (h : cZ w w' S m m') (hs : w0.heap.size ≤ w.heap.size) : cZ w0 w' S m m' := ⟨fun y hy => zax hs (h.1 y hy), h.2⟩
def cD (w w' : World) (m : MlC) (F : Except Nat MailP) (m' : MlC) (k : Nat) : Prop := (∃ S, cZ w w' S m m') ∧ ((k = 0 ∧ F = .ok m'.p) ∨ (k ≠ 0 ∧ F = .error k ∧ m' = qF))
theorem cD.err {w w' : World} {m : MlC} {F : Except Nat MailP} {k : Nat} (hk : k ≠ 0) (h : F = .error k) : cD w w' m F qF k := ⟨⟨[], cZ.zero _ _ _⟩, .inr ⟨hk, h, rfl⟩⟩
theorem nK (l : List Nc) (x : Nc) (i : Nat) (hi : i ≤ l.length) : (l.take i ++ x :: l.drop i).length = l.length + 1 := by
 rw [zi, zbi, zt, zal]
 omega
theorem OwN.lt {w : World} {A : Option Addr} {d : Nat} {l : List Nc} (h : OwN w A d l) : ∀ b ∈ ob A, b < w.heap.size := by
 intro b hb
 rcases h.own.cases with ⟨h0, _⟩ | ⟨g, cur, h0, hbb, _⟩
 · rw [h0] at hb; simp [ob] at hb
 rw [h0] at hb
 simp only [ob, za] at hb
 rw [hb]
 exact hbb.lt
theorem Own.rdNk {w : World} {B : Option Addr} {n d : Nat} {l : List Nc} (h : Own w 45 4 B n d (NDC l)) (hn : l.length = n) : Rd w 4 B l.length (NDC l) := by subst hn; exact h.rd
theorem qQs {w : World} {l : List Nc} {x : Nc} (i : Nat) (h : ∀ y ∈ l, y.At w) (hx : x.At w) : ∀ y ∈ l.take i ++ x :: l.drop i, y.At w := by
 intro y hy
 rcases zds.1 hy with h1 | h1
 · exact h y (zci h1)
 rcases zbh.1 h1 with rfl | h1
 · exact hx
 exact h y (zdi h1)
set_option maxHeartbeats 1000000 in
theorem rT (m : MlC) (s : Tx) (v n : Int) (B : Option Addr) (cb : Nat) (lm : List Mc) (w : World) (hm : RdL w m) (hn : m.l.length + 1 ≤ 1000000) (hs : s.length ≤ 1000000) (hr : bN m.p.l) (hb : RdM w B lm) (hbn : lm.length ≤ 900000) (hv : cQ w) :
  Calls Tryz.prog 113 #[m.val, encStr s, .agg (BVc v n B lm.length cb).toArray] w fun e w' => ∃ A' c' k, e = .returned (m.wl A' c' (m.l.take k ++ ⟨qS s, v, n, B, cb, lm⟩ :: m.l.drop k)).val ∧ k ≤ m.l.length ∧ fC m.p.l (qS s) k ∧ Own w' 45 4 A' (m.l.length + 1) c' (NDC (m.l.take k ++ ⟨qS s, v, n, B, cb, lm⟩ :: m.l.drop k)) ∧ (∀ b ∈ ob A', w.heap.size ≤ b) ∧ Frm [] w w' := by
 have hln := hm.ln
 have hcl := eV m.l
 have hpl := dK m
 refine VC.calls (nt := 27) (res := #[.cell 6 25]) Tryz.func113 rfl Tryz.ntmps113 Tryz.results113 rfl ?_
 refine jS (jR ?_)
 refine Ops.m (qV.box rfl) rfl ?_
 rintro _ w1 ⟨rfl, hF_w1⟩
 have hb1 : Blk w1 w.heap.size 25 #[.slice m.A m.l.length m.c, .slice m.S m.ss.length m.d, .int .i64 m.v, .int .i64 m.b] := hF_w1.blk
 have K := hF_w1.frm
 generalize hg1 : w.heap.size = g1 at hb1 ⊢
 refine Ops.m (qV.box rfl) rfl ?_
 rintro _ w2 ⟨rfl, hF2⟩
 have hb5 : Blk w2 w1.heap.size 43 #[.int .i64 v, .int .i64 n, .slice B lm.length cb] := hF2.blk
 have hb1 := hb1.frm hF2.frm jp
 have hlt := hb1.lt
 have K := K.trans hF2.frm jp
 generalize hg5 : w1.heap.size = g5 at hb5 ⊢
 refine Ops.m (qV.alloc bW) rfl ?_
 rintro _ w3 ⟨rfl, hF3⟩
 have hb6 := hF3.blk
 have hg6 : w.heap.size ≤ w2.heap.size := K.size
 have hb1 := hb1.frm hF3.frm jp
 have hb5 := hb5.frm hF3.frm jp
 have hl1 := hb1.lt
 have hl5 := hb5.lt
 have hl6 := hb6.lt
 have K := K.trans hF3.frm jp
 have hne16 : g1 ≠ w2.heap.size := by have := hF_w1.size; omega
 have hne56 : g5 ≠ w2.heap.size := by have := hF2.size; omega
 have hg1s : w.heap.size ≤ g1 := jo
 generalize hg6' : w2.heap.size = g6 at hb6 hg6 hne16 hne56 hl6 ⊢
 refine jO (jN (jv4 1 3 5 6 ?_))
 refine jS (jR (je (Run.loadA rfl zo zh hb1.cells (by first | rfl | (simp; done))) (jM ?_)))
 refine Ops.cl (jE2 zee) (dV m s _ (hm.frm K).l hln hs hr (hv.frm K)) rfl ?_
 rintro e w4 ⟨k, rfl, hpos, hf4⟩
 refine ⟨_, rfl, ?_⟩
 have hk : k ≤ m.l.length := by have := hpos.1; omega
 have hb1 := hb1.frm hf4 jp
 have hb5 := hb5.frm hf4 jp
 have hb6 := hb6.frm hf4 jp
 have K := K.trans hf4 jp
 have hs4 := hf4.size
 have h15 : g1 ≠ g5 := by have := hF_w1.size; omega
 refine jm rfl (je (Run.extract rfl rfl) (je (Run.extract rfl rfl) (ja rfl (ja rfl (jO (jN (jv5 1 3 5 6 7 ?_)))))))
 refine jS ?_
 refine VC.heldL 11 (fun W => Frm [] w4 W) jK ?_
 have hS : Frm [] w4 w4.drew := (Frm.refl _ _).drew
 refine jH 0 rfl hS (fun w0 hw0 => Run.fieldAddr rfl zf rfl zaf jd) ?_
 refine jH 1 rfl hS (fun w0 hw0 => Run.load rfl zap ((hb1.frm hw0 jp).cell 0)) ?_
 refine jH 3 rfl hS (fun w0 hw0 => Run.mv rfl) ?_
 refine jH 4 rfl hS (fun w0 hw0 => Run.mv rfl) ?_
 refine jH 6 rfl hS (fun w0 hw0 => Run.loadA rfl zaz zu (fun j v hj => (hb5.frm hw0 jp).cells j v hj) (by first | rfl | (simp; done))) ?_
 refine qQ.cl 2 rfl jK (jE1 Tryz.call59) (nR m.A m.c m.l _ (hm.l.frm (K.trans hS jp)) hln) trivial rfl rfl ?_
 rintro e w5 ⟨B5, d5, rfl, ho5, hob5, hf5⟩
 have hob5 : ∀ b ∈ ob B5, w4.heap.size ≤ b := fun b hb => zax (by exact (show Frm [] w4 w4.drew from (Frm.refl _ _).drew).size) (hob5 b hb)
 have hS5 := hS.trans hf5 jp
 refine ⟨_, rfl, hS5, ?_⟩
 have hS := hS5
 refine qQ.cl 5 rfl jK (jE1 zcp) (bS s _ hs (hv.frm (K.trans hS jp))) trivial rfl rfl ?_
 rintro e w6 ⟨rfl, hf6⟩
 have hS6 := hS.trans hf6 jp
 refine ⟨_, rfl, hS6, ?_⟩
 have hS := hS6
 have ho5 := ho5.frm hf6
 refine qQ.r1 7 rfl jK hS (Run.build (evs.cons rfl (evs.cons rfl evs.nil)) cJ (dL).choose_spec.1 (dL).choose_spec.2 rfl) trivial rfl rfl ?_
 refine qQ.m 8 rfl jK (qV.buildS1 rfl zg zq cJ jd jd rfl rfl) trivial rfl rfl ?_
 rintro _ w7 ⟨rfl, hF7⟩
 have hS7 := hS.trans hF7.frm jp
 refine ⟨hS7, ?_⟩
 have hS := hS7
 have hgv : w6.heap.size ∉ ob B5 := fun h => Nat.lt_irrefl _ (ho5.lt _ h)
 have ho5 := ho5.frm hF7.frm
 have hb7 : Blk w7 w6.heap.size 45 (⟨qS s, v, n, B, cb, lm⟩ : Nc).cells.toArray := hF7.blk
 refine qQ.cl 9 rfl jK (jE3 Tryz.call140) (tY B5 d5 k _ m.l ⟨qS s, v, n, B, cb, lm⟩ _ ho5 hln hk hb7 hgv) trivial rfl rfl ?_
 rintro e w8 ⟨C8, d8, rfl, ho8, hf8, hob8⟩
 have hS8 := hS.own hf8 hob5
 refine ⟨_, rfl, hS8, ?_⟩
 have hS := hS8
 have hC8 : ∀ b ∈ ob C8, w4.heap.size ≤ b := fun b hb => by
  rcases hob8 b hb with h | h
  · exact hob5 b h
  have := hS7.size; omega
 refine qQ.r1 10 rfl jK hS (Run.fieldAddr rfl zf rfl zaf jd) trivial rfl rfl ?_
 refine qQ.stL rfl jK (qP.store rfl rfl zaf (hb1.frm hS jp) rfl rfl) trivial rfl ?_
 rintro w9 ⟨hb9, hf9, hs9⟩
 have hb9 : Blk w9 g1 25 #[.slice C8 (m.l.length + 1) d8, .slice m.S m.ss.length m.d, .int .i64 m.v, .int .i64 m.b] := hb9
 have hb6 := (hb6.frm hS jp).frm hf9 (by simp; omega)
 have K := (K.trans hS jp).own hf9 (fun y hy => by rw [za] at hy; omega)
 have ho9 := ho8.frm hf9 (fun y hy h => by rw [za] at h; have := hC8 y hy; omega)
 refine qQ.done jK ?_
 refine jN (jv2 3 6 ?_)
 refine jS (jR (je (Run.loadA rfl zo zh hb9.cells (by first | rfl | (simp; done))) ?_))
 refine Ops.st (qP.storeA rfl rfl zh hb6 rfl (by intro u hu; simp only [zbh, zcj, or_false] at hu; rcases hu with rfl | rfl | rfl | rfl <;> rfl)) ?_
 rintro w10 ⟨hb6, hf10, hs10⟩
 have ho10 := ho9.frm hf10 (fun y hy h => by rw [za] at h; have := hC8 y hy; omega)
 have K := K.own hf10 (fun y hy => by rw [za] at hy; omega)
 refine jO (jN (jv1 6 ?_))
 refine jT ?_
 refine bT ?_
 refine qL rfl zo zh (hb6.cells) (by first | rfl | (simp; done)) ?_
 refine bX ?_
 have hll := nK m.l ⟨qS s, v, n, B, cb, lm⟩ k hk
 refine ⟨C8, d8, k, ?_, hk, hpos, ho10, fun b hb => by have := hC8 b hb; omega, K⟩
 rw [MlC.wl_val _ _ _ _ hll]
 rfl
theorem qZl {w w' : World} {m : MlC} {k : Nat} {x : Nc} {A : Option Addr} {c : Nat} (hk : k ≤ m.l.length) (hn : m.l.length + 1 ≤ 1000000) (ho : Own w' 45 4 A (m.l.length + 1) c (NDC (m.l.take k ++ x :: m.l.drop k))) (hf : ∀ b ∈ ob A, w.heap.size ≤ b)
  (hx : ∀ w'', RdL w'' m → x.At w'') : cZ w w' (ob A) m (m.wl A c (m.l.take k ++ x :: m.l.drop k)) := by
 have hll := nK m.l x k hk
 refine ⟨hf, fun w'' T kT hT hm => ?_⟩
 have ho := ho.frm kT (fun y hy h => hT y h hy)
 exact ⟨⟨ho.rdNk hll, qQs k hm.l.el (hx w'' hm)⟩, hm.s, by show List.length (_ ++ _) ≤ _; rw [hll]; exact ho.le, hm.sc, by show List.length (_ ++ _) ≤ _; rw [hll]; exact hn, hm.sn, hm.sq⟩
end
section
open Go.RowKit Go.Sort
theorem qQt (l : List Nc) (x : Nc) (i : Nat) : Ns (l.take i ++ x :: l.drop i) = (Ns l).take i ++ x.p :: (Ns l).drop i := by
 simp [Ns, zdu, List.map_drop]
theorem tM (A : Option Addr) (c : Nat) (ss : List Tx) (w : World) (h : Own w 9 1 A ss.length c (SB ss)) (hs : ss.length ≤ 1000000) :
  Calls Tryz.prog 105 #[.slice A ss.length c] w fun e w' => e = .returned (.tuple #[]) ∧ Own w' 9 1 A ss.length c (SB ss.reverse) ∧ Frm (ob A) w w' := by
 cases A with
 | none =>
  have h0 : ss = [] := by
   rcases h.cases with ⟨_, h1, _⟩ | ⟨g, cur, h1, _⟩
   · exact zai h1
   cases h1
  subst h0
  refine (Tryz.slices_Reverse_string_empty none c w).mono fun e w' ⟨he, hw⟩ => ?_
  subst hw
  exact ⟨he, by simpa using h, Frm.refl _ _⟩
 | some ad =>
  obtain ⟨g, rfl⟩ : ∃ g, ad = ⟨g, 0, none⟩ := by
   rcases h.cases with ⟨h1, _⟩ | ⟨g, cur, h1, _⟩
   · cases h1
   cases h1; exact ⟨g, rfl⟩
  obtain ⟨h1, h2⟩ := h.holds
  refine (Tryz.slices_Reverse_string g 0 c ss w h1 jo).mono fun e w' ⟨he, m, hw⟩ => ?_
  subst hw
  obtain ⟨h3, h4⟩ := h.put (m := m) (os := #[]) (ts := ss.reverse) zez
  rw [Go.Sort.grow_empty] at h3 h4
  exact ⟨he, h3, h4⟩
theorem uL (m : MlC) (s : Tx) (w : World) (hm : RdL w m) (hn : m.l.length + 1 ≤ 1000000) (hs : s.length ≤ 1000000) (hr : bN m.p.l) (h0 : 0 ≤ m.v) (h1 : m.v + 1 ≤ 2147483647) (hnot : qS s ∉ qB m.p) (hv : cQ w) :
  Calls Tryz.prog 106 #[m.val, encStr s] w fun e w' => ∃ m' : MlC, e = .returned m'.val ∧ m'.p = dU m.p s ∧ (∃ S, cZ w w' S m m') ∧ Frm [] w w' := by
 have hmb0 : bE ⟨m.v + 1, 1, []⟩ := ⟨⟨by dsimp only; omega, by dsimp only; omega, by dsimp only; omega, by dsimp only; omega, jp⟩, fun j h => absurd h jp⟩
 refine VC.calls (nt := 21) (res := #[.cell 4 25]) Tryz.func106 rfl Tryz.ntmps106 Tryz.results106 rfl ?_
 refine jS (jR ?_)
 refine Ops.m (qV.box rfl) rfl ?_
 rintro _ w1 ⟨rfl, hF_w1⟩
 have hb1 : Blk w1 w.heap.size 25 #[.slice m.A m.l.length m.c, .slice m.S m.ss.length m.d, .int .i64 m.v, .int .i64 m.b] := hF_w1.blk
 have K := hF_w1.frm
 generalize hg1 : w.heap.size = g1 at hb1 ⊢
 refine Ops.m (qV.alloc bW) rfl ?_
 rintro _ w2 ⟨rfl, hF2⟩
 have hb4 := hF2.blk
 have hg4 : w.heap.size ≤ w1.heap.size := K.size
 have hb1 := hb1.frm hF2.frm jp
 have hl1 := hb1.lt
 have hl4 := hb4.lt
 have K := K.trans hF2.frm jp
 have hne14 : g1 ≠ w1.heap.size := by have := hF_w1.size; omega
 have hg1s : w.heap.size ≤ g1 := jo
 generalize hg4' : w1.heap.size = g4 at hb4 hg4 hne14 hl4 ⊢
 refine jO (jN (jv3 1 2 4 ?_))
 refine jS (jR (jf rfl zf rfl zn (jl rfl zp (hb1.cell 2) (jb rfl rfl (Bin.addZ _ 1 jo jo) (jf rfl zf rfl zn ?_)))))
 refine Ops.st (qP.store rfl rfl zn hb1 rfl rfl) ?_
 rintro w3 ⟨hb1, (hf3 : Frm [g1] _ _), hs3⟩
 have hb1 : Blk w3 g1 25 #[.slice m.A m.l.length m.c, .slice m.S m.ss.length m.d, .int .i64 (m.v + 1), .int .i64 m.b] := hb1
 have hb4 := hb4.frm hf3 (by simp; omega)
 have K := K.own hf3 (fun y hy => by rw [za] at hy; omega)
 refine jO (jN (jv3 1 2 4 ?_))
 refine jS (jR (jf rfl zf rfl zn (jl rfl zp (hb1.cell 2) ?_)))
 refine Ops.cl (jE1 Tryz.call82) (tH (m.v + 1) _) rfl ?_
 rintro e w5 ⟨hf5, hc5⟩
 obtain rfl : e = .returned (.tuple #[.agg #[.int .i64 (m.v + 1), .int .i64 1, .slice none 0 0], .int .i64 0]) := by
  rcases hc5 with ⟨_, h⟩ | ⟨h, _⟩
  · exact h
  exact absurd hmb0 h
 refine ⟨_, rfl, ?_⟩
 have hb1 := hb1.frm hf5 jp
 have hb4 := hb4.frm hf5 jp
 have K := K.trans hf5 jp
 refine jm rfl (je (Run.extract rfl rfl) (je (Run.extract rfl rfl) ?_))
 refine Ops.m (qV.alloc cN) rfl ?_
 rintro _ w6 ⟨rfl, hF6⟩
 have hb5 := hF6.blk
 have hg5 : w.heap.size ≤ w5.heap.size := K.size
 have hlt5 := hb1.lt
 have hlt54 := hb4.lt
 have hb1 := hb1.frm hF6.frm jp
 have hb4 := hb4.frm hF6.frm jp
 have K := K.trans hF6.frm jp
 generalize hg5' : w5.heap.size = g5 at hb5 hg5 hlt5 hlt54 ⊢
 refine Ops.st (qP.storeA rfl rfl zu hb5 rfl (cR _ _ none 0 0)) ?_
 rintro w7 ⟨hb5, hf7, hs7⟩
 have hb5 : Blk w7 g5 43 #[.int .i64 (m.v + 1), .int .i64 1, .slice none 0 0] := hb5
 have hb1 := hb1.frm hf7 (by simp; omega)
 have hb4 := hb4.frm hf7 (by simp; omega)
 have K := K.own hf7 (fun y hy => by rw [za] at hy; omega)
 have hmk : RdL w7 { m with v := m.v + 1 } := ⟨hm.l.frm K, hm.s.frm K jp, hm.lc, hm.sc, hm.ln, hm.sn, hm.sq⟩
 refine ja rfl (jO (jN (jv4 1 2 4 5 ?_)))
 refine jS (jR (je (Run.loadA rfl zo zh hb1.cells (by first | rfl | (simp; done))) (jm rfl (je (Run.loadA rfl zaz zu hb5.cells (by first | rfl | (simp; done))) ?_))))
 refine Ops.cl (jE3 Tryz.call113) (rT { m with v := m.v + 1 } s (m.v + 1) 1 none 0 [] _ hmk hn hs hr (RdM.nil _ _) jp (hv.frm K)) rfl ?_
 rintro e w8 ⟨A8, c8, k, rfl, hk, hpos, ho8, hA8, hf8⟩
 refine ⟨_, rfl, ?_⟩
 have hl47 := hb4.lt
 have hK7 := K.size
 have hb4 := hb4.frm hf8 jp
 have K := K.trans hf8 jp
 refine Ops.st (qP.storeA rfl rfl zh hb4 rfl (MlC.cells_one _)) ?_
 rintro w9 ⟨hb4, hf9, hs9⟩
 have ho9 := ho8.frm hf9 (fun y hy h => by rw [za] at h; have := hA8 y hy; have := hs7; omega)
 refine jO (jN (jv1 4 ?_))
 refine jT ?_
 refine bT ?_
 refine qL rfl zo zh (hb4.cells) (by first | rfl | (simp; done)) ?_
 refine bX ?_
 refine ⟨_, rfl, ?_, ⟨ob A8, ?_⟩, K.own hf9 (fun y hy => by rw [za] at hy; omega)⟩
 ·
  have e : Ns (m.l.take k ++ ⟨qS s, m.v + 1, 1, none, 0, []⟩ :: m.l.drop k) = eJ (Ns m.l) (qS s) ⟨m.v + 1, 1, []⟩ := (qQt m.l _ k).trans (qX9 (b := ⟨m.v + 1, 1, []⟩) hpos hnot).symm
  exact congrArg (fun z => MailP.mk z m.ss (m.v + 1) m.b) e
 have hk8 := qZl (w := w) hk hn ho9 (fun b hb => by have := hA8 b hb; omega) (fun w'' h => ⟨RdM.nil _ _, jp, by show (qS s).length ≤ _; rw [cH]; exact hs⟩)
 exact ⟨hk8.1, fun w'' T kT hT hm => hk8.2 w'' T kT hT ⟨hm.l, hm.s, hm.lc, hm.sc, hm.ln, hm.sn, hm.sq⟩⟩
end
section
open Go.RowKit Go.Sort
set_option maxHeartbeats 1000000 in
theorem gX (m : MlC) (q : Tx) (w : World) (hm : RdL w m) (hs : q.length ≤ 1000000) (hr : bN m.p.l) (hv : cQ w) :
  Calls Tryz.prog 47 #[m.val, encStr q] w fun e w' => ∃ B d, e = .returned (.slice B (bR m.p.l q).length d) ∧ Own w' 9 1 B (bR m.p.l q).length d (SB (bR m.p.l q)) ∧ (∀ b ∈ ob B, w.heap.size ≤ b) ∧ Frm [] w w' := by
 have hln := hm.ln
 refine VC.calls (nt := 27) (res := #[.tmp 4]) Tryz.func47 rfl Tryz.ntmps47 Tryz.results47 rfl ?_
 refine jS (jR ?_)
 refine Ops.m (qV.box rfl) rfl ?_
 rintro _ w1 ⟨rfl, hF_w1⟩
 have hb1 : Blk w1 w.heap.size 25 #[.slice m.A m.l.length m.c, .slice m.S m.ss.length m.d, .int .i64 m.v, .int .i64 m.b] := hF_w1.blk
 have K := hF_w1.frm
 generalize hg1 : w.heap.size = g1 at hb1 ⊢
 refine ja rfl (jO (jN (jv2 1 2 ?_)))
 refine jS (jR (ja rfl (jO (jN (jS (jB ?_))))))
 refine VC.loop (σ := Tx × List Tx × Option Addr × Nat) (fun s => [(1, encStr s.1), (2, .pointer (some ⟨g1, 0, none⟩)), (5, .slice s.2.2.1 s.2.1.length s.2.2.2)]) (fun s wr => s.1.length ≤ 1000000 ∧ Blk wr g1 25 #[.slice m.A m.l.length m.c, .slice m.S m.ss.length m.d, .int .i64 m.v, .int .i64 m.b] ∧ Own wr 9 1 s.2.2.1 s.2.1.length s.2.2.2 (SB s.2.1) ∧ (∀ b ∈ ob s.2.2.1, w.heap.size < b) ∧ (anc q).filter (fun x => decide (qS x ∉ qB m.p)) = s.2.1 ++ (anc s.1).filter (fun x => decide (qS x ∉ qB m.p)) ∧ s.2.1.length + s.1.length ≤ 1000000 ∧ Frm [] w wr) (fun s => s.1.length) (q, [], none, 0) (js3 rfl rfl rfl) ⟨hs, hb1, Own.nil _ _ _, by simp [ob], rfl, by simpa using hs, K⟩ ?_
 rintro ⟨r, out, B, d⟩ wr ⟨hr1, hb1, ho, hob, hfl, hol, K⟩
 dsimp only at *
 refine jS (jS (jR (jm rfl (je (Run.neqT rfl rfl) (jO (jN (jv4 1 2 5 9 ?_)))))))
 refine jD rfl (fun hc1 => ?_) fun hc1 => ?_
 ·
  have hup := gW hc1
  refine jQ (jN (jv3 1 2 5 ?_))
  refine jS (jB (jS (jR (je (Run.loadA rfl zo zh hb1.cells (by first | rfl | (simp; done))) (jM ?_)))))
  refine Ops.cl (jE2 zee) (dV m r _ (hm.frm K).l hln hr1 hr (hv.frm K)) rfl ?_
  rintro e w2 ⟨k, rfl, hpos, hf2⟩
  refine ⟨_, rfl, ?_⟩
  have hb1 := hb1.frm hf2 jp
  have ho := ho.frm hf2 jp
  have hks := K.size
  have K := K.trans hf2 jp
  have hl2 := hb1.lt
  refine jm rfl (je (Run.extract rfl rfl) (je (Run.extract rfl rfl) (ja rfl (ja rfl (jO (jN (jv4 1 2 5 7 ?_)))))))
  refine jS (jR (jm rfl (je (Run.not rfl) (jO (jN (jv4 1 2 5 19 ?_))))))
  refine VC.condB rfl (fun hc2 => ?_) (fun hc2 => ?_)
  ·
   refine jR (jm rfl (jM ?_))
   refine Ops.m (qV.buildS1 rfl zc zm dI jd jd rfl rfl) rfl ?_
   rintro _ w4 ⟨rfl, hF4⟩
   have hr4 : Rd w4 1 (some ⟨w2.heap.size, 0, none⟩) 1 (SB [r]) := Rd.of_blk (n := 1) (size := 1) hF4.blk rfl
   have K := K.trans hF4.frm jp
   have hb1 := hb1.frm hF4.frm jp
   have ho4 := ho.frm hF4.frm jp
   refine Ops.m (qV.app rfl rfl zc (eF) rfl jd ho4 hr4 (dS _) jo jo) rfl ?_
   rintro _ w5 ⟨B5, d5, rfl, ho5, hf5, hob5⟩
   rw [← bA] at ho5
   have hf4s := hF4.size
   have hks5 := K.size
   have hob6 : ∀ b ∈ ob B5, w.heap.size < b := fun b hb => by
    rcases hob5 with h | h
    · rw [h] at hb; exact hob b hb
    rw [h, za] at hb; omega
   have K := K.own hf5 (fun b hb => Nat.le_of_lt (hob b hb))
   have hb1 := hb1.frm hf5 (fun h => by have := hob _ h; omega)
   refine ja rfl (jO ?_)
   refine qW (jN ?_)
   refine jv3 1 2 5 ?_
   refine jR (jM ?_)
   refine Ops.cl (jE1 Tryz.call104) (lW r _ hr1 (hv.frm K)) rfl ?_
   rintro e w6 ⟨rfl, hf6⟩
   refine ⟨_, rfl, ?_⟩
   refine ja rfl (jO ?_)
   refine jN ⟨(upN r, out ++ [r], B5, d5), (js3 rfl rfl (by rw [zi]; rfl)), ?_, ?_⟩
   ·
    refine ⟨by dsimp only; omega, hb1.frm hf6 jp, by rw [zi]; exact ho5.frm hf6 jp, hob6, ?_, by dsimp only; rw [zi]; show out.length + 1 + _ ≤ _; omega, K.trans hf6 jp⟩
    rw [hfl, lJ hc1, zea, if_pos (by simpa using hc2), zbf]
    rfl
   first | omega | (dsimp only; omega)
  refine jQ ?_
  refine qW (jN ?_)
  refine jv3 1 2 5 ?_
  refine jR (jM ?_)
  refine Ops.cl (jE1 Tryz.call104) (lW r _ hr1 (hv.frm K)) rfl ?_
  rintro e w6 ⟨rfl, hf6⟩
  refine ⟨_, rfl, ?_⟩
  refine ja rfl (jO ?_)
  refine jN ⟨(upN r, out, B, d), (js3 rfl rfl rfl), ?_, ?_⟩
  ·
   refine ⟨by dsimp only; omega, hb1.frm hf6 jp, ho.frm hf6 jp, hob, ?_, by dsimp only; omega, K.trans hf6 jp⟩
   rw [hfl, lJ hc1, zea, if_neg (by simpa using hc2)]
  first | omega | (dsimp only; omega)
 refine jX ?_
 refine qJ (qJ (qN ?_))
 refine jN (jv1 5 ?_)
 refine jS (jR (jM ?_))
 refine Ops.cl (jE1 Tryz.call105) (tM B d out _ ho jo) rfl ?_
 rintro e w7 ⟨rfl, ho7, hf7⟩
 refine ⟨_, rfl, ?_⟩
 refine jO (jN (jv1 5 ?_))
 refine jS (jR (jm rfl (ja rfl (jO (jN (jv1 4 ?_))))))
 refine jT ?_
 refine qR rfl ?_
 have hr0 : r = [] := Classical.not_not.1 hc1
 rw [hr0, anc_nil, List.filter_nil, zbs] at hfl
 have e : bR m.p.l q = out.reverse := by rw [← hfl]; rfl
 refine ⟨B, d, by rw [e, zez], by rw [e, zez]; exact ho7, fun b hb => by have := hob b hb; omega, K.own hf7 (fun b hb => by have := hob b hb; omega)⟩
end
section
open Go.RowKit Go.Sort
theorem qZm (s : Tx) : (anc s).Pairwise (fun a b => b.length < a.length) ∧ ∀ x ∈ anc s, x.length ≤ s.length := by
 have key : ∀ n (s : Tx), s.length ≤ n → (anc s).Pairwise (fun a b => b.length < a.length) ∧ ∀ x ∈ anc s, x.length ≤ s.length := by
  intro n
  induction n with
  | zero =>
   intro s h
   obtain rfl : s = [] := zai jo
   rw [anc_nil]
   exact ⟨.nil, jp⟩
  | succ n ih =>
   intro s h
   by_cases h0 : s = []
   · subst h0; rw [anc_nil]; exact ⟨.nil, jp⟩
   have h1 := gW h0
   obtain ⟨h2, h3⟩ := ih (upN s) jo
   rw [lJ h0]
   refine ⟨List.pairwise_cons.2 ⟨fun y hy => by have := h3 y hy; omega, h2⟩, fun x hx => ?_⟩
   rcases zbh.1 hx with rfl | hx
   · exact zw _
   have := h3 x hx; omega
 exact key _ s (zw _)
theorem qQu (l : List NmP) (s : Tx) : (bR l s).Pairwise (fun a b => a.length < b.length) ∧ (∀ x ∈ bR l s, x.length ≤ s.length ∧ qS x ∉ l.map Prod.fst) := by
 obtain ⟨h1, h2⟩ := qZm s
 unfold bR
 refine ⟨List.pairwise_reverse.2 (h1.sublist List.filter_sublist), fun x hx => ?_⟩
 rw [List.mem_reverse, zfa] at hx
 exact ⟨h2 x hx.1, by simpa using hx.2⟩
theorem oW {α : Type} (p q : α → Bool) (h : ∀ x, p x = true → q x = false) : ∀ l : List α, (l.filter p).length + (l.filter q).length ≤ l.length
 | [] => jp
 | x :: l => by
  have ih := oW p q h l
  rw [zea, zea]
  cases h1 : p x with
  | true =>
   rw [h x h1]
   simp only [if_true, zbi, zbz, if_false]
   omega
  | false =>
   cases h2 : q x <;> simp only [if_true, zbi, zbz, if_false] <;> omega
theorem uO (l : List NmP) (t : Tx) (b : BoxV) : (eJ l t b).length ≤ l.length + 1 := by
 unfold eJ
 rw [zi, zbi]
 refine (jo : ∀ a b c : Nat, a + b ≤ c → a + (b + 1) ≤ c + 1) _ _ _ (oW _ _ (fun x h1 => ?_) l)
 simp only [decide_eq_true_eq, decide_eq_false_iff_not] at h1 ⊢
 exact fun h2 => eU _ (gB h1 h2)
theorem pW (p0 : MailP) (hr : bN p0.l) (xs : List Tx) : ∀ i, i ≤ xs.length →
  bN ((xs.take i).foldl dU p0).l ∧ (∀ x, x ∈ qB ((xs.take i).foldl dU p0) ↔ x ∈ qB p0 ∨ x ∈ (xs.take i).map qS) ∧ ((xs.take i).foldl dU p0).l.length ≤ p0.l.length + i ∧ ((xs.take i).foldl dU p0).valid = p0.valid + i := by
 intro i
 induction i with
 | zero => intro _; exact ⟨by simpa using hr, jp, jp, jp⟩
 | succ i ih =>
  intro hi
  obtain ⟨h1, h2, h3, h4⟩ := ih jo
  have hlt : i < xs.length := hi
  clear ih
  rw [zan, zb hlt, zeg]
  generalize (xs.take i).foldl dU p0 = p at *
  show bN (eJ _ _ _) ∧ (∀ x, x ∈ (eJ _ _ _).map Prod.fst ↔ _) ∧ (eJ _ _ _).length ≤ _ ∧ p.valid + 1 = _
  refine ⟨xS h1, fun x => ?_, ?_, by rw [h4]; omega⟩
  ·
   rw [xU, zbc, zds]
   have := h2 x
   simp only [Option.toList, zbw, zdp, za]
   constructor
   ·
    rintro (h | h)
    · exact .inr (.inr h)
    rcases this.1 h with h | h
    · exact .inl h
    exact .inr (.inl h)
   rintro (h | h | h)
   · exact .inr (this.2 (.inl h))
   · exact .inr (this.2 (.inr h))
   exact .inl h
  have := uO p.l (qS xs[i]) ⟨p.valid + 1, 1, []⟩
  omega
theorem qQv (p0 : MailP) (xs : List Tx) (i : Nat) (hi : i < xs.length) : (xs.take (i + 1)).foldl dU p0 = dU ((xs.take i).foldl dU p0) xs[i] := by
 rw [zan, zb hi, zeg]
 rfl
theorem pY (m : MlC) (a b : Nat) (w : World) (hm : m.l.length ≤ 1000000) (ha : a ≤ 1000000) (hb : b ≤ 1000000) (h0 : 0 ≤ m.v) (h1 : m.v ≤ 2147483647) :
  Calls Tryz.prog 48 #[m.val, .int .i64 ((a : Nat) : Int), .int .i64 ((b : Nat) : Int)] w fun e w' => e = .returned (.int .i64 ((dR m.p a b : Nat) : Int)) ∧ Frm [] w w' := by
 have hpl := dK m
 obtain ⟨v, hv⟩ : ∃ v : Nat, m.v = (v : Int) := ⟨m.v.toNat, jo⟩
 refine VC.calls (nt := 20) (res := #[.tmp 6]) Tryz.func48 rfl Tryz.ntmps48 Tryz.results48 rfl ?_
 refine jS (jR ?_)
 refine Ops.m (qV.box rfl) rfl ?_
 rintro _ w1 ⟨rfl, hF_w1⟩
 have hb1 : Blk w1 w.heap.size 25 #[.slice m.A m.l.length m.c, .slice m.S m.ss.length m.d, .int .i64 m.v, .int .i64 m.b] := hF_w1.blk
 have K := hF_w1.frm
 generalize hg1 : w.heap.size = g1 at hb1 ⊢
 refine jz 0 (jO (jN (jv3 1 2 3 ?_)))
 refine jS (jB (jS (jR (jf rfl zf rfl zaf (jl rfl zap (hb1.cell 0) (je (Run.lenS rfl zg) (jm rfl (jb rfl rfl (Bin.add_i64 _ _ jo) (jb rfl rfl (Bin.gtrN _ 24) (ja rfl (jO (jN (jv3 2 3 7 ?_)))))))))))))
 refine jD rfl (fun hc1 => ?_) fun hc1 => ?_
 ·
  refine jS (jR (jz 5 (jO (jN (jv1 6 ?_)))))
  refine jT ?_
  refine qH (qZ (qR rfl ?_))
  refine ⟨?_, K⟩
  unfold dR
  rw [if_pos jo]
 refine jS (jR (jf rfl zf rfl zn (jl rfl zp (show _ = some (Value.int .i64 (v : Int)) by rw [← hv]; exact hb1.cell 2) (jm rfl (jb rfl rfl (Bin.add_i64 _ _ jo) (jb rfl rfl (Bin.gtrN _ 2147483647) (ja rfl (jO (jN (jv1 14 ?_))))))))))
 refine jD rfl (fun hc2 => ?_) fun hc2 => ?_
 ·
  refine jS (jR (jz 19 (jO (jN (jv1 6 ?_)))))
  refine jT ?_
  refine qH (qZ (qR rfl ?_))
  refine ⟨?_, K⟩
  unfold dR
  rw [if_neg jo, if_pos (by show _ < m.v + _; omega)]
 refine jQ ?_
 refine qW (jN ?_)
 refine VC.sub [] .nil ?_
 refine jS (jR (jz 0 (jO (jN (jT ?_)))))
 refine qR rfl ?_
 refine ⟨?_, K⟩
 unfold dR
 rw [if_neg jo, if_neg (by show ¬ _ < m.v + _; omega)]
set_option maxHeartbeats 1000000 in
theorem nT (m : MlC) (q : Tx) (w : World) (hm : RdL w m) (hs : q.length ≤ 900000) (hr : bN m.p.l) (hn : m.l.length + (bR m.p.l q).length ≤ 900000) (h0 : 0 ≤ m.v) (h1 : m.v + ((bR m.p.l q).length : Int) ≤ 2147483647) (hv : cQ w) :
  Calls Tryz.prog 49 #[m.val, encStr q] w fun e w' => ∃ m' : MlC, e = .returned m'.val ∧ m'.p = eL m.p q ∧ (∃ S, cZ w w' S m m') ∧ Frm [] w w' := by
 have hln := hm.ln
 have hml := qQu m.p.l q
 have hfo := pW m.p hr (bR m.p.l q)
 have hpl := dK m
 refine VC.calls (nt := 20) (res := #[.cell 4 25]) Tryz.func49 rfl Tryz.ntmps49 Tryz.results49 rfl ?_
 refine jS (jR ?_)
 refine Ops.m (qV.box rfl) rfl ?_
 rintro _ w1 ⟨rfl, hF_w1⟩
 have hb1 : Blk w1 w.heap.size 25 #[.slice m.A m.l.length m.c, .slice m.S m.ss.length m.d, .int .i64 m.v, .int .i64 m.b] := hF_w1.blk
 have K := hF_w1.frm
 generalize hg1 : w.heap.size = g1 at hb1 ⊢
 refine Ops.m (qV.alloc bW) rfl ?_
 rintro _ w2 ⟨rfl, hF2⟩
 have hb4 := hF2.blk
 have hg4 : w.heap.size ≤ w1.heap.size := K.size
 have hb1 := hb1.frm hF2.frm jp
 have hl1 := hb1.lt
 have hl4 := hb4.lt
 have K := K.trans hF2.frm jp
 have hne14 : g1 ≠ w1.heap.size := by have := hF_w1.size; omega
 have hg1s : w.heap.size ≤ g1 := jo
 generalize hg4' : w1.heap.size = g4 at hb4 hg4 hne14 hl4 ⊢
 refine jO (jN (jv3 1 2 4 ?_))
 refine jS (jS (jR (je (Run.loadA rfl zo zh hb1.cells (by first | rfl | (simp; done))) (jM ?_))))
 refine Ops.cl (jE2 Tryz.call47) (gX m q _ (hm.frm K) jo hr (hv.frm K)) rfl ?_
 rintro e w3 ⟨B, d, rfl, ho, hob, hf3⟩
 refine ⟨_, rfl, ?_⟩
 have hb1 := hb1.frm hf3 jp
 have hb4 := hb4.frm hf3 jp
 have K := K.trans hf3 jp
 have hs3 := hf3.size
 generalize hxs : bR m.p.l q = xs at *
 refine je (Run.lenS rfl zc) ?_
 refine jx .i64 0 ?_
 refine jO (jN (jv5 2 4 9 10 11 ?_))
 refine jB ?_
 refine VC.loop (σ := Nat × MlC) (fun s => [(2, .pointer (some ⟨g1, 0, none⟩)), (4, .pointer (some ⟨g4, 0, none⟩)), (9, .slice B xs.length d), (10, .int .i64 ((xs.length : Nat) : Int)), (11, .int .i64 ((s.1 : Nat) : Int))]) (fun s wr => s.1 ≤ xs.length ∧ Blk wr g1 25 s.2.cells.toArray ∧ Blk wr g4 25 qF.cells.toArray ∧ Own wr 9 1 B xs.length d (SB xs) ∧ s.2.p = (xs.take s.1).foldl dU m.p ∧ (∃ S, cZ w wr S m s.2 ∧ g1 ∉ S ∧ g4 ∉ S) ∧ Frm [] w wr) (fun s => xs.length - s.1) (0, m) (js5 rfl rfl rfl rfl rfl) ⟨zae _, hb1, hb4, ho, rfl, ⟨[], (cZ.refl w m).frm K jp, jp, jp⟩, K⟩ ?_
 rintro ⟨i, mi⟩ wr ⟨hi, hb1, hb4, ho, hmi, ⟨S, hkS, hg1S, hg4S⟩, K⟩
 dsimp only at *
 refine jS (jR (jb rfl rfl (Bin.lssN _ _) (jO (jN (jS ?_)))))
 refine jD rfl (fun hc1 => ?_) fun hc1 => ?_
 ·
  obtain ⟨ad, hA, hel⟩ := ho.rd.elem hc1
  obtain ⟨hf1, hf2, hf3, hf4⟩ := hfo i hi
  have hmx := hml.2 _ (zaa hc1)
  have hx1 := (List.pairwise_iff_getElem.1 hml.1)
  have hsn := qQv m.p xs i hc1
  rw [← hmi] at hf1 hf2 hf3 hf4 hsn
  have hnot : qS xs[i] ∉ qB mi.p := fun h => by
   rcases (hf2 _).1 h with h | h
   · exact hmx.2 h
   obtain ⟨y, hy, he⟩ := List.mem_map.1 h
   obtain ⟨j, hj, rfl⟩ := zag hy
   rw [zt] at hj
   rw [zdk] at he
   have h3 := hx1 j i jo hc1 jo
   have h4 := congrArg List.length he
   rw [cH, cH] at h4
   omega
  have hmiR : RdL wr mi := hkS.now (hm.frm K)
  have hpi := dK mi
  have hvi : mi.v = m.v + (i : Int) := hf4
  refine jQ (jN (jv5 2 4 9 10 11 ?_))
  refine jS (jB (jS (jR (je (Run.indexS i (show _ = some (Value.slice (some ad) xs.length d) by rw [← hA]; rfl) rfl zc zm hc1) (jl rfl zx (hel 0 (encStr xs[i]) (by simp [SB, hc1])) (ja rfl (jO (jN (jv6 2 4 6 9 10 11 ?_)))))))))
  refine jR (je (Run.loadA rfl zo zh hb1.cells (by first | rfl | (simp; done))) (jM ?_))
  refine Ops.cl (jE2 Tryz.call106) (uL mi xs[i] _ hmiR jo jo hf1 jo jo hnot (hv.frm K)) rfl ?_
  rintro e w4 ⟨m', rfl, hm'p, ⟨S2, hk2⟩, hf4⟩
  refine ⟨_, rfl, ?_⟩
  have hlr1 := hb1.lt
  have hlr4 := hb4.lt
  have hKs := K.size
  have hS2 : g1 ∉ S2 ∧ g4 ∉ S2 := ⟨fun h => by have := hk2.1 _ h; omega, fun h => by have := hk2.1 _ h; omega⟩
  have hb1 := hb1.frm hf4 jp
  have hb4 := hb4.frm hf4 jp
  have ho := ho.frm hf4 jp
  have K := K.trans hf4 jp
  have hkk := hkS.trans hk2 hf4 hKs
  refine Ops.st (qP.storeA rfl rfl zh hb1 rfl (MlC.cells_one m')) ?_
  rintro w5 ⟨hb1, (hf5 : Frm [g1] _ _), hs5⟩
  have hb1 : Blk w5 g1 25 m'.cells.toArray := hb1
  have hb4 := hb4.frm hf5 (by simp; omega)
  have ho := ho.frm hf5 (fun y hy h => by rw [za] at h; have := hob y hy; omega)
  have hkk := hkk.frm hf5 (fun y hy h => by rw [za] at hy; rw [hy] at h; rcases zds.1 h with h | h; exact hg1S h; exact hS2.1 h)
  have K := K.own hf5 (fun y hy => by rw [za] at hy; omega)
  refine jO ?_
  refine qW (jN ?_)
  refine jv5 2 4 9 10 11 ?_
  refine jR (jb rfl rfl (Bin.add_i64 _ 1 jo) (jm rfl (jO ?_)))
  refine jN ⟨(i + 1, m'), (js5 rfl rfl rfl rfl rfl), ?_, ?_⟩
  ·
   refine ⟨hc1, hb1, hb4, ho, by rw [hm'p, hsn], ⟨_, hkk, fun h => ?_, fun h => ?_⟩, K⟩
   · rcases zds.1 h with h | h; exact hg1S h; exact hS2.1 h
   rcases zds.1 h with h | h; exact hg4S h; exact hS2.2 h
  first | omega | (dsimp only; omega)
 refine jX ?_
 refine qJ (qJ (qN ?_))
 refine jN (jv2 2 4 ?_)
 refine jS (jR (je (Run.loadA rfl zo zh hb1.cells (by first | rfl | (simp; done))) ?_))
 refine Ops.st (qP.storeA rfl rfl zh hb4 rfl (MlC.cells_one mi)) ?_
 rintro w6 ⟨hb4, (hf6 : Frm [g4] _ _), hs6⟩
 have hb4 : Blk w6 g4 25 mi.cells.toArray := hb4
 refine jO (jN (jv1 4 ?_))
 refine jT ?_
 refine bT ?_
 refine qL rfl zo zh (hb4.cells) (by first | rfl | (simp; done)) ?_
 refine bX ?_
 obtain rfl : i = xs.length := jo
 rw [zaq] at hmi
 refine ⟨mi, rfl, ?_, ⟨S, hkS.frm hf6 (fun y hy h => by rw [za] at hy; rw [hy] at h; exact hg4S h)⟩, K.own hf6 (fun y hy => by rw [za] at hy; omega)⟩
 rw [hmi]
 unfold eL
 rw [hxs]
end
section
open Go.RowKit Go.Sort
theorem eB {m : MlC} (h : bV m.p) : m.l.length ≤ 24 ∧ 1 ≤ m.v ∧ m.v ≤ 2147483647 ∧ 0 ≤ m.b ∧ m.b ≤ 2147483647 ∧ bN m.p.l ∧ qC ∈ qB m.p := by
 obtain ⟨⟨h1, h2, h3, h4, h5, h6, h7⟩, h8⟩ := h
 have := h1.1
 rw [fA] at this
 exact ⟨this, h3, h4, h5, h6, sO ⟨⟨h1, h2, h3, h4, h5, h6, h7⟩, h8⟩, h7⟩
theorem wK {p : MailP} {a b : Nat} (h : dR p a b = 0) : p.l.length + a ≤ 24 ∧ p.valid + (b : Int) ≤ 2147483647 := by
 unfold dR at h
 split at h
 · cases h
 split at h
 · cases h
 omega
theorem tN (l : List NmP) (s : Tx) : (bR l s).length ≤ s.length := by
 unfold bR
 rw [zez]
 exact zax (zce _ _) (qKh s)
set_option maxHeartbeats 1000000 in
theorem tP (m : MlC) (q : Tx) (w : World) (hm : RdL w m) (hs : q.length ≤ 900000) (hv : cQ w) :
  Calls Tryz.prog 13 #[m.val, encStr q] w fun e w' => ∃ (m' : MlC) (k : Nat), e = .returned (.tuple #[m'.val, .int .i64 ((k : Nat) : Int)]) ∧ cD w w' m (fG m.p q) m' k ∧ Frm [] w w' := by
 have hln := hm.ln
 have hml := tN m.p.l q
 have hpl := dK m
 refine VC.calls (nt := 41) (res := #[.cell 4 25, .tmp 5]) Tryz.func13 rfl Tryz.ntmps13 Tryz.results13 rfl ?_
 refine jS (jR ?_)
 refine Ops.m (qV.box rfl) rfl ?_
 rintro _ w1 ⟨rfl, hF_w1⟩
 have hb1 : Blk w1 w.heap.size 25 #[.slice m.A m.l.length m.c, .slice m.S m.ss.length m.d, .int .i64 m.v, .int .i64 m.b] := hF_w1.blk
 have K := hF_w1.frm
 generalize hg1 : w.heap.size = g1 at hb1 ⊢
 refine Ops.m (qV.alloc bW) rfl ?_
 rintro _ w2 ⟨rfl, hF2⟩
 have hb4 := hF2.blk
 have hg4 : w.heap.size ≤ w1.heap.size := K.size
 have hb1 := hb1.frm hF2.frm jp
 have hl1 := hb1.lt
 have hl4 := hb4.lt
 have K := K.trans hF2.frm jp
 have hne14 : g1 ≠ w1.heap.size := by have := hF_w1.size; omega
 have hg1s : w.heap.size ≤ g1 := jo
 generalize hg4' : w1.heap.size = g4 at hb4 hg4 hne14 hl4 ⊢
 refine jz 0 (jO (jN (jv3 1 2 4 ?_)))
 refine jS (jS (jR (je (Run.loadA rfl zo zh hb1.cells (by first | rfl | (simp; done))) ?_)))
 refine Ops.cl (jE1 zdo) (cO m _ (hm.frm K) (hv.frm K)) rfl ?_
 rintro e w3 ⟨rfl, hf3⟩
 refine ⟨_, rfl, ?_⟩
 have hb1 := hb1.frm hf3 jp
 have hb4 := hb4.frm hf3 jp
 have hKs_hf3 := K.size
 have K := K.trans hf3 jp
 refine je (Run.not rfl) (jO (jN (jv4 1 2 4 12 ?_)))
 refine VC.condB rfl (fun hc1 => ?_) (fun hc1 => ?_)
 ·
  have hc1 : ¬ bV m.p := by simpa using hc1
  refine jS (jR (je (Run.build evs.nil bW (qI).choose_spec.1 (qI).choose_spec.2 rfl) ?_))
  refine Ops.st (qP.storeA rfl rfl zh hb4 rfl (MlC.cells_one qF)) ?_
  rintro w4 ⟨hb4, (hfw4 : Frm [g4] _ _), hsw4⟩
  have hb4 : Blk w4 g4 25 qF.cells.toArray := hb4
  have K := K.own hfw4 (fun y hy => by rw [za] at hy; omega)
  refine jz 1 (jO (jN (jv2 4 5 ?_)))
  refine jT ?_
  refine qZ (bT ?_)
  refine qL rfl zo zh (hb4.cells) (by first | rfl | (simp; done)) ?_
  refine qO rfl ?_
  refine bX ?_
  exact ⟨qF, 1, rfl, cD.err jd (by unfold fG; rw [if_pos hc1]), K⟩
 have hc1 : bV m.p := by simpa using hc1
 obtain ⟨hm24, hv1, hv2, hb0, hb2, hr, hin⟩ := eB hc1
 refine jQ (jN (jv3 1 2 4 ?_))
 refine jS (jS (jR (jM ?_)))
 refine Ops.cl (jE1 zct) (cV q _ jo (hv.frm K)) rfl ?_
 rintro e _ ⟨rfl, rfl⟩
 refine ⟨_, rfl, ?_⟩
 refine je (Run.not rfl) (jO (jN (jv4 1 2 4 16 ?_)))
 refine VC.condB rfl (fun hc2 => ?_) (fun hc2 => ?_)
 ·
  have hc2 : ¬ isN q := by simpa using hc2
  refine jS (jR (je (Run.build evs.nil bW (qI).choose_spec.1 (qI).choose_spec.2 rfl) ?_))
  refine Ops.st (qP.storeA rfl rfl zh hb4 rfl (MlC.cells_one qF)) ?_
  rintro w4 ⟨hb4, (hfw4 : Frm [g4] _ _), hsw4⟩
  have hb4 : Blk w4 g4 25 qF.cells.toArray := hb4
  have K := K.own hfw4 (fun y hy => by rw [za] at hy; omega)
  refine jz 18 (jO (jN (jv2 4 5 ?_)))
  refine jT ?_
  refine qZ (bT ?_)
  refine qL rfl zo zh (hb4.cells) (by first | rfl | (simp; done)) ?_
  refine qO rfl ?_
  refine bX ?_
  exact ⟨qF, 18, rfl, cD.err jd (by unfold fG; rw [if_neg (not_not_intro hc1), if_pos hc2]), K⟩
 have hc2 : isN q := by simpa using hc2
 refine jQ (jN (jv3 1 2 4 ?_))
 refine jS (jS (jR (je (Run.loadA rfl zo zh hb1.cells (by first | rfl | (simp; done))) (jM ?_))))
 refine Ops.cl (jE2 zee) (dV m q _ (hm.frm K).l hln jo hr (hv.frm K)) rfl ?_
 rintro e w4 ⟨kf, rfl, hpos, hf4⟩
 refine ⟨_, rfl, ?_⟩
 have hb1 := hb1.frm hf4 jp
 have hb4 := hb4.frm hf4 jp
 have hKs_hf4 := K.size
 have K := K.trans hf4 jp
 refine jm rfl (je (Run.extract rfl rfl) (je (Run.extract rfl rfl) (ja rfl (ja rfl (jO (jN (jv4 1 2 4 7 ?_)))))))
 refine jS (jR (jm rfl (jO (jN (jv4 1 2 4 24 ?_)))))
 refine VC.condB rfl (fun hc3 => ?_) (fun hc3 => ?_)
 ·
  have hc3 : qS q ∈ qB m.p := by simpa using hc3
  refine jS (jR (je (Run.build evs.nil bW (qI).choose_spec.1 (qI).choose_spec.2 rfl) ?_))
  refine Ops.st (qP.storeA rfl rfl zh hb4 rfl (MlC.cells_one qF)) ?_
  rintro w5 ⟨hb4, (hfw5 : Frm [g4] _ _), hsw5⟩
  have hb4 : Blk w5 g4 25 qF.cells.toArray := hb4
  have K := K.own hfw5 (fun y hy => by rw [za] at hy; omega)
  refine jz 15 (jO (jN (jv2 4 5 ?_)))
  refine jT ?_
  refine qZ (bT ?_)
  refine qL rfl zo zh (hb4.cells) (by first | rfl | (simp; done)) ?_
  refine qO rfl ?_
  refine bX ?_
  exact ⟨qF, 15, rfl, cD.err jd (by unfold fG; rw [if_neg (not_not_intro hc1), if_neg (not_not_intro hc2), if_pos hc3]), K⟩
 have hc3 : qS q ∉ qB m.p := by simpa using hc3
 refine jQ (jN (jv3 1 2 4 ?_))
 refine jS (jR (je (Run.loadA rfl zo zh hb1.cells (by first | rfl | (simp; done))) (jM ?_)))
 refine Ops.cl (jE2 Tryz.call47) (gX m q _ (hm.frm K) jo hr (hv.frm K)) rfl ?_
 rintro e w5 ⟨B, d, rfl, ho, hob, hf5⟩
 refine ⟨_, rfl, ?_⟩
 have hb1 := hb1.frm hf5 jp
 have hb4 := hb4.frm hf5 jp
 have hKs_hf5 := K.size
 have K := K.trans hf5 jp
 refine je (Run.lenS rfl zc) (ja rfl (jO (jN (jv4 1 2 4 8 ?_))))
 refine jS (jS (jR (je (Run.loadA rfl zo zh hb1.cells (by first | rfl | (simp; done))) (jm rfl (jM ?_)))))
 refine Ops.cl (jE3 Tryz.call48) (pY m _ _ _ hln jo jo jo jo) rfl ?_
 rintro e w6 ⟨rfl, hf6⟩
 refine ⟨_, rfl, ?_⟩
 have hb1 := hb1.frm hf6 jp
 have hb4 := hb4.frm hf6 jp
 have hKs_hf6 := K.size
 have K := K.trans hf6 jp
 refine ja rfl (jO (jN (jv4 1 2 4 9 ?_)))
 refine jS (jR (jm rfl (jb rfl rfl (Bin.neqN _ 0) (jO (jN (jv5 1 2 4 9 35 ?_))))))
 refine jD rfl (fun hc4 => ?_) fun hc4 => ?_
 ·
  refine jS (jR (je (Run.build evs.nil bW (qI).choose_spec.1 (qI).choose_spec.2 rfl) (jM ?_)))
  refine Ops.st (qP.storeA rfl rfl zh hb4 rfl (MlC.cells_one qF)) ?_
  rintro w7 ⟨hb4, (hfw7 : Frm [g4] _ _), hsw7⟩
  have hb4 : Blk w7 g4 25 qF.cells.toArray := hb4
  have K := K.own hfw7 (fun y hy => by rw [za] at hy; omega)
  refine ja rfl (jO (jN (jv2 4 5 ?_)))
  refine jT ?_
  refine qZ (bT ?_)
  refine qL rfl zo zh (hb4.cells) (by first | rfl | (simp; done)) ?_
  refine qO rfl ?_
  refine bX ?_
  exact ⟨qF, _, rfl, cD.err hc4 (by unfold fG; rw [if_neg (not_not_intro hc1), if_neg (not_not_intro hc2), if_neg hc3, if_pos hc4]), K⟩
 have hc4 : dR m.p (bR m.p.l q).length (bR m.p.l q).length = 0 := jo
 obtain ⟨hro1, hro2⟩ := wK hc4
 have hc4 : ¬ dR m.p (bR m.p.l q).length (bR m.p.l q).length ≠ 0 := jo
 refine jQ (jN (jv3 1 2 4 ?_))
 refine jS (jR (je (Run.loadA rfl zo zh hb1.cells (by first | rfl | (simp; done))) (jM ?_)))
 refine Ops.cl (jE2 Tryz.call49) (nT m q _ (hm.frm K) jo hr jo jo hro2 (hv.frm K)) rfl ?_
 rintro e w7 ⟨m', rfl, hm'p, ⟨S, hkS⟩, hf7⟩
 have hl47 := hb4.lt
 refine ⟨_, rfl, ?_⟩
 have hb1 := hb1.frm hf7 jp
 have hb4 := hb4.frm hf7 jp
 have hKs_hf7 := K.size
 have K := K.trans hf7 jp
 refine Ops.st (qP.storeA rfl rfl zh hb4 rfl (MlC.cells_one m')) ?_
 rintro w8 ⟨hb4, (hf8 : Frm [g4] _ _), hs8⟩
 have hb4 : Blk w8 g4 25 m'.cells.toArray := hb4
 have hkS8 := (hkS.old hKs_hf7).frm hf8 (fun y hy h => by rw [za] at hy; rw [hy] at h; have := hkS.1 _ h; omega)
 have K := K.own hf8 (fun y hy => by rw [za] at hy; omega)
 refine jz 0 (jO (jN (jv2 4 5 ?_)))
 refine jT ?_
 refine bT ?_
 refine qL rfl zo zh (hb4.cells) (by first | rfl | (simp; done)) ?_
 refine qO rfl ?_
 refine bX ?_
 refine ⟨m', 0, rfl, ⟨⟨S, hkS8⟩, .inl ⟨rfl, ?_⟩⟩, K⟩
 unfold fG
 rw [if_neg (not_not_intro hc1), if_neg (not_not_intro hc2), if_neg hc3, if_neg hc4, hm'p]
end
section
open Go.RowKit Go.Sort
def nV (S : List Nat) (w : World) (f : FuncId) (us : List Value) (p : Tx → Bool) : Prop :=
 (∀ args w, (callFunc f args).run Tryz.prog w = .ok (.enter f args) w) ∧ ∀ W (x : Tx), Frm S w W → x.length ≤ 1000000 → Calls Tryz.prog f (encStr x :: us).toArray W fun e w' => e = .returned (.bool (p x)) ∧ Frm [] W w'
theorem yK {q : Tx → Bool} {l cur : List Tx} {i j : Nat} (hj : j < l.length) (hlen : cur.length = l.length) (h1 : cur.take i = (l.take j).filter q) (h2 : cur.drop j = l.drop j) (hij : i < j) (hx : q l[j] = true) :
  (cur.set i l[j]).take (i + 1) = (l.take (j + 1)).filter q ∧ (cur.set i l[j]).drop (j + 1) = l.drop (j + 1) := by
 constructor
 ·
  rw [zan, zan, List.take_set, List.set_eq_of_length_le (by simp; omega), h1, zca, zck jo, zb hj]
  simp [hx]
 rw [List.drop_set, if_pos jo]
 have := congrArg (List.drop 1) h2
 simpa [List.drop_drop] using this
theorem yV {q : Tx → Bool} {l cur : List Tx} {i j : Nat} (hj : j < l.length) (h1 : cur.take i = (l.take j).filter q) (h2 : cur.drop j = l.drop j) (hx : q l[j] = false) :
  cur.take i = (l.take (j + 1)).filter q ∧ cur.drop (j + 1) = l.drop (j + 1) := by
 constructor
 ·
  rw [zan, zca, ← h1, zb hj]
  simp [hx]
 have := congrArg (List.drop 1) h2
 simpa [List.drop_drop] using this
theorem qQw {l cur : List Tx} {j : Nat} (hj : j < l.length) (hj' : j < cur.length) (h2 : cur.drop j = l.drop j) : cur[j] = l[j] := by
 have := congrArg List.head? h2
 simpa [List.head?_drop, zb hj, zb hj'] using this
theorem nU (f : FuncId) (us : List Value) (p : Tx → Bool) (A : Option Addr) (c : Nat) (l : List Tx) (w : World) (hl : Rd w 1 A l.length (SB l)) (hn : l.length ≤ 1000000) (hq : ∀ q ∈ l, q.length ≤ 1000000) (S : List Nat) (hp : nV S w f us p) :
  Calls Tryz.prog 109 #[.slice A l.length c, .func (.func f) #[] us.toArray] w fun e w' => Frm [] w w' ∧ ∃ k, (∀ j (hj : j < l.length), j < k → p l[j] = false) ∧ ((k = l.length ∧ e = .returned (.int .i64 (-1))) ∨ (∃ hk : k < l.length, p l[k] = true ∧ e = .returned (.int .i64 ((k : Nat) : Int)))) := by
 refine VC.calls (nt := 19) (res := #[.tmp 4]) Tryz.func109 rfl Tryz.ntmps109 Tryz.results109 rfl ?_
 refine jS (jR (jz 0 (jO (jN (jv2 0 1 ?_)))))
 refine jS (jS (jR (jm rfl (je (Run.lenS rfl zc) ?_))))
 refine jx .i64 0 ?_
 refine jO (jN (jv4 0 1 7 8 ?_))
 refine jB ?_
 refine VC.loop (σ := Nat) (fun s => [(0, .slice A l.length c), (1, .func (.func f) #[] us.toArray), (7, .int .i64 ((l.length : Nat) : Int)), (8, .int .i64 ((s : Nat) : Int))]) (fun s wr => s ≤ l.length ∧ Frm [] w wr ∧ ∀ j (hj : j < l.length), j < s → p l[j] = false) (fun s => l.length - s) 0 (js4 rfl rfl rfl rfl) ⟨jo, Frm.refl _ _, jp⟩ ?_
 rintro i wr ⟨hi, hfr, hf⟩
 refine jS (jR (jb rfl rfl (Bin.lssN _ _) (jO (jN (jS ?_)))))
 refine jD rfl (fun hc1 => ?_) fun hc1 => ?_
 ·
  obtain ⟨ad, rfl, hcell⟩ := (hl.frm hfr jp).elem hc1
  have hxa := hq l[i] (zaa hc1)
  refine jQ (jN (jv4 0 1 7 8 ?_))
  refine jS (jB (jS (jR (jm rfl (ja rfl (jO (jN (jv5 0 1 5 7 8 ?_))))))))
  refine jS (jR (jm rfl (jm rfl (jm rfl (je (Run.indexS i rfl rfl zc zm hc1) (jl rfl zx (hcell 0 (encStr l[i]) (by simp [SB, hc1])) ?_))))))
  refine Ops.cl (bQ.dyn rfl (evs.cons rfl evs.nil) hp.1) (hp.2 _ l[i] (hfr.mono jp) hxa) rfl ?_
  rintro e w2 ⟨rfl, hf2⟩
  refine ⟨_, rfl, ?_⟩
  have hfr2 := hfr.trans hf2 jp
  refine jO (jN (jv6 0 1 5 7 8 16 ?_))
  refine VC.condB rfl (fun hc2 => ?_) (fun hc2 => ?_)
  ·
   refine jS (jR (jm rfl (ja rfl (jO (jN (jv1 4 ?_))))))
   refine jT ?_
   refine qH (qZ (qZ (qH (qZ (qR rfl ?_)))))
   exact ⟨hfr2, i, hf, .inr ⟨hc1, hc2, rfl⟩⟩
  refine jQ ?_
  refine qW (jN ?_)
  refine jv4 0 1 7 8 ?_
  refine jR (jb rfl rfl (Bin.add_i64 _ 1 jo) (jm rfl (jO ?_)))
  refine jN ⟨(i + 1), (js4 rfl rfl rfl rfl), ?_, ?_⟩
  ·
   refine ⟨hc1, hfr2, fun j hj hji => ?_⟩
   rcases zby j i with h | h
   · exact hf j hj h
   obtain rfl : j = i := jo
   simpa using hc2
  first | omega | (dsimp only; omega)
 refine jX ?_
 refine qJ (qJ (qN ?_))
 refine jN ?_
 refine VC.sub [] .nil ?_
 refine jS (jR ?_)
 refine Ops.r (v := .int .i64 (-1)) (Run.asg rfl) rfl ?_
 refine jO (jN (jT ?_))
 refine qR rfl ?_
 exact ⟨hfr, i, hf, .inl ⟨jo, rfl⟩⟩
theorem yW (f : FuncId) (us : List Value) (p : Tx → Bool) (A : Option Addr) (c : Nat) (l : List Tx) (w : World) (hl : Rd w 1 A l.length (SB l)) (hn : l.length ≤ 1000000) (hq : ∀ q ∈ l, q.length ≤ 1000000) (S : List Nat) (hp : nV S w f us p) :
  Calls Tryz.prog 54 #[.slice A l.length c, .func (.func f) #[] us.toArray] w fun e w' => e = .returned (.bool (decide (∃ x ∈ l, p x = true))) ∧ Frm [] w w' := by
 refine VC.calls (nt := 9) (res := #[.tmp 4]) Tryz.func54 rfl Tryz.ntmps54 Tryz.results54 rfl ?_
 refine jS (jR (ja rfl (jO (jN (jv2 0 1 ?_)))))
 refine jS (jR (jm rfl (jM ?_)))
 refine Ops.cl (jE2 Tryz.call109) (nU f us p A c l _ hl hn hq S hp) rfl ?_
 rintro e w1 ⟨hf1, k, hk1, hk2⟩
 obtain ⟨z, rfl, hz⟩ : ∃ z : Int, e = .returned (.int .i64 z) ∧ (0 ≤ z ↔ ∃ x ∈ l, p x = true) := by
  rcases hk2 with ⟨h1, h2⟩ | ⟨h1, h2, h3⟩
  ·
   refine ⟨_, h2, ⟨fun h => jo, fun ⟨x, hx, hpx⟩ => ?_⟩⟩
   obtain ⟨j, hj, rfl⟩ := zag hx
   rw [hk1 j hj jo] at hpx
   cases hpx
  exact ⟨_, h3, ⟨fun _ => ⟨_, zaa h1, h2⟩, fun _ => jo⟩⟩
 refine ⟨_, rfl, ?_⟩
 refine jb rfl rfl (Bin.geq _ 0) (ja rfl (jO (jN (jv1 4 ?_))))
 refine jT ?_
 refine qR rfl ?_
 exact ⟨by rw [decide_eq_decide.2 hz], hf1⟩
theorem rU (f : FuncId) (us : List Value) (p : Tx → Bool) (B : Option Addr) (d : Nat) (l : List Tx) (w : World) (hl : Own w 9 1 B l.length d (SB l)) (hn : l.length ≤ 1000000) (hq : ∀ q ∈ l, q.length ≤ 1000000) (hp : nV (ob B) w f us p) :
  Calls Tryz.prog 79 #[.slice B l.length d, .func (.func f) #[] us.toArray] w fun e w' => e = .returned (.slice B (l.filter fun x => !p x).length d) ∧ Own w' 9 1 B (l.filter fun x => !p x).length d (SB (l.filter fun x => !p x)) ∧ Frm (ob B) w w' := by
 refine VC.calls (nt := 42) (res := #[.tmp 4]) Tryz.func79 rfl Tryz.ntmps79 Tryz.results79 rfl ?_
 refine jS (jR (ja rfl (jO (jN (jv2 0 1 ?_)))))
 refine jS (jR (jm rfl (jM ?_)))
 refine Ops.cl (jE2 Tryz.call109) (nU f us p B d l _ hl.rd hn hq (ob B) hp) rfl ?_
 rintro e w1 ⟨hf1, k, hk1, hk2⟩
 obtain ⟨z, rfl, hz⟩ : ∃ z : Int, e = .returned (.int .i64 z) ∧ ((z = -1 ∧ k = l.length) ∨ (z = ((k : Nat) : Int) ∧ ∃ hk : k < l.length, p l[k] = true)) := by
  rcases hk2 with ⟨h1, h2⟩ | ⟨h1, h2, h3⟩
  · exact ⟨_, h2, .inl ⟨rfl, h1⟩⟩
  exact ⟨_, h3, .inr ⟨rfl, h1, h2⟩⟩
 refine ⟨_, rfl, ?_⟩
 refine ja rfl (jO (jN (jv3 0 1 5 ?_)))
 refine jS (jS (jR (jm rfl (jb rfl rfl (Bin.eql _ (-1)) (jO (jN (jv4 0 1 5 12 ?_)))))))
 refine jD rfl (fun hc1 => ?_) fun hc1 => ?_
 ·
  have hkl : k = l.length := jo
  have hall : l.filter (fun x => !p x) = l := List.filter_eq_self.2 fun x hx => by
   obtain ⟨j, hj, rfl⟩ := zag hx
   simp [hk1 j hj jo]
  refine jS (jR (jm rfl (ja rfl (jO (jN (jv1 4 ?_))))))
  refine jT ?_
  refine qZ (qR rfl ?_)
  rw [hall]
  exact ⟨rfl, hl.frm hf1 jp, hf1.mono jp⟩
 obtain ⟨rfl, hkl, hkp⟩ : z = ((k : Nat) : Int) ∧ ∃ hk : k < l.length, p l[k] = true := by
  rcases hz with ⟨h1, _⟩ | ⟨h1, h2⟩
  · exact absurd h1 hc1
  exact ⟨h1, h2⟩
 obtain ⟨g, rfl⟩ : ∃ g, B = some ⟨g, 0, none⟩ := by
  rcases hl.cases with ⟨_, h0, _⟩ | ⟨g, _, h0, _⟩
  · omega
  exact ⟨g, h0⟩
 have hob : ob (some (⟨g, 0, none⟩ : Addr)) = [g] := rfl
 have hgw := hl.lt g (by simp [ob])
 have hled := hl.le
 refine jQ (jN (jv3 0 1 5 ?_))
 refine jS (jS (jR (jm rfl (jb rfl rfl (Bin.addZ _ 1 jo jo) (ja rfl (jO (jN (jv4 0 1 5 6 ?_))))))))
 refine jB ?_
 refine VC.loop (σ := Nat × Nat × List Tx) (fun s => [(0, .slice (some ⟨g, 0, none⟩) l.length d), (1, .func (.func f) #[] us.toArray), (5, .int .i64 ((s.1 : Nat) : Int)), (6, .int .i64 ((s.2.1 : Nat) : Int))]) (fun s wr => s.1 < s.2.1 ∧ s.2.1 ≤ l.length ∧ s.2.2.length = l.length ∧ Own wr 9 1 (some ⟨g, 0, none⟩) l.length d (SB s.2.2) ∧ s.2.2.take s.1 = (l.take s.2.1).filter (fun x => !p x) ∧ s.2.2.drop s.2.1 = l.drop s.2.1 ∧ Frm [g] w wr) (fun s => l.length - s.2.1) (k, k + 1, l) (js4 rfl rfl rfl rfl) ⟨by dsimp only; omega, hkl, rfl, hl.frm hf1 jp, by
  dsimp only
  rw [zan, zca, zb hkl]
  rw [List.filter_eq_self.2 (fun x hx => by
   obtain ⟨j, hj, rfl⟩ := zag hx
   have hj2 : j < k := by simpa [zau (Nat.le_of_lt hkl)] using hj
   simp [hk1 j jo hj2])]
  simp [hkp], rfl, hf1.mono jp⟩ ?_
 rintro ⟨i, j, cur⟩ wr ⟨hij, hjl, hlen, hown, ht1, ht2, hfr⟩
 dsimp only at hij hjl hlen hown ht1 ht2 ⊢
 refine jS (jS (jR (jm rfl (jm rfl (je (Run.lenS rfl zc) (jb rfl rfl (Bin.lssN _ _) (jO (jN (jv5 0 1 5 6 19 ?_)))))))))
 refine jD rfl (fun hc2 => ?_) fun hc2 => ?_
 ·
  have hjc : j < cur.length := jo
  obtain ⟨ad, had, hcell⟩ := hown.rd.elem hc2
  injection had with had
  subst had
  have hxj : (SB cur)[j]? = some (encStr cur[j]) := by simp [SB, hjc]
  have hcl := qQw hc2 hjc ht2
  have hxq := hq l[j] (zaa hc2)
  refine jQ (jN (jv4 0 1 5 6 ?_))
  refine jS (jB (jS (jR (jm rfl (jm rfl (je (Run.indexS j rfl rfl zc zm hc2) (jl rfl zx (hcell 0 (encStr cur[j]) (by simp [SB, hjc])) (ja rfl (jO (jN (jv5 0 1 5 6 7 ?_)))))))))))
  refine jS (jR (jm rfl (jM ?_)))
  refine Ops.cl (bQ.dyn rfl (evs.cons rfl evs.nil) hp.1) (hp.2 _ cur[j] hfr (by rw [hcl]; exact hxq)) rfl ?_
  rintro e w4 ⟨rfl, hf4⟩
  refine ⟨_, rfl, ?_⟩
  have hown4 := hown.frm hf4 jp
  have hfr4 := hfr.trans hf4 jp
  refine je (Run.not rfl) (jO (jN (jv6 0 1 5 6 7 29 ?_)))
  refine VC.condB rfl (fun hc3 => ?_) (fun hc3 => ?_)
  ·
   refine jS (jR (jm rfl (jm rfl (jm rfl (je (Run.indexS i rfl rfl zc zm jo) ?_)))))
   refine Ops.st (qP.storeOwn i (by rw [zbq]; rfl) rfl zm hown4 rfl jo rfl) ?_
   rintro w5 ⟨hown5, hf5, hs5⟩
   have hown5 : Own w5 9 1 (some ⟨g, 0, none⟩) l.length d (SB (cur.set i cur[j])) := by
    have e : SB (cur.set i cur[j]) = (SB cur).set i (encStr cur[j]) := by simp [SB, zfb]
    rw [e]
    exact hown5
   have hfr5 : Frm [g] w w5 := hfr4.trans hf5 (by simp [ob])
   refine jO (jN (jv4 0 1 5 6 ?_))
   refine jR (jm rfl (jb rfl rfl (Bin.add_i64 _ 1 jo) (ja rfl (jO ?_))))
   refine qW (jN ?_)
   refine jv4 0 1 5 6 ?_
   refine jR (jm rfl (jb rfl rfl (Bin.add_i64 _ 1 jo) (ja rfl (jO ?_))))
   refine jN ⟨(i + 1, j + 1, cur.set i cur[j]), (js4 rfl rfl rfl rfl), ?_, ?_⟩
   ·
    have hq2 : (fun x : Tx => !p x) l[j] = true := by rw [← hcl]; simpa using hc3
    have hk := yK (q := fun x => !p x) hc2 hlen ht1 ht2 hij hq2
    rw [← hcl] at hk
    exact ⟨by dsimp only; omega, hc2, by simpa using hlen, hown5, hk.1, hk.2, hfr5⟩
   first | omega | (dsimp only; omega)
  refine jQ ?_
  refine qW (jN ?_)
  refine jv4 0 1 5 6 ?_
  refine jR (jm rfl (jb rfl rfl (Bin.add_i64 _ 1 jo) (ja rfl (jO ?_))))
  refine jN ⟨(i, j + 1, cur), (js4 rfl rfl rfl rfl), ?_, ?_⟩
  ·
   have hq2 : (fun x : Tx => !p x) l[j] = false := by rw [← hcl]; simpa using hc3
   have hk := yV (q := fun x => !p x) hc2 ht1 ht2 hq2
   exact ⟨by dsimp only; omega, hc2, hlen, hown4, hk.1, hk.2, hfr4⟩
  first | omega | (dsimp only; omega)
 refine jX ?_
 refine qJ (qJ (qN ?_))
 refine jN (jv2 0 5 ?_)
 refine jS (jR (jm rfl (jm rfl (je (Run.sliceS _ _ rfl zc zm (evB.some_ rfl) evB.none_ jo jo) ?_))))
 have hjl2 : j = l.length := jo
 subst hjl2
 rw [zaq] at ht1
 have hli : (l.filter fun x => !p x).length = i := by rw [← ht1, zt]; omega
 have hfl : (l.filter fun x => !p x).length ≤ l.length := zce _ _
 refine Ops.m0 (qV.clearCut (m := l.length) (size := 1) rfl zc dI rfl jd hown jo) ?_
 rintro _ w6 ⟨hown6, hf6⟩
 have hMC : (SB cur).take (i * 1) = SB (l.filter fun x => !p x) := by
  rw [← ht1, zbq]
  simp [SB, zdu]
 rw [hMC] at hown6
 refine jO (jN (jv2 0 5 ?_))
 refine jS (jR (jm rfl (jm rfl (je (Run.sliceS 0 _ rfl zc zm evB.none_ (evB.some_ rfl) jo jo) (ja rfl (jO (jN (jv1 4 ?_))))))))
 refine jT ?_
 refine qR rfl ?_
 rw [hli]
 refine ⟨?_, hown6, hfr.trans hf6 (by simp [ob])⟩
 rw [fX]
 rfl
end
section
open Go.RowKit Go.Sort
def qZn : MailP := ⟨[(qC, ⟨1, 1, []⟩)], [], 1, 0⟩
theorem wV (l : List Nc) (i : Nat) (hi : i < l.length) : (l.take i ++ l.drop (i + 1)).length = l.length - 1 := by
 rw [zi, zt, zal]
 omega
theorem qVc (l : List Nc) (i : Nat) : Ns (l.take i ++ l.drop (i + 1)) = (Ns l).take i ++ (Ns l).drop (i + 1) := by
 simp [Ns, zdu, List.map_drop]
theorem qZo {w w' : World} {m : MlC} {i : Nat} {A : Option Addr} {c : Nat} (hi : i < m.l.length) (ho : Own w' 45 4 A (m.l.length - 1) c (NDC (m.l.take i ++ m.l.drop (i + 1)))) (hf : ∀ b ∈ ob A, w.heap.size ≤ b) :
  cZ w w' (ob A) m (m.wl A c (m.l.take i ++ m.l.drop (i + 1))) := by
 have hll := wV m.l i hi
 refine ⟨hf, fun w'' T kT hT hm => ?_⟩
 have ho := ho.frm kT (fun y hy h => hT y h hy)
 have hln := hm.ln
 refine ⟨⟨ho.rdNk hll, fun y hy => ?_⟩, hm.s, by show List.length (_ ++ _) ≤ _; rw [hll]; exact ho.le, hm.sc, by show List.length (_ ++ _) ≤ _; rw [hll]; omega, hm.sn, hm.sq⟩
 rcases zds.1 hy with h1 | h1
 · exact hm.l.el y (zci h1)
 exact hm.l.el y (zdi h1)
theorem rB (w : World) : Calls Tryz.prog 28 #[] w fun e w' => ∃ m' : MlC, e = .returned m'.val ∧ m'.p = qZn ∧ (∃ S, cZ w w' S qF m') ∧ Frm [] w w' := by
 have K := Frm.refl [] w
 have hmb0 : bE ⟨1, 1, []⟩ := jd
 refine VC.calls (nt := 11) (res := #[.cell 0 25]) Tryz.func28 rfl Tryz.ntmps28 Tryz.results28 rfl ?_
 refine jS (jR ?_)
 refine Ops.m (qV.alloc bW) rfl ?_
 rintro _ w1 ⟨rfl, hF1⟩
 have hb0 := hF1.blk
 have hl0 := hb0.lt
 have hg0 : w.heap.size ≤ w.heap.size := zw _
 have K := K.trans hF1.frm jp
 generalize hg0' : w.heap.size = g0 at hb0 hg0 hl0 ⊢
 refine jO (jN (jS (jR ?_)))
 refine Ops.cl (jE1 Tryz.call82) (tH 1 _) rfl ?_
 rintro e w5 ⟨hf5, hc5⟩
 obtain rfl : e = .returned (.tuple #[.agg #[.int .i64 1, .int .i64 1, .slice none 0 0], .int .i64 0]) := by
  rcases hc5 with ⟨_, h⟩ | ⟨h, _⟩
  · exact h
  exact absurd hmb0 h
 refine ⟨_, rfl, ?_⟩
 have hb0 := hb0.frm hf5 jp
 have K := K.trans hf5 jp
 refine jm rfl (je (Run.extract rfl rfl) (je (Run.extract rfl rfl) ?_))
 refine Ops.m (qV.alloc cN) rfl ?_
 rintro _ w6 ⟨rfl, hF6⟩
 have hb1 := hF6.blk
 have hg1 : w.heap.size ≤ w5.heap.size := K.size
 have hl05 := hb0.lt
 have hb0 := hb0.frm hF6.frm jp
 have K := K.trans hF6.frm jp
 generalize hg1' : w5.heap.size = g1 at hb1 hg1 hl05 ⊢
 refine Ops.st (qP.storeA rfl rfl zu hb1 rfl (cR _ _ none 0 0)) ?_
 rintro w7 ⟨hb1, (hf7 : Frm [g1] _ _), hs7⟩
 have hb1 : Blk w7 g1 43 #[.int .i64 1, .int .i64 1, .slice none 0 0] := hb1
 have hb0 := hb0.frm hf7 (by simp; omega)
 have K := K.own hf7 (fun y hy => by rw [za] at hy; omega)
 refine ja rfl (jO (jN (jv2 0 1 ?_)))
 refine jS (jR (je (Run.loadA rfl zaz zu hb1.cells (by first | rfl | (simp; done))) (je (Run.build (evs.cons rfl (evs.cons rfl evs.nil)) cJ (dL).choose_spec.1 (dL).choose_spec.2 rfl) ?_)))
 refine Ops.m (qV.buildS1 rfl zg zq cJ jd jd rfl rfl) rfl ?_
 rintro _ w8 ⟨rfl, hF8⟩
 have hl07 := hb0.lt
 have ho8 : Own w8 45 4 (some ⟨w7.heap.size, 0, none⟩) 1 1 (NDC [⟨qC, 1, 1, none, 0, []⟩]) := Own.of_blk (n := 1) (size := 4) hF8.blk rfl jd
 have hb0 := hb0.frm hF8.frm jp
 have hK7 := K.size
 have K := K.trans hF8.frm jp
 refine je (Run.build (evs.cons rfl (evs.cons rfl evs.nil)) bW (qI).choose_spec.1 (qI).choose_spec.2 rfl) ?_
 refine Ops.st (qP.storeA rfl rfl zh hb0 rfl (MlC.cells_one ⟨some ⟨w7.heap.size, 0, none⟩, 1, [⟨qC, 1, 1, none, 0, []⟩], none, 0, [], 1, 0⟩)) ?_
 rintro w9 ⟨hb0, (hf9 : Frm [g0] _ _), hs9⟩
 have ho9 := ho8.frm hf9 (by simp [ob]; omega)
 refine jO (jN (jv1 0 ?_))
 refine jT ?_
 refine bT ?_
 refine qL rfl zo zh (hb0.cells) (by first | rfl | (simp; done)) ?_
 refine bX ?_
 refine ⟨⟨some ⟨w7.heap.size, 0, none⟩, 1, [⟨qC, 1, 1, none, 0, []⟩], none, 0, [], 1, 0⟩, rfl, rfl, ⟨[w7.heap.size], fun y hy => by rw [za] at hy; omega, fun w'' T kT hT _ => ?_⟩, K.own hf9 (fun y hy => by rw [za] at hy; omega)⟩
 have ho := ho9.frm kT (fun y hy h => hT y h (by simpa [ob] using hy))
 exact ⟨⟨ho.rd, fun y hy => by rw [za] at hy; subst hy; exact ⟨RdM.nil _ _, jp, by simp [qC]⟩⟩, Rd.nil _ _ _, jp, jp, jp, jp, jp⟩
theorem yY (x q : Tx) (g : Nat) (w : World) (hb : Blk w g 9 #[encStr q]) (hx : x.length ≤ 1000000) (hq : q.length ≤ 1000000) (hv : cQ w) :
  Calls Tryz.prog 56 #[encStr x, .pointer (some ⟨g, 0, none⟩)] w fun e w' => e = .returned (.bool (decide (cK x q))) ∧ Frm [] w w' := by
 refine VC.calls (nt := 7) (res := #[.tmp 3]) Tryz.func56 rfl Tryz.ntmps56 Tryz.results56 rfl ?_
 refine jS (jR (ja rfl (jO (jN (jv2 0 1 ?_)))))
 refine jS (jR (jm rfl (jl rfl zx (hb.cell 0) ?_)))
 refine Ops.cl (jE2 Tryz.call57) (fD x q _ hx hq hv) rfl ?_
 rintro e w2 ⟨rfl, hf2⟩
 refine ⟨_, rfl, ?_⟩
 refine ja rfl (jO (jN (jv1 3 ?_)))
 refine jT ?_
 refine qR rfl ?_
 exact ⟨rfl, hf2⟩
set_option maxHeartbeats 1000000 in
theorem mN (m : MlC) (q : Tx) (w : World) (hm : RdL w m) (hs : q.length ≤ 900000) (hv : cQ w) :
  Calls Tryz.prog 17 #[m.val, encStr q] w fun e w' => ∃ (m' : MlC) (k : Nat), e = .returned (.tuple #[m'.val, .int .i64 ((k : Nat) : Int)]) ∧ cD w w' m (eK m.p q) m' k ∧ Frm [] w w' := by
 have hln := hm.ln
 have hpl := dK m
 have hnl := fA m
 have hnq := nJ hm
 refine VC.calls (nt := 47) (res := #[.cell 4 25, .tmp 5]) Tryz.func17 rfl Tryz.ntmps17 Tryz.results17 rfl ?_
 refine jS (jR ?_)
 refine Ops.m (qV.box rfl) rfl ?_
 rintro _ w1 ⟨rfl, hF_w1⟩
 have hb1 : Blk w1 w.heap.size 25 #[.slice m.A m.l.length m.c, .slice m.S m.ss.length m.d, .int .i64 m.v, .int .i64 m.b] := hF_w1.blk
 have K := hF_w1.frm
 generalize hg1 : w.heap.size = g1 at hb1 ⊢
 refine Ops.m (qV.box rfl) rfl ?_
 rintro _ w2 ⟨rfl, hF2⟩
 have hb3 : Blk w2 w1.heap.size 9 #[encStr q] := hF2.blk
 have hb1 := hb1.frm hF2.frm jp
 have hg3 : w.heap.size ≤ w1.heap.size := K.size
 have hne13 : g1 ≠ w1.heap.size := by have := hF_w1.size; omega
 have hg1s : w.heap.size ≤ g1 := jo
 have K := K.trans hF2.frm jp
 generalize hg3' : w1.heap.size = g3 at hb3 hg3 hne13 ⊢
 refine Ops.m (qV.alloc bW) rfl ?_
 rintro _ w3 ⟨rfl, hF3⟩
 have hb4 := hF3.blk
 have hg4 : w.heap.size ≤ w2.heap.size := K.size
 have hl1 := hb1.lt
 have hl3 := hb3.lt
 have hb1 := hb1.frm hF3.frm jp
 have hb3 := hb3.frm hF3.frm jp
 have K := K.trans hF3.frm jp
 generalize hg4' : w2.heap.size = g4 at hb4 hg4 hl1 hl3 ⊢
 refine jz 0 (jO (jN (jv3 2 3 4 ?_)))
 refine jS (jS (jR (je (Run.loadA rfl zo zh hb1.cells (by first | rfl | (simp; done))) ?_)))
 refine Ops.cl (jE1 zdo) (cO m _ (hm.frm K) (hv.frm K)) rfl ?_
 rintro e w4 ⟨rfl, hf4⟩
 refine ⟨_, rfl, ?_⟩
 have hb1 := hb1.frm hf4 jp
 have hb3 := hb3.frm hf4 jp
 have hb4 := hb4.frm hf4 jp
 have hKs_hf4 := K.size
 have K := K.trans hf4 jp
 refine je (Run.not rfl) (jO (jN (jv4 2 3 4 10 ?_)))
 refine VC.condB rfl (fun hc1 => ?_) (fun hc1 => ?_)
 ·
  have hc1 : ¬ bV m.p := by simpa using hc1
  refine jS (jR (je (Run.build evs.nil bW (qI).choose_spec.1 (qI).choose_spec.2 rfl) ?_))
  refine Ops.st (qP.storeA rfl rfl zh hb4 rfl (MlC.cells_one qF)) ?_
  rintro w5 ⟨hb4, (hfw5 : Frm [g4] _ _), hsw5⟩
  have hb4 : Blk w5 g4 25 qF.cells.toArray := hb4
  have K := K.own hfw5 (fun y hy => by rw [za] at hy; omega)
  refine jz 1 (jO (jN (jv2 4 5 ?_)))
  refine jT ?_
  refine qZ (bT ?_)
  refine qL rfl zo zh (hb4.cells) (by first | rfl | (simp; done)) ?_
  refine qO rfl ?_
  refine bX ?_
  exact ⟨qF, 1, rfl, cD.err jd (by unfold eK; rw [if_pos hc1]), K⟩
 have hc1 : bV m.p := by simpa using hc1
 obtain ⟨hm24, hv1, hv2, hb0, hb2, hr, hin⟩ := eB hc1
 refine jQ (jN (jv3 2 3 4 ?_))
 refine jS (jR (je (Run.loadA rfl zo zh hb1.cells (by first | rfl | (simp; done))) (jl rfl zx (hb3.cell 0) ?_)))
 refine Ops.cl (jE2 zee) (dV m q _ (hm.frm K).l hln jo hr (hv.frm K)) rfl ?_
 rintro e w5 ⟨k, rfl, hpos, hf5⟩
 refine ⟨_, rfl, ?_⟩
 have hb1 := hb1.frm hf5 jp
 have hb3 := hb3.frm hf5 jp
 have hb4 := hb4.frm hf5 jp
 have hKs_hf5 := K.size
 have K := K.trans hf5 jp
 refine jm rfl (je (Run.extract rfl rfl) (je (Run.extract rfl rfl) (ja rfl (ja rfl (jO (jN (jv5 2 3 4 6 7 ?_)))))))
 refine jS (jB (jS (jR (jl rfl zx (hb3.cell 0) ?_))))
 refine Ops.cl (jE1 zct) (cV q _ jo (hv.frm K)) rfl ?_
 rintro e _ ⟨rfl, rfl⟩
 refine ⟨_, rfl, ?_⟩
 refine je (Run.not rfl) (ja rfl (jO (jN (jv6 2 3 4 6 7 18 ?_))))
 refine VC.condB rfl (fun hc2 => ?_) (fun hc2 => ?_)
 ·
  have hc2 : ¬ isN q := by simpa using hc2
  refine jS (jR (je (Run.build evs.nil bW (qI).choose_spec.1 (qI).choose_spec.2 rfl) ?_))
  refine Ops.st (qP.storeA rfl rfl zh hb4 rfl (MlC.cells_one qF)) ?_
  rintro w6 ⟨hb4, (hfw6 : Frm [g4] _ _), hsw6⟩
  have hb4 : Blk w6 g4 25 qF.cells.toArray := hb4
  have K := K.own hfw6 (fun y hy => by rw [za] at hy; omega)
  refine jz 18 (jO (jN (jv2 4 5 ?_)))
  refine jT ?_
  refine qH (qZ (bT ?_))
  refine qL rfl zo zh (hb4.cells) (by first | rfl | (simp; done)) ?_
  refine qO rfl ?_
  refine bX ?_
  exact ⟨qF, 18, rfl, cD.err jd (by unfold eK; rw [if_neg (not_not_intro hc1), if_pos hc2]), K⟩
 have hc2 : isN q := by simpa using hc2
 refine jS (jR (jm rfl (je (Run.not rfl) (ja rfl (jO (jN (jv5 2 3 4 6 23 ?_)))))))
 refine VC.condB rfl (fun hc3 => ?_) (fun hc3 => ?_)
 ·
  have hc3 : qS q ∉ qB m.p := by simpa using hc3
  refine jS (jR (je (Run.build evs.nil bW (qI).choose_spec.1 (qI).choose_spec.2 rfl) ?_))
  refine Ops.st (qP.storeA rfl rfl zh hb4 rfl (MlC.cells_one qF)) ?_
  rintro w6 ⟨hb4, (hfw6 : Frm [g4] _ _), hsw6⟩
  have hb4 : Blk w6 g4 25 qF.cells.toArray := hb4
  have K := K.own hfw6 (fun y hy => by rw [za] at hy; omega)
  refine jz 6 (jO (jN (jv2 4 5 ?_)))
  refine jT ?_
  refine qH (qZ (bT ?_))
  refine qL rfl zo zh (hb4.cells) (by first | rfl | (simp; done)) ?_
  refine qO rfl ?_
  refine bX ?_
  exact ⟨qF, 6, rfl, cD.err jd (by unfold eK; rw [if_neg (not_not_intro hc1), if_neg (not_not_intro hc2), if_pos hc3]), K⟩
 have hc3 : qS q ∈ qB m.p := by simpa using hc3
 refine jS (jR (jl rfl zx (hb3.cell 0) ?_))
 refine Ops.cl (jE1 zcp) (bS q _ jo (hv.frm K)) rfl ?_
 rintro e w6 ⟨rfl, hf6⟩
 refine ⟨_, rfl, ?_⟩
 have hb1 := hb1.frm hf6 jp
 have hb3 := hb3.frm hf6 jp
 have hb4 := hb4.frm hf6 jp
 have hKs_hf6 := K.size
 have K := K.trans hf6 jp
 refine je (Run.eqlT rfl rfl) (ja rfl (jO (jN (jv5 2 3 4 6 27 ?_))))
 refine jD rfl (fun hc4 => ?_) fun hc4 => ?_
 ·
  have hc4 : qS q = qC := hc4
  refine jS (jR (je (Run.build evs.nil bW (qI).choose_spec.1 (qI).choose_spec.2 rfl) ?_))
  refine Ops.st (qP.storeA rfl rfl zh hb4 rfl (MlC.cells_one qF)) ?_
  rintro w7 ⟨hb4, (hfw7 : Frm [g4] _ _), hsw7⟩
  have hb4 : Blk w7 g4 25 qF.cells.toArray := hb4
  have K := K.own hfw7 (fun y hy => by rw [za] at hy; omega)
  refine jz 17 (jO (jN (jv2 4 5 ?_)))
  refine jT ?_
  refine qH (qZ (bT ?_))
  refine qL rfl zo zh (hb4.cells) (by first | rfl | (simp; done)) ?_
  refine qO rfl ?_
  refine bX ?_
  exact ⟨qF, 17, rfl, cD.err jd (by unfold eK; rw [if_neg (not_not_intro hc1), if_neg (not_not_intro hc2), if_neg (not_not_intro hc3), if_pos hc4]), K⟩
 have hc4 : qS q ≠ qC := hc4
 refine jS (jR (je (Run.loadA rfl zo zh hb1.cells (by first | rfl | (simp; done))) ?_))
 refine Ops.cl (jE1 Tryz.call55) (jZ m _ (hm.frm K)) rfl ?_
 rintro e w7 ⟨B7, d7, rfl, ho7, _, hf7⟩
 refine ⟨_, rfl, ?_⟩
 have hb1 := hb1.frm hf7 jp
 have hb3 := hb3.frm hf7 jp
 have hb4 := hb4.frm hf7 jp
 have hKs_hf7 := K.size
 have K := K.trans hf7 jp
 rw [← hnl] at ho7 ⊢
 have hTT : nV [] w7 56 [.pointer (some ⟨g3, 0, none⟩)] (fun x => decide (cK x q)) := ⟨Tryz.call56, fun W x hW hx => yY x q g3 W (hb3.frm hW jp) hx jo (hv.frm (K.trans hW jp))⟩
 refine je (Run.mkFunc evs.nil (evs.cons rfl evs.nil)) ?_
 refine Ops.cl (jE2 Tryz.call54) (yW 56 [.pointer (some ⟨g3, 0, none⟩)] _ B7 d7 (qB m.p) _ ho7.rd jo hnq [] hTT) rfl ?_
 rintro e w8 ⟨rfl, hf8⟩
 refine ⟨_, rfl, ?_⟩
 have hb1 := hb1.frm hf8 jp
 have hb3 := hb3.frm hf8 jp
 have hb4 := hb4.frm hf8 jp
 have hKs_hf8 := K.size
 have K := K.trans hf8 jp
 refine ja rfl (jO (jN (jv4 2 4 6 32 ?_)))
 refine VC.condB rfl (fun hc5 => ?_) (fun hc5 => ?_)
 ·
  have hc5 : ∃ x ∈ qB m.p, cK x q := by simpa using hc5
  refine jS (jR (je (Run.build evs.nil bW (qI).choose_spec.1 (qI).choose_spec.2 rfl) ?_))
  refine Ops.st (qP.storeA rfl rfl zh hb4 rfl (MlC.cells_one qF)) ?_
  rintro w9 ⟨hb4, (hfw9 : Frm [g4] _ _), hsw9⟩
  have hb4 : Blk w9 g4 25 qF.cells.toArray := hb4
  have K := K.own hfw9 (fun y hy => by rw [za] at hy; omega)
  refine jz 16 (jO (jN (jv2 4 5 ?_)))
  refine jT ?_
  refine qH (qZ (bT ?_))
  refine qL rfl zo zh (hb4.cells) (by first | rfl | (simp; done)) ?_
  refine qO rfl ?_
  refine bX ?_
  exact ⟨qF, 16, rfl, cD.err jd (by unfold eK; rw [if_neg (not_not_intro hc1), if_neg (not_not_intro hc2), if_neg (not_not_intro hc3), if_neg hc4, if_pos hc5]), K⟩
 have hc5 : ¬ ∃ x ∈ qB m.p, cK x q := by simpa using hc5
 obtain ⟨hk, hke⟩ := (mK hr hpos).2 hc3
 have hkl : k < m.l.length := jo
 refine jQ ?_
 refine qW (jN ?_)
 refine jv3 2 4 6 ?_
 refine jS (jR (jf rfl zf rfl zaf (jl rfl zap (hb1.cell 0) ?_)))
 refine Ops.cl (jE1 Tryz.call59) (nR m.A m.c m.l _ (hm.l.frm K) hln) rfl ?_
 rintro e w9 ⟨B9, d9, rfl, ho9, hob9, hf9⟩
 have hl18 := hb1.lt
 have hl48 := hb4.lt
 refine ⟨_, rfl, ?_⟩
 have hb1 := hb1.frm hf9 jp
 have hb3 := hb3.frm hf9 jp
 have hb4 := hb4.frm hf9 jp
 have hKs_hf9 := K.size
 have K := K.trans hf9 jp
 refine jm rfl (jm rfl (jb rfl rfl (Bin.add_i64 _ 1 jo) ?_))
 refine Ops.cl (jE3 Tryz.call58) (tW B9 d9 k m.l _ ho9 hln hkl) rfl ?_
 rintro e w10 ⟨rfl, ho10, hf10⟩
 refine ⟨_, rfl, ?_⟩
 have hb1 := hb1.frm hf10 (fun h => by have := hob9 _ h; omega)
 have hb4 := hb4.frm hf10 (fun h => by have := hob9 _ h; omega)
 have K := K.own hf10 (fun y hy => by have := hob9 _ hy; omega)
 refine jf rfl zf rfl zaf ?_
 refine Ops.st (qP.store rfl rfl zaf hb1 rfl rfl) ?_
 rintro w11 ⟨hb1, (hf11 : Frm [g1] _ _), hs11⟩
 have hb1 : Blk w11 g1 25 #[.slice B9 (m.l.length - 1) d9, .slice m.S m.ss.length m.d, .int .i64 m.v, .int .i64 m.b] := hb1
 have hb4 := hb4.frm hf11 (by simp; omega)
 have ho11 := ho10.frm hf11 (fun y hy h => by rw [za] at h; have := hob9 y hy; omega)
 have K := K.own hf11 (fun y hy => by rw [za] at hy; omega)
 refine jO (jN (jv2 2 4 ?_))
 refine jS (jR (je (Run.loadA rfl zo zh hb1.cells (by first | rfl | (simp; done))) ?_))
 refine Ops.st (qP.storeA rfl rfl zh hb4 rfl (by intro u hu; simp only [zbh, zcj, or_false] at hu; rcases hu with rfl | rfl | rfl | rfl <;> rfl)) ?_
 rintro w12 ⟨hb4, (hf12 : Frm [g4] _ _), hs12⟩
 have ho12 := ho11.frm hf12 (fun y hy h => by rw [za] at h; have := hob9 y hy; omega)
 have K := K.own hf12 (fun y hy => by rw [za] at hy; omega)
 refine jz 0 (jO (jN (jv2 4 5 ?_)))
 refine jT ?_
 refine bT ?_
 refine qL rfl zo zh (hb4.cells) (by first | rfl | (simp; done)) ?_
 refine qO rfl ?_
 refine bX ?_
 refine ⟨m.wl B9 d9 (m.l.take k ++ m.l.drop (k + 1)), 0, ?_, ⟨⟨ob B9, qZo hkl ho12 (fun b hb => by have := hob9 b hb; omega)⟩, .inl ⟨rfl, ?_⟩⟩, K⟩
 ·
  rw [MlC.wl_val _ _ _ _ (wV m.l k hkl)]
  rfl
 unfold eK
 rw [if_neg (not_not_intro hc1), if_neg (not_not_intro hc2), if_neg (not_not_intro hc3), if_neg hc4, if_neg hc5, xR hr hpos hk hke]
 exact congrArg (fun z => Except.ok (MailP.mk z m.ss m.v m.b)) (qVc m.l k).symm
end
section
open Go.RowKit Go.Sort
theorem oY {w : World} {g e size n d k j : Nat} {xs : List Value} {v : Value} (h : Own w e size (some ⟨g, 0, none⟩) n d xs) (hk : k < n) (hj : ((xs.drop (k * size)).take size)[j]? = some v) : w.cell? (((⟨g, 0, none⟩ : Addr).add (k * size)).add j) = some v := by
 obtain ⟨ad, h1, hc⟩ := h.rd.elem hk
 cases h1
 exact hc j v hj
theorem vQ (A : Option Addr) (c : Nat) (l : List Mc) (w : World) (hl : RdM w A l) (hn : l.length ≤ 1000000) :
  Calls Tryz.prog 119 #[.slice A l.length c] w fun e w' => ∃ B d, e = .returned (.slice B l.length d) ∧ Own w' 60 6 B l.length d (MC l) ∧ (∀ b ∈ ob B, w.heap.size ≤ b) ∧ Frm [] w w' := by
 refine VC.calls (nt := 8) (res := #[.tmp 2]) Tryz.func119 rfl Tryz.ntmps119 Tryz.results119 rfl ?_
 refine jS (jR (ja rfl (jO (jN (jv1 0 ?_)))))
 refine jS (jS (jR (jm rfl (je (Run.eqNilS rfl rfl zab) (jO (jN (jv2 0 4 ?_)))))))
 refine VC.condB rfl (fun hc1 => ?_) (fun hc1 => ?_)
 ·
  refine jS (jR (ja rfl (jO (jN (jv1 2 ?_)))))
  refine jT ?_
  refine qZ (qR rfl ?_)
  obtain rfl : A = none := by cases A with | none => rfl | some a => cases hc1
  have hn0 : l.length = 0 := by
   rcases zch l.length with h | h
   · exact h
   obtain ⟨_, h1, _⟩ := hl.rd.2 h; cases h1
  obtain rfl : l = [] := zai hn0
  exact ⟨none, 0, rfl, Own.nil _ _ _, by simp [ob], Frm.refl _ _⟩
 refine jQ (jN (jv1 0 ?_))
 refine jS (jR ?_)
 refine Ops.m (qV.buildS0 zab zam) rfl ?_
 rintro _ w1 ⟨rfl, hF1⟩
 have ho1 : Own w1 60 6 (some ⟨w.heap.size, 0, none⟩) 0 0 (MC []) := Own.of_blk hF1.blk rfl (by simp [maxLen])
 refine jM ?_
 refine Ops.m (qV.app rfl rfl zab (zE) rfl jd ho1 (hl.rd.frm hF1.frm jp) (oQ Mc.cells Mc.cells_one _) jo jo) rfl ?_
 rintro _ w2 ⟨B, d, rfl, ho2, hf2, hob⟩
 rw [zei] at ho2
 rw [zei]
 have hs1 := hF1.size
 have hf := hF1.frm.own hf2 (by simp [ob])
 refine ja rfl (jO (jN (jv1 2 ?_)))
 refine jT ?_
 refine qR rfl ?_
 refine ⟨B, d, rfl, ho2, fun x hx => ?_, hf⟩
 rcases hob with h | h
 · rw [h] at hx; simp [ob] at hx; omega
 rw [h, za] at hx; omega
set_option maxHeartbeats 1000000 in
theorem yG (v n : Int) (A : Option Addr) (c : Nat) (l : List Mc) (w : World) (hl : RdM w A l) (hn : l.length ≤ 1000000) :
  Calls Tryz.prog 72 #[.agg (BVc v n A l.length c).toArray] w fun e w' => ∃ B d, ∃ l' : List Mc, e = .returned (.agg (BVc v n B l'.length d).toArray) ∧ OwM w' B d l' ∧ Ms l' = Ms l ∧ (∀ b ∈ ob B, w.heap.size ≤ b) ∧ Frm [] w w' := by
 refine VC.calls (nt := 28) (res := #[.cell 2 43]) Tryz.func72 rfl Tryz.ntmps72 Tryz.results72 rfl ?_
 refine jS (jR ?_)
 refine Ops.m (qV.box rfl) rfl ?_
 rintro _ w1 ⟨rfl, hF1⟩
 have hb1 : Blk w1 w.heap.size 43 (BVc v n A l.length c).toArray := hF1.blk
 have K := hF1.frm
 have hF1s := hF1.size
 generalize hg1 : w.heap.size = g1 at hb1 ⊢
 refine Ops.m (qV.alloc cN) rfl ?_
 rintro _ w2 ⟨rfl, hF2⟩
 have hb2 : Blk w2 w1.heap.size 43 (BVc 0 0 none 0 0).toArray := hF2.blk
 have hl1 := hb1.lt
 have hb1 := hb1.frm hF2.frm jp
 have K := K.trans hF2.frm jp
 have hne12 : g1 ≠ w1.heap.size := jo
 have hg2s : w.heap.size ≤ w1.heap.size := jo
 generalize hg2 : w1.heap.size = g2 at hb2 hne12 hg2s ⊢
 refine jO (jN (jv2 1 2 ?_))
 refine jS (jR (jf rfl zl rfl zak (jl rfl zas (hb1.cell 2) ?_)))
 refine Ops.cl (jE1 Tryz.call119) (vQ A c l _ (hl.frm K) hn) rfl ?_
 rintro e w3 ⟨B, d, rfl, ho, hob, hf3⟩
 refine ⟨_, rfl, ?_⟩
 have hb1 := hb1.frm hf3 jp
 have hb2 := hb2.frm hf3 jp
 have hKs := K.size
 have K := K.trans hf3 jp
 have hob : ∀ b ∈ ob B, w.heap.size ≤ b := fun b hb => zax hKs (hob b hb)
 refine jf rfl zl rfl zak ?_
 refine Ops.st (qP.store rfl rfl zak hb1 rfl rfl) ?_
 have hb1x := hb1
 rintro w4 ⟨hb1, (hf4 : Frm [g1] _ _), hs4⟩
 have ho := ho.frm hf4 (fun y hy => by have := ho.ne_blk (hb1x) jd; simp; rintro rfl; exact this hy)
 have hb1 : Blk w4 g1 43 (BVc v n B l.length d).toArray := hb1
 have hb2 := hb2.frm hf4 (by simp; omega)
 have K := K.own hf4 (fun y hy => by rw [za] at hy; omega)
 refine jO (jN (jv2 1 2 ?_))
 refine jS (jS (jR (jf rfl zl rfl zak (jl rfl zas (hb1.cell 2) (je (Run.lenS rfl zab) ?_)))))
 refine jx .i64 0 ?_
 refine jO (jN (jv4 1 2 10 11 ?_))
 refine jB ?_
 refine VC.loop (σ := Nat × List Mc) (fun s => [(1, .pointer (some ⟨g1, 0, none⟩)), (2, .pointer (some ⟨g2, 0, none⟩)), (10, .int .i64 ((l.length : Nat) : Int)), (11, .int .i64 ((s.1 : Nat) : Int))]) (fun s wr => s.1 ≤ l.length ∧ s.2.length = l.length ∧ Ms s.2 = Ms l ∧ Own wr 60 6 B l.length d (MC s.2) ∧ (∀ j (h : j < s.2.length), j < s.1 → Own wr 9 1 (s.2[j]).A (s.2[j]).m.flags.length (s.2[j]).c (SB (s.2[j]).m.flags)) ∧ (∀ j (h : j < s.2.length) (h2 : j < l.length), s.1 ≤ j → s.2[j] = l[j]) ∧ Blk wr g1 43 (BVc v n B l.length d).toArray ∧ Blk wr g2 43 (BVc 0 0 none 0 0).toArray ∧ Frm [] w wr) (fun s => l.length - s.1) (0, l) (js4 rfl rfl rfl rfl) ⟨zae _, rfl, rfl, ho, fun _ _ h => by simp at h, fun _ _ _ _ => rfl, hb1, hb2, K⟩ ?_
 rintro ⟨i, cur⟩ wr ⟨hi, hlen, hms, ho, hfl, hre, hb1, hb2, K⟩
 dsimp only at hi hlen hms ho hfl hre hb1 hb2 ⊢
 refine jS (jR (jb rfl rfl (Bin.lssN _ _) (jO (jN (jS ?_)))))
 refine jD rfl (fun hc1 => ?_) fun hc1 => ?_
 ·
  obtain ⟨gn, rfl⟩ : ∃ g, B = some ⟨g, 0, none⟩ := by
   rcases ho.cases with ⟨_, h0, _⟩ | ⟨g, _, h0, _⟩
   · omega
   exact ⟨g, h0⟩
  have hic : i < cur.length := jo
  have hci := hre i hic hc1 (zw _)
  have hxa := (hl.frm K).fl (l[i]) (zaa hc1)
  have hmc : ((MC cur).drop (i * 6)).take 6 = (cur[i]).cells := fY Mc.cells 6 Mc.cells_len cur i hic
  rw [← hci] at hxa
  have hset := fun C dC r => qKo cur i hic C dC r
  refine jQ (jN (jv4 1 2 10 11 ?_))
  refine jS (jB (jS (jR (jm rfl (ja rfl (jO (jN (jv5 1 2 3 10 11 ?_))))))))
  refine VC.heldL 12 (fun W => Frm [] wr W) jK ?_
  have hS : Frm [] wr wr.drew := (Frm.refl _ _).drew
  refine jH 0 rfl hS (fun w0 hw0 => Run.fieldAddr rfl zl rfl zak jd) ?_
  refine jH 1 rfl hS (fun w0 hw0 => Run.load rfl zas ((hb1.frm hw0 jp).cell 2)) ?_
  refine jH 2 rfl hS (fun w0 hw0 => Run.mv rfl) ?_
  refine jH 3 rfl hS (fun w0 hw0 => Run.fieldAddr rfl zl rfl zak jd) ?_
  refine jH 4 rfl hS (fun w0 hw0 => Run.load rfl zas ((hb1.frm hw0 jp).cell 2)) ?_
  refine qQ.r1 5 rfl jK hS (Run.mv rfl) trivial rfl rfl ?_
  refine qQ.r1 6 rfl jK hS (Run.indexS i rfl rfl zab zam hc1) trivial rfl rfl ?_
  refine qQ.r1 7 rfl jK hS (Run.fieldAddr rfl zad rfl zaj jd) trivial rfl rfl ?_
  refine qQ.r1 8 rfl jK hS (Run.load rfl zar (oY (ho.frm hS jp) hc1 (j := 5) (v := .slice (cur[i]).A (cur[i]).m.flags.length (cur[i]).c) (by rw [hmc]; rfl))) trivial rfl rfl ?_
  refine qQ.cl 9 rfl jK (jE1 Tryz.call75) (oD (cur[i]).A (cur[i]).c (cur[i]).m.flags _ (hxa.rd.frm hS jp) (by have := hxa.n; omega)) trivial rfl rfl ?_
  rintro e w5 ⟨C, dC, rfl, hoC, hgC, hf5⟩
  have hS5 := hS.trans hf5 jp
  refine ⟨_, rfl, hS5, ?_⟩
  have hS := hS5
  refine qQ.r1 10 rfl jK hS (Run.indexS i rfl rfl zab zam hc1) trivial rfl rfl ?_
  refine qQ.r1 11 rfl jK hS (Run.fieldAddr rfl zad rfl zaj jd) trivial rfl rfl ?_
  refine qQ.stL rfl jK (qP.storeOwn (i * 6 + 5) (by rw [← Go.Proofs.YtgmbmfpfhcekiaaGreat.add_add]; rfl) rfl zaj (ho.frm hS jp) rfl jo rfl) trivial rfl ?_
  rintro w6 ⟨ho6, hf6, hs6⟩
  have ho6 := (hset C dC (cur[i]).m.flags) ▸ (show Own w6 60 6 (some ⟨gn, 0, none⟩) l.length d ((MC cur).set (i * 6 + 5) (.slice C (cur[i]).m.flags.length dC)) from ho6)
  have hoS := ho.frm hS jp
  have hoC6 := hoC.frm hf6 (hoC.ne_own hoS jd)
  have hb16 := (hb1.frm hS jp).frm hf6 (hoS.ne_blk (hb1.frm hS jp) jd)
  have hb26 := (hb2.frm hS jp).frm hf6 (hoS.ne_blk (hb2.frm hS jp) jd)
  have K6 := (K.trans hS jp).own hf6 (fun y hy => hob y hy)
  refine qQ.done jK ?_
  refine qW (jN ?_)
  refine jv4 1 2 10 11 ?_
  refine jR (jb rfl rfl (Bin.add_i64 _ 1 jo) (jm rfl (jO ?_)))
  refine jN ⟨(i + 1, cur.set i ⟨(cur[i]).m, C, dC⟩), (js4 rfl rfl rfl rfl), ?_, ?_⟩
  ·
   refine ⟨hc1, by rw [zdf]; exact hlen, ?_, ho6, fun j hj hji => ?_, fun j hj h2 hji => ?_, hb16, hb26, K6⟩
   ·
    rw [qVb, ← hms]
    have e : (Ms cur)[i]'(by simpa [Ms] using hic) = (cur[i]).m := zbe _
    rw [← e, List.set_getElem_self]
   ·
    rw [zdf] at hj
    by_cases e : j = i
    ·
     subst e
     rw [List.getElem_set_self]
     exact hoC6
    rw [List.getElem_set_ne (fun h => e h.symm)]
    have h3 := (hfl j hj jo).frm hS jp
    exact h3.frm hf6 (h3.ne_own hoS jd)
   rw [zdf] at hj
   rw [List.getElem_set_ne jo]
   exact hre j hj h2 jo
  first | omega | (dsimp only; omega)
 refine jX ?_
 refine qJ (qJ (qN ?_))
 refine jN (jv2 1 2 ?_)
 refine jS (jR (je (Run.loadA rfl zaz zu hb1.cells (by first | rfl | (simp; done))) ?_))
 refine Ops.st (qP.storeA rfl rfl zu hb2 rfl (cR _ _ _ _ _)) ?_
 have hb2x := hb2
 rintro w7 ⟨hb2, (hf7 : Frm [g2] _ _), hs7⟩
 have K := K.own hf7 (fun y hy => by rw [za] at hy; omega)
 refine jO (jN (jv1 2 ?_))
 refine jT ?_
 refine bT ?_
 refine qL rfl zaz zu (hb2.cells) (by first | rfl | (simp; done)) ?_
 refine bX ?_
 obtain rfl : i = l.length := jo
 have hOM : OwM wr B d cur := ⟨by rw [hlen]; exact ho, fun x hx => by obtain ⟨j, hj, rfl⟩ := zag hx; exact hfl j hj jo, fun x hx => by
  have h1 : x.m ∈ Ms l := by rw [← hms]; exact zbr hx
  obtain ⟨y, hy, he⟩ := List.mem_map.1 h1
  have := hl.fl y hy
  rw [← he]
  exact ⟨this.n, this.q⟩⟩
 exact ⟨B, d, cur, by rw [hlen]; rfl, hOM.blk hf7 hb2x jd jd, hms, fun b hb => by have := hob b hb; omega, K⟩
set_option maxHeartbeats 1000000 in
theorem lG (m : MlC) (q : Tx) (w : World) (hm : RdL w m) (hs : q.length ≤ 900000) (hv : cQ w) :
  Calls Tryz.prog 23 #[m.val, encStr q] w fun e w' => ∃ (v n : Int) (B : Option Addr) (d : Nat) (l : List Mc) (b : Bool), e = .returned (.tuple #[.agg (BVc v n B l.length d).toArray, .bool b]) ∧ OwM w' B d l ∧ ((b = true ∧ eO m.p q = some ⟨v, n, Ms l⟩) ∨ (b = false ∧ eO m.p q = none ∧ v = 0 ∧ n = 0 ∧ B = none ∧ d = 0 ∧ l = [])) ∧ Frm [] w w' := by
 have hln := hm.ln
 have hpl := dK m
 refine VC.calls (nt := 28) (res := #[.cell 4 43, .tmp 5]) Tryz.func23 rfl Tryz.ntmps23 Tryz.results23 rfl ?_
 refine jS (jR ?_)
 refine Ops.m (qV.box rfl) rfl ?_
 rintro _ w1 ⟨rfl, hF_w1⟩
 have hb1 : Blk w1 w.heap.size 25 #[.slice m.A m.l.length m.c, .slice m.S m.ss.length m.d, .int .i64 m.v, .int .i64 m.b] := hF_w1.blk
 have K := hF_w1.frm
 generalize hg1 : w.heap.size = g1 at hb1 ⊢
 refine Ops.m (qV.alloc cN) rfl ?_
 rintro _ w2 ⟨rfl, hF2⟩
 have hb4 := hF2.blk
 have hg4 : w.heap.size ≤ w1.heap.size := K.size
 have hb1 := hb1.frm hF2.frm jp
 have hl1 := hb1.lt
 have hl4 := hb4.lt
 have K := K.trans hF2.frm jp
 have hne14 : g1 ≠ w1.heap.size := by have := hF_w1.size; omega
 have hg1s : w.heap.size ≤ g1 := jo
 generalize hg4' : w1.heap.size = g4 at hb4 hg4 hne14 hl4 ⊢
 refine ja rfl (jO (jN (jv3 1 2 4 ?_)))
 refine jS (jS (jR (je (Run.loadA rfl zo zh hb1.cells (by first | rfl | (simp; done))) ?_)))
 refine Ops.cl (jE1 zdo) (cO m _ (hm.frm K) (hv.frm K)) rfl ?_
 rintro e w4 ⟨rfl, hf4⟩
 refine ⟨_, rfl, ?_⟩
 have hb1 := hb1.frm hf4 jp
 have hb4 := hb4.frm hf4 jp
 have hKs_hf4 := K.size
 have K := K.trans hf4 jp
 refine je (Run.not rfl) (jO (jN (jv4 1 2 4 10 ?_)))
 refine VC.condB rfl (fun hc1 => ?_) (fun hc1 => ?_)
 ·
  have hc1 : ¬ bV m.p := by simpa using hc1
  refine jS (jR (je (Run.build evs.nil cN (cB).choose_spec.1 (cB).choose_spec.2 rfl) ?_))
  refine Ops.st (qP.storeA rfl rfl zu hb4 rfl (cR 0 0 none 0 0)) ?_
  rintro w5 ⟨hb4, (hf4z : Frm [g4] _ _), hs4z⟩
  have K := K.own hf4z (fun y hy => by rw [za] at hy; omega)
  refine ja rfl (jO (jN (jv2 4 5 ?_)))
  refine jT ?_
  refine qZ (bT ?_)
  refine qL rfl zaz zu (hb4.cells) (by first | rfl | (simp; done)) ?_
  refine qO rfl ?_
  refine bX ?_
  exact ⟨0, 0, none, 0, [], false, rfl, OwM.nil _, .inr ⟨rfl, by unfold eO; rw [if_neg hc1], rfl, rfl, rfl, rfl, rfl⟩, K⟩
 have hc1 : bV m.p := by simpa using hc1
 obtain ⟨hm24, hv1, hv2, hb0, hb2, hr, hin⟩ := eB hc1
 refine jQ (jN (jv3 1 2 4 ?_))
 refine jS (jR (je (Run.loadA rfl zo zh hb1.cells (by first | rfl | (simp; done))) (jM ?_)))
 refine Ops.cl (jE2 zee) (dV m q _ (hm.frm K).l hln jo hr (hv.frm K)) rfl ?_
 rintro e w5 ⟨k, rfl, hpos, hf5⟩
 refine ⟨_, rfl, ?_⟩
 have hb1 := hb1.frm hf5 jp
 have hb4 := hb4.frm hf5 jp
 have hKs_hf5 := K.size
 have K := K.trans hf5 jp
 refine jm rfl (je (Run.extract rfl rfl) (je (Run.extract rfl rfl) (ja rfl (ja rfl (jO (jN (jv4 2 4 6 7 ?_)))))))
 refine jS (jS (jR (jm rfl (je (Run.not rfl) (jO (jN (jv4 2 4 6 19 ?_)))))))
 refine VC.condB rfl (fun hc2 => ?_) (fun hc2 => ?_)
 ·
  have hc2 : qS q ∉ qB m.p := by simpa using hc2
  refine jS (jR (je (Run.build evs.nil cN (cB).choose_spec.1 (cB).choose_spec.2 rfl) ?_))
  refine Ops.st (qP.storeA rfl rfl zu hb4 rfl (cR 0 0 none 0 0)) ?_
  rintro w6 ⟨hb4, (hf4z : Frm [g4] _ _), hs4z⟩
  have K := K.own hf4z (fun y hy => by rw [za] at hy; omega)
  refine ja rfl (jO (jN (jv2 4 5 ?_)))
  refine jT ?_
  refine qZ (bT ?_)
  refine qL rfl zaz zu (hb4.cells) (by first | rfl | (simp; done)) ?_
  refine qO rfl ?_
  refine bX ?_
  exact ⟨0, 0, none, 0, [], false, rfl, OwM.nil _, .inr ⟨rfl, by unfold eO; rw [if_pos hc1, pX hc2], rfl, rfl, rfl, rfl, rfl⟩, K⟩
 have hc2 : qS q ∈ qB m.p := by simpa using hc2
 obtain ⟨hk, hke⟩ := (mK hr hpos).2 hc2
 have hkl : k < m.l.length := jo
 obtain ⟨ad, hA, hel⟩ := (hm.frm K).l.elem hkl
 have hxa := (hm.frm K).l.el _ (zaa hkl)
 have hNg := cE m hkl hk
 refine jQ (jN (jv3 2 4 6 ?_))
 refine jS (jR (jf rfl zf rfl zaf (jl rfl zap (hb1.cell 0) (jm rfl (je (Run.indexS k (show _ = some (Value.slice (some ad) m.l.length m.c) by rw [← hA]; rfl) rfl zg zq hkl) (jf rfl zy rfl zu (je (Run.loadA rfl zaz zu (cs := BVc (m.l[k]).v (m.l[k]).n (m.l[k]).A (m.l[k]).l.length (m.l[k]).c) (fun j v hj => by rw [Go.Proofs.YtgmbmfpfhcekiaaGreat.add_add]; exact hel (1 + j) v (by rw [zeh]; exact hj)) (by first | rfl | (simp; done))) ?_)))))))
 refine Ops.cl (jE1 Tryz.call72) (yG (m.l[k]).v (m.l[k]).n (m.l[k]).A (m.l[k]).c (m.l[k]).l _ hxa.rd (by have := hxa.n; omega)) rfl ?_
 rintro e w6 ⟨B, d, l', rfl, hOM, hms, hgB, hf6⟩
 have hl46 := hb4.lt
 have hb4x := hb4.frm hf6 jp
 refine ⟨_, rfl, ?_⟩
 have hb1 := hb1.frm hf6 jp
 have hb4 := hb4.frm hf6 jp
 have hKs_hf6 := K.size
 have K := K.trans hf6 jp
 refine Ops.st (qP.storeA rfl rfl zu hb4 rfl (cR _ _ _ _ _)) ?_
 rintro w7 ⟨hb4, (hf7 : Frm [g4] _ _), hs7⟩
 have hOM7 := hOM.blk hf7 hb4x jd jd
 have K := K.own hf7 (fun y hy => by rw [za] at hy; omega)
 refine ja rfl (jO (jN (jv2 4 5 ?_)))
 refine jT ?_
 refine bT ?_
 refine qL rfl zaz zu (hb4.cells) (by first | rfl | (simp; done)) ?_
 refine qO rfl ?_
 refine bX ?_
 refine ⟨_, _, B, d, l', true, rfl, hOM7, .inl ⟨rfl, ?_⟩, K⟩
 unfold eO
 rw [if_pos hc1, tQ hr hk hke, hNg, hms]
 rfl
end
section
open Go.RowKit Go.Sort
def BoL (l : List Bool) : List Value := l.map Value.bool
theorem kU (l : List Bool) : (BoL l).length = l.length := zah _
theorem qKp (l : List Bool) : ∀ v ∈ BoL l, v.oneCell' = true := by
 intro v hv
 obtain ⟨b, _, rfl⟩ := List.mem_map.1 hv
 rfl
theorem qKq (l : List Bool) (i : Nat) (b : Bool) : (BoL l).set i (.bool b) = BoL (l.set i b) := by simp [BoL, zfb]
def atB (l : List Bool) (k : Nat) : Bool := l.getD k false
def bO (c : UInt8) : Prop := c.toNat = 42 ∨ c.toNat = 37
instance (c : UInt8) : Decidable (bO c) := by unfold bO; infer_instance
def nxM (t : Tx) (row : List Bool) (c : UInt8) : Nat → Bool
 | 0 => decide (atB row 0 = true ∧ bO c)
 | k + 1 => if bO c then decide (atB row (k + 1) = true ∨ (nxM t row c k = true ∧ (c.toNat = 42 ∨ eH t[k]? ≠ 47))) else decide (atB row k = true ∧ eH t[k]? = c.toNat)
def stM (t : Tx) (row : List Bool) (c : UInt8) : List Bool := (List.range (t.length + 1)).map (nxM t row c)
def jI (t : Tx) : List Bool := true :: List.replicate t.length false
def qZp (t p : Tx) : List Bool := p.foldl (stM t) (jI t)
def meetsN (s p : Tx) : Prop := isN s ∧ p.length ≤ 60 ∧ atB (qZp (qS s) (eG p)) s.length = true
instance (s p : Tx) : Decidable (meetsN s p) := by unfold meetsN; infer_instance
theorem gE {w : World} {g n d : Nat} {l : List Bool} (h : Own w 4 1 (some ⟨g, 0, none⟩) n d (BoL l)) {k : Nat} (hk : k < n) : w.cell? ((⟨g, 0, none⟩ : Addr).add (k * 1)) = some (.bool (atB l k)) := by
 have hln := h.len
 rw [kU, zbq] at hln
 obtain ⟨ad, h1, hc⟩ := h.rd.elem hk
 cases h1
 have h2 := hc 0 (.bool (atB l k)) (by simp [BoL, atB, List.getD, hln, hk])
 rw [Go.Proofs.YtgmbmfpfhcekiaaGreat.add_add, Nat.add_zero] at h2
 exact h2
theorem eW {w : World} {A : Option Addr} {n d k : Nat} {l : List Bool} {b b' : Bool} (e : b = b') (h : Own w 4 1 A n d ((BoL l).set k (.bool b))) : Own w 4 1 A n d (BoL (l.set k b')) := by
 subst e
 rw [← qKq]
 exact h
theorem pG (t : Tx) (p : Tx) (i : Nat) {c : UInt8} (hi : p[i]? = some c) : (p.take (i + 1)).foldl (stM t) (jI t) = stM t ((p.take i).foldl (stM t) (jI t)) c := by
 rw [zan, hi, zeg]
 rfl
def lH (t p : Tx) (i : Nat) (r : List Bool) : Prop := r = (p.take i).foldl (stM t) (jI t)
theorem lH.next {t p : Tx} {i : Nat} {r : List Bool} {c : UInt8} (h : lH t p i r) (hc : p[i]? = some c) (x : List Bool) (hx : x = stM t r c) : lH t p (i + 1) x := by
 unfold lH at *
 rw [pG t p i hc, ← h]
 exact hx
theorem qVd {t : Tx} {row nx : List Bool} {c : UInt8} (h : nx.length = t.length + 1) (hn : ∀ j, j ≤ t.length → nx[j]? = some (nxM t row c j)) : nx = stM t row c := by
 refine zcl fun j => ?_
 unfold stM
 rcases zby t.length j with h1 | h1
 · rw [zbl jo, zbl (by simp; omega)]
 rw [hn j h1]
 simp [zcm, List.getElem?_range (jo : j < t.length + 1)]
set_option maxHeartbeats 1000000 in
theorem vX (q p : Tx) (w : World) (hq : q.length ≤ 1000000) (hp : p.length ≤ 1000000) (hv : cQ w) :
  Calls Tryz.prog 81 #[encStr q, encStr p] w fun e w' => e = .returned (.bool (decide (meetsN q p))) ∧ Frm [] w w' := by
 have K := Frm.refl [] w
 refine VC.calls (nt := 112) (res := #[.tmp 4]) Tryz.func81 rfl Tryz.ntmps81 Tryz.results81 rfl ?_
 refine jS (jR (ja rfl (jO (jN (jv2 0 1 ?_)))))
 refine jS (jS ?_)
 refine VC.split1 [(0, _), (1, _)] (js2 rfl rfl) 18 (.bool (decide (¬ isN q ∨ 60 < p.length))) ?_ ?_
 ·
  refine jR (jM ?_)
  refine Ops.cl (jE1 zct) (cV q _ jo hv) rfl ?_
  rintro e _ ⟨rfl, rfl⟩
  refine ⟨_, rfl, ?_⟩
  by_cases hs12 : isN q
  ·
   refine je (Run.not rfl) (jM ?_)
   refine jG ?_
   refine jk (Run.lenT rfl zj) ?_
   refine jk (Run.bin rfl rfl (Bin.gtrN _ 60)) ?_
   by_cases hs17 : 60 < p.length
   ·
    refine je (Run.pickF rfl rfl au) (jO ?_)
    refine jN ⟨(js3 (jC (by simp [*])) rfl rfl), rfl⟩
   refine je (Run.pickF rfl rfl au) (jO ?_)
   refine jN ⟨(js3 (jC (by simp [*])) rfl rfl), rfl⟩
  refine je (Run.not rfl) (jM ?_)
  refine jU ?_
  refine jU ?_
  refine jU ?_
  refine je (Run.pickT rfl rfl au) (jO ?_)
  refine jN ⟨(js3 (jC (by simp [*])) rfl rfl), rfl⟩
 intro Γ hΓ
 refine jN (VC.sub _ hΓ ?_)
 refine jD rfl (fun hc1 => ?_) fun hc1 => ?_
 ·
  refine jS (jR (ja rfl (jO (jN (jv1 4 ?_)))))
  refine jT ?_
  refine qZ (qR rfl ?_)
  exact ⟨by rw [decide_eq_false (fun h : meetsN q p => by rcases hc1 with h1 | h1; exact h1 h.1; have := h.2.1; omega)], K⟩
 refine jQ (jN (jv2 0 1 ?_))
 refine jS (jR (jM ?_))
 refine Ops.cl (jE1 zcp) (bS q _ jo (hv.frm K)) rfl ?_
 rintro e w1 ⟨rfl, hf1⟩
 refine ⟨_, rfl, ?_⟩
 have K := K.trans hf1 jp
 refine jM ?_
 refine Ops.cl (jE1 Tryz.call108) (nP p _ jo) rfl ?_
 rintro e w2 ⟨rfl, hf2⟩
 refine ⟨_, rfl, ?_⟩
 have K := K.trans hf2 jp
 have htl := cH q
 have hil := pE p
 generalize htt : qS q = t at *
 generalize hpp : eG p = pp at *
 refine ja rfl (ja rfl (jO (jN (jv2 0 1 ?_))))
 refine jS (jR (jm rfl (je (Run.lenT rfl zj) (jb rfl rfl (Bin.add_i64 _ 1 jo) ?_))))
 refine Ops.m (qV.makeS rfl rfl zba (qJu) rfl jo jo) rfl ?_
 rintro _ w3 ⟨rfl, ho5, hf3, hs3⟩
 have ho5 : Own w3 4 1 (some ⟨w2.heap.size, 0, none⟩) (t.length + 1) (t.length + 1) (BoL (List.replicate (t.length + 1) false)) := by
  have e : (List.replicate (t.length + 1) (Value.bool false).cells.toList).flatten = BoL (List.replicate (t.length + 1) false) := by
   simp [BoL, Value.cells]
  rw [← e]; exact ho5
 have hg5 : w.heap.size ≤ w2.heap.size := K.size
 have K := K.trans hf3 jp
 generalize hgg5 : w2.heap.size = g5 at ho5 hg5 hs3 ⊢
 refine ja rfl (jO (jN (jv3 0 1 5 ?_)))
 refine jS (jR (jm rfl (je (Run.indexS 0 rfl rfl zba zao jo) ?_)))
 refine Ops.st (qP.storeOwn 0 (by rw [zbq]; rfl) rfl zao ho5 rfl jo rfl) ?_
 rintro w4 ⟨ho5, hf4, hs4⟩
 have ho5 : Own w4 4 1 (some ⟨g5, 0, none⟩) (t.length + 1) (t.length + 1) (BoL (jI t)) := eW (l := List.replicate (t.length + 1) false) (k := 0) (b' := true) rfl ho5
 have K := K.own hf4 (fun y hy => by simp only [ob, za] at hy; omega)
 refine jO (jN (jv3 0 1 5 ?_))
 refine jS (jR (jm rfl (je (Run.lenT rfl zj) (jb rfl rfl (Bin.add_i64 _ 1 jo) ?_))))
 refine Ops.m (qV.makeS rfl rfl zba (qJu) rfl jo jo) rfl ?_
 rintro _ w5 ⟨rfl, ho6, hf5, hs5⟩
 have ho6 : Own w5 4 1 (some ⟨w4.heap.size, 0, none⟩) (t.length + 1) (t.length + 1) (BoL (List.replicate (t.length + 1) false)) := by
  have e : (List.replicate (t.length + 1) (Value.bool false).cells.toList).flatten = BoL (List.replicate (t.length + 1) false) := by
   simp [BoL, Value.cells]
  rw [← e]; exact ho6
 have ho5 := ho5.frm hf5 jp
 have hg6 : w.heap.size ≤ w4.heap.size := K.size
 have h56 : g5 ≠ w4.heap.size := jo
 have K := K.trans hf5 jp
 generalize hgg6 : w4.heap.size = g6 at ho6 hg6 hs5 h56 ⊢
 obtain ⟨nx0, hnx0⟩ : ∃ l, l = List.replicate (t.length + 1) false := ⟨_, rfl⟩
 rw [← hnx0] at ho6
 refine ja rfl (jO (jN (jv4 0 1 5 6 ?_)))
 refine jS (jS (jR (jm rfl (je (Run.lenT rfl zj) ?_))))
 refine jx .i64 0 ?_
 refine jO (jN (jv6 0 1 5 6 34 35 ?_))
 refine jB ?_
 refine VC.loop (σ := Nat × List Bool × List Bool) (fun s => [(0, encStr t), (1, encStr pp), (5, .slice (some ⟨g5, 0, none⟩) (t.length + 1) (t.length + 1)), (6, .slice (some ⟨g6, 0, none⟩) (t.length + 1) (t.length + 1)), (34, .int .i64 ((pp.length : Nat) : Int)), (35, .int .i64 ((s.1 : Nat) : Int))]) (fun s wr => s.1 ≤ pp.length ∧ s.2.1.length = t.length + 1 ∧ s.2.2.length = t.length + 1 ∧ lH t pp s.1 s.2.1 ∧ Own wr 4 1 (some ⟨g5, 0, none⟩) (t.length + 1) (t.length + 1) (BoL s.2.1) ∧ Own wr 4 1 (some ⟨g6, 0, none⟩) (t.length + 1) (t.length + 1) (BoL s.2.2) ∧ Frm [] w wr) (fun s => pp.length - s.1) (0, jI t, nx0) (js6 rfl rfl rfl rfl rfl rfl) ⟨zae _, by simp [jI], by rw [hnx0]; simp, rfl, ho5, ho6, K⟩ ?_
 rintro ⟨i, r, nx⟩ wr ⟨hi, hrl, hnl, hre, ho5, ho6, K⟩
 dsimp only at hi hrl hnl hre ho5 ho6 ⊢
 refine jS (jR (jb rfl rfl (Bin.lssN _ _) (jO (jN (jS ?_)))))
 refine jD rfl (fun hc2 => ?_) fun hc2 => ?_
 ·
  obtain ⟨c, hcx⟩ := fM hc2
  have hfs := lH.next hre hcx
  refine jQ (jN (jv6 0 1 5 6 34 35 ?_))
  refine jS (jB (jS (jR (jm rfl (ja rfl (jO (jN (jv7 0 1 5 6 7 34 35 ?_))))))))
  refine jS (jR (jm rfl (jm rfl (je (Run.indexT _ rfl rfl zj hcx) (ja rfl (jO (jN (jv7 0 1 5 6 8 34 35 ?_))))))))
  refine jS ?_
  refine VC.split1 [(0, _), (1, _), (5, _), (6, _), (8, _), (34, _), (35, _)] (js7 rfl rfl rfl rfl rfl rfl rfl) 9 (.bool (decide (bO c))) ?_ ?_
  ·
   refine jR ?_
   refine jm rfl (jb rfl rfl (Bin.eqlN _ 42) (jM ?_))
   by_cases hs43 : c.toNat = 42
   ·
    refine jU ?_
    refine jU ?_
    refine je (Run.pickT rfl rfl au) (ja rfl (jO ?_))
    refine jN ⟨(js8 (jC (by simp [bO, *])) rfl rfl rfl rfl rfl rfl rfl), rfl⟩
   refine jG ?_
   refine jk (Run.bin rfl rfl (Bin.eqlN _ 37)) ?_
   refine je (Run.pickF rfl rfl au) (ja rfl (jO ?_))
   refine jN ⟨(js8 (jC (by simp [bO, *])) rfl rfl rfl rfl rfl rfl rfl), rfl⟩
  intro Γ hΓ
  refine jN (VC.sub _ hΓ (jS ?_))
  refine VC.splitR [(0, encStr t), (1, encStr pp), (5, .slice (some ⟨g5, 0, none⟩) (t.length + 1) (t.length + 1)), (6, .slice (some ⟨g6, 0, none⟩) (t.length + 1) (t.length + 1)), (8, .int .u8 ((c.toNat : Nat) : Int)), (9, .bool (decide (bO c))), (34, .int .i64 ((pp.length : Nat) : Int)), (35, .int .i64 ((i : Nat) : Int))] (fun wz => Own wz 4 1 (some ⟨g5, 0, none⟩) (t.length + 1) (t.length + 1) (BoL r) ∧ Own wz 4 1 (some ⟨g6, 0, none⟩) (t.length + 1) (t.length + 1) (BoL (nx.set 0 (decide (atB r 0 = true ∧ bO c)))) ∧ Frm [] w wz) 53 (.bool (decide (atB r 0 = true ∧ bO c))) ?_ ?_
  ·
   refine jR ?_
   refine jm rfl (jm rfl (je (Run.indexS 0 rfl rfl zba zao jo) (jl rfl zbv (gE ho5 jo) (jM ?_))))
   by_cases hs51 : atB r 0 = true
   ·
    refine jG ?_
    refine je (Run.pickT rfl rfl au) (je (Run.indexS 0 rfl rfl zba zao jo) ?_)
    refine Ops.st (qP.storeOwn (0) (by rw [zbq]; rfl) rfl zao ho6 rfl jo rfl) ?_
    rintro wz ⟨hoz, hfz, hsz⟩
    refine jO ?_
    refine jN ⟨(js9 (jC (by simp [*])) rfl rfl rfl rfl rfl rfl rfl rfl), (⟨ho5.frm hfz (by simp [ob]; omega), eW (by simp [*]) hoz, K.own hfz (fun y hy => by simp only [ob, za] at hy; omega)⟩)⟩
   refine jU ?_
   refine je (Run.pickF rfl rfl au) (je (Run.indexS 0 rfl rfl zba zao jo) ?_)
   refine Ops.st (qP.storeOwn (0) (by rw [zbq]; rfl) rfl zao ho6 rfl jo rfl) ?_
   rintro wz ⟨hoz, hfz, hsz⟩
   refine jO ?_
   refine jN ⟨(js9 (jC (by simp [*])) rfl rfl rfl rfl rfl rfl rfl rfl), (⟨ho5.frm hfz (by simp [ob]; omega), eW (by simp [*]) hoz, K.own hfz (fun y hy => by simp only [ob, za] at hy; omega)⟩)⟩
  intro Γ w6 hΓ ⟨ho5, ho6, K⟩
  refine jN (VC.sub _ hΓ (jS (jS (jR (jm rfl (je (Run.lenT rfl zj) ?_))))))
  refine jx .i64 0 ?_
  refine jO (jN (jv10 0 1 5 6 8 9 34 35 56 57 ?_))
  refine jB ?_
  refine VC.loop (σ := Nat × List Bool) (fun s => [(0, encStr t), (1, encStr pp), (5, .slice (some ⟨g5, 0, none⟩) (t.length + 1) (t.length + 1)), (6, .slice (some ⟨g6, 0, none⟩) (t.length + 1) (t.length + 1)), (8, .int .u8 ((c.toNat : Nat) : Int)), (9, .bool (decide (bO c))), (34, .int .i64 ((pp.length : Nat) : Int)), (35, .int .i64 ((i : Nat) : Int)), (56, .int .i64 ((t.length : Nat) : Int)), (57, .int .i64 ((s.1 : Nat) : Int))]) (fun s wr => s.1 ≤ t.length ∧ s.2.length = t.length + 1 ∧ (∀ j, j ≤ s.1 → s.2[j]? = some (nxM t r c j)) ∧ Own wr 4 1 (some ⟨g5, 0, none⟩) (t.length + 1) (t.length + 1) (BoL r) ∧ Own wr 4 1 (some ⟨g6, 0, none⟩) (t.length + 1) (t.length + 1) (BoL s.2) ∧ Frm [] w wr) (fun s => t.length - s.1) (0, nx.set 0 (decide (atB r 0 = true ∧ bO c))) (js10 rfl rfl rfl rfl rfl rfl rfl rfl rfl rfl) ⟨zae _, by simpa using hnl, fun j hj => (by have hj0 : j = 0 := (by simpa using hj); subst hj0; dsimp only; rw [zck jo]; rfl), ho5, ho6, K⟩ ?_
  rintro ⟨k, x⟩ wr ⟨hk, hxl, hxk, ho5, ho6, K⟩
  dsimp only at hk hxl hxk ho5 ho6 ⊢
  refine jS (jR (jb rfl rfl (Bin.lssN _ _) (jO (jN (jS ?_)))))
  refine jD rfl (fun hc3 => ?_) fun hc3 => ?_
  ·
   obtain ⟨d, hdx⟩ := fM hc3
   refine jQ (jN (jv10 0 1 5 6 8 9 34 35 56 57 ?_))
   refine jS (jB (jS (jR (jm rfl (ja rfl (jO (jN (jv11 0 1 5 6 8 9 10 34 35 56 57 ?_))))))))
   refine jB (jS (jR (jm rfl (ja rfl (jO (jN (jv12 0 1 5 6 8 9 10 34 35 56 57 75 ?_)))))))
   refine jD rfl (fun hc4 => ?_) fun hc4 => ?_
   ·
    refine VC.splitR [(0, encStr t), (1, encStr pp), (5, .slice (some ⟨g5, 0, none⟩) (t.length + 1) (t.length + 1)), (6, .slice (some ⟨g6, 0, none⟩) (t.length + 1) (t.length + 1)), (8, .int .u8 ((c.toNat : Nat) : Int)), (9, .bool (decide (bO c))), (34, .int .i64 ((pp.length : Nat) : Int)), (35, .int .i64 ((i : Nat) : Int)), (56, .int .i64 ((t.length : Nat) : Int)), (57, .int .i64 ((k : Nat) : Int))] (fun wz => Own wz 4 1 (some ⟨g5, 0, none⟩) (t.length + 1) (t.length + 1) (BoL r) ∧ Own wz 4 1 (some ⟨g6, 0, none⟩) (t.length + 1) (t.length + 1) (BoL (x.set (k + 1) (decide (atB r (k + 1) = true ∨ (atB x k = true ∧ (c.toNat = 42 ∨ d.toNat ≠ 47)))))) ∧ Frm [] w wz) 100 (.bool (decide (atB r (k + 1) = true ∨ (atB x k = true ∧ (c.toNat = 42 ∨ d.toNat ≠ 47))))) ?_ ?_
    ·
     refine jR ?_
     refine jm rfl (jm rfl (jb rfl rfl (Bin.add_i64 _ 1 jo) (jm rfl (jm rfl (jb rfl rfl (Bin.add_i64 _ 1 jo) (je (Run.indexS (k + 1) rfl rfl zba zao jo) (jl rfl zbv (gE ho5 jo) ?_)))))))
     refine jM ?_
     by_cases hs85 : atB r (k + 1) = true
     ·
      refine jU ?_
      refine jU ?_
      refine jU ?_
      refine jU ?_
      refine jU ?_
      refine Ops.skU rfl rfl ?_
      refine Ops.skU rfl rfl ?_
      refine Ops.skU rfl rfl ?_
      refine Ops.skU rfl rfl ?_
      refine Ops.skU rfl rfl ?_
      refine Ops.skU rfl rfl ?_
      refine Ops.skU rfl rfl ?_
      refine Ops.skU rfl rfl ?_
      refine jU ?_
      refine je (Run.pickT rfl rfl au) (je (Run.indexS (k + 1) rfl rfl zba zao jo) ?_)
      refine Ops.st (qP.storeOwn ((k + 1)) (by rw [zbq]; rfl) rfl zao ho6 rfl jo rfl) ?_
      rintro wz ⟨hoz, hfz, hsz⟩
      refine jO ?_
      refine jN ⟨(js11 (jC (by simp [*])) rfl rfl rfl rfl rfl rfl rfl rfl rfl rfl), (⟨ho5.frm hfz (by simp [ob]; omega), eW (by simp [*]) hoz, K.own hfz (fun y hy => by simp only [ob, za] at hy; omega)⟩)⟩
     refine jG ?_
     refine jG ?_
     refine jk (Run.indexS k rfl rfl zba zao jo) ?_
     refine jk (Run.load rfl zbv (gE ho6 jo)) ?_
     refine jG ?_
     by_cases hs90 : atB x k = true
     ·
      refine jG ?_
      refine jk (Run.bin rfl rfl (Bin.eqlN _ 42)) ?_
      refine jG ?_
      by_cases hs93 : c.toNat = 42
      ·
       refine jU ?_
       refine jU ?_
       refine jU ?_
       refine jU ?_
       refine jk (Run.pickT rfl rfl au) ?_
       refine jk (Run.pickT rfl rfl au) ?_
       refine je (Run.pickF rfl rfl au) (je (Run.indexS (k + 1) rfl rfl zba zao jo) ?_)
       refine Ops.st (qP.storeOwn ((k + 1)) (by rw [zbq]; rfl) rfl zao ho6 rfl jo rfl) ?_
       rintro wz ⟨hoz, hfz, hsz⟩
       refine jO ?_
       refine jN ⟨(js11 (jC (by simp [*])) rfl rfl rfl rfl rfl rfl rfl rfl rfl rfl), (⟨ho5.frm hfz (by simp [ob]; omega), eW (by simp [*]) hoz, K.own hfz (fun y hy => by simp only [ob, za] at hy; omega)⟩)⟩
      refine jG ?_
      refine jG ?_
      refine jk (Run.indexT _ rfl rfl zj hdx) ?_
      refine jk (Run.bin rfl rfl (Bin.neqN _ 47)) ?_
      refine jk (Run.pickF rfl rfl au) ?_
      refine jk (Run.pickT rfl rfl au) ?_
      refine je (Run.pickF rfl rfl au) (je (Run.indexS (k + 1) rfl rfl zba zao jo) ?_)
      refine Ops.st (qP.storeOwn ((k + 1)) (by rw [zbq]; rfl) rfl zao ho6 rfl jo rfl) ?_
      rintro wz ⟨hoz, hfz, hsz⟩
      refine jO ?_
      refine jN ⟨(js11 (jC (by simp [*])) rfl rfl rfl rfl rfl rfl rfl rfl rfl rfl), (⟨ho5.frm hfz (by simp [ob]; omega), eW (by simp [*]) hoz, K.own hfz (fun y hy => by simp only [ob, za] at hy; omega)⟩)⟩
     refine jU ?_
     refine jU ?_
     refine jU ?_
     refine Ops.skU rfl rfl ?_
     refine Ops.skU rfl rfl ?_
     refine Ops.skU rfl rfl ?_
     refine Ops.skU rfl rfl ?_
     refine jU ?_
     refine jk (Run.pickF rfl rfl au) ?_
     refine je (Run.pickF rfl rfl au) (je (Run.indexS (k + 1) rfl rfl zba zao jo) ?_)
     refine Ops.st (qP.storeOwn ((k + 1)) (by rw [zbq]; rfl) rfl zao ho6 rfl jo rfl) ?_
     rintro wz ⟨hoz, hfz, hsz⟩
     refine jO ?_
     refine jN ⟨(js11 (jC (by simp [*])) rfl rfl rfl rfl rfl rfl rfl rfl rfl rfl), (⟨ho5.frm hfz (by simp [ob]; omega), eW (by simp [*]) hoz, K.own hfz (fun y hy => by simp only [ob, za] at hy; omega)⟩)⟩
    intro Γ w7 hΓ ⟨ho5, ho6, K⟩
    refine qW (qW (jN (VC.sub _ hΓ ?_)))
    refine jR (jb rfl rfl (Bin.add_i64 _ 1 jo) (jm rfl (jO ?_)))
    refine jN ⟨(k + 1, x.set (k + 1) (decide (atB r (k + 1) = true ∨ (atB x k = true ∧ (c.toNat = 42 ∨ d.toNat ≠ 47))))), (js10 rfl rfl rfl rfl rfl rfl rfl rfl rfl rfl), ?_, ?_⟩
    ·
     have hxg : atB x k = nxM t r c k := by rw [atB, List.getD, hxk k (zw _)]; rfl
     refine ⟨hc3, by rw [zdf]; exact hxl, fun j hj => ?_, ho5, ho6, K⟩
     by_cases e : j = k + 1
     ·
      subst e
      dsimp only
      rw [zck jo]
      simp only [nxM, if_pos hc4, hdx, eH, zcz, zdz, hxg]
     dsimp only
     rw [zdg (fun h => e h.symm)]
     exact hxk j (by dsimp only at hj; omega)
    first | omega | (dsimp only; omega)
   refine VC.splitR [(0, encStr t), (1, encStr pp), (5, .slice (some ⟨g5, 0, none⟩) (t.length + 1) (t.length + 1)), (6, .slice (some ⟨g6, 0, none⟩) (t.length + 1) (t.length + 1)), (8, .int .u8 ((c.toNat : Nat) : Int)), (9, .bool (decide (bO c))), (34, .int .i64 ((pp.length : Nat) : Int)), (35, .int .i64 ((i : Nat) : Int)), (56, .int .i64 ((t.length : Nat) : Int)), (57, .int .i64 ((k : Nat) : Int))] (fun wz => Own wz 4 1 (some ⟨g5, 0, none⟩) (t.length + 1) (t.length + 1) (BoL r) ∧ Own wz 4 1 (some ⟨g6, 0, none⟩) (t.length + 1) (t.length + 1) (BoL (x.set (k + 1) (decide (atB r k = true ∧ d.toNat = c.toNat)))) ∧ Frm [] w wz) 73 (.bool (decide (atB r k = true ∧ d.toNat = c.toNat))) ?_ ?_
   ·
    refine jR ?_
    refine jm rfl (jm rfl (jb rfl rfl (Bin.add_i64 _ 1 jo) (jm rfl (jm rfl (je (Run.indexS k rfl rfl zba zao jo) (jl rfl zbv (gE ho5 jo) (jM ?_)))))))
    by_cases hs67 : atB r k = true
    ·
     refine jG ?_
     refine jG ?_
     refine jk (Run.indexT _ rfl rfl zj hdx) ?_
     refine jG ?_
     refine jk (Run.bin rfl rfl (Bin.eqlN _ _)) ?_
     refine je (Run.pickT rfl rfl au) (je (Run.indexS (k + 1) rfl rfl zba zao jo) ?_)
     refine Ops.st (qP.storeOwn ((k + 1)) (by rw [zbq]; rfl) rfl zao ho6 rfl jo rfl) ?_
     rintro wz ⟨hoz, hfz, hsz⟩
     refine jO ?_
     refine jN ⟨(js11 (jC (by simp [*])) rfl rfl rfl rfl rfl rfl rfl rfl rfl rfl), (⟨ho5.frm hfz (by simp [ob]; omega), eW (by simp [*]) hoz, K.own hfz (fun y hy => by simp only [ob, za] at hy; omega)⟩)⟩
    refine jU ?_
    refine jU ?_
    refine jU ?_
    refine jU ?_
    refine jU ?_
    refine je (Run.pickF rfl rfl au) (je (Run.indexS (k + 1) rfl rfl zba zao jo) ?_)
    refine Ops.st (qP.storeOwn ((k + 1)) (by rw [zbq]; rfl) rfl zao ho6 rfl jo rfl) ?_
    rintro wz ⟨hoz, hfz, hsz⟩
    refine jO ?_
    refine jN ⟨(js11 (jC (by simp [*])) rfl rfl rfl rfl rfl rfl rfl rfl rfl rfl), (⟨ho5.frm hfz (by simp [ob]; omega), eW (by simp [*]) hoz, K.own hfz (fun y hy => by simp only [ob, za] at hy; omega)⟩)⟩
   intro Γ w7 hΓ ⟨ho5, ho6, K⟩
   refine qW (qW (jN (VC.sub _ hΓ ?_)))
   refine jR (jb rfl rfl (Bin.add_i64 _ 1 jo) (jm rfl (jO ?_)))
   refine jN ⟨(k + 1, x.set (k + 1) (decide (atB r k = true ∧ d.toNat = c.toNat))), (js10 rfl rfl rfl rfl rfl rfl rfl rfl rfl rfl), ?_, ?_⟩
   ·
    refine ⟨hc3, by rw [zdf]; exact hxl, fun j hj => ?_, ho5, ho6, K⟩
    by_cases e : j = k + 1
    ·
     subst e
     dsimp only
     rw [zck jo]
     simp only [nxM, if_neg hc4, hdx, eH, zcz, zdz]
    dsimp only
    rw [zdg (fun h => e h.symm)]
    exact hxk j (by dsimp only at hj; omega)
   first | omega | (dsimp only; omega)
  refine jX ?_
  refine qJ (qJ (qN ?_))
  refine jN (jv6 0 1 5 6 34 35 ?_)
  refine jR (jm rfl (jM ?_))
  obtain rfl : k = t.length := jo
  have hxs := qVd hxl hxk
  refine Ops.m (qV.copyOwn (g := g5) (o := 0) rfl rfl zba zao ho5 (t.length + 1) ho6.rd (Nat.min_self _) (by rw [kU, kU]; omega) (qKp _)) rfl ?_
  rintro _ w8 ⟨rfl, ho8, hf8, hs8⟩
  rw [zdm, zcg, zbn (by rw [kU, kU]; omega), zbs] at ho8
  have ho6 := ho6.frm hf8 (by simp [ob]; omega)
  have K := K.own hf8 (fun y hy => by rw [za] at hy; omega)
  refine jO ?_
  refine qW (jN ?_)
  refine jv6 0 1 5 6 34 35 ?_
  refine jR (jb rfl rfl (Bin.add_i64 _ 1 jo) (jm rfl (jO ?_)))
  refine jN ⟨(i + 1, x, x), (js6 rfl rfl rfl rfl rfl rfl), ?_, ?_⟩
  · exact ⟨hc2, hxl, hxl, hfs _ hxs, ho8, ho6, K⟩
  first | omega | (dsimp only; omega)
 refine jX ?_
 refine qJ (qJ (qN ?_))
 refine jN (jv2 0 5 ?_)
 refine jS (jR (jm rfl (jm rfl (je (Run.lenT rfl zj) (je (Run.indexS t.length rfl rfl zba zao jo) (jl rfl zbv (gE ho5 jo) (ja rfl (jO (jN (jv1 4 ?_))))))))))
 refine jT ?_
 refine qR rfl ?_
 obtain rfl : i = pp.length := jo
 unfold lH at hre
 rw [zaq] at hre
 refine ⟨?_, K⟩
 have e : meetsN q p ↔ atB r t.length = true := by
  unfold meetsN qZp
  rw [htt, hpp, ← hre, ← htl]
  exact ⟨fun h => h.2.2, fun h => ⟨Classical.not_not.1 (fun h2 => hc1 (.inl h2)), jo, h⟩⟩
 have e2 : decide (meetsN q p) = atB r t.length := by rw [zbt, decide_eq_true_iff]; exact e
 rw [e2]
end
section
open Go.RowKit Go.Sort
def jJ (m : MailP) (p : Tx) (subs : Bool) : List Tx := if bV m then (if subs = true then m.subs else qB m).filter (fun x => decide (meetsN x p)) else []
theorem nB (x q : Tx) (g : Nat) (w : World) (hb : Blk w g 9 #[encStr q]) (hx : x.length ≤ 1000000) (hq : q.length ≤ 1000000) (hv : cQ w) :
  Calls Tryz.prog 80 #[encStr x, .pointer (some ⟨g, 0, none⟩)] w fun e w' => e = .returned (.bool (!decide (meetsN x q))) ∧ Frm [] w w' := by
 refine VC.calls (nt := 8) (res := #[.tmp 3]) Tryz.func80 rfl Tryz.ntmps80 Tryz.results80 rfl ?_
 refine jS (jR (ja rfl (jO (jN (jv2 0 1 ?_)))))
 refine jS (jR (jm rfl (jl rfl zx (hb.cell 0) ?_)))
 refine Ops.cl (jE2 Tryz.call81) (vX x q _ hx hq hv) rfl ?_
 rintro e w2 ⟨rfl, hf2⟩
 refine ⟨_, rfl, ?_⟩
 refine je (Run.not rfl) (ja rfl (jO (jN (jv1 3 ?_))))
 refine jT ?_
 refine qR rfl ?_
 exact ⟨rfl, hf2⟩
set_option maxHeartbeats 1000000 in
theorem pH (m : MlC) (q : Tx) (subs : Bool) (w : World) (hm : RdL w m) (hq : q.length ≤ 1000000) (hv : cQ w) :
  Calls Tryz.prog 27 #[m.val, encStr q, .bool subs] w fun e w' => ∃ B d, ∃ ss : List Tx, e = .returned (.slice B ss.length d) ∧ Own w' 9 1 B ss.length d (SB ss) ∧ ss = jJ m.p q subs ∧ (∀ b ∈ ob B, w.heap.size ≤ b) ∧ Frm [] w w' := by
 have hln := hm.ln
 have hnl := fA m
 have hnq := nJ hm
 refine VC.calls (nt := 20) (res := #[.tmp 6]) Tryz.func27 rfl Tryz.ntmps27 Tryz.results27 rfl ?_
 refine jS (jR ?_)
 refine Ops.m (qV.box rfl) rfl ?_
 rintro _ w1 ⟨rfl, hF_w1⟩
 have hb1 : Blk w1 w.heap.size 25 #[.slice m.A m.l.length m.c, .slice m.S m.ss.length m.d, .int .i64 m.v, .int .i64 m.b] := hF_w1.blk
 have K := hF_w1.frm
 generalize hg1 : w.heap.size = g1 at hb1 ⊢
 refine Ops.m (qV.box rfl) rfl ?_
 rintro _ w2 ⟨rfl, hF2⟩
 have hb4 : Blk w2 w1.heap.size 9 #[encStr q] := hF2.blk
 have hb1 := hb1.frm hF2.frm jp
 have hg4 : w.heap.size ≤ w1.heap.size := K.size
 have K := K.trans hF2.frm jp
 generalize hg4' : w1.heap.size = g4 at hb4 hg4 ⊢
 refine ja rfl (jO (jN (jv3 2 3 4 ?_)))
 refine jS (jS (jR (je (Run.loadA rfl zo zh hb1.cells (by first | rfl | (simp; done))) ?_)))
 refine Ops.cl (jE1 zdo) (cO m _ (hm.frm K) (hv.frm K)) rfl ?_
 rintro e w4 ⟨rfl, hf4⟩
 refine ⟨_, rfl, ?_⟩
 have hb1 := hb1.frm hf4 jp
 have hb4 := hb4.frm hf4 jp
 have hKs_hf4 := K.size
 have K := K.trans hf4 jp
 refine je (Run.not rfl) (jO (jN (jv4 2 3 4 10 ?_)))
 refine VC.condB rfl (fun hc1 => ?_) (fun hc1 => ?_)
 ·
  have hc1 : ¬ bV m.p := by simpa using hc1
  refine jS (jR (ja rfl (jO (jN (jv1 6 ?_)))))
  refine jT ?_
  refine qZ (qR rfl ?_)
  exact ⟨none, 0, [], rfl, Own.nil _ _ _, by unfold jJ; rw [if_neg hc1], by simp [ob], K⟩
 have hc1 : bV m.p := by simpa using hc1
 obtain ⟨hm24, hv1, hv2, hb0, hb2, hr, hin⟩ := eB hc1
 refine jQ (jN (jv3 2 3 4 ?_))
 refine jS (jR (je (Run.loadA rfl zo zh hb1.cells (by first | rfl | (simp; done))) ?_))
 refine Ops.cl (jE1 Tryz.call55) (jZ m _ (hm.frm K)) rfl ?_
 rintro e w5 ⟨B, d, rfl, hoL, hgB, hf5⟩
 have hl45 := hb4.lt
 refine ⟨_, rfl, ?_⟩
 have hb1 := hb1.frm hf5 jp
 have hb4 := hb4.frm hf5 jp
 have hKs_hf5 := K.size
 have K := K.trans hf5 jp
 rw [← hnl] at hoL ⊢
 refine ja rfl (jO (jN (jv4 2 3 4 7 ?_)))
 refine jS (jS (jR (jm rfl (jO (jN (jv4 3 4 7 13 ?_))))))
 refine VC.condB rfl (fun hc2 => ?_) (fun hc2 => ?_)
 ·
  have hlp : jJ m.p q subs = m.ss.filter (fun x => decide (meetsN x q)) := by unfold jJ; rw [if_pos hc1, if_pos hc2]; rfl
  refine jR (jf rfl zf rfl zaj (jl rfl zar (hb1.cell 1) ?_))
  refine Ops.cl (jE1 Tryz.call75) (oD m.S m.d m.ss _ (hm.s.frm K jp) (by have := hm.sn; omega)) rfl ?_
  rintro e w6 ⟨B, d, rfl, hoL, hgB, hf6⟩
  have hl46 := hb4.lt
  refine ⟨_, rfl, ?_⟩
  have hb1 := hb1.frm hf6 jp
  have hb4 := hb4.frm hf6 jp
  have hKs_hf6 := K.size
  have K := K.trans hf6 jp
  obtain ⟨hln2, hlq⟩ : m.ss.length ≤ 1000000 ∧ ∀ q ∈ m.ss, q.length ≤ 1000000 := ⟨hm.sn, hm.sq⟩
  obtain ⟨wl, hwl⟩ : ∃ wl, wl = w6 := ⟨_, rfl⟩
  subst hwl
  have hTT : nV (ob B) wl 80 [.pointer (some ⟨g4, 0, none⟩)] (fun x => !decide (meetsN x q)) := ⟨Tryz.call80, fun W x hW hx => nB x q g4 W (hb4.frm hW (fun h => by have := hgB _ h; omega)) hx hq (hv.frm (K.own hW (fun b hb => by have := hgB b hb; omega)))⟩
  refine ja rfl (jO (jN (jv2 4 7 ?_)))
  refine jS (jR (jm rfl (je (Run.mkFunc evs.nil (evs.cons rfl evs.nil)) ?_)))
  refine Ops.cl (jE2 Tryz.call79) (rU 80 [.pointer (some ⟨g4, 0, none⟩)] _ B d m.ss _ hoL hln2 hlq hTT) rfl ?_
  rintro e w9 ⟨rfl, ho9, hf9⟩
  refine ⟨_, rfl, ?_⟩
  have K := K.own hf9 (fun b hb => by have := hgB b hb; omega)
  refine ja rfl (jO (jN (jv1 6 ?_)))
  refine jT ?_
  refine qR rfl ?_
  have e : (fun x : Tx => !(!decide (meetsN x q))) = fun x => decide (meetsN x q) := by funext x; simp
  rw [e] at ho9
  refine ⟨B, d, _, ?_, ho9, hlp.symm, fun b hb => by have := hgB b hb; omega, K⟩
  rw [e]
 have hlp : jJ m.p q subs = (qB m.p).filter (fun x => decide (meetsN x q)) := by unfold jJ; rw [if_pos hc1, if_neg (by simp [hc2])]
 obtain ⟨hln2, hlq⟩ : (qB m.p).length ≤ 1000000 ∧ ∀ q ∈ qB m.p, q.length ≤ 1000000 := ⟨jo, hnq⟩
 obtain ⟨wl, hwl⟩ : ∃ wl, wl = w5 := ⟨_, rfl⟩
 subst hwl
 have hTT : nV (ob B) wl 80 [.pointer (some ⟨g4, 0, none⟩)] (fun x => !decide (meetsN x q)) := ⟨Tryz.call80, fun W x hW hx => nB x q g4 W (hb4.frm hW (fun h => by have := hgB _ h; omega)) hx hq (hv.frm (K.own hW (fun b hb => by have := hgB b hb; omega)))⟩
 refine jQ (jN (jv2 4 7 ?_))
 refine jS (jR (jm rfl (je (Run.mkFunc evs.nil (evs.cons rfl evs.nil)) ?_)))
 refine Ops.cl (jE2 Tryz.call79) (rU 80 [.pointer (some ⟨g4, 0, none⟩)] _ B d (qB m.p) _ hoL hln2 hlq hTT) rfl ?_
 rintro e w9 ⟨rfl, ho9, hf9⟩
 refine ⟨_, rfl, ?_⟩
 have K := K.own hf9 (fun b hb => by have := hgB b hb; omega)
 refine ja rfl (jO (jN (jv1 6 ?_)))
 refine jT ?_
 refine qR rfl ?_
 have e : (fun x : Tx => !(!decide (meetsN x q))) = fun x => decide (meetsN x q) := by funext x; simp
 rw [e] at ho9
 refine ⟨B, d, _, ?_, ho9, hlp.symm, fun b hb => by have := hgB b hb; omega, K⟩
 rw [e]
end
section
open Go.RowKit Go.Sort
def goP (f nm : Tx) : Prop := qS f = nm ∨ cK nm f
instance (f nm : Tx) : Decidable (goP f nm) := by unfold goP; infer_instance
def qZq (l : List NmP) (x : NmP) : List NmP := l.filter (fun y => decide (y.1 < x.1)) ++ x :: l.filter (fun y => decide (¬ y.1 < x.1))
theorem qKr {l : List NmP} {x : NmP} {k : Nat} (h : fC l x.1 k) : qZq l x = l.take k ++ x :: l.drop k := by
 unfold qZq
 rw [pQ h]
 congr 2
 obtain ⟨h1, h2, h3⟩ := h
 conv => lhs; rw [← zbu k l]
 rw [zca, List.filter_eq_nil_iff.2, List.filter_eq_self.2, zcg]
 ·
  intro y hy
  obtain ⟨j, hj, rfl⟩ := zag hy
  rw [zal] at hj
  rw [zfi]
  simpa using h3 (k + j) jo jo
 intro y hy
 obtain ⟨j, hj, rfl⟩ := zag hy
 rw [zt] at hj
 rw [zdk]
 simpa using h2 j jo jo
def oG (m : MailP) (x : NmP) : MailP := { m with l := qZq m.l (qS x.1, x.2) }
def fZ (stay : List NmP) (f t : Tx) : List NmP → Except Nat (List NmP)
 | [] => .ok []
 | x :: r => match cA x.1 f t with
  | .error e => .error e
  | .ok s => if qS s ∈ stay.map Prod.fst then .error 15 else match fZ stay f t r with
   | .error e => .error e
   | .ok r' => .ok ((s, x.2) :: r')
def okD (r : Except Nat Tx) : Tx := match r with | .ok s => s | .error _ => []
def fN (f t : Tx) (x : NmP) : NmP := (okD (cA x.1 f t), x.2)
def lM (stay : List NmP) (f t : Tx) (x : NmP) : Prop := ∃ s, cA x.1 f t = .ok s ∧ qS s ∉ stay.map Prod.fst
theorem lN (stay : List NmP) (f t : Tx) : ∀ (l : List NmP) (k : Nat), (∀ j (h : j < l.length), j < k → lM stay f t l[j]) →
  fZ stay f t l = match fZ stay f t (l.drop k) with | .error e => .error e | .ok r => .ok ((l.take k).map (fN f t) ++ r)
 | l, 0, _ => by
  rw [zco, zdm, zdp]
  cases fZ stay f t l <;> rfl
 | [], k + 1, _ => by simp [fZ]
 | x :: l, k + 1, h => by
  obtain ⟨s, hs, hn⟩ := h 0 jp jo
  have ih := lN stay f t l k (fun j hj hjk => h (j + 1) (by simpa using hj) jo)
  have hs' : cA x.1 f t = .ok s := hs
  rw [zey, zda, zbw]
  rw [fZ, hs']
  dsimp only
  rw [if_neg hn, ih]
  have e : fN f t x = (s, x.2) := by unfold fN; rw [hs']; rfl
  cases fZ stay f t (l.drop k) with
  | error e => rfl
  | ok r => dsimp only; rw [e]; rfl
theorem tR {stay l : List NmP} {f t : Tx} (h : ∀ j (h : j < l.length), lM stay f t l[j]) : fZ stay f t l = .ok (l.map (fN f t)) := by
 rw [lN stay f t l l.length (fun j hj _ => h j hj), List.drop_length, zaq]
 simp [fZ]
theorem qZr {stay l : List NmP} {f t : Tx} {k e : Nat} (hk : k < l.length) (h : ∀ j (h : j < l.length), j < k → lM stay f t l[j]) (he : cA (l[k]).1 f t = .error e) : fZ stay f t l = .error e := by
 rw [lN stay f t l k h, zav hk, fZ, he]
theorem yH {stay l : List NmP} {f t s : Tx} {k : Nat} (hk : k < l.length) (h : ∀ j (h : j < l.length), j < k → lM stay f t l[j]) (he : cA (l[k]).1 f t = .ok s) (hs : qS s ∈ stay.map Prod.fst) : fZ stay f t l = .error 15 := by
 rw [lN stay f t l k h, zav hk, fZ, he]
 dsimp only
 rw [if_pos hs]
def goF (f : Tx) (l : List NmP) : List NmP := l.filter fun x => decide (goP f x.1)
def stF (f : Tx) (l : List NmP) : List NmP := l.filter fun x => !decide (goP f x.1)
def gF (m : MailP) (f t : Tx) : Except Nat MailP :=
 match fZ (stF f m.l) f t (goF f m.l) with
 | .error e => .error e
 | .ok g => if dR m (bR (stF f m.l) (upN t)).length (bR (stF f m.l) (upN t)).length ≠ 0 then .error (dR m (bR (stF f m.l) (upN t)).length (bR (stF f m.l) (upN t)).length)
  else .ok (g.foldl oG (eL { m with l := stF f m.l } (upN t)))
def sH (m : MailP) (f t : Tx) : Prop := ∀ j, j ≤ ((goF f m.l).map (fN f t)).length → bN ((((goF f m.l).map (fN f t)).take j).foldl oG (eL { m with l := stF f m.l } (upN t))).l
def eY (m : MailP) (f t : Tx) (emptyP : Except Nat MailP) : Except Nat MailP :=
 if ¬ bV m then .error 1 else if ¬ isN f ∨ ¬ isN t then .error 18 else if qS f ∉ qB m then .error 6 else if qS t ∈ qB m then .error 15
 else if qS f = qC then emptyP else if cK t f then .error 16 else gF m f t
theorem tS {q f t s : Tx} (h : cA q f t = .ok s) : s.length ≤ 60 := by
 unfold cA at h
 have hc : ∀ x : Tx, oZ x = .ok s → s.length ≤ 60 := by
  intro x hx
  unfold oZ at hx
  split at hx
  ·
   rename_i h1
   cases hx
   exact h1.2.1
  cases hx
 split at h
 · cases h
 split at h
 · exact hc _ h
 split at h
 · exact hc _ h
 cases h
def goC (f : Tx) (l : List Nc) : List Nc := l.filter fun x => decide (goP f x.nm)
def stC (f : Tx) (l : List Nc) : List Nc := l.filter fun x => !decide (goP f x.nm)
theorem qV4 (f : Tx) (l : List Nc) : Ns (goC f l) = goF f (Ns l) := by
 unfold goC goF Ns
 rw [List.filter_map]
 rfl
theorem qV5 (f : Tx) (l : List Nc) : Ns (stC f l) = stF f (Ns l) := by
 unfold stC stF Ns
 rw [List.filter_map]
 rfl
def eM (f t : Tx) (x : Nc) : Nc := { x with nm := okD (cA x.nm f t) }
theorem qZs (l : List Nc) (k : Nat) (hk : k < l.length) (s : Tx) : (NDC l).set (k * 4) (encStr s) = NDC (l.set k { l[k] with nm := s }) := by
 apply zcl
 intro j
 have hidx := fun l' => gP Nc.cells 4 jo Nc.cells_len l' j
 have hlen := eV l
 rw [show NDC (l.set k { l[k] with nm := s }) = (l.set k { l[k] with nm := s }).flatMap Nc.cells from rfl, hidx, zef, zef]
 have hdm : j = j / 4 * 4 + j % 4 := jo
 by_cases h2 : k * 4 = j
 ·
  have h1 : k = j / 4 := jo
  rw [if_pos h2, if_pos (by rw [hlen]; omega), if_pos h1, if_pos hk]
  have : j % 4 = 0 := jo
  rw [this]
  rfl
 rw [if_neg h2, show NDC l = l.flatMap Nc.cells from rfl, hidx]
 by_cases h1 : k = j / 4
 ·
  rw [if_pos h1, if_pos hk, ← h1, zb hk]
  have : j % 4 = 1 ∨ j % 4 = 2 ∨ j % 4 = 3 := jo
  rcases this with h | h | h <;> rw [h] <;> rfl
 rw [if_neg h1]
def eR (f t : Tx) (l : List Nc) (k : Nat) : List Nc := (l.take k).map (eM f t) ++ l.drop k
theorem qZt (f t : Tx) (l : List Nc) (k : Nat) (hk : k ≤ l.length) : (eR f t l k).length = l.length := by
 unfold eR
 rw [zi, zah, zt, zal]
 omega
theorem qKs (f t : Tx) (l : List Nc) (k : Nat) (hk : k < l.length) (h2 : k < (eR f t l k).length) : (eR f t l k)[k] = l[k] := by
 have e : (eR f t l k)[k]? = some l[k] := by
  unfold eR
  rw [zbp (by rw [zah, zt]; omega), zah, zt, zau (Nat.le_of_lt hk), zdq, zdr, Nat.add_zero, zb hk]
 rw [zb h2] at e
 exact Option.some.inj e
theorem qQx (f t : Tx) (l : List Nc) (k : Nat) (hk : k < l.length) (s : Tx) (hs : cA (l[k]).nm f t = .ok s) : (eR f t l k).set k { l[k] with nm := s } = eR f t l (k + 1) := by
 unfold eR
 rw [List.set_append_right _ _ (by rw [zah, zt]; omega)]
 have e : k - ((l.take k).map (eM f t)).length = 0 := by rw [zah, zt]; omega
 rw [e, zav hk, List.set_cons_zero, zan, zb hk, zbc]
 have e2 : eM f t l[k] = { l[k] with nm := s } := by unfold eM; rw [hs]; rfl
 simp [e2]
theorem qZu (f t : Tx) (l : List Nc) : eR f t l l.length = l.map (eM f t) := by
 unfold eR
 rw [zaq, List.drop_length, zbs]
theorem qQy {m : MlC} {x : Nc} {k : Nat} {A : Option Addr} {c : Nat} (h : fC m.p.l (qS x.nm) k) : (m.wl A c (m.l.take k ++ ⟨qS x.nm, x.v, x.n, x.A, x.c, x.l⟩ :: m.l.drop k)).p = oG m.p x.p := by
 have e := qKr (x := (qS x.nm, ⟨x.v, x.n, Ms x.l⟩)) h
 have e2 := qQt m.l ⟨qS x.nm, x.v, x.n, x.A, x.c, x.l⟩ k
 exact congrArg (fun z => MailP.mk z m.ss m.v m.b) (e2.trans e.symm)
theorem qQz {w w1 w2 : World} {S : List Nat} {m mo : MlC} {k : Nat} {x : Nc} {A : Option Addr} {c : Nat} (h : cZ w w1 S m mo) (kf : Frm [] w1 w2) (hs : w.heap.size ≤ w1.heap.size) (hk : k ≤ mo.l.length) (hn : mo.l.length + 1 ≤ 1000000)
  (ho : Own w2 45 4 A (mo.l.length + 1) c (NDC (mo.l.take k ++ x :: mo.l.drop k))) (hf : ∀ b ∈ ob A, w1.heap.size ≤ b) (hx : ∀ w'', RdL w'' m → x.At w'') : cZ w w2 (S ++ ob A) m (mo.wl A c (mo.l.take k ++ x :: mo.l.drop k)) := by
 have hll := nK mo.l x k hk
 refine ⟨fun y hy => by rcases zds.1 hy with h3 | h3; exact h.1 y h3; exact zax hs (hf y h3), fun w'' T kT hT hm => ?_⟩
 have ho := ho.frm kT (fun y hy h => hT y h (List.mem_append_right _ hy))
 have hmo := h.2 w'' T ((kf.mono jp).trans kT (fun y hy => .inl hy)) (fun y hy h3 => hT y hy (zet _ h3)) hm
 exact ⟨⟨ho.rdNk hll, qQs k hmo.l.el (hx w'' hm)⟩, hmo.s, by show List.length (_ ++ _) ≤ _; rw [hll]; exact ho.le, hmo.sc, by show List.length (_ ++ _) ≤ _; rw [hll]; exact hn, hmo.sn, hmo.sq⟩
end
end Go.Proofs.YtgmbmfpfhcekiaaGreat
