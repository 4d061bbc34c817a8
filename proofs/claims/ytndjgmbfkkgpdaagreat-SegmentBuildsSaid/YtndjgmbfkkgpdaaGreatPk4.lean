/-
  Lemmas on the way, joined: LimT, LimC, LimQ, LimR, LimU, LimV, LimX, LimK, LimY, LimO, DefM, InfPT, InfLF, BackA, DefN, DefO, BackB, BackC, DefK, RefM, RefN.
-/
import Derived.Test.YtndjgmbfkkgpdaaGreatPk3
set_option maxRecDepth 100000
namespace Go.Proofs.YtndjgmbfkkgpdaaGreat
section
open Go.RowKit
theorem qTd {l : List Int} (h : ∀ x ∈ l, 0 ≤ x) : IB l = NI (l.map Int.toNat) := by
 unfold IB NI
 rw [zeh]
 apply zde
 intro x hx
 have := h x hx
 simp
 omega
def dN (n : Nat) (l : List Nat) : List Nat := (List.range n).map fun k => l.count k
theorem qSa (n : Nat) (l : List Nat) : (dN n l).length = n := by simp [dN]
theorem lU (n : Nat) : NI (dN n []) = (List.replicate n [Value.int .i64 0]).flatten := by
 apply zao
 intro j
 have e : (List.replicate n [Value.int .i64 0]).flatten = List.replicate n (Value.int .i64 0) := by
  induction n with
  | zero => rfl
  | succ n ih => rw [zfk, zgy, ih]; rfl
 rw [e]
 simp [NI, dN, zgg, zbd, zgf]
 by_cases h : j < n
 · simp [h]
 simp [h]
theorem vF {n s : Nat} (l : List Nat) (h : s < n) : NI (dN n (l ++ [s])) = (NI (dN n l)).set s (.int .i64 ((l.count s + 1 : Nat) : Int)) := by
 apply zao
 intro j
 by_cases hj : j = s
 ·
  subst hj
  rw [zdk (by simp [NI, qSa, h])]
  simp [NI, dN, h]
 rw [zef (Ne.symm hj)]
 simp only [NI, dN, zbd]
 by_cases hn : j < n
 · simp [hn, zaz, List.count_singleton, Ne.symm hj]
 simp [hn]
theorem qNt {w : World} {e n c k : Nat} {ad : Addr} {l : List Nat} (h : Own w e 1 (some ad) n c (NI (dN n l))) (hk : k < n) : w.cell? (ad.add k) = some (.int .i64 ((l.count k : Nat) : Int)) := by
 obtain ⟨ad', u, hA, hu, hc⟩ := h.rd.at1 hk
 injection hA with hA
 subst hA
 rw [hc]
 simp [NI, dN, hk] at hu
 rw [← hu]
theorem lB (n : Nat) (l : List (Nat × List Nat)) : wF n l = dN n (l.flatMap Prod.snd) := by
 unfold wF dN
 apply zde
 intro k _
 induction l with
 | nil => rfl
 | cons a r ih => rw [zai, zfj, ih, zq, zaz]
theorem vA (l : List (Nat × List Nat)) : (l.flatMap Prod.snd).length = dU l := by
 unfold dU
 induction l with
 | nil => rfl
 | cons a r ih => rw [zq, za, ih, zai, zfj]
theorem qZr (l : List (Nat × List Nat)) (n : Nat) : dU (l.take n) ≤ dU l := by
 induction l generalizing n with
 | nil => simp
 | cons a r ih =>
  cases n with
  | zero => simp [dU]
  | succ n =>
   have := ih n
   unfold dU at *
   simp only [zag, zai, zfj]
   omega
theorem qK6 (A : Option Addr) (c0 : Nat) (l : List Int) (m : Int) (w : World) (hl : l.length ≤ 1000000) (hr : Rd w 1 A l.length (IB l)) :
  Calls Tryz.prog 60 #[.slice A l.length c0, .int .i64 m] w fun e w' => Frm [] w w' ∧
   if ¬ mA l ∨ m < 1 ∨ 15 < m then e = .returned (.tuple #[.slice none 0 0, .int .i64 ((1 : Nat) : Int)])
   else ∃ own, dH (l.map Int.toNat) own ∧ if 2 ^ m.toNat < own.length then e = .returned (.tuple #[.slice none 0 0, .int .i64 ((8 : Nat) : Int)])
    else ∃ B c, e = .returned (.tuple #[.slice B l.length c, .int .i64 ((0 : Nat) : Int)]) ∧ Own w' 3 1 B l.length c (NI (cF l.length m.toNat own)) ∧ ∀ x ∈ ob B, w.heap.size ≤ x := by
 refine VC.calls (nt := 89) (res := #[.tmp 4, .tmp 5]) Tryz.func60 rfl Tryz.ntmps60 Tryz.results60 rfl ?_
 refine jS (jR (ja rfl (jz 0 (jO (jN (jv2 0 1 ?_))))))
 refine jS (jS ?_)
 refine VC.split1 [(0, _), (1, _)] (js2 rfl rfl) 23 (.bool (decide (¬ mA l ∨ m < 1 ∨ 15 < m))) ?_ ?_
 ·
  refine jR (jM ?_)
  refine Ops.cl (jE1 Tryz.call95) (qR9 A c0 l _ jo hr) rfl ?_
  rintro e _ ⟨rfl, rfl⟩
  refine ⟨_, rfl, ?_⟩
  by_cases hs14 : mA l
  ·
   refine je (Run.not rfl) (jM ?_)
   refine jG ?_
   refine jk (Run.bin rfl rfl (Bin.lss _ 1)) ?_
   by_cases hs18 : m < 1
   ·
    refine je (Run.pickF rfl rfl au) (jM ?_)
    refine jU ?_
    refine jU ?_
    refine je (Run.pickT rfl rfl au) (jO ?_)
    refine jN ⟨(js3 (jC (by simp [*])) rfl rfl), rfl⟩
   refine je (Run.pickF rfl rfl au) (jM ?_)
   refine jG ?_
   refine jk (Run.bin rfl rfl (Bin.gtr _ 15)) ?_
   by_cases hs22 : 15 < m
   ·
    refine je (Run.pickF rfl rfl au) (jO ?_)
    refine jN ⟨(js3 (jC (by simp [*])) rfl rfl), rfl⟩
   refine je (Run.pickF rfl rfl au) (jO ?_)
   refine jN ⟨(js3 (jC (by simp [*])) rfl rfl), rfl⟩
  refine je (Run.not rfl) (jM ?_)
  refine jU ?_
  refine jU ?_
  refine je (Run.pickT rfl rfl au) (jM ?_)
  refine jU ?_
  refine jU ?_
  refine je (Run.pickT rfl rfl au) (jO ?_)
  refine jN ⟨(js3 (jC (by simp [*])) rfl rfl), rfl⟩
 intro Γ hΓ
 refine jN (VC.sub _ hΓ ?_)
 refine jD rfl (fun hc1 => ?_) fun hc1 => ?_
 ·
  refine jS (jR (ja rfl (jz 1 (jO (jN (jv2 4 5 ?_))))))
  refine jT ?_
  refine qP (cY rfl rfl ?_)
  exact ⟨Frm.refl [] w, by rw [if_pos hc1]⟩
 obtain ⟨m, rfl⟩ : ∃ k : Nat, m = k := ⟨m.toNat, jo⟩
 have hm1 : 1 ≤ m := jo
 have hm15 : m ≤ 15 := jo
 have hmay : mA l := Classical.not_not.1 (fun h => hc1 (.inl h))
 have hpos : ∀ x ∈ l, 0 ≤ x := fun x hx => (hmay.2 x hx).1
 have hll := hmay.1
 have hin := qTd hpos
 generalize hcs : l.map Int.toNat = cs at *
 have hcl : cs.length = l.length := by rw [← hcs, zl]
 have hcx : ∀ x ∈ cs, x ≤ 2147483647 := by
  intro x hx
  rw [← hcs] at hx
  obtain ⟨y, hy, rfl⟩ := List.mem_map.1 hx
  have := hmay.2 y hy
  omega
 rw [hin, ← hcl] at hr
 rw [← hcl]
 refine jQ (jN (jv2 0 1 ?_))
 refine jS (jR (jM ?_))
 refine Ops.cl (jE1 Tryz.call96) (qWo A c0 cs _ jo hcx hr) rfl ?_
 rintro e w1 ⟨B1, c1, ps, rfl, hP1, hco, hf1, hu1⟩
 refine ⟨_, rfl, ?_⟩
 have hpl : ps.length ≤ 320 := by
  have h5 := hco.1.length_eq
  rw [zl] at h5
  rw [h5]
  unfold cP
  rw [zl]
  exact zn (zfw _ _) (by simp; omega)
 have hpw : 2 ^ m ≤ 2 ^ 15 := zz jo hm15
 refine ja rfl (jO (jN (jv3 0 1 6 ?_)))
 refine jS (jR (jm rfl (je (Run.lenS rfl zd) ?_)))
 refine Ops.m (qV.makeS rfl rfl zd (dX) rfl jo jo) rfl ?_
 rintro _ w2 ⟨rfl, ho2, hf2, hs2⟩
 have hP2 := hP1.frm hf2 jp (fun _ _ _ _ => jp)
 have hfr2 := hf1.own hf2 jp
 have hgo := hf1.size
 generalize hgo2 : w1.heap.size = go at *
 refine ja rfl (jO (jN (jv3 1 6 7 ?_)))
 refine jS (jB (jS (jR (jm rfl (je (Run.lenS rfl zae) (jm rfl (jb rfl rfl (Bin.shl_i64 1 m jo jo) (jb rfl rfl (Bin.gtr _ _) (ja rfl (jO (jN (jv4 1 6 7 29 ?_))))))))))))
 refine jD rfl (fun hc2 => ?_) fun hc2 => ?_
 ·
  rw [zgs] at hc2
  have hc2n : 2 ^ m < ps.length := Int.ofNat_lt.1 hc2
  refine jS (jR (ja rfl (jz 8 (jO (jN (jv2 4 5 ?_))))))
  refine jT ?_
  refine qO (qP (cY rfl rfl ?_))
  refine ⟨hfr2, ?_⟩
  rw [if_neg hc1]
  refine ⟨_, hco, ?_⟩
  rw [zac, zl, if_pos hc2n]
 have hc2n : ¬ 2 ^ m < ps.length := fun h => hc2 (by rw [zgs]; exact Int.ofNat_lt.2 h)
 refine jS (jR (jm rfl (je (Run.lenS rfl zae) (jb rfl rfl (Bin.eqlN _ 1) (ja rfl (jO (jN (jv4 1 6 7 35 ?_))))))))
 refine jD rfl (fun hc3 => ?_) fun hc3 => ?_
 ·
  obtain ⟨p, rfl⟩ : ∃ p, ps = [p] := by
   match ps, hc3 with
   | [p], _ => exact ⟨p, rfl⟩
  obtain ⟨k, hk, hk0, hpe⟩ := fK (hco.1.mem_iff.1 (zeo (f := PkC.abs) (zh.2 rfl)))
  have hsy : p.sy = [k] := congrArg Prod.snd hpe
  obtain ⟨ad, rfl, hea⟩ := hP2.1.rd.elem (k := 0) jp
  rw [cI PkC.cells 2 PkC.cells_len [p] 0 jp] at hea
  have hpo := hP2.2 p jp
  unfold fP at hpo
  obtain ⟨ai, hai, hci⟩ := rV hpo.rd (k := 0) (by rw [hsy]; simp)
  have hci2 : w2.cell? (ai.add 0) = some (.int .i64 ((k : Nat) : Int)) := by rw [hci]; simp [hsy]
  have h1i : (PkC.cells p)[1]? = some (.slice (some ai) 1 p.c) := by simp [PkC.cells, hai, hsy]
  have hl1 : [p].length = 1 := rfl
  rw [hl1]
  refine jS (jR (jm rfl (jm rfl (je (Run.indexS 0 rfl rfl zae zy jo) (jf rfl zbh rfl zar (jl rfl zbq (hea 1 _ h1i) (je (Run.index1 0 rfl rfl zd zc jo) (jl rfl zg hci2 (je (Run.index1 _ rfl rfl zd zc jo) ?_)))))))))
  refine Ops.st (qR.storeOwn k rfl rfl zc ho2 rfl jo rfl) ?_
  rintro w3 ⟨ho3, hf3, hs3⟩
  refine jO (jN (jv1 7 ?_))
  refine jS (jR (jm rfl (ja rfl (jz 0 (jO (jN (jv2 4 5 ?_)))))))
  refine jT ?_
  refine qO (qP (cY rfl rfl ?_))
  refine ⟨hfr2.own hf3 (fun x hx => by simp [ob] at hx; omega), ?_⟩
  rw [if_neg hc1]
  refine ⟨_, hco, ?_⟩
  rw [zac, zl, if_neg hc2n]
  refine ⟨_, _, rfl, ?_, fun x hx => ?_⟩
  ·
   have h5 : cF cs.length m ([p].map PkC.abs) = dN cs.length ([] ++ [k]) := by
    unfold cF
    rw [if_pos (show ([p].map PkC.abs).length ≤ 1 from zk 1), lB]
    simp [PkC.abs, hsy]
   have h6 : (List.replicate cs.length (Value.int .i64 0).cells.toList).flatten = NI (dN cs.length []) := (lU _).symm
   rw [h5, vF [] hk]
   rw [h6] at ho3
   exact ho3
  simp [ob] at hx
  omega
 refine jS (jR (jm rfl (je (Run.lenS rfl zae) (jb rfl rfl (Bin.eqlN _ 0) (ja rfl (jO (jN (jv4 1 6 7 48 ?_))))))))
 refine jD rfl (fun hc4 => ?_) fun hc4 => ?_
 ·
  refine jS (jR (jm rfl (ja rfl (jz 0 (jO (jN (jv2 4 5 ?_)))))))
  refine jT ?_
  refine qO (qP (cY rfl rfl ?_))
  refine ⟨hfr2, ?_⟩
  rw [if_neg hc1]
  refine ⟨_, hco, ?_⟩
  rw [zac, zl, if_neg hc2n]
  refine ⟨_, _, rfl, ?_, fun x hx => ?_⟩
  ·
   have hpn : ps = [] := zab hc4
   have h5 : cF cs.length m (ps.map PkC.abs) = dN cs.length [] := by
    unfold cF
    rw [if_pos (by simp [hpn]), lB, hpn]
    rfl
   have h6 : (List.replicate cs.length (Value.int .i64 0).cells.toList).flatten = NI (dN cs.length []) := (lU _).symm
   rw [h5, ← h6]
   exact ho2
  simp [ob] at hx
  omega
 have hn2 : 2 ≤ ps.length := jo
 have hown : ps.map PkC.abs = bR (ps.map PkC.abs) 0 := rfl
 have htc := vE cs 2147483647 hcx cs.length (zk _)
 have htp := qK5 hco.1
 have htm : cs.length * 2147483647 ≤ 320 * 2147483647 := zdg _ jo
 have htC : fJ (ps.map PkC.abs) ≤ 320 * 2147483647 := jo
 have htS : dU (ps.map PkC.abs) ≤ 320 := jo
 have hpg0 : ∀ p ∈ ps, ∀ x ∈ ob p.A, x ≠ go := fun p hp x hx => by
  have h5 := (hP1.2 p hp).lt x hx
  omega
 have hsy : ∀ k, ∀ p ∈ bR (ps.map PkC.abs) k, ∀ s ∈ p.2, s < cs.length := qZq _ (fun p hp s hs => by
  obtain ⟨j, hj, _, rfl⟩ := fK (hco.1.mem_iff.1 hp)
  simp at hs
  omega)
 refine jQ ?_
 refine qJ (jN ?_)
 refine jv3 1 6 7 ?_
 refine jS (jR (jm rfl (ja rfl (jO (jN (jv4 1 6 7 8 ?_))))))
 refine jS (jS (jR (jm rfl (jb rfl rfl (Bin.sub_i64 _ 1 jo jo) ?_))))
 refine jx .i64 0 ?_
 refine jO (jN (jv5 6 7 8 55 56 ?_))
 refine jB ?_
 refine VC.loop (σ := Nat × Option Addr × Nat × List PkC) (fun s => [(6, .slice B1 ps.length c1), (7, .slice (some ⟨go, 0, none⟩) cs.length cs.length), (8, .slice s.2.1 s.2.2.2.length s.2.2.1), (55, .int .i64 ((m - 1 : Nat) : Int)), (56, .int .i64 ((s.1 : Nat) : Int))]) (fun s wr => s.1 ≤ m - 1 ∧ s.2.2.2.map PkC.abs = bR (ps.map PkC.abs) s.1 ∧ Pks wr s.2.1 s.2.2.1 s.2.2.2 ∧ Pks wr B1 c1 ps ∧ Own wr 3 1 (some ⟨go, 0, none⟩) cs.length cs.length (List.replicate cs.length [Value.int .i64 0]).flatten ∧ Frm [] w wr ∧ ∀ p ∈ s.2.2.2, ∀ x ∈ ob p.A, x ≠ go) (fun s => m - 1 - s.1) (0, B1, c1, ps) (js5 rfl rfl rfl rfl rfl) ⟨jo, rfl, hP2, hP2, ho2, hfr2, hpg0⟩ ?_
 rintro ⟨k, Bk, ck, lst⟩ wr ⟨hk, hlv, hPk, hPo, hoo, hfr, hpg⟩
 dsimp only at hk hlv hPk hPo hoo hfr hpg ⊢
 have hlen := (rH (ps.map PkC.abs) k).1
 rw [← hlv, zl, zl] at hlen
 have hgw : go < wr.heap.size := hoo.lt go (by simp [ob])
 refine jS (jR (jb rfl rfl (Bin.lss _ _) (jO (jN (jS ?_)))))
 refine jD rfl (fun hc5 => ?_) fun hc5 => ?_
 ·
  have hbd : ∀ p ∈ lst, p.count ≤ 2305843009213693951 ∧ p.sy.length ≤ 100000 := by
   intro p hp
   have h5 : p.abs ∈ bR (ps.map PkC.abs) k := by rw [← hlv]; exact zeo hp
   have h6 : p.count ≤ _ := qK3 h5
   have h7 : p.sy.length ≤ _ := qK4 h5
   have h8 := tF (ps.map PkC.abs) k
   have h9 := mI (ps.map PkC.abs) k
   have h10 : (k + 1) * fJ (ps.map PkC.abs) ≤ 16 * (320 * 2147483647) := zfl jo htC
   have h11 : (k + 1) * dU (ps.map PkC.abs) ≤ 16 * 320 := zfl jo htS
   exact ⟨jo, jo⟩
  refine jQ (jN (jv5 6 7 8 55 56 ?_))
  refine jS (jB (jR (jm rfl (jM ?_))))
  refine Ops.cl (jE2 Tryz.call97) (qWq B1 Bk c1 ck ps lst _ hPo.1.rd hPo.2 hPk.1.rd hPk.2 hPo.1.le jo jo hbd (fun x => x ≠ go) (fun x hx => jo) hpg0) rfl ?_
  rintro e w5 ⟨B5, c5, qs, rfl, hP5, hq5, hf5, hu5, hg5⟩
  refine ⟨_, rfl, ?_⟩
  refine ja rfl (jO ?_)
  refine qJ (jN ?_)
  refine jv5 6 7 8 55 56 ?_
  refine jR (jb rfl rfl (Bin.add_i64 _ 1 jo) (jm rfl (jO ?_)))
  refine jN ⟨(k + 1, B5, c5, qs), (js5 rfl rfl rfl rfl rfl), ?_, ?_⟩
  · exact ⟨by dsimp only; omega, by dsimp only; rw [hq5, hlv]; rfl, hP5, hPo.frm hf5 jp (fun _ _ _ _ => jp), hoo.frm hf5 jp, hfr.own hf5 jp, hg5⟩
  first | omega | (dsimp only; omega)
 have hkm : k = m - 1 := jo
 subst hkm
 have hen := pR (ps.map PkC.abs) (m - 1) (by rw [zl, show m - 1 + 1 = m by omega]; omega)
 rw [← hlv, zl, zl] at hen
 have hcc := hPk.1.le
 rw [← lU] at hoo
 have hall : ∀ i, i ≤ lst.length → ((lst.take i).flatMap PkC.sy).length ≤ 16 * 320 := by
  intro i _
  have h8 := mI (ps.map PkC.abs) (m - 1)
  have h9 : (m - 1 + 1) * dU (ps.map PkC.abs) ≤ 16 * 320 := zfl jo htS
  have h10 := qZr (lst.map PkC.abs) i
  rw [← vA, ← zdf, zhl, hlv] at h10
  exact zn h10 (zn h8 h9)
 have hsyl : ∀ p ∈ lst, ∀ s ∈ p.sy, s < cs.length := fun p hp s hs => hsy (m - 1) p.abs (by rw [← hlv]; exact zeo hp) s hs
 refine jX ?_
 refine qZ (qZ (qW ?_))
 refine jN (jv3 6 7 8 ?_)
 refine jS (jS (jR (jm rfl (jm rfl (je (Run.lenS rfl zae) (jb rfl rfl (Bin.mul_i64 2 _ jo) (jb rfl rfl (Bin.sub_i64 _ 2 jo jo) (je (Run.sliceS 0 _ rfl zae zy evB.none_ (evB.some_ rfl) jo jo) ?_))))))))
 rw [qZo, zcf, zcf]
 refine je (Run.lenS rfl zae) ?_
 refine jx .i64 0 ?_
 refine jO (jN (jv4 7 67 68 69 ?_))
 refine jB ?_
 refine VC.loop (σ := Nat) (fun s => [(7, .slice (some ⟨go, 0, none⟩) cs.length cs.length), (67, .slice Bk (2 * ps.length - 2) ck), (68, .int .i64 ((2 * ps.length - 2 : Nat) : Int)), (69, .int .i64 ((s : Nat) : Int))]) (fun s wr => s ≤ 2 * ps.length - 2 ∧ Pks wr Bk ck lst ∧ Own wr 3 1 (some ⟨go, 0, none⟩) cs.length cs.length (NI (dN cs.length ((lst.take s).flatMap PkC.sy))) ∧ Frm [] w wr) (fun s => 2 * ps.length - 2 - s) 0 (js4 rfl rfl rfl rfl) ⟨jo, hPk, by simpa using hoo, hfr⟩ ?_
 clear hPk hoo hfr hgw
 rintro i w5 ⟨hi, hPk, hoo, hfr⟩
 refine jS (jR (jb rfl rfl (Bin.lssN _ _) (jO (jN (jS ?_)))))
 refine jD rfl (fun hc6 => ?_) fun hc6 => ?_
 ·
  have hil : i < lst.length := jo
  obtain ⟨ad, rfl, hea⟩ := hPk.1.rd.elem (k := i) hil
  rw [cI PkC.cells 2 PkC.cells_len lst i hil] at hea
  have hpok := hPk.2 lst[i] (zt _)
  have hpgi := hpg lst[i] (zt _)
  have hpsy := hsyl lst[i] (zt _)
  have htk : lst.take (i + 1) = lst.take i ++ [lst[i]] := by rw [zah, zb hil]; rfl
  have hfl := hall (i + 1) hil
  rw [htk, zw] at hfl
  simp only [zq, List.flatMap_nil, zdd, za] at hfl
  generalize lst[i] = p at *
  refine jQ (jN (jv4 7 67 68 69 ?_))
  refine jS (jB (jS (jR (je (Run.indexS _ rfl rfl zae zy jo) (je (Run.loadA rfl zel zy hea (by first | rfl | (simp; done))) ?_)))))
  refine Ops.m (qV.alloc gY) rfl ?_
  rintro _ w6 ⟨rfl, hF6⟩
  refine Ops.st (qR.storeA rfl rfl zy hF6.blk rfl p.one) ?_
  rintro w7 ⟨hb7, hf7, hs7⟩
  have h74 : w7.cell? ((⟨w5.heap.size, 0, none⟩ : Addr).add 1) = some (.slice p.A p.sy.length p.c) := by rw [fY, hb7.cell]; rfl
  have hf67 : Frm [] w5 w7 := hF6.frm.own hf7 jp
  refine jO (jN (jv5 7 10 67 68 69 ?_))
  refine jS (jR (jf rfl zbh rfl zar (jl rfl zbq h74 (je (Run.lenS rfl zd) ?_))))
  refine jx .i64 0 ?_
  refine jO (jN (jv7 7 67 68 69 74 75 76 ?_))
  refine jB ?_
  refine VC.loop (σ := Nat) (fun s => [(7, .slice (some ⟨go, 0, none⟩) cs.length cs.length), (67, .slice (some ad) (2 * ps.length - 2) ck), (68, .int .i64 ((2 * ps.length - 2 : Nat) : Int)), (69, .int .i64 ((i : Nat) : Int)), (74, .slice p.A p.sy.length p.c), (75, .int .i64 ((p.sy.length : Nat) : Int)), (76, .int .i64 ((s : Nat) : Int))]) (fun s wr => s ≤ p.sy.length ∧ Pks wr (some ad) ck lst ∧ fP wr p ∧ Own wr 3 1 (some ⟨go, 0, none⟩) cs.length cs.length (NI (dN cs.length ((lst.take i).flatMap PkC.sy ++ p.sy.take s))) ∧ Frm [] w wr) (fun s => p.sy.length - s) 0 (js7 rfl rfl rfl rfl rfl rfl rfl) ⟨jo, hPk.frm hf67 jp (fun _ _ _ _ => jp), hpok.frm hf67 jp, by simpa using hoo.frm hf67 jp, hfr.own hf67 jp⟩ ?_
  clear hPk hoo hfr hpok hea
  rintro j w8 ⟨hj, hPk, hpok, hoo, hfr⟩
  refine jS (jR (jb rfl rfl (Bin.lssN _ _) (jO (jN (jS ?_)))))
  refine jD rfl (fun hc7 => ?_) fun hc7 => ?_
  ·
   obtain ⟨ai, hai, hci⟩ := rV (Own.rd hpok) hc7
   have hsn := hpsy p.sy[j] (zt _)
   have hct := qNt hoo hsn
   have htk2 : p.sy.take (j + 1) = p.sy.take j ++ [p.sy[j]] := by rw [zah, zb hc7]; rfl
   have hcl2 : ((lst.take i).flatMap PkC.sy ++ p.sy.take j).count p.sy[j] ≤ 5120 := by
    refine zn zeg ?_
    rw [za, zi]
    omega
   have hsl : p.A = some ai := hai
   generalize p.sy[j] = sj at *
   rw [hsl]
   refine jQ (jN (jv7 7 67 68 69 74 75 76 ?_))
   refine jS (jB (jS (jR (je (Run.index1 _ rfl rfl zd zc jo) (jl rfl zg hci (ja rfl (jO (jN (jv8 7 12 67 68 69 74 75 76 ?_)))))))))
   refine jR (jm rfl (jm rfl (je (Run.index1 _ rfl rfl zd zc jo) (jl rfl zg hct (jb rfl rfl (Bin.add_i64 _ 1 jo) (je (Run.index1 _ rfl rfl zd zc jo) ?_))))))
   refine Ops.st (qR.storeOwn sj rfl rfl zc hoo rfl jo rfl) ?_
   rintro w9 ⟨ho9, hf9, hs9⟩
   rw [← vF _ hsn, zj, ← htk2] at ho9
   refine jO ?_
   refine qJ (jN ?_)
   refine jv7 7 67 68 69 74 75 76 ?_
   refine jR (jb rfl rfl (Bin.add_i64 _ 1 jo) (jm rfl (jO ?_)))
   refine jN ⟨(j + 1), (js7 rfl rfl rfl rfl (by rw [← hsl]; rfl) rfl rfl), ?_, ?_⟩
   ·
    refine ⟨hc7, hPk.frm hf9 (hPk.1.ne_own hoo jd) (fun q hq x hx => by simp [ob]; exact hpg q hq x hx), hpok.frm hf9 (fun x hx => by simp [ob]; exact hpgi x hx), ho9, hfr.own hf9 (fun x hx => ?_)⟩
    simp [ob] at hx
    omega
   first | omega | (dsimp only; omega)
  have hjl : j = p.sy.length := jo
  subst hjl
  rw [zas] at hoo
  refine jX ?_
  refine qZ (qZ (qW ?_))
  refine qJ (jN ?_)
  refine jv4 7 67 68 69 ?_
  refine jR (jb rfl rfl (Bin.add_i64 _ 1 jo) (jm rfl (jO ?_)))
  refine jN ⟨(i + 1), (js4 rfl rfl rfl rfl), ?_, ?_⟩
  ·
   refine ⟨jo, hPk, ?_, hfr⟩
   rw [htk, zw]
   simpa using hoo
  first | omega | (dsimp only; omega)
 have hin2 : i = 2 * ps.length - 2 := jo
 subst hin2
 refine jX ?_
 refine qZ (qZ (qW ?_))
 refine jN (jv1 7 ?_)
 refine jS (jR (jm rfl (ja rfl (jz 0 (jO (jN (jv2 4 5 ?_)))))))
 refine jT ?_
 refine cY rfl rfl ?_
 refine ⟨hfr, ?_⟩
 rw [if_neg hc1]
 refine ⟨_, hco, ?_⟩
 rw [zac, zl, if_neg hc2n]
 refine ⟨_, _, rfl, ?_, fun x hx => ?_⟩
 ·
  have h5 : cF cs.length m (ps.map PkC.abs) = dN cs.length ((lst.take (2 * ps.length - 2)).flatMap PkC.sy) := by
   unfold cF
   rw [if_neg (by rw [zl]; omega), lB, ← hlv, zl, ← zdf, zhl]
   rfl
  rw [h5]
  exact hoo
 simp [ob] at hx
 omega
end
section
open Go.RowKit
theorem qK7 {cs : List Nat} {a b : List (Nat × List Nat)} (ha : dH cs a) (hb : dH cs b) : a = b := by
 have hp : a.Perm b := ha.1.trans hb.1.symm
 have : ∀ (a b : List (Nat × List Nat)), a.Perm b → a.Pairwise (fun a b => eE a < eE b) → b.Pairwise (fun a b => eE a < eE b) → a = b := by
  intro a
  induction a with
  | nil => intro b h _ _; exact (List.Perm.nil_eq h)
  | cons x r ih =>
   intro b h h1 h2
   cases b with
   | nil => exact absurd h.length_eq jp
   | cons y t =>
    have hxy : x = y := by
     rcases zbv.1 (h.mem_iff.1 (zcc : x ∈ x :: r)) with h3 | h3
     · exact h3
     rcases zbv.1 (h.symm.mem_iff.1 (zcc : y ∈ y :: t)) with h4 | h4
     · exact h4.symm
     have h5 := (List.pairwise_cons.1 h1).1 _ h4
     have h6 := (List.pairwise_cons.1 h2).1 _ h3
     omega
    subst hxy
    rw [ih t (List.Perm.cons_inv h) (List.pairwise_cons.1 h1).2 (List.pairwise_cons.1 h2).2]
 exact this a b hp ha.2 hb.2
def okC (a b : List Int) (i : Nat) : Prop := (mA a ∧ a.length = b.length) ∧ ∀ x ∈ b.take i, 0 ≤ x ∧ x ≤ 15
instance (a b : List Int) (i : Nat) : Decidable (okC a b i) := by unfold okC; infer_instance
end
section
open Go.RowKit
def kyC (cs : List Nat) (k : Nat) : Nat := cs.getD k 0 * 1024 + k
def Rem (cs js : List Nat) (k : Nat) : Prop := 0 < cs.getD k 0 ∧ k ∉ js
def pS (cs js : List Nat) (i : Nat) : Option Nat → Prop
 | none => ∀ k, k < i → ¬ Rem cs js k
 | some b => b < i ∧ Rem cs js b ∧ ∀ k, k < i → Rem cs js k → kyC cs b ≤ kyC cs k
def lV : Option Nat → Int
 | none => -1
 | some k => (k : Int)
theorem qBt {cs : List Nat} {b k i : Nat} (h2 : kyC cs b ≤ kyC cs k) (h3 : cs.getD i 0 < cs.getD b 0) (hi : i < 1024) : kyC cs i ≤ kyC cs k := by
 unfold kyC at *
 omega
theorem qSb {cs js : List Nat} {i : Nat} {b : Option Nat} (h : pS cs js i b) (hr : Rem cs js i) (hb : lV b < 0 ∨ cs.getD i 0 < cs.getD (b.getD 0) 0) (hi : i < 1024) : pS cs js (i + 1) (some i) := by
 refine ⟨jo, hr, fun k hk hrk => ?_⟩
 by_cases e : k = i
 · subst e; exact zk _
 cases b with
 | none => exact absurd hrk (h k jo)
 | some b =>
  have h2 := h.2.2 k jo hrk
  have h3 : cs.getD i 0 < cs.getD b 0 := hb.resolve_left (by simp only [lV]; omega)
  exact qBt h2 h3 hi
theorem qUd {cs js : List Nat} {i : Nat} {b : Option Nat} (h : pS cs js i b) (hn : ¬ (0 < cs.getD i 0 ∧ i ∉ js ∧ (lV b < 0 ∨ cs.getD i 0 < cs.getD (b.getD 0) 0))) : pS cs js (i + 1) b := by
 cases b with
 | none =>
  intro k hk hrk
  by_cases e : k = i
  · subst e; exact hn ⟨hrk.1, hrk.2, .inl (by simp [lV])⟩
  exact h k jo hrk
 | some b =>
  refine ⟨by have := h.1; omega, h.2.1, fun k hk hrk => ?_⟩
  by_cases e : k = i
  ·
   subst e
   have h3 : ¬ cs.getD k 0 < cs.getD b 0 := fun h4 => hn ⟨hrk.1, hrk.2, .inr h4⟩
   have := h.1
   unfold kyC
   omega
  exact h.2.2 k jo hrk
structure JsOk (cs js : List Nat) : Prop where
 nodup : js.Nodup
 mem : ∀ k ∈ js, k < cs.length ∧ 0 < cs.getD k 0
 rise : js.Pairwise fun a b => kyC cs a < kyC cs b
 left : ∀ j ∈ js, ∀ k, k < cs.length → Rem cs js k → kyC cs j < kyC cs k
theorem vI : ∀ (n : Nat) (l : List Nat), l.Nodup → (∀ x ∈ l, x < n) → l.length ≤ n
 | 0, l, _, h => by
  cases l with
  | nil => simp
  | cons a r => exact absurd (h a jp) jo
 | n + 1, l, hd, h => by
  by_cases hn : n ∈ l
  ·
   have h1 := vI n (l.erase n) (hd.erase n) (fun x hx => by
    have h2 := h x (List.mem_of_mem_erase hx)
    have h3 : x ≠ n := fun e => by subst e; exact (hd.not_mem_erase) hx
    omega)
   rw [List.length_erase_of_mem hn] at h1
   omega
  have := vI n l hd (fun x hx => by
   have h2 := h x hx
   have h3 : x ≠ n := fun e => hn (by rw [← e]; exact hx)
   omega)
  omega
theorem JsOk.len {cs js : List Nat} (h : JsOk cs js) : js.length ≤ cs.length := vI _ _ h.nodup (fun k hk => (h.mem k hk).1)
theorem JsOk.nil (cs : List Nat) : JsOk cs [] := ⟨List.nodup_nil, jp, .nil, jp⟩
theorem JsOk.add {cs js : List Nat} {b : Nat} (h : JsOk cs js) (hb : pS cs js cs.length (some b)) (hn : cs.length ≤ 320) : JsOk cs (js ++ [b]) := by
 obtain ⟨h1, h2, h3⟩ := hb
 refine ⟨?_, ?_, ?_, ?_⟩
 ·
  rw [List.nodup_append]
  refine ⟨h.nodup, jp, fun a ha c hc => ?_⟩
  simp at hc
  subst hc
  exact fun e => h2.2 (by rw [← e]; exact ha)
 ·
  intro k hk
  rcases List.mem_append.1 hk with hk | hk
  · exact h.mem k hk
  simp at hk; subst hk; exact ⟨h1, h2.1⟩
 ·
  rw [List.pairwise_append]
  refine ⟨h.rise, jp, fun a ha c hc => ?_⟩
  simp at hc
  subst hc
  exact h.left a ha c h1 h2
 intro j hj k hk hr
 have hr2 : Rem cs js k := ⟨hr.1, fun h4 => hr.2 (zhn _ h4)⟩
 rcases List.mem_append.1 hj with hj | hj
 · exact h.left j hj k hk hr2
 simp at hj
 subst hj
 have h5 := h3 k hk hr2
 have h6 : k ≠ j := fun e => hr.2 (by rw [e]; simp)
 unfold kyC at h5 ⊢
 omega
theorem JsOk.done {cs js : List Nat} (h : JsOk cs js) (hb : pS cs js cs.length none) : dH cs (js.map fun k => (cs.getD k 0, [k])) := by
 refine ⟨?_, ?_⟩
 ·
  unfold cP
  refine List.Perm.map _ ((List.perm_ext_iff_of_nodup h.nodup (List.Pairwise.filter _ List.nodup_range)).2 fun k => ?_)
  rw [List.mem_filter, List.mem_range]
  constructor
  · intro hk; exact ⟨(h.mem k hk).1, by simpa using (h.mem k hk).2⟩
  rintro ⟨h1, h2⟩
  exact Classical.byContradiction fun h3 => hb k h1 ⟨by simpa using h2, h3⟩
 rw [List.pairwise_map]
 exact h.rise.imp (fun {a b} hab => by simpa [eE, kyC] using hab)
def mL (n : Nat) (l1 l2 : List Nat) (k : Nat) : List Nat := (List.range n).map fun j => if j < k then (l1 ++ l2).count j else l1.count j
theorem qZs (n : Nat) (l1 l2 : List Nat) : mL n l1 l2 0 = dN n l1 := by simp [mL, dN]
theorem qK8 (n : Nat) (l1 l2 : List Nat) : mL n l1 l2 n = dN n (l1 ++ l2) := by
 unfold mL dN
 apply zde
 intro j hj
 rw [if_pos (List.mem_range.1 hj)]
theorem qZt (n : Nat) (l1 l2 : List Nat) (k : Nat) (h : k < n) : NI (mL n l1 l2 (k + 1)) = (NI (mL n l1 l2 k)).set k (.int .i64 ((l1.count k + l2.count k : Nat) : Int)) := by
 apply zao
 intro j
 by_cases hj : j = k
 ·
  subst hj
  rw [zdk (by simp [NI, mL, h])]
  simp [NI, mL, h]
 rw [zef (Ne.symm hj)]
 simp only [NI, mL, zbd]
 by_cases hn : j < n
 · simp [hn, show j < k + 1 ↔ j < k by omega]
 simp [hn]
theorem qNu {w : World} {e n c k : Nat} {ad : Addr} {l1 l2 : List Nat} (h : Own w e 1 (some ad) n c (NI (mL n l1 l2 k))) (hk : k < n) : w.cell? (ad.add k) = some (.int .i64 ((l1.count k : Nat) : Int)) := by
 obtain ⟨ad', u, hA, hu, hc⟩ := h.rd.at1 hk
 injection hA with hA
 subst hA
 rw [hc]
 simp [NI, mL, hk] at hu
 rw [← hu]
def gA : List (Nat × List Nat) → Nat × List Nat → List (Nat × List Nat)
 | [], p => [p]
 | c :: cs, p => if ∀ x ∈ c :: cs, p.1 < x.1 then p :: c :: cs else c :: gA cs p
theorem qK9 {Y : List (Nat × List Nat)} {p : Nat × List Nat} (h : ∀ x ∈ Y, p.1 < x.1) : gA Y p = p :: Y := by
 cases Y with
 | nil => rfl
 | cons c cs => rw [gA, if_pos h]
theorem qUe {X Y : List (Nat × List Nat)} {p : Nat × List Nat} (hY : ∀ x ∈ Y, p.1 < x.1) (hX : X = [] ∨ ∃ x, X.getLast? = some x ∧ x.1 ≤ p.1) : gA (X ++ Y) p = X ++ p :: Y := by
 induction X with
 | nil => exact qK9 hY
 | cons c r ih =>
  obtain ⟨x, hx, hxp⟩ := hX.resolve_left jp
  have hm : x ∈ c :: r := List.mem_of_getLast? hx
  rw [zcr, gA, if_neg (fun h => by have := h x (zhn Y hm); omega), ih ?_]
  · rfl
  cases r with
  | nil => exact .inl rfl
  | cons d t => exact .inr ⟨x, by rw [← hx]; simp [List.getLast?_cons_cons], hxp⟩
theorem qSc {X Y : List (Nat × List Nat)} {q : Nat × List Nat} (h : ∀ x ∈ X, x.1 ≤ q.1) : gA (X ++ Y) q = X ++ gA Y q := by
 induction X with
 | nil => rfl
 | cons c r ih =>
  rw [zcr, gA, if_neg (fun h2 => by have := h2 c jp; have := h c jp; omega), ih (fun x hx => h x (by simp [hx]))]
  rfl
theorem yL {X : List (Nat × List Nat)} (qs : List (Nat × List Nat)) : ∀ Y, (∀ x ∈ X, ∀ q ∈ qs, x.1 ≤ q.1) → qs.foldl gA (X ++ Y) = X ++ qs.foldl gA Y := by
 induction qs with
 | nil => intro Y _; rfl
 | cons q r ih =>
  intro Y h
  rw [zdn, qSc (fun x hx => h x hx q jp), ih _ (fun x hx s hs => h x hx s (by simp [hs]))]
  rfl
def kB (l : List (Nat × List Nat)) : Prop := l.Pairwise fun a b => a.1 ≤ b.1
theorem rM : ∀ (ps cs : List (Nat × List Nat)), kB cs → kB ps → ps.foldl gA cs = bK cs ps
 | [], cs, _, _ => by cases cs <;> simp [bK]
 | p :: ps, [], _, hp => by
  have h1 := List.pairwise_cons.1 hp
  rw [bK, zdn, show gA [] p = [p] ++ [] from rfl, yL ps [] (fun x hx q hq => by simp at hx; subst hx; exact h1.1 q hq), rM ps [] .nil h1.2]
  simp [bK]
 | p :: ps, c :: cs, hc, hp => by
  have h1 := List.pairwise_cons.1 hp
  have h2 := List.pairwise_cons.1 hc
  rw [bK]
  by_cases h : c.1 ≤ p.1
  ·
   rw [if_pos h, show c :: cs = [c] ++ cs from rfl, yL (p :: ps) cs (fun x hx q hq => by
    simp at hx
    subst hx
    rcases zbv.1 hq with rfl | hq
    · exact h
    exact zn h (h1.1 q hq)), rM (p :: ps) cs h2.2 hp]
   rfl
  rw [if_neg h, zdn, qK9 (fun x hx => by
   rcases zbv.1 hx with rfl | hx
   · omega
   have := h2.1 x hx; omega), show p :: c :: cs = [p] ++ (c :: cs) from rfl, yL ps (c :: cs) (fun x hx q hq => by simp at hx; subst hx; exact h1.1 q hq), rM ps (c :: cs) hc h1.2]
  rfl
 termination_by ps cs => ps.length + cs.length
theorem vL : ∀ (a b : List (Nat × List Nat)) (x : Nat × List Nat), x ∈ bK a b → x ∈ a ∨ x ∈ b
 | [], b, x, h => by simp [bK] at h; exact .inr h
 | c :: cs, [], x, h => by simp only [bK] at h; exact .inl h
 | c :: cs, p :: ps, x, h => by
  rw [bK] at h
  split at h
  ·
   rcases zbv.1 h with rfl | h
   · exact .inl jp
   rcases vL cs (p :: ps) x h with h | h
   · exact .inl (by simp [h])
   exact .inr h
  rcases zbv.1 h with rfl | h
  · exact .inr jp
  rcases vL (c :: cs) ps x h with h | h
  · exact .inl h
  exact .inr (by simp [h])
 termination_by a b => a.length + b.length
theorem qZu : ∀ (l : List (Nat × List Nat)) (x : Nat × List Nat), x ∈ bZ l → ∃ u v, u ∈ l ∧ v ∈ l ∧ x = lK u v
 | [], x, h => by simp [bZ] at h
 | [a], x, h => by simp [bZ] at h
 | a :: b :: r, x, h => by
  rw [bZ] at h
  rcases zbv.1 h with rfl | h
  · exact ⟨a, b, jp, jp, rfl⟩
  obtain ⟨u, v, hu, hv, rfl⟩ := qZu r x h
  exact ⟨u, v, by simp [hu], by simp [hv], rfl⟩
theorem tA : ∀ (a b : List (Nat × List Nat)), kB a → kB b → kB (bK a b)
 | [], b, _, hb => by simpa [bK] using hb
 | c :: cs, [], ha, _ => by simpa [bK] using ha
 | c :: cs, p :: ps, ha, hb => by
  have h1 := List.pairwise_cons.1 ha
  have h2 := List.pairwise_cons.1 hb
  have hm : ∀ (a b : List (Nat × List Nat)) x, x ∈ bK a b → x ∈ a ∨ x ∈ b := vL
  rw [bK]
  split
  ·
   rename_i h
   refine List.pairwise_cons.2 ⟨fun x hx => ?_, tA cs (p :: ps) h1.2 hb⟩
   rcases hm _ _ x hx with h3 | h3
   · exact h1.1 x h3
   rcases zbv.1 h3 with rfl | h3
   · exact h
   exact zn h (h2.1 x h3)
  rename_i h
  refine List.pairwise_cons.2 ⟨fun x hx => ?_, tA (c :: cs) ps ha h2.2⟩
  rcases hm _ _ x hx with h3 | h3
  ·
   rcases zbv.1 h3 with rfl | h3
   · omega
   have := h1.1 x h3; omega
  exact h2.1 x h3
 termination_by a b => a.length + b.length
theorem oD : ∀ (l : List (Nat × List Nat)), kB l → kB (bZ l)
 | [], _ => .nil
 | [a], _ => .nil
 | a :: b :: r, h => by
  have h1 := List.pairwise_cons.1 h
  have h2 := List.pairwise_cons.1 h1.2
  rw [bZ]
  refine List.pairwise_cons.2 ⟨fun x hx => ?_, oD r h2.2⟩
  obtain ⟨u, v, hu, hv, rfl⟩ := qZu r x hx
  have := h1.1 u (by simp [hu])
  have := h2.1 v hv
  simp only [lK]
  omega
theorem qQk {cs : List Nat} {l : List (Nat × List Nat)} (h : dH cs l) (hn : cs.length ≤ 320) : kB l := by
 refine h.2.imp_of_mem (fun {a b} ha hb hab => ?_)
 obtain ⟨k, hk, _, rfl⟩ := fK (h.1.mem_iff.1 ha)
 obtain ⟨j, hj, _, rfl⟩ := fK (h.1.mem_iff.1 hb)
 simp only [eE, List.headD_cons] at hab ⊢
 omega
theorem tI (cs : List (Nat × List Nat)) (h : kB cs) : ∀ k, kB (bR cs k)
 | 0 => h
 | k + 1 => tA _ _ h (oD _ (tI cs h k))
end
section
open Go.RowKit
def RC (n : Nat) (p : PkC) : List Value := [.int .i64 ((p.count : Nat) : Int), .slice p.A n p.c]
theorem pT (n : Nat) (p : PkC) : (RC n p).length = 2 := rfl
theorem pU (n : Nat) (p : PkC) : ∀ v ∈ RC n p, v.oneCell' = true := by
 intro v hv
 simp only [RC, zbv, zbm, or_false] at hv
 rcases hv with rfl | rfl <;> rfl
def kV (w : World) (n : Nat) (p : PkC) : Prop := Own w 3 1 p.A n p.c (NI (dN n p.sy))
theorem kV.frm {w w' : World} {n : Nat} {p : PkC} {S : List Nat} (h : kV w n p) (k : Frm S w w') (hS : ∀ x ∈ ob p.A, x ∉ S) : kV w' n p := Own.frm h k hS
def Rps (w : World) (n : Nat) (A : Option Addr) (c : Nat) (ps : List PkC) : Prop := Own w 186 2 A ps.length c (ps.flatMap (RC n)) ∧ ∀ p ∈ ps, kV w n p
theorem Rps.frm {w w' : World} {n : Nat} {A : Option Addr} {c : Nat} {ps : List PkC} {S : List Nat} (h : Rps w n A c ps) (k : Frm S w w') (hA : ∀ x ∈ ob A, x ∉ S) (hS : ∀ p ∈ ps, ∀ x ∈ ob p.A, x ∉ S) : Rps w' n A c ps :=
 ⟨h.1.frm k hA, fun p hp => (h.2 p hp).frm k (hS p hp)⟩
theorem Rps.ne {w : World} {n : Nat} {A : Option Addr} {c : Nat} {ps : List PkC} (h : Rps w n A c ps) : ∀ p ∈ ps, ∀ x ∈ ob p.A, x ∉ ob A := fun p hp => Own.ne_own (h.2 p hp) h.1 jd
def kC (n : Nat) (js : List Nat) : List Value := (List.range n).map fun k => Value.bool (decide (k ∈ js))
theorem qNv (n : Nat) : (List.replicate n [Value.bool false]).flatten = kC n [] := by
 have e : (List.replicate n [Value.bool false]).flatten = List.replicate n (Value.bool false) := by
  induction n with
  | zero => rfl
  | succ n ih => rw [zfk, zgy, ih]; rfl
 rw [e]
 apply zao
 intro j
 by_cases h : j < n
 · simp [kC, h]
 simp [kC, h]
theorem qHc {n s : Nat} (js : List Nat) (h : s < n) : (kC n js).set s (.bool true) = kC n (js ++ [s]) := by
 apply zao
 intro j
 by_cases hj : j = s
 ·
  subst hj
  rw [zdk (by simp [kC, h])]
  simp [kC, h]
 rw [zef (Ne.symm hj)]
 by_cases hn : j < n
 · simp [kC, hn, hj]
 simp [kC, hn]
theorem qHd {w : World} {e n c k : Nat} {A : Option Addr} {js : List Nat} (h : Own w e 1 A n c (kC n js)) (hk : k < n) : ∃ ad, A = some ad ∧ w.cell? (ad.add k) = some (.bool (decide (k ∈ js))) := by
 obtain ⟨ad', u, hA, hu, hc⟩ := h.rd.at1 hk
 refine ⟨ad', hA, ?_⟩
 rw [hc]
 simp [kC, hk] at hu
 rw [← hu]
theorem kV.at1 {w : World} {n k : Nat} {p : PkC} (h : kV w n p) (hk : k < n) : ∃ ad, p.A = some ad ∧ w.cell? (ad.add k) = some (.int .i64 ((p.sy.count k : Nat) : Int)) := by
 obtain ⟨ad, u, hA, hu, hc⟩ := (Own.rd h).at1 hk
 refine ⟨ad, hA, ?_⟩
 rw [hc]
 simp [NI, dN, hk] at hu
 rw [← hu]
theorem qVa (n : Nat) (a b : PkC) (w : World) (hn : n ≤ 320) (ha : kV w n a) (hb : kV w n b) (hc : a.count + b.count ≤ 9223372036854775807) (hl : a.sy.length + b.sy.length ≤ 1000000) :
  Calls Tryz.prog 130 #[.agg (RC n a).toArray, .agg (RC n b).toArray] w fun e w' => ∃ A c, e = .returned (.agg (RC n ⟨a.count + b.count, A, c, a.sy ++ b.sy⟩).toArray) ∧ kV w' n ⟨a.count + b.count, A, c, a.sy ++ b.sy⟩ ∧ Frm [] w w' ∧ ∀ x ∈ ob A, w.heap.size ≤ x := by
 have hla := Own.lt ha
 have hlb := Own.lt hb
 obtain ⟨ac, aA, acp, asy⟩ := a
 obtain ⟨bc, bA, bcp, bsy⟩ := b
 dsimp only at hc hl hla hlb ⊢
 refine VC.calls (nt := 38) (res := #[.cell 4 186]) Tryz.func130 rfl Tryz.ntmps130 Tryz.results130 rfl ?_
 refine jS (jR ?_)
 refine Ops.m (qV.box rfl) rfl ?_
 rintro _ w1 ⟨rfl, hF1⟩
 have hb1 : Blk w1 w.heap.size 186 (RC n ⟨ac, aA, acp, asy⟩).toArray := hF1.blk
 refine Ops.m (qV.box rfl) rfl ?_
 rintro _ w2 ⟨rfl, hF2⟩
 have hb2 : Blk w2 w1.heap.size 186 (RC n ⟨bc, bA, bcp, bsy⟩).toArray := hF2.blk
 have hb12 := hb1.frm hF2.frm jp
 refine Ops.m (qV.alloc nG) rfl ?_
 rintro _ w3 ⟨rfl, hF3⟩
 have hb3 := hF3.blk
 have hb13 := hb12.frm hF3.frm jp
 have hb23 := hb2.frm hF3.frm jp
 have hfr3 := (hF1.frm.own hF2.frm jp).own hF3.frm jp
 have l1 := hb1.lt
 have l2 := hb2.lt
 have l3 := hb3.lt
 have l0 := hF1.frm.size
 generalize hg1 : w.heap.size = g1 at hb13 l1 l0 hla hlb ⊢
 generalize hg2 : w1.heap.size = g2 at *
 generalize hg3 : w2.heap.size = g3 at *
 refine jO (jN (jv3 2 3 4 ?_))
 refine jS (jR (jf rfl zdx rfl zar (jl rfl zbq (hb13.cell 1) (je (Run.lenS rfl zd) ?_))))
 refine Ops.m (qV.makeS rfl rfl zd (dX) rfl jo jo) rfl ?_
 rintro _ w4 ⟨rfl, ho4, hf4, hs4⟩
 have ha4 := ha.frm (hfr3.own hf4 jp) jp
 have hbb4 := hb.frm (hfr3.own hf4 jp) jp
 have hb14 := hb13.frm hf4 jp
 have hb24 := hb23.frm hf4 jp
 have hb34 := hb3.frm hf4 jp
 have hfr4 := hfr3.own hf4 jp
 generalize hg4 : w3.heap.size = g4 at *
 have ho4 : Own w4 3 1 (some ⟨g4, 0, none⟩) n n (NI (mL n [] (asy ++ bsy) 0)) := by rw [qZs, lU]; exact ho4
 refine ja rfl (jO (jN (jv4 2 3 4 5 ?_)))
 refine jS (jS (jR (jz 0 (jO (jN (jB ?_))))))
 refine VC.loop (σ := Nat) (fun s => [(2, .pointer (some ⟨g1, 0, none⟩)), (3, .pointer (some ⟨g2, 0, none⟩)), (4, .pointer (some ⟨g3, 0, none⟩)), (5, .slice (some ⟨g4, 0, none⟩) n n), (6, .int .i64 ((s : Nat) : Int))]) (fun s wr => s ≤ n ∧ Blk wr g1 186 (RC n ⟨ac, aA, acp, asy⟩).toArray ∧ Blk wr g2 186 (RC n ⟨bc, bA, bcp, bsy⟩).toArray ∧ Blk wr g3 186 (Value.agg #[.int .i64 0, .slice none 0 0]).cells ∧ Own wr 3 1 (some ⟨g4, 0, none⟩) n n (NI (mL n [] (asy ++ bsy) s)) ∧ kV wr n ⟨ac, aA, acp, asy⟩ ∧ kV wr n ⟨bc, bA, bcp, bsy⟩ ∧ Frm [] w wr) (fun s => n - s) 0 (js5 rfl rfl rfl rfl rfl) ⟨jo, hb14, hb24, hb34, ho4, ha4, hbb4, hfr4⟩ ?_
 rintro i wr ⟨hi, hb1r, hb2r, hb3r, hor, har, hbr, hfr⟩
 have hd := qQ.drew wr
 refine jS (jS (jR (jm rfl (jm rfl (je (Run.lenS rfl zd) (jb rfl rfl (Bin.lssN _ _) (jO (jN (jv6 2 3 4 5 6 14 ?_)))))))))
 refine jD rfl (fun hc1 => ?_) fun hc1 => ?_
 ·
  obtain ⟨ad, hadA, hca⟩ := (har.frm hd.frm jp).at1 hc1
  obtain ⟨ad2, hadB, hcb⟩ := (hbr.frm hd.frm jp).at1 hc1
  dsimp only at hadA hadB hca hcb
  subst hadA hadB
  have hqa : asy.count i ≤ asy.length := zeg
  have hqb : bsy.count i ≤ bsy.length := zeg
  refine jQ (jN (jv5 2 3 4 5 6 ?_))
  refine jS (jB ?_)
  refine VC.tail 14 jK jK ?_
  simp only [zag, zdt, zdo, zby]
  refine qM ?_
  refine qM ?_
  refine qE (Run.fieldAddr rfl zdx rfl zar jd) ?_
  refine qE (Run.load rfl zbq ((hb1r.drawn hd).cell 1)) ?_
  refine qM ?_
  refine qE (Run.index1 _ rfl rfl zd zc jo) ?_
  refine qE (Run.load rfl zg hca) ?_
  refine qE (Run.fieldAddr rfl zdx rfl zar jd) ?_
  refine qE (Run.load rfl zbq ((hb2r.drawn hd).cell 1)) ?_
  refine qM ?_
  refine qE (Run.index1 _ rfl rfl zd zc jo) ?_
  refine qE (Run.load rfl zg hcb) ?_
  refine qE (Run.bin rfl rfl (Bin.add_i64 _ _ jo)) ?_
  refine qE (Run.index1 _ rfl rfl zd zc jo) ?_
  refine qH.nil ?_
  refine Ops.st (qR.storeOwn i rfl rfl zc (hor.drawn hd) rfl jo rfl) ?_
  rintro w5 ⟨ho5, hf5, hs5⟩
  have hf5w := hfr.drawn hd
  have ne1 : g1 ∉ ob (some ⟨g4, 0, none⟩) := hor.ne_blk hb1r jd
  have ne2 : g2 ∉ ob (some ⟨g4, 0, none⟩) := hor.ne_blk hb2r jd
  have ne3 : g3 ∉ ob (some ⟨g4, 0, none⟩) := hor.ne_blk hb3r jd
  have nea : ∀ x ∈ ob (some ad), x ∉ ob (some ⟨g4, 0, none⟩) := fun x hx => by have := hla x hx; simp [ob]; omega
  have neb : ∀ x ∈ ob (some ad2), x ∉ ob (some ⟨g4, 0, none⟩) := fun x hx => by have := hlb x hx; simp [ob]; omega
  refine jO ?_
  refine qJ (jN ?_)
  refine jv5 2 3 4 5 6 ?_
  refine jR (jm rfl (jb rfl rfl (Bin.add_i64 _ 1 jo) (ja rfl (jO ?_))))
  refine jN ⟨(i + 1), (js5 rfl rfl rfl rfl rfl), ?_, ?_⟩
  ·
   refine ⟨hc1, (hb1r.drawn hd).frm hf5 ne1, (hb2r.drawn hd).frm hf5 ne2, (hb3r.drawn hd).frm hf5 ne3, ?_, (har.frm hd.frm jp).frm hf5 nea, (hbr.frm hd.frm jp).frm hf5 neb, hf5w.own hf5 (fun x hx => by simp [ob] at hx; omega)⟩
   rw [qZt _ _ _ _ hc1]
   simp only [List.count_nil, zap, zaz]
   exact ho5
  first | omega | (dsimp only; omega)
 have hin : i = n := jo
 subst hin
 rw [qK8, zbf] at hor
 refine jX ?_
 refine qZ (qZ (qW ?_))
 refine jN (jv4 2 3 4 5 ?_)
 refine jS (jR (jf rfl zdx rfl zc (jl rfl zg (hb1r.cell 0) (jf rfl zdx rfl zc (jl rfl zg (hb2r.cell 0) (jb rfl rfl (Bin.add_i64 _ _ jo) (jm rfl (je (Run.build (evs.cons rfl (evs.cons rfl evs.nil)) nG (rX).choose_spec.1 (rX).choose_spec.2 (cells := (RC i ⟨ac + bc, some ⟨g4, 0, none⟩, i, asy ++ bsy⟩).toArray) rfl) ?_))))))))
 refine Ops.st (qR.storeA rfl rfl zcz hb3r rfl (pU _ _)) ?_
 rintro w6 ⟨hb6, hf6, hs6⟩
 refine jO (jN (jv1 4 ?_))
 refine jT ?_
 refine mR ?_
 refine uR rfl Tryz.isAgg186 zcz (hb6.cells) (by first | rfl | (simp; done)) ?_
 refine eF ?_
 refine ⟨some ⟨g4, 0, none⟩, i, rfl, kV.frm (p := ⟨ac + bc, some ⟨g4, 0, none⟩, i, asy ++ bsy⟩) hor hf6 (fun x hx hx2 => ?_), hfr.own hf6 (fun x hx => by simp at hx; omega), fun x hx => by simp [ob] at hx; omega⟩
 simp at hx2
 subst hx2
 exact hor.ne_blk hb3r jd hx
theorem qXj {w : World} {A : Option Addr} {l : List Nat} {k : Nat} (h : Rd w 1 A l.length (NI l)) (hk : k < l.length) : ∃ ad, A = some ad ∧ w.cell? (ad.add k) = some (.int .i64 ((l.getD k 0 : Nat) : Int)) := by
 obtain ⟨ad, h1, h2⟩ := rV h hk
 refine ⟨ad, h1, ?_⟩
 rw [h2]
 simp [List.getD, zb hk]
theorem qJq (A0 : Option Addr) (c0 : Nat) (cs : List Nat) (w : World) (hl : cs.length ≤ 320) (hcs : ∀ x ∈ cs, x ≤ 2147483647) (hr : Rd w 1 A0 cs.length (NI cs)) :
  Calls Tryz.prog 109 #[.slice A0 cs.length c0] w fun e w' => ∃ B c ps, e = .returned (.slice B ps.length c) ∧ Rps w' cs.length B c ps ∧ dH cs (ps.map PkC.abs) ∧ Frm [] w w' := by
 refine VC.calls (nt := 66) (res := #[.tmp 2]) Tryz.func109 rfl Tryz.ntmps109 Tryz.results109 rfl ?_
 refine jS (jR (ja rfl (jO (jN (jv1 0 ?_)))))
 refine jS (jR (ja rfl (jO (jN (jS (jR (jm rfl (je (Run.lenS rfl zd) ?_))))))))
 refine Ops.m (qV.makeS rfl rfl zaw (oN) rfl jo jo) rfl ?_
 rintro _ w1 ⟨rfl, ho1, hf1, hs1⟩
 have ho1 : Own w1 4 1 (some ⟨w.heap.size, 0, none⟩) cs.length cs.length (kC cs.length []) := by rw [← qNv]; exact ho1
 have hlt := fun (hn : 0 < cs.length) => hr.lt hn
 generalize hgd : w.heap.size = gd at *
 refine ja rfl (jO (jN (jv3 0 3 4 ?_)))
 refine jB ?_
 refine VC.loop (σ := List Nat × Option Addr × Nat × List PkC) (fun s => [(0, .slice A0 cs.length c0), (3, .slice s.2.1 s.2.2.2.length s.2.2.1), (4, .slice (some ⟨gd, 0, none⟩) cs.length cs.length)]) (fun s wr => JsOk cs s.1 ∧ s.2.2.2.map PkC.abs = s.1.map (fun k => (cs.getD k 0, [k])) ∧ Rps wr cs.length s.2.1 s.2.2.1 s.2.2.2 ∧ Own wr 4 1 (some ⟨gd, 0, none⟩) cs.length cs.length (kC cs.length s.1) ∧ Frm [] w wr ∧ (∀ x ∈ ob s.2.1, w.heap.size ≤ x) ∧ ∀ p ∈ s.2.2.2, ∀ x ∈ ob p.A, w.heap.size ≤ x) (fun s => cs.length + 1 - s.1.length) ([], none, 0, []) (js3 rfl rfl rfl) ⟨JsOk.nil cs, rfl, ⟨Own.nil _ _ _, jp⟩, ho1, hf1, jF, jp⟩ ?_
 clear ho1 hf1 hs1
 rintro ⟨js, B, c, ps⟩ w2 ⟨hjs, habs, hP, hD, hfr, huB, huP⟩
 dsimp only at hjs habs hP hD hfr huB huP ⊢
 have hjl := hjs.len
 have hpl : ps.length = js.length := by have h5 := congrArg List.length habs; simpa using h5
 refine jB (jS (jR ?_))
 refine Ops.r (v := .int .i64 (-1)) (Run.asg rfl) rfl ?_
 refine jO (jN (jS (jS (jR (jz 0 (jO (jN (jB ?_))))))))
 refine VC.loop (σ := Nat × Option Nat) (fun s => [(0, .slice A0 cs.length c0), (3, .slice B ps.length c), (4, .slice (some ⟨gd, 0, none⟩) cs.length cs.length), (5, .int .i64 (lV s.2)), (6, .int .i64 ((s.1 : Nat) : Int))]) (fun s wr => s.1 ≤ cs.length ∧ pS cs js s.1 s.2 ∧ qQ w2 wr) (fun s => cs.length - s.1) (0, none) (js5 rfl rfl rfl rfl rfl) ⟨jo, fun k hk => absurd hk jo, qQ.refl _⟩ ?_
 rintro ⟨i, b⟩ wr ⟨hi, hb, hd⟩
 dsimp only at hi hb hd ⊢
 have hd2 := hd.trans (qQ.drew wr)
 have hbi : ∀ k, b = some k → k < i := fun k e => by subst e; exact hb.1
 refine jS (jS (jR (jm rfl (jm rfl (je (Run.lenS rfl zd) (jb rfl rfl (Bin.lssN _ _) (jO (jN (jv6 0 3 4 5 6 14 ?_)))))))))
 refine jD rfl (fun hc1 => ?_) fun hc1 => ?_
 ·
  obtain ⟨ad, rfl, hcell⟩ := qXj (hr.belowW (hfr.drawn hd2).below) hc1
  obtain ⟨ad2, hgd2, hdc⟩ := qHd (hD.drawn hd2) hc1
  obtain rfl : (⟨gd, 0, none⟩ : Addr) = ad2 := by injection hgd2
  refine jQ (jN (jv5 0 3 4 5 6 ?_))
  refine jS (jB (jS ?_))
  refine VC.splitR [(0, .slice (some ad) cs.length c0), (3, .slice B ps.length c), (4, .slice (some ⟨gd, 0, none⟩) cs.length cs.length), (5, .int .i64 (lV b)), (6, .int .i64 ((i : Nat) : Int))] (fun w1 => w1 = wr.drew) 43 (.bool (decide (0 < cs.getD i 0 ∧ i ∉ js ∧ (lV b < 0 ∨ cs.getD i 0 < cs.getD (b.getD 0) 0)))) ?_ ?_
  ·
   refine VC.still jK jK ?_
   refine qM ?_
   refine qM ?_
   refine qE (Run.index1 _ rfl rfl zd zc jo) ?_
   refine qE (Run.load rfl zg hcell) ?_
   refine qE (Run.bin rfl rfl (Bin.gtrN _ 0)) ?_
   by_cases hs21 : 0 < cs.getD i 0
   ·
    refine qM ?_
    refine qG (Run.mv rfl) ?_
    refine qG (Run.mv rfl) ?_
    refine qG (Run.index1 _ rfl rfl zaw zfh jo) ?_
    refine qG (Run.load rfl Tryz.isAgg4 hdc) ?_
    by_cases hs26 : i ∈ js
    ·
     refine qG (Run.not rfl) ?_
     refine qE (Run.pickT rfl rfl au) ?_
     refine qM ?_
     refine qU ?_
     refine qU ?_
     refine qU ?_
     refine qH.skU rfl rfl ?_
     refine qH.skU rfl rfl ?_
     refine qH.skU rfl rfl ?_
     refine qH.skU rfl rfl ?_
     refine qH.skU rfl rfl ?_
     refine qH.skU rfl rfl ?_
     refine qH.skU rfl rfl ?_
     refine qH.skU rfl rfl ?_
     refine qH.skU rfl rfl ?_
     refine qU ?_
     refine qE (Run.pickF rfl rfl au) ?_
     refine qH.nil ?_
     refine jN ⟨(js6 (jC (by grind)) rfl rfl rfl rfl rfl), (rfl)⟩
    refine qG (Run.not rfl) ?_
    refine qE (Run.pickT rfl rfl au) ?_
    refine qM ?_
    refine qG (Run.mv rfl) ?_
    refine qG (Run.bin rfl rfl (Bin.lss _ 0)) ?_
    by_cases hs31 : lV b < 0
    ·
     refine qG (Run.mv rfl) ?_
     refine qU ?_
     refine qU ?_
     refine qU ?_
     refine qU ?_
     refine qU ?_
     refine qU ?_
     refine qU ?_
     refine qU ?_
     refine qU ?_
     refine qG (Run.pickT rfl rfl au) ?_
     refine qE (Run.pickT rfl rfl au) ?_
     refine qH.nil ?_
     refine jN ⟨(js6 (jC (by grind)) rfl rfl rfl rfl rfl), (rfl)⟩
    obtain ⟨k0, hbk⟩ : ∃ k0, b = some k0 := by
     cases b with
     | none => exact absurd (show lV none < 0 by decide) hs31
     | some k0 => exact ⟨k0, rfl⟩
    have hk0 := hbi k0 hbk
    obtain ⟨ad3, hA3, hcell3⟩ := qXj (hr.belowW (hfr.drawn hd2).below) (jo : k0 < cs.length)
    obtain rfl : ad = ad3 := by injection hA3
    rw [show k0 = b.getD 0 by rw [hbk]; rfl] at hcell3
    have hbI : lV b = ((b.getD 0 : Nat) : Int) := by rw [hbk]; rfl
    refine qG (Run.mv rfl) ?_
    refine qG (Run.mv rfl) ?_
    refine qG (Run.mv rfl) ?_
    refine qG (Run.index1 _ rfl rfl zd zc jo) ?_
    refine qG (Run.load rfl zg hcell) ?_
    refine qG (Run.mv rfl) ?_
    refine qG (Run.mv rfl) ?_
    refine qG (Run.index1 (b.getD 0) rfl (congrArg (fun z => some (Value.int .i64 z)) hbI) zd zc (by rw [hbk]; simp only [zba]; omega)) ?_
    refine qG (Run.load rfl zg hcell3) ?_
    refine qG (Run.bin rfl rfl (Bin.lssN _ _)) ?_
    by_cases hs41 : cs.getD i 0 < cs.getD (b.getD 0) 0
    ·
     refine qG (Run.pickF rfl rfl au) ?_
     refine qE (Run.pickT rfl rfl au) ?_
     refine qH.nil ?_
     refine jN ⟨(js6 (jC (by grind)) rfl rfl rfl rfl rfl), (rfl)⟩
    refine qG (Run.pickF rfl rfl au) ?_
    refine qE (Run.pickT rfl rfl au) ?_
    refine qH.nil ?_
    refine jN ⟨(js6 (jC (by grind)) rfl rfl rfl rfl rfl), (rfl)⟩
   refine qM ?_
   refine qU ?_
   refine qU ?_
   refine qU ?_
   refine qU ?_
   refine qU ?_
   refine qE (Run.pickF rfl rfl au) ?_
   refine qM ?_
   refine qU ?_
   refine qU ?_
   refine qU ?_
   refine qH.skU rfl rfl ?_
   refine qH.skU rfl rfl ?_
   refine qH.skU rfl rfl ?_
   refine qH.skU rfl rfl ?_
   refine qH.skU rfl rfl ?_
   refine qH.skU rfl rfl ?_
   refine qH.skU rfl rfl ?_
   refine qH.skU rfl rfl ?_
   refine qH.skU rfl rfl ?_
   refine qU ?_
   refine qE (Run.pickF rfl rfl au) ?_
   refine qH.nil ?_
   refine jN ⟨(js6 (jC (by grind)) rfl rfl rfl rfl rfl), (rfl)⟩
  intro Γ w8 hΓ hw8
  refine jN (VC.sub _ hΓ ?_)
  refine jD rfl (fun hc2 => ?_) fun hc2 => ?_
  ·
   subst hw8
   refine jR (jm rfl (ja rfl (jO ?_)))
   refine qJ (jN ?_)
   refine jv5 0 3 4 5 6 ?_
   refine jR (jm rfl (jb rfl rfl (Bin.add_i64 _ 1 jo) (ja rfl (jO ?_))))
   refine jN ⟨(i + 1, some i), (js5 rfl rfl rfl rfl rfl), ?_, ?_⟩
   · exact ⟨hc1, qSb hb ⟨hc2.1, hc2.2.1⟩ hc2.2.2 jo, hd2⟩
   first | omega | (dsimp only; omega)
  subst hw8
  refine jQ ?_
  refine qJ (jN ?_)
  refine jv5 0 3 4 5 6 ?_
  refine jR (jm rfl (jb rfl rfl (Bin.add_i64 _ 1 jo) (ja rfl (jO ?_))))
  refine jN ⟨(i + 1, b), (js5 rfl rfl rfl rfl rfl), ?_, ?_⟩
  · exact ⟨hc1, qUd hb hc2, hd2⟩
  first | omega | (dsimp only; omega)
 have hin : i = cs.length := jo
 subst hin
 refine jX ?_
 refine qZ (qZ (qW ?_))
 refine jN (jv4 0 3 4 5 ?_)
 refine jS (jS (jR (jm rfl (jb rfl rfl (Bin.lss _ 0) (jO (jN (jv5 0 3 4 5 46 ?_)))))))
 refine jD rfl (fun hc3 => ?_) fun hc3 => ?_
 ·
  obtain rfl : b = none := by
   cases b with
   | none => rfl
   | some k => exfalso; simp only [lV] at hc3; omega
  refine jS (jR (jm rfl (ja rfl (jO (jN (jv1 2 ?_))))))
  refine jT ?_
  refine qP (qO (qP (qO (qT rfl ?_))))
  exact ⟨B, c, ps, rfl, hP.frm hd.frm jp (fun _ _ _ _ => jp), by rw [habs]; exact hjs.done hb, hfr.drawn hd⟩
 obtain ⟨k0, rfl⟩ : ∃ k0, b = some k0 := by
  cases b with
  | none => exact absurd (show lV none < 0 by decide) hc3
  | some k0 => exact ⟨k0, rfl⟩
 have hk0 : k0 < cs.length := hb.1
 have hjs2 := hjs.add hb hl
 have hj2 := hjs2.len
 rw [za] at hj2
 have hcx : cs.getD k0 0 ≤ 2147483647 := by
  simp only [List.getD, zb hk0, zba]
  exact hcs _ (zt _)
 refine jQ (jN (jv4 0 3 4 5 ?_))
 refine jS (jR (jm rfl (jm rfl (je (Run.index1 k0 rfl rfl zaw zfh jo) ?_))))
 refine Ops.st (qR.storeOwn k0 rfl rfl zfh (hD.drawn hd) rfl jo rfl) ?_
 rintro w3 ⟨hD3, hf3, hs3⟩
 rw [qHc _ hk0] at hD3
 have hP3 := (hP.frm hd.frm jp (fun _ _ _ _ => jp)).frm hf3 (hP.1.ne_own hD jd) (fun p hp => Own.ne_own (hP.2 p hp) hD jd)
 have hfr3 : Frm [] w w3 := (hfr.drawn hd).own hf3 (fun x hx => by simp [ob] at hx; omega)
 refine jO (jN (jv4 0 3 4 5 ?_))
 refine jS (jR (jm rfl (je (Run.lenS rfl zd) ?_)))
 refine Ops.m (qV.makeS rfl rfl zd (dX) rfl jo jo) rfl ?_
 rintro _ w4 ⟨rfl, ho4, hf4, hs4⟩
 have hP4 := hP3.frm hf4 jp (fun _ _ _ _ => jp)
 have hD4 := hD3.frm hf4 jp
 have hfr4 := hfr3.own hf4 jp
 have hz4 : Own w4 3 1 (some ⟨w3.heap.size, 0, none⟩) cs.length cs.length (NI (dN cs.length [])) := by rw [lU]; exact ho4
 have hsz3 := hfr3.size
 have hplt : ∀ p ∈ ps, ∀ x ∈ ob p.A, x < w3.heap.size := fun p hp => Own.lt (hP3.2 p hp)
 generalize hgt : w3.heap.size = gt at *
 refine ja rfl (jO (jN (jv5 0 3 4 5 7 ?_)))
 refine jS (jR (jm rfl (jm rfl (je (Run.index1 k0 rfl rfl zd zc jo) ?_))))
 refine Ops.st (qR.storeOwn k0 rfl rfl zc hz4 rfl jo rfl) ?_
 rintro w5 ⟨ho5, hf5, hs5⟩
 have ho5 : Own w5 3 1 (some ⟨gt, 0, none⟩) cs.length cs.length (NI (dN cs.length ([] ++ [k0]))) := by rw [vF [] hk0]; exact ho5
 have hP5 := hP4.frm hf5 (hP4.1.ne_own hz4 jd) (fun p hp x hx => by have := hplt p hp x hx; simp [ob]; omega)
 have hD5 := hD4.frm hf5 (hD4.ne_own hz4 jd)
 have hfr5 : Frm [] w w5 := hfr4.own hf5 (fun x hx => by simp [ob] at hx; omega)
 obtain ⟨ad, rfl, hcell⟩ := qXj (hr.belowW hfr5.below) hk0
 generalize hpk : (⟨cs.getD k0 0, some ⟨gt, 0, none⟩, cs.length, [k0]⟩ : PkC) = p
 have hpa : p.abs = (cs.getD k0 0, [k0]) := by subst hpk; rfl
 have hpok : kV w5 cs.length p := by subst hpk; exact ho5
 have hpu : ∀ x ∈ ob p.A, w.heap.size ≤ x := by subst hpk; intro x hx; simp [ob] at hx; omega
 refine jO (jN (jv5 0 3 4 5 7 ?_))
 refine jR (jm rfl (jm rfl (jm rfl (je (Run.index1 k0 rfl rfl zd zc jo) (jl rfl zg hcell (jm rfl (je (Run.build (evs.cons rfl (evs.cons rfl evs.nil)) nG (rX).choose_spec.1 (rX).choose_spec.2 (cells := (RC cs.length p).toArray) (by subst hpk; rfl)) ?_)))))))
 refine Ops.m (qV.buildS1 rfl zbc zcz nG jd jd rfl rfl) rfl ?_
 rintro _ w6 ⟨rfl, hF6⟩
 have hrd6 : Rd w6 2 (some ⟨w5.heap.size, 0, none⟩) 1 (RC cs.length p) := Rd.of_blk (n := 1) (size := 2) hF6.blk rfl
 have hP6 := hP5.frm hF6.frm jp (fun _ _ _ _ => jp)
 have hD6 := hD5.frm hF6.frm jp
 have hpok6 := hpok.frm hF6.frm jp
 have hfr6 := hfr5.own hF6.frm jp
 refine Ops.m (qV.app rfl rfl zbc (sW) rfl jd hP6.1 hrd6 (pU _ _) jo jo) rfl ?_
 rintro _ w7 ⟨B7, c7, rfl, ho7, hf7, hob7⟩
 have hsz6 := hfr6.size
 refine ja rfl (jO ?_)
 refine qJ (jN ⟨(js ++ [k0], B7, c7, ps ++ [p]), (js3 rfl (by rw [show (ps ++ [p]).length = ps.length + 1 from za]; rfl) rfl), ?_, ?_⟩)
 ·
  refine ⟨hjs2, ?_, ⟨?_, ?_⟩, hD6.frm hf7 (hD6.ne_own hP6.1 jd), hfr6.own hf7 huB, cG huB hob7 hsz6, ?_⟩
  · rw [zbt, zbt, habs, zai, hpa]; rfl
  ·
   rw [show (ps ++ [p]).length = ps.length + 1 from za, zw]
   simpa using ho7
  ·
   intro q hq
   rcases List.mem_append.1 hq with h5 | h5
   · exact (hP6.2 q h5).frm hf7 (hP6.ne q h5)
   simp at h5; subst h5; exact hpok6.frm hf7 (Own.ne_own hpok6 hP6.1 jd)
  intro q hq
  rcases List.mem_append.1 hq with h5 | h5
  · exact huP q h5
  simp at h5; subst h5; exact hpu
 simp only [za, zfv] at hj2 ⊢; omega
end
section
open Go.RowKit
theorem qSd (qs : List (Nat × List Nat)) : ∀ c, (qs.foldl gA c).length = c.length + qs.length := by
 have h1 : ∀ (c : List (Nat × List Nat)) q, (gA c q).length = c.length + 1 := by
  intro c
  induction c with
  | nil => intro q; rfl
  | cons a r ih =>
   intro q
   rw [gA]
   split
   · simp
   rw [zp, ih, zp]
 induction qs with
 | nil => intro c; rfl
 | cons q r ih => intro c; rw [zdn, ih, h1, zp]; omega
theorem qSe {α : Type} (f : α → List Value) (sz : Nat) (hf : ∀ a, (f a).length = sz) (l : List α) (a b : Nat) : ((l.flatMap f).drop (a * sz)).take (b * sz) = ((l.drop a).take b).flatMap f := by
 have hd : ∀ (l : List α) a, (l.flatMap f).drop (a * sz) = (l.drop a).flatMap f := by
  intro l
  induction l with
  | nil => intro a; simp
  | cons x r ih =>
   intro a
   cases a with
   | zero => simp
   | succ a =>
    rw [zq, show (a + 1) * sz = (f x).length + a * sz by rw [hf, zei]; omega, zco, ih]
    rfl
 have ht : ∀ (l : List α) b, (l.flatMap f).take (b * sz) = (l.take b).flatMap f := by
  intro l
  induction l with
  | nil => intro a; simp
  | cons x r ih =>
   intro a
   cases a with
   | zero => simp
   | succ a =>
    rw [zq, show (a + 1) * sz = (f x).length + a * sz by rw [hf, zei]; omega, zhi, ih]
    rfl
 rw [hd, ht]
theorem qNw {α : Type} {w : World} {A : Option Addr} {cap sz : Nat} {l : List α} (f : α → List Value) (hf : ∀ a, (f a).length = sz) (h : Rd w sz A l.length (l.flatMap f)) (a b : Nat) (h1 : a ≤ b) (h2 : b ≤ l.length) (hc : l.length ≤ cap) : Rd w sz (cC A cap a sz) (b - a) (((l.drop a).take (b - a)).flatMap f) := by
 rw [← qSe f sz hf]
 exact h.cut h1 h2 hc
theorem qXk (n : Nat) (A1 A2 : Option Addr) (c1 c2 : Nat) (ps ls : List PkC) (w : World) (hn : n ≤ 320) (hr1 : Rd w 2 A1 ps.length (ps.flatMap (RC n))) (h1 : ∀ p ∈ ps, kV w n p) (hr2 : Rd w 2 A2 ls.length (ls.flatMap (RC n))) (h2 : ∀ p ∈ ls, kV w n p)
  (hl1 : ps.length ≤ 10000) (hl2 : ls.length ≤ 10000) (hs : ∀ p ∈ ls, p.count ≤ 2305843009213693951 ∧ p.sy.length ≤ 100000) (G : Nat → Prop) (hG : ∀ x, w.heap.size ≤ x → G x) (hg1 : ∀ p ∈ ps, ∀ x ∈ ob p.A, G x) :
  Calls Tryz.prog 110 #[.slice A1 ps.length c1, .slice A2 ls.length c2] w fun e w' => ∃ B c qs, e = .returned (.slice B qs.length c) ∧ Rps w' n B c qs ∧ qs.map PkC.abs = (bZ (ls.map PkC.abs)).foldl gA (ps.map PkC.abs) ∧ Frm [] w w' ∧ (∀ x ∈ ob B, w.heap.size ≤ x) ∧ ∀ p ∈ qs, ∀ x ∈ ob p.A, G x := by
 refine VC.calls (nt := 62) (res := #[.tmp 4]) Tryz.func110 rfl Tryz.ntmps110 Tryz.results110 rfl ?_
 refine jS (jR (ja rfl (jO (jN (jv2 0 1 ?_)))))
 refine jS (jR ?_)
 refine Ops.m (qV.buildS0 zbc zcz) rfl ?_
 rintro _ w1 ⟨rfl, hF1⟩
 have ho1 : Own w1 186 2 (some ⟨w.heap.size, 0, none⟩) 0 0 [] := Own.of_blk (n := 0) hF1.blk rfl jd
 have hup1 : ∀ x ∈ ob (some (⟨w.heap.size, 0, none⟩ : Addr)), w.heap.size ≤ x := fun x hx => by simp [ob] at hx; omega
 refine jM ?_
 refine Ops.m (qV.app rfl rfl zbc (sW) rfl jd ho1 (hr1.frm hF1.frm jp) (lY (RC n) (pU n) ps) jo jo) rfl ?_
 rintro _ w2 ⟨B2, cb2, rfl, ho2, hf2, hob2⟩
 rw [zap]
 rw [zap, zbf] at ho2
 have hfr2 := hF1.frm.own hf2 hup1
 have hP2 : Rps w2 n B2 cb2 ps := ⟨ho2, fun p hp => (h1 p hp).frm hfr2 jp⟩
 have hu2 := cG hup1 hob2 hF1.frm.size
 refine ja rfl (jO (jN (jv2 1 5 ?_)))
 refine jS (jS (jR (jz 0 (jO (jN (jB ?_))))))
 refine VC.loop (σ := Nat × Option Addr × Nat × List PkC) (fun s => [(1, .slice A2 ls.length c2), (5, .slice s.2.1 s.2.2.2.length s.2.2.1), (6, .int .i64 ((2 * s.1 : Nat) : Int))]) (fun s wr => 2 * s.1 ≤ ls.length + 1 ∧ Rps wr n s.2.1 s.2.2.1 s.2.2.2 ∧ s.2.2.2.map PkC.abs = (bZ ((ls.map PkC.abs).take (2 * s.1))).foldl gA (ps.map PkC.abs) ∧ Frm [] w wr ∧ (∀ x ∈ ob s.2.1, w.heap.size ≤ x) ∧ ∀ p ∈ s.2.2.2, ∀ x ∈ ob p.A, G x) (fun s => ls.length + 2 - 2 * s.1) (0, B2, cb2, ps) (js3 rfl rfl rfl) ⟨jo, hP2, rfl, hfr2, hu2, hg1⟩ ?_
 rintro ⟨k, B, c, qs⟩ w7 ⟨hk, hP, hq, hfr, huB, hqg⟩
 dsimp only at hk hP hq hfr huB hqg ⊢
 have hql : qs.length ≤ ps.length + ls.length := by
  have h5 := congrArg List.length hq
  rw [zl, qSd, zl, oC, zi, zl] at h5
  omega
 refine jS (jS (jR (jm rfl (jb rfl rfl (Bin.add_i64 _ 1 jo) (jm rfl (je (Run.lenS rfl zbc) (jb rfl rfl (Bin.lssN _ _) (jO (jN (jv4 1 5 6 17 ?_))))))))))
 refine jD rfl (fun hc1 => ?_) fun hc1 => ?_
 ·
  have hkl : 2 * k < ls.length := jo
  obtain ⟨ad, rfl, hea⟩ := hr2.elem hkl
  obtain ⟨ad2, had, heb⟩ := hr2.elem hc1
  obtain rfl : ad = ad2 := by injection had
  have hpt := xH (ls.map PkC.abs) k (by simpa using hc1)
  rw [zer, zer] at hpt
  have ha := h2 _ (zt hkl)
  have hb := h2 _ (zt hc1)
  have hsa := hs _ (zt hkl)
  have hsb := hs _ (zt hc1)
  rw [cI (RC n) 2 (pT n) ls _ hkl] at hea
  rw [cI (RC n) 2 (pT n) ls _ hc1] at heb
  generalize ls[2 * k] = a at *
  generalize ls[2 * k + 1] = b at *
  refine jQ (jN (jv3 1 5 6 ?_))
  refine jS (jB (jS ?_))
  refine VC.held (fun v => Frm [] w v) jK ?_
  have hS : (fun v => Frm [] w v) w7.drew := hfr.drawn (qQ.drew _)
  have hPd : Rps w7.drew n B c qs := hP.frm (qQ.drew _).frm jp (fun _ _ _ _ => jp)
  refine jH 0 rfl hS (fun w0 hw0 => Run.mv rfl) ?_
  refine jH 1 rfl hS (fun w0 hw0 => Run.mv rfl) ?_
  refine jH 2 rfl hS (fun w0 hw0 => Run.indexS _ rfl rfl zbc zcz jo) ?_
  refine jH 3 rfl hS (fun w0 hw0 => Run.loadA rfl Tryz.isAgg186 zcz (fun j v h => hw0.cell (hea j v h) jp) (by first | rfl | (simp; done))) ?_
  refine jH 4 rfl hS (fun w0 hw0 => Run.mv rfl) ?_
  refine jH 5 rfl hS (fun w0 hw0 => Run.mv rfl) ?_
  refine jH 6 rfl hS (fun w0 hw0 => Run.bin rfl rfl (Bin.add_i64 _ 1 jo)) ?_
  refine jH 7 rfl hS (fun w0 hw0 => Run.indexS _ rfl rfl zbc zcz jo) ?_
  refine jH 8 rfl hS (fun w0 hw0 => Run.loadA rfl Tryz.isAgg186 zcz (fun j v h => hw0.cell (heb j v h) jp) (by first | rfl | (simp; done))) ?_
  refine qK.cm (fun u v w' => ∃ A4 c4 gp, u = .agg (RC n ⟨a.count + b.count, A4, c4, a.sy ++ b.sy⟩).toArray ∧ v = .pointer (some ⟨gp, 0, none⟩) ∧ Blk w' gp 186 (Value.agg #[.int .i64 0, .slice none 0 0]).cells ∧ kV w' n ⟨a.count + b.count, A4, c4, a.sy ++ b.sy⟩ ∧ Frm [] w7.drew w' ∧ (∀ x ∈ ob A4, w.heap.size ≤ x) ∧ w7.heap.size ≤ gp) 9 10 (l2 := [9, 10]) rfl rfl jK jp jp jK jK jK rfl rfl rfl rfl rfl rfl rfl (jE2 Tryz.call130) (qVa n a b _ hn (ha.frm hS jp) (hb.frm hS jp) jo jo) ?_ (qV.alloc nG) ?_ ?_
  ·
   rintro e w4 ⟨A4, c4, rfl, hp4, hf4, hA4⟩
   have hS4 := Frm.own hS hf4 jp
   refine ⟨_, rfl, hS4, (qV.alloc nG).mono ?_⟩
   rintro _ w5 ⟨rfl, hF5⟩
   have hz1 : w7.heap.size ≤ w4.heap.size := hf4.size
   exact ⟨hS4.own hF5.frm jp, A4, c4, _, rfl, rfl, hF5.blk, hp4.frm hF5.frm jp, hf4.own hF5.frm jp, fun x hx => zn hfr.size (hA4 x hx), hz1⟩
  ·
   rintro _ w4 ⟨rfl, hF4⟩
   have hS4 := Frm.own hS hF4.frm jp
   refine ⟨hS4, bP.fn (evs.cons rfl (evs.cons rfl evs.nil)) Tryz.call130, (qVa n a b _ hn (ha.frm hS4 jp) (hb.frm hS4 jp) jo jo).mono ?_⟩
   rintro e w5 ⟨A5, c5, rfl, hp5, hf5, hA5⟩
   have hz1 : w7.heap.size ≤ w4.heap.size := hF4.frm.size
   exact ⟨_, rfl, hS4.own hf5 jp, A5, c5, _, rfl, rfl, hF4.blk.frm hf5 jp, hp5, hF4.frm.own hf5 jp, fun x hx => zn hfr.size (zn hz1 (hA5 x hx)), zk _⟩
  rintro _ _ w5 ⟨A4, c4, gp, rfl, rfl, hbp, hpk5, hf57, hA4, hgp⟩
  have hsz7 := hfr.size
  generalize hpk : (⟨a.count + b.count, A4, c4, a.sy ++ b.sy⟩ : PkC) = p at *
  have hpa : p.abs = lK a.abs b.abs := by subst hpk; rfl
  have hpc : p.count = a.count + b.count := by subst hpk; rfl
  have hpG : ∀ x ∈ ob p.A, w.heap.size ≤ x := by subst hpk; exact hA4
  refine qK.st 11 rfl jK (qR.storeA rfl rfl zcz hbp rfl (pU _ _)) trivial rfl ?_
  rintro w6 ⟨hb6, hf6, hs6⟩
  have hpgp : ∀ x ∈ ob p.A, x ∉ [gp] := fun x hx h5 => by simp at h5; subst h5; exact Own.ne_blk hpk5 hbp jd hx
  have hpk6 := hpk5.frm hf6 hpgp
  have hf67 : Frm [] w7.drew w6 := hf57.own hf6 (fun x hx => by simp at hx; subst hx; exact hgp)
  have hP6 := hPd.frm hf67 jp (fun _ _ _ _ => jp)
  have hfr6 : Frm [] w w6 := hS.own hf67 jp
  have hb6 : Blk w6 gp 186 (RC n p).toArray := hb6
  refine ⟨hfr6, ?_⟩
  refine qK.done jK ?_
  refine jN (jv4 1 5 6 7 ?_)
  refine jS (jR (jm rfl (je (Run.lenS rfl zbc) (ja rfl (jO (jN (jv5 1 5 6 7 8 ?_)))))))
  refine jS (jB ?_)
  refine VC.loop (σ := Nat) (fun s => [(1, .slice (some ad) ls.length c2), (5, .slice B qs.length c), (6, .int .i64 ((2 * k : Nat) : Int)), (7, .pointer (some ⟨gp, 0, none⟩)), (8, .int .i64 ((s : Nat) : Int))]) (fun s wr => s ≤ qs.length ∧ (∀ x ∈ (qs.map PkC.abs).drop s, p.count < x.1) ∧ qQ w6 wr) (fun s => s) qs.length (js5 rfl rfl rfl rfl rfl) ⟨jo, by rw [zea jp]; simp, qQ.refl _⟩ ?_
  rintro at0 wr ⟨hat, habv, hd⟩
  have hd2 := hd.trans (qQ.drew wr)
  refine jS (jS ?_)
  refine VC.splitR [(1, .slice (some ad) ls.length c2), (5, .slice B qs.length c), (6, .int .i64 ((2 * k : Nat) : Int)), (7, .pointer (some ⟨gp, 0, none⟩)), (8, .int .i64 ((at0 : Nat) : Int))] (fun w1 => w1 = wr.drew) 44 (.bool (decide (0 < at0 ∧ p.count < (qs.getD (at0 - 1) PkC.zero).count))) ?_ ?_
  ·
   refine VC.still jK jK ?_
   refine qM ?_
   refine qE (Run.bin rfl rfl (Bin.gtrN _ 0)) ?_
   by_cases hs33 : 0 < at0
   ·
    have ha1 : at0 - 1 < qs.length := jo
    obtain ⟨adq, rfl, heq⟩ := (hP6.1.rd.drawn hd2).elem ha1
    rw [cI (RC n) 2 (pT n) qs _ ha1, show qs[at0 - 1] = qs.getD (at0 - 1) PkC.zero by simp [List.getD, zb ha1]] at heq
    refine qM ?_
    refine qG (Run.mv rfl) ?_
    refine qG (Run.mv rfl) ?_
    refine qG (Run.bin rfl rfl (Bin.sub_i64 _ 1 jo jo)) ?_
    refine qG (Run.indexS _ rfl rfl zbc zcz jo) ?_
    refine qG (Run.fieldAddr rfl zdx rfl zc jd) ?_
    refine qG (Run.load rfl zg (heq 0 _ rfl)) ?_
    refine qG (Run.fieldAddr rfl zdx rfl zc jd) ?_
    refine qG (Run.load rfl zg ((hb6.drawn hd2).cell 0)) ?_
    refine qG (Run.bin rfl rfl (Bin.gtrN _ _)) ?_
    by_cases hs43 : p.count < (qs.getD (at0 - 1) PkC.zero).count
    ·
     refine qE (Run.pickT rfl rfl au) ?_
     refine qH.nil ?_
     refine jN ⟨(js6 (jC (by grind)) rfl rfl rfl rfl rfl), (rfl)⟩
    refine qE (Run.pickT rfl rfl au) ?_
    refine qH.nil ?_
    refine jN ⟨(js6 (jC (by grind)) rfl rfl rfl rfl rfl), (rfl)⟩
   refine qM ?_
   refine qU ?_
   refine qU ?_
   refine qU ?_
   refine qU ?_
   refine qU ?_
   refine qU ?_
   refine qU ?_
   refine qU ?_
   refine qU ?_
   refine qE (Run.pickF rfl rfl au) ?_
   refine qH.nil ?_
   refine jN ⟨(js6 (jC (by grind)) rfl rfl rfl rfl rfl), (rfl)⟩
  intro Γ w8 hΓ hw8
  refine jN (VC.sub _ hΓ ?_)
  refine jD rfl (fun hc2 => ?_) fun hc2 => ?_
  ·
   subst hw8
   have ha1 : at0 - 1 < qs.length := jo
   refine jQ (jN (jv5 1 5 6 7 8 ?_))
   refine jB (jR (jm rfl (jb rfl rfl (Bin.sub_i64 _ 1 jo jo) (ja rfl (jO ?_)))))
   refine qJ (jN ⟨(at0 - 1), (js5 rfl rfl rfl rfl rfl), ?_, ?_⟩)
   ·
    refine ⟨jo, fun x hx => ?_, hd2⟩
    rw [zcn (by rw [zl]; exact ha1)] at hx
    rcases zbv.1 hx with rfl | hx
    ·
     rw [zer]
     have h5 := hc2.2
     simp only [List.getD, zb ha1, zba] at h5
     exact h5
    exact habv x (by rw [show at0 - 1 + 1 = at0 by omega] at hx; exact hx)
   first | omega | (dsimp only; omega)
  subst hw8
  have hfx := hfr6.drawn hd2
  have hbx := hb6.drawn hd2
  have hpx := hpk6.frm hd2.frm jp
  have hPx := hP6.frm hd2.frm jp (fun _ _ _ _ => jp)
  have hqc := hPx.1.le
  have hszx := hfx.size
  generalize wr.drew = wx at *
  have hins : gA (qs.map PkC.abs) p.abs = (qs.take at0 ++ p :: qs.drop at0).map PkC.abs := by
   rw [zbt, zai, zdf, zgk, ← qUe (X := (qs.map PkC.abs).take at0) (Y := (qs.map PkC.abs).drop at0) habv ?_, zcm]
   by_cases h0 : at0 = 0
   · exact .inl (by rw [h0]; rfl)
   right
   have ha1 : at0 - 1 < qs.length := jo
   refine ⟨(qs.getD (at0 - 1) PkC.zero).abs, ?_, ?_⟩
   ·
    rw [List.getLast?_eq_getElem?, zi, zl, zal hat, zaq jo, zbd, zb ha1]
    simp [List.getD, zb ha1]
   have h5 : ¬ p.count < (qs.getD (at0 - 1) PkC.zero).count := fun h6 => hc2 ⟨jo, h6⟩
   show (qs.getD (at0 - 1) PkC.zero).count ≤ p.count
   omega
  refine jX ?_
  refine qZ (qZ (qW ?_))
  refine jN (jv5 1 5 6 7 8 ?_)
  refine jS (jR (ja rfl (jO (jN (jS (jR (jm rfl (jm rfl (jm rfl (je (Run.sliceS 0 _ rfl zbc zcz evB.none_ (evB.some_ rfl) jo jo) ?_))))))))))
  refine Ops.m (qV.app rfl rfl zbc (sW) rfl jd (Own.nil _ _ _) (qNw (RC n) (pT n) hPx.1.rd 0 at0 jo hat hqc) (lY (RC n) (pU n) _) jo jo) rfl ?_
  rintro _ w9 ⟨B9, c9, rfl, ho9, hf9, hob9⟩
  have hfx9 : Frm [] wx w9 := (Frm.refl [] wx).own hf9 (by simp [ob])
  have hu9 : ∀ x ∈ ob B9, wx.heap.size ≤ x := cG jF hob9 (zk _)
  refine ja rfl (jO (jN (jv6 1 5 6 7 8 9 ?_)))
  refine jS (jR (jm rfl (je (Run.loadA rfl Tryz.isAgg186 zcz ((hbx.frm hfx9 jp).cells) (by first | rfl | (simp; done))) ?_)))
  refine Ops.m (qV.buildS1 rfl zbc zcz nG jd jd rfl rfl) rfl ?_
  rintro _ w10 ⟨rfl, hF10⟩
  have ho10 := ho9.frm hF10.frm jp
  have hfx10 := hfx9.own hF10.frm jp
  have hrd10 : Rd w10 2 (some ⟨w9.heap.size, 0, none⟩) 1 (RC n p) := Rd.of_blk (n := 1) (size := 2) hF10.blk rfl
  refine Ops.m (qV.app rfl rfl zbc (sW) rfl jd ho10 hrd10 (pU _ _) jo jo) rfl ?_
  rintro _ w11 ⟨B11, c11, rfl, ho11, hf11, hob11⟩
  have hfx11 := hfx10.own hf11 hu9
  have hu11 := cG hu9 hob11 hfx10.size
  refine ja rfl (jO (jN (jv5 1 5 6 8 9 ?_)))
  refine jR (jm rfl (jm rfl (jm rfl (je (Run.sliceS _ _ rfl zbc zcz (evB.some_ rfl) evB.none_ jo jo) ?_))))
  refine Ops.m (qV.app rfl rfl zbc (sW) rfl jd ho11 ((qNw (RC n) (pT n) hPx.1.rd at0 qs.length hat (zk _) hqc).frm hfx11 jp) (lY (RC n) (pU n) _) jo jo) rfl ?_
  rintro _ w12 ⟨B12, c12, rfl, ho12, hf12, hob12⟩
  have hfx12 := hfx11.own hf12 hu11
  have hu12 := cG hu11 hob12 hfx11.size
  have hlen12 : (qs.take at0 ++ p :: qs.drop at0).length = 0 + (at0 - 0) + 1 + (qs.length - at0) := by simp; omega
  refine ja rfl (jO ?_)
  refine qJ (jN ?_)
  refine jv3 1 5 6 ?_
  refine jR (jm rfl (jb rfl rfl (Bin.add_i64 _ 2 jo) (ja rfl (jO ?_))))
  refine jN ⟨(k + 1, B12, c12, qs.take at0 ++ p :: qs.drop at0), (js3 rfl (by rw [hlen12]; rfl) (congrArg (fun z : Nat => some (Value.int .i64 (z : Int))) jo)), ?_, ?_⟩
  ·
   have hmem : ∀ q ∈ qs.take at0 ++ p :: qs.drop at0, q ∈ qs ∨ q = p := by
    intro q hq
    rcases List.mem_append.1 hq with h5 | h5
    · exact .inl (zaf h5)
    rcases zbv.1 h5 with h5 | h5
    · exact .inr h5
    exact .inl (zch h5)
   refine ⟨by dsimp only; omega, ⟨?_, ?_⟩, ?_, hfx.own hfx12 jp, fun x hx => zn hszx (hu12 x hx), ?_⟩
   ·
    dsimp only
    rw [hlen12]
    have e5 : (qs.take at0 ++ p :: qs.drop at0).flatMap (RC n) = [] ++ ((qs.drop 0).take (at0 - 0)).flatMap (RC n) ++ RC n p ++ ((qs.drop at0).take (qs.length - at0)).flatMap (RC n) := by
     rw [zby, zcf, zm (l := qs.drop at0) jp, zw, zq]
     simp
    rw [e5]
    exact ho12
   ·
    intro q hq
    rcases hmem q hq with h5 | rfl
    · exact (hPx.2 q h5).frm hfx12 jp
    exact hpx.frm hfx12 jp
   ·
    dsimp only
    rw [← hins, hq, show 2 * (k + 1) = 2 * k + 2 by omega, hpt, zgx, hpa]
    rfl
   intro q hq x hx
   rcases hmem q hq with h5 | rfl
   · exact hqg q h5 x hx
   exact hG x (hpG x hx)
  first | omega | (dsimp only; omega)
 have hqa : qs.map PkC.abs = (bZ (ls.map PkC.abs)).foldl gA (ps.map PkC.abs) := by
  rw [hq]
  congr 1
  by_cases h5 : 2 * k ≤ ls.length
  · exact tC _ (2 * k) (by simp; omega) (by simp; omega) jo
  rw [zm (by simp; omega)]
 refine jX ?_
 refine qZ (qZ (qW ?_))
 refine jN (jv1 5 ?_)
 refine jS (jR (jm rfl (ja rfl (jO (jN (jv1 4 ?_))))))
 refine jT ?_
 refine qT rfl ?_
 exact ⟨B, c, qs, rfl, hP, hqa, hfr, huB, hqg⟩
end
section
open Go.RowKit
theorem qQl (A : Option Addr) (c0 : Nat) (l : List Int) (m : Int) (w : World) (hl : l.length ≤ 1000000) (hr : Rd w 1 A l.length (IB l)) :
  Calls Tryz.prog 77 #[.slice A l.length c0, .int .i64 m] w fun e w' => Frm [] w w' ∧
   if ¬ mA l ∨ m < 1 ∨ 15 < m then e = .returned (.tuple #[.slice none 0 0, .int .i64 ((1 : Nat) : Int)])
   else ∃ own, dH (l.map Int.toNat) own ∧ if 2 ^ m.toNat < own.length then e = .returned (.tuple #[.slice none 0 0, .int .i64 ((8 : Nat) : Int)])
    else ∃ B c, e = .returned (.tuple #[.slice B l.length c, .int .i64 ((0 : Nat) : Int)]) ∧ Own w' 3 1 B l.length c (NI (cF l.length m.toNat own)) := by
 refine VC.calls (nt := 90) (res := #[.tmp 4, .tmp 5]) Tryz.func77 rfl Tryz.ntmps77 Tryz.results77 rfl ?_
 refine jS (jR (ja rfl (jz 0 (jO (jN (jv2 0 1 ?_))))))
 refine jS (jS ?_)
 refine VC.split1 [(0, _), (1, _)] (js2 rfl rfl) 24 (.bool (decide (¬ mA l ∨ m < 1 ∨ 15 < m))) ?_ ?_
 ·
  refine jR (jM ?_)
  refine Ops.cl (jE1 Tryz.call108) (qWp A c0 l _ jo hr) rfl ?_
  rintro e _ ⟨rfl, rfl⟩
  refine ⟨_, rfl, ?_⟩
  by_cases hs15 : mA l
  ·
   refine je (Run.not rfl) (jM ?_)
   refine jG ?_
   refine jk (Run.bin rfl rfl (Bin.lss _ 1)) ?_
   by_cases hs19 : m < 1
   ·
    refine je (Run.pickF rfl rfl au) (jM ?_)
    refine jU ?_
    refine jU ?_
    refine je (Run.pickT rfl rfl au) (jO ?_)
    refine jN ⟨(js3 (jC (by simp [*])) rfl rfl), rfl⟩
   refine je (Run.pickF rfl rfl au) (jM ?_)
   refine jG ?_
   refine jk (Run.bin rfl rfl (Bin.gtr _ 15)) ?_
   by_cases hs23 : 15 < m
   ·
    refine je (Run.pickF rfl rfl au) (jO ?_)
    refine jN ⟨(js3 (jC (by simp [*])) rfl rfl), rfl⟩
   refine je (Run.pickF rfl rfl au) (jO ?_)
   refine jN ⟨(js3 (jC (by simp [*])) rfl rfl), rfl⟩
  refine je (Run.not rfl) (jM ?_)
  refine jU ?_
  refine jU ?_
  refine je (Run.pickT rfl rfl au) (jM ?_)
  refine jU ?_
  refine jU ?_
  refine je (Run.pickT rfl rfl au) (jO ?_)
  refine jN ⟨(js3 (jC (by simp [*])) rfl rfl), rfl⟩
 intro Γ hΓ
 refine jN (VC.sub _ hΓ ?_)
 refine jD rfl (fun hc1 => ?_) fun hc1 => ?_
 ·
  refine jS (jR (ja rfl (jz 1 (jO (jN (jv2 4 5 ?_))))))
  refine jT ?_
  refine qP (cY rfl rfl ?_)
  exact ⟨Frm.refl [] w, by rw [if_pos hc1]⟩
 obtain ⟨m, rfl⟩ : ∃ k : Nat, m = k := ⟨m.toNat, jo⟩
 have hm1 : 1 ≤ m := jo
 have hm15 : m ≤ 15 := jo
 have hmay : mA l := Classical.not_not.1 (fun h => hc1 (.inl h))
 have hpos : ∀ x ∈ l, 0 ≤ x := fun x hx => (hmay.2 x hx).1
 have hll := hmay.1
 have hin := qTd hpos
 generalize hcs : l.map Int.toNat = cs at *
 have hcl : cs.length = l.length := by rw [← hcs, zl]
 have hcx : ∀ x ∈ cs, x ≤ 2147483647 := by
  intro x hx
  rw [← hcs] at hx
  obtain ⟨y, hy, rfl⟩ := List.mem_map.1 hx
  have := hmay.2 y hy
  omega
 rw [hin, ← hcl] at hr
 rw [← hcl]
 refine jQ (jN (jv2 0 1 ?_))
 refine jS (jR (jM ?_))
 refine Ops.cl (jE1 Tryz.call109) (qJq A c0 cs _ jo hcx hr) rfl ?_
 rintro e w1 ⟨B1, c1, ps, rfl, hP1, hco, hf1⟩
 refine ⟨_, rfl, ?_⟩
 have hpl : ps.length ≤ 320 := by
  have h5 := hco.1.length_eq
  rw [zl] at h5
  rw [h5]
  unfold cP
  rw [zl]
  exact zn (zfw _ _) (by simp; omega)
 have hpw : 2 ^ m ≤ 2 ^ 15 := zz jo hm15
 refine ja rfl (jO (jN (jv3 0 1 6 ?_)))
 refine jS (jR (jz 1 (jO (jN (jS (jS (jR (jz 0 (jO (jN (jB ?_)))))))))))
 refine VC.loop (σ := Nat) (fun s => [(0, .slice A cs.length c0), (1, .int .i64 ((m : Nat) : Int)), (6, .slice B1 ps.length c1), (7, .int .i64 ((2 ^ s : Nat) : Int)), (8, .int .i64 ((s : Nat) : Int))]) (fun s wr => s ≤ m ∧ w1 = wr) (fun s => m - s) 0 (js5 rfl rfl rfl rfl rfl) ⟨jo, rfl⟩ ?_
 rintro i _ ⟨hi, rfl⟩
 have hpi : 2 ^ i ≤ 2 ^ 15 := zz jo jo
 refine jS (jS (jR (jm rfl (jm rfl (jb rfl rfl (Bin.lss _ _) (jO (jN (jv6 0 1 6 7 8 29 ?_))))))))
 refine jD rfl (fun hc2 => ?_) fun hc2 => ?_
 ·
  refine jQ (jN (jv5 0 1 6 7 8 ?_))
  refine jS (jB (jR (jm rfl (jb rfl rfl (Bin.mul_i64 _ 2 jo) (ja rfl (jO ?_))))))
  refine qJ (jN ?_)
  refine jv5 0 1 6 7 8 ?_
  refine jR (jm rfl (jb rfl rfl (Bin.add_i64 _ 1 jo) (ja rfl (jO ?_))))
  refine jN ⟨(i + 1), (js5 rfl rfl rfl (by rw [zbo]; rfl) rfl), ?_, ?_⟩
  · exact ⟨jo, rfl⟩
  first | omega | (dsimp only; omega)
 have him : i = m := jo
 subst him
 refine jX ?_
 refine qZ (qZ (qW ?_))
 refine jN (jv4 0 1 6 7 ?_)
 refine jS (jS (jR (jm rfl (je (Run.lenS rfl zbc) (jm rfl (jb rfl rfl (Bin.gtrN _ _) (jO (jN (jv4 0 1 6 37 ?_)))))))))
 refine jD rfl (fun hc3 => ?_) fun hc3 => ?_
 ·
  refine jS (jR (ja rfl (jz 8 (jO (jN (jv2 4 5 ?_))))))
  refine jT ?_
  refine qP (cY rfl rfl ?_)
  refine ⟨hf1, ?_⟩
  rw [if_neg hc1]
  refine ⟨_, hco, ?_⟩
  rw [zac, zl, if_pos hc3]
 have hc3n : ¬ 2 ^ i < ps.length := hc3
 refine jQ (jN (jv3 0 1 6 ?_))
 refine jS (jR (jm rfl (je (Run.lenS rfl zd) ?_)))
 refine Ops.m (qV.makeS rfl rfl zd (dX) rfl jo jo) rfl ?_
 rintro _ w2 ⟨rfl, ho2, hf2, hs2⟩
 have hP2 := hP1.frm hf2 jp (fun _ _ _ _ => jp)
 have hfr2 := hf1.own hf2 jp
 have hgo := hf1.size
 have hpg0 : ∀ p ∈ ps, ∀ x ∈ ob p.A, x < w1.heap.size := fun p hp => Own.lt (hP1.2 p hp)
 generalize hgo2 : w1.heap.size = go at *
 refine ja rfl (jO (jN (jv3 1 6 9 ?_)))
 refine jS (jS (jR (jm rfl (je (Run.lenS rfl zbc) (jb rfl rfl (Bin.eqlN _ 1) (jO (jN (jv4 1 6 9 43 ?_))))))))
 refine jD rfl (fun hc4 => ?_) fun hc4 => ?_
 ·
  obtain ⟨p, rfl⟩ : ∃ p, ps = [p] := by
   match ps, hc4 with
   | [p], _ => exact ⟨p, rfl⟩
  obtain ⟨k, hk, hk0, hpe⟩ := fK (hco.1.mem_iff.1 (zeo (f := PkC.abs) (zh.2 rfl)))
  have hsy : p.sy = [k] := congrArg Prod.snd hpe
  obtain ⟨ad, rfl, hea⟩ := hP2.1.rd.elem (k := 0) jp
  rw [cI (RC cs.length) 2 (pT _) [p] 0 jp] at hea
  have hpo := hP2.2 p jp
  unfold kV at hpo
  have hl1 : [p].length = 1 := rfl
  rw [hl1]
  refine jS (jR (jm rfl (je (Run.indexS 0 rfl rfl zbc zcz jo) (jf rfl zdx rfl zar (jl rfl zbq (hea 1 _ rfl) (ja rfl (jz 0 (jO (jN (jv2 4 5 ?_))))))))))
  refine jT ?_
  refine qP (cY rfl rfl ?_)
  refine ⟨hfr2, ?_⟩
  rw [if_neg hc1]
  refine ⟨_, hco, ?_⟩
  rw [zac, zl, if_neg hc3n]
  refine ⟨_, _, rfl, ?_⟩
  have h5 : cF cs.length i ([p].map PkC.abs) = dN cs.length p.sy := by
   unfold cF
   rw [if_pos (show ([p].map PkC.abs).length ≤ 1 from zk 1), lB]
   simp [PkC.abs]
  rw [h5]
  exact hpo
 refine jQ (jN (jv3 1 6 9 ?_))
 refine jS (jS (jR (jm rfl (je (Run.lenS rfl zbc) (jb rfl rfl (Bin.eqlN _ 0) (jO (jN (jv4 1 6 9 50 ?_))))))))
 refine jD rfl (fun hc5 => ?_) fun hc5 => ?_
 ·
  refine jS (jR (jm rfl (ja rfl (jz 0 (jO (jN (jv2 4 5 ?_)))))))
  refine jT ?_
  refine qP (cY rfl rfl ?_)
  refine ⟨hfr2, ?_⟩
  rw [if_neg hc1]
  refine ⟨_, hco, ?_⟩
  rw [zac, zl, if_neg hc3n]
  refine ⟨_, _, rfl, ?_⟩
  have hpn : ps = [] := zab hc5
  have h5 : cF cs.length i (ps.map PkC.abs) = dN cs.length [] := by
   unfold cF
   rw [if_pos (by simp [hpn]), lB, hpn]
   rfl
  have h6 : (List.replicate cs.length (Value.int .i64 0).cells.toList).flatten = NI (dN cs.length []) := (lU _).symm
  rw [h5, ← h6]
  exact ho2
 have hn2 : 2 ≤ ps.length := jo
 have htc := vE cs 2147483647 hcx cs.length (zk _)
 have htp := qK5 hco.1
 have htm : cs.length * 2147483647 ≤ 320 * 2147483647 := zdg _ jo
 have htC : fJ (ps.map PkC.abs) ≤ 320 * 2147483647 := jo
 have htS : dU (ps.map PkC.abs) ≤ 320 := jo
 have hsort := qQk hco jo
 refine jQ (jN (jv3 1 6 9 ?_))
 refine jS (jR (jm rfl (ja rfl (jO (jN (jv4 1 6 9 10 ?_))))))
 refine jS (jS (jR (jz 1 (jO (jN (jB ?_))))))
 refine VC.loop (σ := Nat × Option Addr × Nat × List PkC) (fun s => [(1, .int .i64 ((i : Nat) : Int)), (6, .slice B1 ps.length c1), (9, .slice (some ⟨go, 0, none⟩) cs.length cs.length), (10, .slice s.2.1 s.2.2.2.length s.2.2.1), (11, .int .i64 ((s.1 + 1 : Nat) : Int))]) (fun s wr => s.1 ≤ i - 1 ∧ s.2.2.2.map PkC.abs = bR (ps.map PkC.abs) s.1 ∧ Rps wr cs.length s.2.1 s.2.2.1 s.2.2.2 ∧ Rps wr cs.length B1 c1 ps ∧ Own wr 3 1 (some ⟨go, 0, none⟩) cs.length cs.length (List.replicate cs.length [Value.int .i64 0]).flatten ∧ Frm [] w wr ∧ ∀ p ∈ s.2.2.2, ∀ x ∈ ob p.A, x ≠ go) (fun s => i - 1 - s.1) (0, B1, c1, ps) (js5 rfl rfl rfl rfl rfl) ⟨jo, rfl, hP2, hP2, ho2, hfr2, fun p hp x hx => Nat.ne_of_lt (hpg0 p hp x hx)⟩ ?_
 rintro ⟨k, Bk, ck, lst⟩ wr ⟨hk, hlv, hPk, hPo, hoo, hfr, hpg⟩
 dsimp only at hk hlv hPk hPo hoo hfr hpg ⊢
 have hlen := (rH (ps.map PkC.abs) k).1
 rw [← hlv, zl, zl] at hlen
 have hgw : go < wr.heap.size := hoo.lt go (by simp [ob])
 refine jS (jS (jR (jm rfl (jm rfl (jb rfl rfl (Bin.lss _ _) (jO (jN (jv6 1 6 9 10 11 55 ?_))))))))
 refine jD rfl (fun hc6 => ?_) fun hc6 => ?_
 ·
  have hbd : ∀ p ∈ lst, p.count ≤ 2305843009213693951 ∧ p.sy.length ≤ 100000 := by
   intro p hp
   have h5 : p.abs ∈ bR (ps.map PkC.abs) k := by rw [← hlv]; exact zeo hp
   have h6 : p.count ≤ _ := qK3 h5
   have h7 : p.sy.length ≤ _ := qK4 h5
   have h8 := tF (ps.map PkC.abs) k
   have h9 := mI (ps.map PkC.abs) k
   have h10 : (k + 1) * fJ (ps.map PkC.abs) ≤ 16 * (320 * 2147483647) := zfl jo htC
   have h11 : (k + 1) * dU (ps.map PkC.abs) ≤ 16 * 320 := zfl jo htS
   exact ⟨jo, jo⟩
  refine jQ (jN (jv5 1 6 9 10 11 ?_))
  refine jS (jB (jR (jm rfl (jM ?_))))
  refine Ops.cl (jE2 Tryz.call110) (qXk cs.length B1 Bk c1 ck ps lst _ jo hPo.1.rd hPo.2 hPk.1.rd hPk.2 jo jo hbd (fun x => x ≠ go) (fun x hx => jo) (fun p hp x hx => Nat.ne_of_lt (hpg0 p hp x hx))) rfl ?_
  rintro e w5 ⟨B5, c5, qs, rfl, hP5, hq5, hf5, hu5, hg5⟩
  refine ⟨_, rfl, ?_⟩
  refine ja rfl (jO ?_)
  refine qJ (jN ?_)
  refine jv5 1 6 9 10 11 ?_
  refine jR (jm rfl (jb rfl rfl (Bin.add_i64 _ 1 jo) (ja rfl (jO ?_))))
  refine jN ⟨(k + 1, B5, c5, qs), (js5 rfl rfl rfl rfl rfl), ?_, ?_⟩
  ·
   refine ⟨by dsimp only; omega, ?_, hP5, hPo.frm hf5 jp (fun _ _ _ _ => jp), hoo.frm hf5 jp, hfr.own hf5 jp, hg5⟩
   dsimp only
   rw [hq5, hlv, rM _ _ hsort (oD _ (tI _ hsort k))]
   rfl
  first | omega | (dsimp only; omega)
 have hkm : k = i - 1 := jo
 subst hkm
 have hen := pR (ps.map PkC.abs) (i - 1) (by rw [zl, show i - 1 + 1 = i by omega]; omega)
 rw [← hlv, zl, zl] at hen
 rw [← lU] at hoo
 have hall : ∀ j, j ≤ lst.length → ((lst.take j).flatMap PkC.sy).length ≤ 16 * 320 := by
  intro j _
  have h8 := mI (ps.map PkC.abs) (i - 1)
  have h9 : (i - 1 + 1) * dU (ps.map PkC.abs) ≤ 16 * 320 := zfl jo htS
  have h10 := qZr (lst.map PkC.abs) j
  rw [← vA, ← zdf, zhl, hlv] at h10
  exact zn h10 (zn h8 h9)
 refine jX ?_
 refine qZ (qZ (qW ?_))
 refine jN (jv3 6 9 10 ?_)
 refine jS (jS (jR (jz 0 (jO (jN (jB ?_))))))
 refine VC.loop (σ := Nat) (fun s => [(6, .slice B1 ps.length c1), (9, .slice (some ⟨go, 0, none⟩) cs.length cs.length), (10, .slice Bk lst.length ck), (12, .int .i64 ((s : Nat) : Int))]) (fun s wr => s ≤ 2 * ps.length - 2 ∧ Rps wr cs.length Bk ck lst ∧ Own wr 3 1 (some ⟨go, 0, none⟩) cs.length cs.length (NI (dN cs.length ((lst.take s).flatMap PkC.sy))) ∧ Frm [] w wr) (fun s => 2 * ps.length - 2 - s) 0 (js4 rfl rfl rfl rfl) ⟨jo, hPk, by simpa using hoo, hfr⟩ ?_
 clear hPk hoo hfr hgw
 rintro j w5 ⟨hj, hPk, hoo, hfr⟩
 refine jS (jS (jR (jm rfl (jm rfl (je (Run.lenS rfl zbc) (jb rfl rfl (Bin.mul_i64 2 _ jo) (jb rfl rfl (Bin.sub_i64 _ 2 jo jo) (jb rfl rfl (Bin.lssN _ _) (jO (jN (jv5 6 9 10 12 66 ?_)))))))))))
 refine jD rfl (fun hc7 => ?_) fun hc7 => ?_
 ·
  have hil : j < lst.length := jo
  obtain ⟨ad, rfl, hea⟩ := hPk.1.rd.elem (k := j) hil
  clear hea
  have hfg : ((lst.flatMap (RC cs.length)).drop (j * 2)).take 2 = RC cs.length lst[j] := cI (RC cs.length) 2 (pT _) lst j hil
  have hpgi := hpg lst[j] (zt _)
  have hpm : lst[j] ∈ lst := zt _
  have htk : lst.take (j + 1) = lst.take j ++ [lst[j]] := by rw [zah, zb hil]; rfl
  have hfl := hall (j + 1) hil
  rw [htk, zw] at hfl
  simp only [zq, List.flatMap_nil, zdd, za] at hfl
  generalize lst[j] = p at *
  refine jQ (jN (jv4 6 9 10 12 ?_))
  refine jS (jB (jS (jR (jz 0 (jO (jN (jB ?_)))))))
  refine VC.loop (σ := Nat) (fun s => [(6, .slice B1 ps.length c1), (9, .slice (some ⟨go, 0, none⟩) cs.length cs.length), (10, .slice (some ad) lst.length ck), (12, .int .i64 ((j : Nat) : Int)), (13, .int .i64 ((s : Nat) : Int))]) (fun s wr => s ≤ cs.length ∧ Rps wr cs.length (some ad) ck lst ∧ Own wr 3 1 (some ⟨go, 0, none⟩) cs.length cs.length (NI (mL cs.length ((lst.take j).flatMap PkC.sy) p.sy s)) ∧ Frm [] w wr) (fun s => cs.length - s) 0 (js5 rfl rfl rfl rfl rfl) ⟨jo, hPk, by rw [qZs]; exact hoo, hfr⟩ ?_
  clear hPk hoo hfr
  rintro k w8 ⟨hk, hPk, hoo, hfr⟩
  have hd := qQ.drew w8
  refine jS (jS (jR (jm rfl (jm rfl (je (Run.lenS rfl zd) (jb rfl rfl (Bin.lssN _ _) (jO (jN (jv6 6 9 10 12 13 72 ?_)))))))))
  refine jD rfl (fun hc8 => ?_) fun hc8 => ?_
  ·
   obtain ⟨ad2, had2, hea⟩ := (hPk.1.rd.drawn hd).elem (k := j) hil
   obtain rfl : ad = ad2 := by injection had2
   rw [hfg] at hea
   obtain ⟨ai, hai, hci⟩ := ((hPk.2 p hpm).frm hd.frm jp).at1 hc8
   have hct := qNu (hoo.drawn hd) hc8
   have hcl2 : ((lst.take j).flatMap PkC.sy).count k ≤ 5120 := zn zeg jo
   have hcl3 : p.sy.count k ≤ 5120 := zn zeg jo
   have h83 : (RC cs.length p)[1]? = some (.slice (some ai) cs.length p.c) := by simp [RC, hai]
   refine jQ (jN (jv5 6 9 10 12 13 ?_))
   refine jS (jB ?_)
   refine VC.tail 14 jK jK ?_
   simp only [zag, zdt, zdo, zby]
   refine qM ?_
   refine qM ?_
   refine qE (Run.index1 _ rfl rfl zd zc jo) ?_
   refine qE (Run.load rfl zg hct) ?_
   refine qM ?_
   refine qM ?_
   refine qE (Run.indexS _ rfl rfl zbc zcz jo) ?_
   refine qE (Run.fieldAddr rfl zdx rfl zar jd) ?_
   refine qE (Run.load rfl zbq (hea 1 _ h83)) ?_
   refine qM ?_
   refine qE (Run.index1 _ rfl rfl zd zc jo) ?_
   refine qE (Run.load rfl zg hci) ?_
   refine qE (Run.bin rfl rfl (Bin.add_i64 _ _ jo)) ?_
   refine qE (Run.index1 _ rfl rfl zd zc jo) ?_
   refine qH.nil ?_
   refine Ops.st (qR.storeOwn k rfl rfl zc (hoo.drawn hd) rfl jo rfl) ?_
   rintro w9 ⟨ho9, hf9, hs9⟩
   rw [← qZt _ _ _ _ hc8] at ho9
   have hf89 := hfr.drawn hd
   refine jO ?_
   refine qJ (jN ?_)
   refine jv5 6 9 10 12 13 ?_
   refine jR (jm rfl (jb rfl rfl (Bin.add_i64 _ 1 jo) (ja rfl (jO ?_))))
   refine jN ⟨(k + 1), (js5 rfl rfl rfl rfl rfl), ?_, ?_⟩
   ·
    refine ⟨hc8, (hPk.frm hd.frm jp (fun _ _ _ _ => jp)).frm hf9 (hPk.1.ne_own hoo jd) (fun q hq x hx => by simp [ob]; exact hpg q hq x hx), ho9, hf89.own hf9 (fun x hx => ?_)⟩
    simp [ob] at hx
    omega
   first | omega | (dsimp only; omega)
  have hkl : k = cs.length := jo
  subst hkl
  rw [qK8] at hoo
  refine jX ?_
  refine qZ (qZ (qW ?_))
  refine qJ (jN ?_)
  refine jv4 6 9 10 12 ?_
  refine jR (jm rfl (jb rfl rfl (Bin.add_i64 _ 1 jo) (ja rfl (jO ?_))))
  refine jN ⟨(j + 1), (js4 rfl rfl rfl rfl), ?_, ?_⟩
  ·
   refine ⟨jo, hPk, ?_, hfr⟩
   rw [htk, zw]
   simpa using hoo
  first | omega | (dsimp only; omega)
 have hin2 : j = 2 * ps.length - 2 := jo
 subst hin2
 refine jX ?_
 refine qZ (qZ (qW ?_))
 refine jN (jv1 9 ?_)
 refine jS (jR (jm rfl (ja rfl (jz 0 (jO (jN (jv2 4 5 ?_)))))))
 refine jT ?_
 refine cY rfl rfl ?_
 refine ⟨hfr, ?_⟩
 rw [if_neg hc1]
 refine ⟨_, hco, ?_⟩
 rw [zac, zl, if_neg hc3n]
 refine ⟨_, _, rfl, ?_⟩
 have h5 : cF cs.length i (ps.map PkC.abs) = dN cs.length ((lst.take (2 * ps.length - 2)).flatMap PkC.sy) := by
  unfold cF
  rw [if_neg (by rw [zl]; omega), lB, ← hlv, zl, ← zdf, zhl]
  rfl
 rw [h5]
 exact hoo
end
section
open Go.RowKit
theorem qB9 (l : List Nat) : NI l = IB (l.map fun x : Nat => (x : Int)) := by simp [NI, IB]
theorem qSf (n m : Nat) (own : List (Nat × List Nat)) : (cF n m own).length = n := by
 unfold cF
 split <;> simp [wF]
end
section
open Go.RowKit
def sg (f : Nat → Nat) : Nat → Nat
 | 0 => 0
 | n + 1 => sg f n + f n
theorem dE {f h : Nat → Nat} : ∀ n, (∀ k, k < n → f k = h k) → sg f n = sg h n
 | 0, _ => rfl
 | n + 1, e => by rw [sg, sg, dE n (fun k hk => e k jo), e n jo]
theorem qVb (f h : Nat → Nat) : ∀ n, sg (fun k => f k + h k) n = sg f n + sg h n
 | 0 => rfl
 | n + 1 => by rw [sg, sg, sg, qVb f h n]; omega
theorem wA : ∀ n, sg (fun _ => 0) n = 0
 | 0 => rfl
 | n + 1 => by rw [sg, wA n]
theorem qVc (f : Nat → Nat) (c : Nat) : ∀ n, sg (fun k => f k * c) n = sg f n * c
 | 0 => by simp [sg]
 | n + 1 => by rw [sg, sg, qVc f c n, zgr]
theorem qYn (f : Nat → Nat → Nat) (m : Nat) : ∀ n, sg (fun i => sg (fun j => f i j) m) n = sg (fun j => sg (fun i => f i j) n) m
 | 0 => by simp only [sg]; rw [wA]
 | n + 1 => by rw [sg, qYn f m n, ← qVb]; rfl
theorem qTe (a : Nat) : ∀ n, a ≤ n → sg (fun i => if i < a then 1 else 0) n = a
 | 0, h => by simp [sg]; omega
 | n + 1, h => by
  rw [sg]
  by_cases h2 : a = n + 1
  ·
   subst h2
   rw [dE (h := fun _ => 1) n (fun k hk => by simp; omega), if_pos jo]
   have : ∀ n, sg (fun _ => 1) n = n := fun n => by
    induction n with
    | zero => rfl
    | succ n ih => rw [sg, ih]
   rw [this]
  rw [qTe a n jo, if_neg jo]; rfl
abbrev PL := List (Nat × List Nat)
theorem qZv (cs : List Nat) (g : Nat × List Nat → Nat) : ∀ n, ((cP cs n).map g).sum = sg (fun k => if 0 < cs.getD k 0 then g (cs.getD k 0, [k]) else 0) n
 | 0 => rfl
 | n + 1 => by
  rw [pP, zbt, zht, qZv cs g n, sg]
  by_cases h : 0 < cs.getD n 0
  · rw [if_pos h, if_pos h]; simp
  rw [if_neg h, if_neg h]; simp
theorem qXl {cs : List Nat} {own : PL} (h : dH cs own) (g : Nat × List Nat → Nat) : (own.map g).sum = sg (fun k => if 0 < cs.getD k 0 then g (cs.getD k 0, [k]) else 0) cs.length := by
 rw [← qZv, (h.1.map g).sum_nat]
theorem qZw (f : Nat → Nat) (s : Nat) : ∀ n, sg (fun i => if i = s then f i else 0) n = if s < n then f s else 0
 | 0 => by simp [sg]
 | n + 1 => by
  rw [sg, qZw f s n]
  by_cases h : n = s
  · subst h; simp
  by_cases h2 : s < n
  · rw [if_pos h2, if_neg h, if_pos jo]; rfl
  rw [if_neg h2, if_neg h, if_neg jo]
theorem pB (n : Nat) (l : PL) (i : Nat) (hi : i < n) : (wF n l).getD i 0 = (l.flatMap Prod.snd).count i := by
 rw [lB]
 simp [dN, List.getD, hi]
theorem lC (s : Nat) : ∀ a b : PL, ((bK a b).flatMap Prod.snd).count s = (a.flatMap Prod.snd).count s + (b.flatMap Prod.snd).count s
 | [], b => by simp [bK]
 | c :: cs, [] => by simp [bK]
 | c :: cs, p :: ps => by
  rw [bK]
  split
  · rw [zq, zaz, lC s cs (p :: ps), zq (x := c), zaz]; omega
  rw [zq, zaz, lC s (c :: cs) ps, zq (x := p), zaz]; omega
 termination_by a b => a.length + b.length
theorem pC (s : Nat) : ∀ l : PL, ((bZ l).flatMap Prod.snd).count s ≤ (l.flatMap Prod.snd).count s
 | [] => by simp [bZ]
 | [a] => by simp [bZ]
 | a :: b :: r => by
  have := pC s r
  rw [bZ, zq, zq, zq]
  simp only [lK, zaz]
  omega
theorem pD (own : PL) (s : Nat) : ∀ k, ((bR own k).flatMap Prod.snd).count s ≤ (k + 1) * (own.flatMap Prod.snd).count s
 | 0 => by simp [bR]
 | k + 1 => by
  have ih := pD own s k
  have h := pC s (bR own k)
  rw [bR, lC, zei]
  omega
theorem rN {cs : List Nat} {own : PL} (h : dH cs own) (s : Nat) : (own.flatMap Prod.snd).count s = if s < cs.length ∧ 0 < cs.getD s 0 then 1 else 0 := by
 have e : (own.flatMap Prod.snd).count s = (own.map fun p => p.2.count s).sum := by
  clear h
  induction own with
  | nil => rfl
  | cons a r ih => rw [zq, zaz, ih, zai, zfj]
 rw [e, qXl h]
 have h2 := qZw (fun k => if 0 < cs.getD k 0 then 1 else 0) s cs.length
 rw [dE (h := fun i => if i = s then (if 0 < cs.getD i 0 then 1 else 0) else 0) _ (fun k _ => ?_), h2]
 ·
  by_cases h3 : s < cs.length
  · simp [h3]
  simp [h3]
 by_cases hk : k = s
 · subst hk; simp
 simp [hk, zhs]
theorem mO (l : PL) (s x : Nat) : ((l.take x).flatMap Prod.snd).count s ≤ (l.flatMap Prod.snd).count s := by
 have h : l.flatMap Prod.snd = (l.take x).flatMap Prod.snd ++ (l.drop x).flatMap Prod.snd := by rw [← zw, zcm]
 rw [h, zaz]
 omega
theorem qNx {cs : List Nat} {own : PL} {m : Nat} (h : dH cs own) (hm : 1 ≤ m) (i : Nat) (hi : i < cs.length) : (cF cs.length m own).getD i 0 ≤ m ∧ (cs.getD i 0 = 0 → (cF cs.length m own).getD i 0 = 0) := by
 have h1 := rN h i
 unfold cF
 split
 ·
  rw [pB _ _ _ hi, h1]
  split
  · rename_i h2; exact ⟨hm, fun h3 => jo⟩
  exact ⟨jo, fun _ => rfl⟩
 rw [pB _ _ _ hi]
 have h2 := mO (bR own (m - 1)) i (2 * own.length - 2)
 have h3 := pD own i (m - 1)
 rw [show m - 1 + 1 = m by omega] at h3
 rw [h1] at h3
 split at h3
 · rename_i h4; exact ⟨jo, fun h5 => jo⟩
 exact ⟨jo, fun _ => jo⟩
end
section
open Go.RowKit
noncomputable section
open Classical in
def rgt (a b : List Int) (m : Int) (i : Nat) : Prop := (chk b = 0 ∨ chk b = 2) ∧ ∀ k, k < i → b.getD k 0 ≤ m ∧ (0 < b.getD k 0 ∨ a.getD k 0 = 0)
instance (a b : List Int) (m : Int) (i : Nat) : Decidable (rgt a b m i) := Classical.propDecidable _
end
theorem qXm (l : List Int) : ∀ i, i ≤ l.length → uA (l.take i) = sg (fun k => if 0 < (l.getD k 0).toNat then 2 ^ (15 - (l.getD k 0).toNat) else 0) i
 | 0, _ => by simp [uA, sg]
 | i + 1, h => by
  rw [qMs l i jo, qXm l i jo, sg]
  have e : l.getD i 0 = l[i] := by simp [List.getD, zb (jo : i < l.length)]
  rw [e]
  by_cases h2 : 0 < l[i]
  · rw [if_pos h2, if_pos jo]
  rw [if_neg h2, if_neg jo]
end
section
open Go.RowKit
theorem vO : ∀ (A B : PL) (x : Nat), kB A → kB B → x ≤ A.length + B.length → ∃ a p, a + p = x ∧ a ≤ A.length ∧ p ≤ B.length ∧ ((bK A B).take x).Perm (A.take a ++ B.take p) ∧ ∀ i j (hi : i < A.length) (hj : j < B.length), j < p → A[i].1 ≤ B[j].1 → i < a
 | [], B, x, _, _, h => ⟨0, x, jo, jp, by simpa using h, by simp [bK], fun i j hi => by simp at hi⟩
 | c :: cs, [], x, _, _, h => ⟨x, 0, jo, by simpa using h, jp, by simp [bK], fun i j hi hj => by simp at hj⟩
 | c :: cs, p0 :: ps, 0, _, _, h => ⟨0, 0, rfl, jo, jo, jp, fun i j hi hj h2 => jo⟩
 | c :: cs, p0 :: ps, x + 1, hA, hB, h => by
  have h1 := List.pairwise_cons.1 hA
  have h2 := List.pairwise_cons.1 hB
  rw [bK]
  by_cases hc : c.1 ≤ p0.1
  ·
   obtain ⟨a, p, e, ha, hp, hperm, hb⟩ := vO cs (p0 :: ps) x h1.2 hB (by simp at h ⊢; omega)
   rw [if_pos hc]
   refine ⟨a + 1, p, jo, by simpa using ha, hp, ?_, ?_⟩
   ·
    rw [zag, zag, zcr]
    exact hperm.cons c
   intro i j hi hj hjp hle
   cases i with
   | zero => omega
   | succ i =>
    have := hb i j (by simpa using hi) hj hjp hle
    omega
  obtain ⟨a, p, e, ha, hp, hperm, hb⟩ := vO (c :: cs) ps x hA h2.2 (by simp at h ⊢; omega)
  rw [if_neg hc]
  refine ⟨a, p + 1, jo, ha, by simpa using hp, ?_, ?_⟩
  ·
   rw [zag, zag]
   exact (hperm.cons p0).trans List.perm_middle.symm
  intro i j hi hj hjp hle
  cases j with
  | zero =>
   exfalso
   have h3 : c.1 ≤ ((c :: cs)[i]).1 := by
    cases i with
    | zero => exact zk _
    | succ i => exact h1.1 _ (zt _)
   simp only [List.getElem_cons_zero] at hle
   omega
  | succ j => exact hb i j hi (by simpa using hj) jo hle
 termination_by A B => A.length + B.length
theorem qYo : ∀ (L : PL) (q : Nat) (hq : q < L.length) (h : q / 2 < (bZ L).length), L[q].1 ≤ ((bZ L)[q / 2]).1
 | [], q, hq, _ => by simp at hq
 | [a], q, _, h => by simp [bZ] at h
 | a :: b :: r, 0, _, _ => by simp [bZ, lK]
 | a :: b :: r, 1, _, _ => by simp [bZ, lK]
 | a :: b :: r, q + 2, hq, h => by
  have e : (q + 2) / 2 = q / 2 + 1 := jo
  have h2 : q / 2 < (bZ r).length := by simp only [bZ, zp, e] at h; omega
  have := qYo r q (by simpa using hq) h2
  simp only [List.getElem_cons_succ, bZ, e]
  exact this
theorem qQm : ∀ (L : PL) (p : Nat), 2 * p ≤ L.length → ((bZ L).take p).flatMap Prod.snd = (L.take (2 * p)).flatMap Prod.snd
 | L, 0, _ => jp
 | [], p + 1, h => by simp at h
 | [a], p + 1, h => by simp at h; omega
 | a :: b :: r, p + 1, h => by
  have ih := qQm r p (by simp at h; omega)
  rw [bZ, zag, zq, ih, show 2 * (p + 1) = (2 * p) + 1 + 1 by omega, zag, zag, zq, zq]
  simp [lK]
theorem xM {l : PL} {i x : Nat} (hi : i < l.length) (h : i < x) : l[i] ∈ l.take x := by
 have : (l.take x)[i]'(by simp; omega) = l[i] := jp
 rw [← this]
 exact zt _
theorem qZx {own : PL} (hs : kB own) : ∀ k x, x ≤ (bR own k).length → ∃ a : Nat → Nat, (∀ j, j ≤ k → a j ≤ own.length) ∧ (∀ j, j < k → a j ≤ a (j + 1)) ∧ x * 2 ^ k = sg (fun j => a j * 2 ^ j) (k + 1) ∧
  (∀ s, (((bR own k).take x).flatMap Prod.snd).count s = sg (fun j => ((own.take (a j)).flatMap Prod.snd).count s) (k + 1)) ∧ ∀ i (hi : i < own.length), i < a k → own[i] ∈ (bR own k).take x
 | 0, x, h => ⟨fun _ => x, fun _ _ => h, fun _ _ => zk _, by simp [sg], fun s => by simp [sg, bR], fun i hi hx => xM hi hx⟩
 | k + 1, x, h => by
  have hsl := tI own hs k
  have hsp := oD _ hsl
  rw [bR, rG] at h
  obtain ⟨a', p, e, ha, hp, hperm, hb⟩ := vO own (bZ (bR own k)) x hs hsp h
  have hpl := oC (bR own k)
  have h2p : 2 * p ≤ (bR own k).length := jo
  obtain ⟨a, h1, h2, h3, h4, h5⟩ := qZx hs k (2 * p) h2p
  have hmono : a k ≤ a' := by
   refine Nat.le_of_not_lt fun hlt => ?_
   have hi : a' < own.length := zbb hlt (h1 k (zk _))
   obtain ⟨q, hq, hqe⟩ := zbe (h5 a' hi hlt)
   rw [zi] at hq
   have hq2 : q / 2 < (bZ (bR own k)).length := jo
   have h6 := qYo (bR own k) q jo hq2
   rw [List.getElem_take] at hqe
   rw [hqe] at h6
   have := hb a' (q / 2) hi hq2 jo h6
   omega
  have hc : ∀ (f : Nat → Nat → Nat), sg (fun j => f (if j ≤ k then a j else a') j) (k + 1) = sg (fun j => f (a j) j) (k + 1) := fun f => dE _ (fun j hj => by rw [if_pos jo])
  refine ⟨fun j => if j ≤ k then a j else a', ?_, ?_, ?_, ?_, ?_⟩
  ·
   intro j hj
   dsimp only
   split
   · exact h1 j (by assumption)
   exact ha
  ·
   intro j hj
   dsimp only
   rw [if_pos jo]
   by_cases hjk : j = k
   · subst hjk; rw [if_neg jo]; exact hmono
   rw [if_pos jo]; exact h2 j jo
  ·
   rw [sg, hc (fun y j => y * 2 ^ j), ← h3]
   dsimp only
   rw [if_neg jo, ← e, zgr, zbo, zcw 2 p, zdm p 2, zcw 2 (2 ^ k)]
   omega
  ·
   intro s
   rw [sg, hc (fun y j => ((own.take y).flatMap Prod.snd).count s), ← h4 s, ← qQm _ _ h2p, bR]
   dsimp only
   rw [if_neg jo, (hperm.flatMap_right _).count_eq, zw, zaz]
   omega
  intro i hi hia
  dsimp only at hia
  rw [if_neg jo] at hia
  rw [bR]
  exact hperm.mem_iff.2 (zhn _ (xM hi hia))
theorem qYp {a : Nat → Nat} {k : Nat} (h : ∀ j, j < k → a j ≤ a (j + 1)) : ∀ d j, j + d = k → a j ≤ a k
 | 0, j, e => by subst e; exact zk _
 | d + 1, j, e => zn (h j jo) (qYp h d (j + 1) jo)
theorem qVd (a : Nat → Nat) (i : Nat) : ∀ k, (∀ j, j < k → a j ≤ a (j + 1)) → sg (fun j => if i < a j then 1 else 0) (k + 1) ≤ k + 1 ∧ sg (fun j => if i < a j then 2 ^ j else 0) (k + 1) + 2 ^ (k + 1 - sg (fun j => if i < a j then 1 else 0) (k + 1)) = 2 ^ (k + 1)
 | 0, _ => by
  by_cases h : i < a 0
  · simp [sg, h]
  simp [sg, h]
 | k + 1, hm => by
  obtain ⟨h1, h2⟩ := qVd a i k (fun j hj => hm j jo)
  have e1 : ∀ f : Nat → Nat, sg f (k + 1 + 1) = sg f (k + 1) + f (k + 1) := fun _ => rfl
  rw [e1, e1]
  by_cases h : i < a (k + 1)
  ·
   rw [if_pos h, if_pos h]
   refine ⟨jo, ?_⟩
   have h3 : 2 ^ (k + 1 + 1) = 2 ^ (k + 1) * 2 := zbo ..
   rw [show k + 1 + 1 - (sg (fun j => if i < a j then 1 else 0) (k + 1) + 1) = k + 1 - sg (fun j => if i < a j then 1 else 0) (k + 1) by omega]
   omega
  have h4 : ∀ j, j < k + 1 → ¬ i < a j := fun j hj h5 => h (zbb h5 (qYp hm (k + 1 - j) j jo))
  have h5 : sg (fun j => if i < a j then 1 else 0) (k + 1) = 0 := by rw [dE (h := fun _ => 0) _ (fun j hj => if_neg (h4 j hj)), wA]
  have h6 : sg (fun j => if i < a j then 2 ^ j else 0) (k + 1) = 0 := by rw [dE (h := fun _ => 0) _ (fun j hj => if_neg (h4 j hj)), wA]
  rw [if_neg h, if_neg h, h5, h6]
  simp
theorem qQn (g : Nat × List Nat → Nat) (l : PL) : ∀ i, i ≤ l.length → ((l.take i).map g).sum = sg (fun k => g (l.getD k (0, []))) i
 | 0, _ => rfl
 | i + 1, h => by
  rw [zah, zb (jo : i < l.length), zbt, zht, qQn g l i jo, sg]
  simp [List.getD, zb (jo : i < l.length)]
theorem qTf (f : Nat → Nat) (i : Nat) : ∀ n, i < n → (∀ k, k < n → 1 ≤ f k) → f i + (n - 1) ≤ sg f n
 | 0, h, _ => jo
 | n + 1, h, h1 => by
  rw [sg]
  have h2 := h1 n jo
  by_cases e : i = n
  ·
   subst e
   have : ∀ m, m ≤ i → m ≤ sg f m := fun m => by
    induction m with
    | zero => intro _; omega
    | succ m ih =>
     intro hm
     have := ih jo
     have := h1 m jo
     rw [sg]; omega
   have := this i (zk _)
   omega
  have := qTf f i n jo (fun k hk => h1 k jo)
  omega
theorem qXn {cs : List Nat} {own : PL} (h : dH cs own) (i b : Nat) (hi : i < own.length) : ((own.take b).flatMap Prod.snd).count (own[i].2.headD 0) = if i < b then 1 else 0 := by
 obtain ⟨k, hk, hk0, he⟩ := fK (h.1.mem_iff.1 (zt hi))
 have hsy : own[i].2 = [k] := by rw [he]
 rw [hsy, List.headD_cons]
 have h1 := rN h k
 rw [if_pos ⟨hk, hk0⟩] at h1
 have hsplit : own = own.take i ++ own[i] :: own.drop (i + 1) := by rw [← zcn hi, zcm]
 have h2 : ((own.take i).flatMap Prod.snd).count k + (1 + ((own.drop (i + 1)).flatMap Prod.snd).count k) = (own.flatMap Prod.snd).count k := by
  conv => rhs; rw [hsplit]
  rw [zw, zq, hsy, zaz, zaz]
  simp
 rw [h1] at h2
 by_cases hb : i < b
 ·
  rw [if_pos hb]
  have h3 := mO own k b
  have h4 : own.take b = own.take i ++ own[i] :: (own.drop (i + 1)).take (b - (i + 1)) := by
   conv => lhs; rw [hsplit]
   rw [List.take_append, zi, zal jo, zm (by simp; omega), show b - i = (b - (i + 1)) + 1 by omega, zag]
  rw [h4, zw, zq, hsy, zaz, zaz]
  rw [h4, zw, zq, hsy, zaz, zaz] at h3
  simp at h3 ⊢
  omega
 rw [if_neg hb]
 have h4 : own.take b = (own.take i).take b := by rw [zhc, zal jo]
 have h3 := mO (own.take i) k b
 rw [h4]
 omega
theorem qYq {cs : List Nat} {own : PL} {m : Nat} (hco : dH cs own) (hn : cs.length ≤ 320) (hm1 : 1 ≤ m) (hm15 : m ≤ 15) (hfit : own.length ≤ 2 ^ m) :
  (∀ i, i < cs.length → ((cF cs.length m own).getD i 0 = 0 ↔ cs.getD i 0 = 0)) ∧ sg (fun k => if 0 < (cF cs.length m own).getD k 0 then 2 ^ (15 - (cF cs.length m own).getD k 0) else 0) cs.length = if 2 ≤ own.length then 32768 else own.length * 16384 := by
 have hone : ∀ c : Nat, (own.map fun _ => c).sum = own.length * c := by
  intro c
  generalize own = l
  induction l with
  | nil => simp
  | cons a r ih => rw [zai, zfj, ih, zp, zei]; omega
 by_cases h1 : own.length ≤ 1
 ·
  have hR : ∀ i, i < cs.length → (cF cs.length m own).getD i 0 = if 0 < cs.getD i 0 then 1 else 0 := by
   intro i hi
   unfold cF
   rw [if_pos h1, pB _ _ _ hi, rN hco]
   by_cases h2 : 0 < cs.getD i 0
   · rw [if_pos ⟨hi, h2⟩, if_pos h2]
   rw [if_neg (fun h => h2 h.2), if_neg h2]
  refine ⟨fun i hi => ?_, ?_⟩
  ·
   rw [hR i hi]
   by_cases h2 : 0 < cs.getD i 0
   · rw [if_pos h2]; omega
   rw [if_neg h2]; omega
  rw [if_neg jo, ← hone, qXl hco]
  refine dE _ (fun i hi => ?_)
  rw [hR i hi]
  by_cases h2 : 0 < cs.getD i 0
  · rw [if_pos h2, if_pos h2, if_pos jo]
  rw [if_neg h2, if_neg h2, if_neg jo]
 obtain ⟨q, rfl⟩ : ∃ q, m = q + 1 := ⟨m - 1, jo⟩
 have hen := pR own q hfit
 obtain ⟨a, ha1, ha2, ha3, ha4, _⟩ := qZx (qQk hco hn) q (2 * own.length - 2) hen
 have hL : ∀ i (hi : i < own.length), (cF cs.length (q + 1) own).getD (own[i].2.headD 0) 0 = sg (fun j => if i < a j then 1 else 0) (q + 1) := by
  intro i hi
  obtain ⟨k, hk, hk0, he⟩ := fK (hco.1.mem_iff.1 (zt hi))
  unfold cF
  rw [if_neg h1, zgp, pB _ _ _ (by rw [he]; exact hk), ha4]
  exact dE _ (fun j _ => qXn hco i (a j) hi)
 have hsum : sg (fun i => 2 ^ (q + 1 - sg (fun j => if i < a j then 1 else 0) (q + 1))) own.length = 2 ^ (q + 1) := by
  have e1 : sg (fun i => sg (fun j => if i < a j then 2 ^ j else 0) (q + 1)) own.length = (2 * own.length - 2) * 2 ^ q := by
   rw [qYn, ha3]
   refine dE _ (fun j hj => ?_)
   have e2 : sg (fun i => (if i < a j then 1 else 0) * 2 ^ j) own.length = a j * 2 ^ j := by rw [qVc, qTe _ _ (ha1 j jo)]
   rw [← e2]
   exact dE _ (fun i _ => by split <;> simp)
  have e3 : sg (fun i => sg (fun j => if i < a j then 2 ^ j else 0) (q + 1) + 2 ^ (q + 1 - sg (fun j => if i < a j then 1 else 0) (q + 1))) own.length = own.length * 2 ^ (q + 1) := by
   rw [dE (h := fun _ => 2 ^ (q + 1)) _ (fun i _ => (qVd a i q ha2).2)]
   generalize own.length = z
   induction z with
   | zero => simp [sg]
   | succ z ih => rw [sg, ih, zei]
  rw [qVb, e1] at e3
  have e4 : (2 * own.length - 2) * 2 ^ q = own.length * 2 ^ (q + 1) - 2 ^ (q + 1) := by
   have h3 : 2 ^ (q + 1) = 2 ^ q * 2 := zbo ..
   rw [h3, Nat.sub_mul, zcw 2 own.length, zdm, zcw (2 ^ q) 2]
  have e5 : 2 ^ (q + 1) ≤ own.length * 2 ^ (q + 1) := Nat.le_mul_of_pos_left _ jo
  omega
 have hpos : ∀ i, i < own.length → 0 < sg (fun j => if i < a j then 1 else 0) (q + 1) := by
  intro i hi
  refine Nat.pos_of_ne_zero fun h0 => ?_
  have h2 := qTf (fun i => 2 ^ (q + 1 - sg (fun j => if i < a j then 1 else 0) (q + 1))) i own.length hi (fun k _ => Nat.pow_pos jo)
  rw [hsum] at h2
  rw [h0, zcf] at h2
  omega
 have hcome : ∀ s, s < cs.length → 0 < cs.getD s 0 → ∃ i, ∃ hi : i < own.length, own[i].2.headD 0 = s := by
  intro s hs hs0
  have hmem : (cs.getD s 0, [s]) ∈ own := by
   refine hco.1.mem_iff.2 ?_
   unfold cP
   exact List.mem_map.2 ⟨s, List.mem_filter.2 ⟨List.mem_range.2 hs, by simpa using hs0⟩, rfl⟩
  obtain ⟨i, hi, he⟩ := zbe hmem
  exact ⟨i, hi, by rw [he]; rfl⟩
 have hz : ∀ i, i < cs.length → ((cF cs.length (q + 1) own).getD i 0 = 0 ↔ cs.getD i 0 = 0) := by
  intro s hs
  refine ⟨fun h => ?_, (qNx hco hm1 s hs).2⟩
  refine Classical.byContradiction fun h2 => ?_
  obtain ⟨i, hi, he⟩ := hcome s hs jo
  have h3 := hL i hi
  rw [he, h] at h3
  have := hpos i hi
  omega
 refine ⟨hz, ?_⟩
 rw [if_pos jo]
 have e6 : sg (fun k => if 0 < (cF cs.length (q + 1) own).getD k 0 then 2 ^ (15 - (cF cs.length (q + 1) own).getD k 0) else 0) cs.length = (own.map fun c => 2 ^ (15 - (cF cs.length (q + 1) own).getD (c.2.headD 0) 0)).sum := by
  rw [qXl hco]
  refine dE _ (fun k hk => ?_)
  have h2 := hz k hk
  by_cases h3 : 0 < cs.getD k 0
  · rw [if_pos h3, if_pos jo]; rfl
  rw [if_neg h3, if_neg jo]
 rw [e6]
 have e7 := qQn (fun c => 2 ^ (15 - (cF cs.length (q + 1) own).getD (c.2.headD 0) 0)) own own.length (zk _)
 rw [zas] at e7
 rw [e7]
 have e8 : sg (fun k => 2 ^ (15 - (cF cs.length (q + 1) own).getD ((own.getD k (0, [])).2.headD 0) 0)) own.length = sg (fun i => 2 ^ (q + 1 - sg (fun j => if i < a j then 1 else 0) (q + 1)) * 2 ^ (15 - (q + 1))) own.length := by
  refine dE _ (fun i hi => ?_)
  have h2 : own.getD i (0, []) = own[i] := by simp [List.getD, zb hi]
  have h3 := (qVd a i q ha2).1
  rw [h2, hL i hi, ← Nat.pow_add]
  congr 1
  omega
 rw [e8, qVc, hsum, ← Nat.pow_add, show q + 1 + (15 - (q + 1)) = 15 by omega]
end
section
open Go.RowKit
def toZ (l : List Nat) : List Int := l.map fun x : Nat => (x : Int)
theorem bM (l : List Nat) : (toZ l).length = l.length := by simp [toZ]
theorem oK (l : List Nat) : NI l = IB (toZ l) := qB9 l
theorem qYr (l : List Nat) : (toZ l).map Int.toNat = l := by simp [toZ, Function.comp_def]
theorem nS (l : List Nat) (i : Nat) : (toZ l).getD i 0 = ((l.getD i 0 : Nat) : Int) := by
 simp only [toZ, List.getD, zbd]
 cases l[i]? <;> simp
noncomputable section
open Classical in
def qVe (cs : List Nat) : PL := if h : ∃ own, dH cs own then h.choose else []
def dJ (cs : List Nat) (m : Nat) : List Nat := cF cs.length m (qVe cs)
end
theorem rP {cs : List Nat} {own : PL} (h : dH cs own) : qVe cs = own := by
 have h1 : ∃ own, dH cs own := ⟨own, h⟩
 unfold qVe
 rw [dif_pos h1]
 exact qK7 h1.choose_spec h
theorem qSg (cs : List Nat) (m : Nat) : (dJ cs m).length = cs.length := qSf _ _ _
theorem tL {cs : List Nat} {own : PL} (h : dH cs own) : own.length ≤ cs.length := by
 rw [h.1.length_eq]
 unfold cP
 rw [zl]
 exact zn (zfw _ _) jp
structure LenOk (cs ls : List Nat) (m : Nat) : Prop where
 len : ls.length = cs.length
 ok : LOk (toZ ls)
 most : ∀ i, ls.getD i 0 ≤ m
 come : ∀ i, i < cs.length → (ls.getD i 0 = 0 ↔ cs.getD i 0 = 0)
theorem qXo {cs : List Nat} {own : PL} {m : Nat} (h : dH cs own) (hl : cs.length ≤ 320) (hm1 : 1 ≤ m) (hm2 : m ≤ 15) (hf : cs.length ≤ 2 ^ m) : LenOk cs (dJ cs m) m := by
 have hfit : own.length ≤ 2 ^ m := zn (tL h) hf
 obtain ⟨h1, h2⟩ := qYq h hl hm1 hm2 hfit
 have hE : dJ cs m = cF cs.length m own := by unfold dJ; rw [rP h]
 have hlen := qSg cs m
 have hle : ∀ i, (dJ cs m).getD i 0 ≤ m := fun i => by
  by_cases hi : i < cs.length
  · rw [hE]; exact (qNx h hm1 i hi).1
  rw [ze, zu jo]
  exact zak _
 have hr : ∀ x ∈ toZ (dJ cs m), 0 ≤ x ∧ x ≤ 15 := fun x hx => by
  obtain ⟨y, hy, rfl⟩ := List.mem_map.1 hx
  obtain ⟨i, hi, rfl⟩ := zbe hy
  have := hle i
  rw [ze, zb hi, zba] at this
  omega
 refine ⟨hlen, ⟨⟨by rw [bM]; omega, hr⟩, ?_⟩, hle, fun i hi => by rw [hE]; exact h1 i hi⟩
 rw [qYb _ hr]
 have h3 := qXm (toZ (dJ cs m)) _ (zk _)
 rw [zas] at h3
 rw [h3, bM, hlen, dE (h := fun k => if 0 < (cF cs.length m own).getD k 0 then 2 ^ (15 - (cF cs.length m own).getD k 0) else 0) _ (fun k _ => by rw [nS, zac, hE]), h2]
 split
 · exact zk _
 have : own.length ≤ 1 := jo
 omega
theorem qUf (A : Option Addr) (c0 : Nat) (cs : List Nat) (m : Nat) (w : World) (hl : cs.length ≤ 320) (hb : ∀ x ∈ cs, x ≤ 2147483647) (hm1 : 1 ≤ m) (hm2 : m ≤ 15) (hf : cs.length ≤ 2 ^ m) (hr : Rd w 1 A cs.length (NI cs)) :
  Calls Tryz.prog 60 #[.slice A cs.length c0, .int .i64 ((m : Nat) : Int)] w fun e w' => ∃ B c, e = .returned (.tuple #[.slice B cs.length c, .int .i64 ((0 : Nat) : Int)]) ∧ Own w' 3 1 B cs.length c (NI (dJ cs m)) ∧ Frm [] w w' ∧ (∀ x ∈ ob B, w.heap.size ≤ x) ∧ LenOk cs (dJ cs m) m := by
 have h1 := qK6 A c0 (toZ cs) m w (by rw [bM]; omega) (by rw [bM, ← oK]; exact hr)
 rw [bM, qYr] at h1
 refine h1.mono ?_
 rintro e w' ⟨hfr, h2⟩
 have hmay : mA (toZ cs) := ⟨by rw [bM]; exact hl, fun x hx => by
  obtain ⟨y, hy, rfl⟩ := List.mem_map.1 hx
  have := hb y hy
  omega⟩
 rw [if_neg (by rintro (h | h | h); exact h hmay; omega; omega)] at h2
 obtain ⟨own, hco, h2⟩ := h2
 rw [zac, if_neg (by have := tL hco; omega)] at h2
 obtain ⟨B, c, he, ho, hn⟩ := h2
 have hE : dJ cs m = cF cs.length m own := by unfold dJ; rw [rP hco]
 exact ⟨B, c, he, by rw [hE]; exact ho, hfr, hn, qXo hco hl hm1 hm2 hf⟩
theorem qSh (A : Option Addr) (c0 : Nat) (cs : List Nat) (m : Nat) (w : World) (hl : cs.length ≤ 320) (hb : ∀ x ∈ cs, x ≤ 2147483647) (hm1 : 1 ≤ m) (hm2 : m ≤ 15) (hf : cs.length ≤ 2 ^ m) (hr : Rd w 1 A cs.length (NI cs)) :
  Calls Tryz.prog 77 #[.slice A cs.length c0, .int .i64 ((m : Nat) : Int)] w fun e w' => ∃ B c, e = .returned (.tuple #[.slice B cs.length c, .int .i64 ((0 : Nat) : Int)]) ∧ Own w' 3 1 B cs.length c (NI (dJ cs m)) ∧ Frm [] w w' ∧ LenOk cs (dJ cs m) m := by
 have h1 := qQl A c0 (toZ cs) m w (by rw [bM]; omega) (by rw [bM, ← oK]; exact hr)
 rw [bM, qYr] at h1
 refine h1.mono ?_
 rintro e w' ⟨hfr, h2⟩
 have hmay : mA (toZ cs) := ⟨by rw [bM]; exact hl, fun x hx => by
  obtain ⟨y, hy, rfl⟩ := List.mem_map.1 hx
  have := hb y hy
  omega⟩
 rw [if_neg (by rintro (h | h | h); exact h hmay; omega; omega)] at h2
 obtain ⟨own, hco, h2⟩ := h2
 rw [zac, if_neg (by have := tL hco; omega)] at h2
 obtain ⟨B, c, he, ho⟩ := h2
 have hE : dJ cs m = cF cs.length m own := by unfold dJ; rw [rP hco]
 exact ⟨B, c, he, by rw [hE]; exact ho, hfr, qXo hco hl hm1 hm2 hf⟩
def yO (t : Sd) : Prop := t.1 < 19 ∧ t.2.1 ≤ 7 ∧ t.2.2 < 2 ^ t.2.1
theorem qVf {l : List Nat} (h : ∀ i, l.getD i 0 ≤ 15) (a : Nat) : yO (bB l a).1 := by
 have h1 := h a
 unfold bB yO
 split
 · dsimp only; omega
 split
 · dsimp only; omega
 split
 · dsimp only; omega
 dsimp only; omega
theorem qYs {l : List Nat} (h : ∀ i, l.getD i 0 ≤ 15) : ∀ m a, ∀ t ∈ nP l m a, yO t
 | 0, _, t, ht => by simp [nP] at ht
 | m + 1, a, t, ht => by
  unfold nP at ht
  split at ht
  · cases ht
  rcases zbv.1 ht with rfl | ht
  · exact qVf h a
  exact qYs h m _ t ht
theorem qUg {l : List Nat} (h : ∀ i, l.getD i 0 ≤ 15) : ∀ t ∈ dK l 0, yO t := qYs h _ _
theorem qSi (l : List Nat) : (dK l 0).length ≤ l.length := qKt l _ _
def timeStep (c : List Nat) (t : Sd) : List Nat := c.set t.1 (c.getD t.1 0 + 1)
def dM (l : List Sd) : List Nat := l.foldl timeStep (rep 19)
theorem xN (l : List Sd) (t : Sd) : dM (l ++ [t]) = timeStep (dM l) t := by unfold dM; rw [zgx]; rfl
theorem qNy (l : List Sd) : ∀ c : List Nat, (l.foldl timeStep c).length = c.length := by
 induction l with
 | nil => intro c; rfl
 | cons t r ih => intro c; rw [zdn, ih]; unfold timeStep; rw [zdw]
theorem eK (l : List Sd) : (dM l).length = 19 := by unfold dM; rw [qNy]; rfl
theorem qUh (l : List Sd) : ∀ (c : List Nat) (n : Nat), (∀ x ∈ c, x ≤ n) → ∀ x ∈ l.foldl timeStep c, x ≤ n + l.length := by
 induction l with
 | nil => intro c n h; exact h
 | cons t r ih =>
  intro c n h x hx
  have := ih _ (n + 1) (qQh h) x hx
  simp only [zp]
  omega
theorem rR (l : List Sd) : ∀ x ∈ dM l, x ≤ 0 + l.length := qUh l _ 0 (fun x hx => by rw [zgc hx]; omega)
noncomputable section
def dZ (bs : List Nat) : List Nat := dJ (dQ (qS bs 0)) 15
def dT (bs : List Nat) : List Nat := dJ (eJ (qS bs 0)) 15
def bW (bs : List Nat) : List Nat := cN (dZ bs) 257
def bF (bs : List Nat) : List Nat := cN (dT bs) 1
def qL (bs : List Nat) : List Sd := dK (bW bs ++ bF bs) 0
def bJ (bs : List Nat) : List Nat := dJ (dM (qL bs)) 7
def bY (bs : List Nat) : List Nat := cN (cU (bJ bs)) 4
def dF (third : List Int) (t : Sd) : List Bool := bH third t.1 ++ bitsL t.2.2 t.2.1
def eG (bs : List Nat) : List Bool :=
 bitsL 1 1 ++ bitsL 2 2 ++ bitsL ((bW bs).length - 257) 5 ++ bitsL ((bF bs).length - 1) 5 ++ bitsL ((bY bs).length - 4) 4 ++ (bY bs).flatMap (fun n => bitsL n 3) ++ (qL bs).flatMap (dF (toZ (bJ bs))) ++ cT (toZ (dZ bs)) (toZ (dT bs)) (qS bs 0)
end
theorem nQ (l : List Nat) (least : Nat) (h : least ≤ l.length) : least ≤ (cN l least).length ∧ (cN l least).length ≤ l.length := by
 rw [gJ]
 exact ⟨qYj l least _ h, mG l least _⟩
theorem mM (l : List Nat) (least n : Nat) (h : ∀ i, l.getD i 0 ≤ n) (i : Nat) : (cN l least).getD i 0 ≤ n := by
 unfold cN
 by_cases hi : i < fN l least l.length
 ·
  rw [ze, zaq hi, ← ze]
  exact h i
 rw [ze, List.getElem?_take_eq_none jo]
 exact zak _
theorem xP (a b : List Nat) (n : Nat) (ha : ∀ i, a.getD i 0 ≤ n) (hb : ∀ i, b.getD i 0 ≤ n) (i : Nat) : (a ++ b).getD i 0 ≤ n := by
 rw [ze, List.getElem?_append]
 split
 · rw [← ze]; exact ha i
 rw [← ze]; exact hb _
theorem eO (l : List Nat) : (cU l).length = 19 := by unfold cU; rw [zl]; rfl
theorem qZy (l : List Nat) (n : Nat) (h : ∀ i, l.getD i 0 ≤ n) (i : Nat) : (cU l).getD i 0 ≤ n := by
 unfold cU
 rw [ze, zbd]
 cases bX[i]? with
 | none => exact zak _
 | some s => exact h s
theorem zQ {third : List Int} (h3 : LOk third) (hl : 19 ≤ third.length) : ∀ L : List Sd, (∀ t ∈ L, yO t) → (L.flatMap (dF third)).length ≤ 22 * L.length
 | [], _ => jp
 | t :: L, h => by
  have h1 := zQ h3 hl L (fun t ht => h t (zbu _ ht))
  obtain ⟨h4, h5, _⟩ := h t zcc
  have h2 := eY h3.1 h3.2 (jo : t.1 < third.length)
  have h6 : (dF third t).length = (bH third t.1).length + t.2.1 := by unfold dF; rw [za, qN]
  rw [zq, za, zp]
  omega
theorem kD : ∀ L : List Nat, (L.flatMap fun n => bitsL n 3).length = 3 * L.length
 | [] => jp
 | a :: L => by rw [zq, za, kD L, qN, zp]; omega
end
section
open Go.RowKit
structure Sm {α : Type} (L' L : List Bool) (m' m : Nat) (pos len : α → Nat) (p o : Nat) (X Y : Except Nat α) : Prop where
 low : ∀ x, Y = .ok x → p ≤ pos x ∧ pos x ≤ L.length ∧ o ≤ len x
 sim : p ≤ L'.length → (X = Y ∧ ∀ x, Y = .ok x → pos x ≤ L'.length) ∨ (L' ≠ L ∧ X = .error 2 ∧ ∀ x, Y = .ok x → L'.length < pos x) ∨ (m' ≠ m ∧ X = .error 13 ∧ ∀ x, Y = .ok x → m' < len x)
section
variable {α β : Type} {L' L : List Bool} {m' m : Nat}
end
section
variable {L' L : List Bool} {m' m : Nat}
end
section
variable {L' L : List Bool} {m' m : Nat} (hL : L' <+: L)
include hL
end
section
variable {bs' bs : List Nat} {m' m : Nat} (hb : bs' <+: bs) (hm : m' ≤ m)
include hb hm
end
structure NZ {α : Type} (X : Except Nat α) : Prop where
 ne : X ≠ .error 0
theorem NZ.ok {α : Type} (x : α) : NZ (.ok x : Except Nat α) := ⟨by intro h; cases h⟩
theorem NZ.er {α : Type} (k : Nat) : NZ (.error (k + 1) : Except Nat α) := ⟨by intro h; injection h with h; cases h⟩
end
section
open Go.RowKit
def eH (h : Nat) (x : List Nat) : List Nat := [h, x.length % 256, x.length / 256, 255 - x.length % 256, 255 - x.length / 256] ++ x
def gX : List (List Nat) → List Nat → List Nat
 | [], last => eH 1 last
 | x :: r, last => eH 0 x ++ gX r last
theorem eC {L A B : List Bool} {n p : Nat} (hL : ∃ C, L = A ++ B ++ C) (hn : n = B.length) (hp : p = A.length) : bN L n p = .ok (num B, p + n) := by
 obtain ⟨C, hL⟩ := hL
 subst hL hn hp
 unfold bN
 rw [if_pos jp]
 rw [zj, zfm, zhf]
theorem qVg {h : Nat} (hh : h < 2) : bitsL h 8 = [decide (h = 1)] ++ [false, false] ++ [false, false, false, false, false] := by
 rcases (by omega : h = 0 ∨ h = 1) with rfl | rfl <;> rfl
theorem qHe {a b : Nat} (ha : a < 256) (hb : b < 256) : num (bitsL a 8 ++ bitsL b 8) = a + 256 * b := by
 rw [sL, eD 8 a ha, eD 8 b hb, qN]
theorem qZz {bs pre x post : List Nat} {h most : Nat} {out : List Nat} (hbs : bs = pre ++ eH h x ++ post) (hh : h < 2) (hx : x.length < 65536) (hm : out.length + x.length ≤ most) :
  kK bs most (8 * pre.length) out = .ok (decide (h = 0), 8 * (pre.length + 5 + x.length), out ++ x) := by
 have e0 : ofB bs = ofB pre ++ bitsL h 8 ++ (bitsL (x.length % 256) 8 ++ bitsL (x.length / 256) 8 ++ (bitsL (255 - x.length % 256) 8 ++ bitsL (255 - x.length / 256) 8 ++ ofB (x ++ post))) := by
  rw [hbs]
  simp only [eH, zcr, zbf, zj, fZ, xO]
 have el := bL pre
 have hq : x.length / 256 < 256 := jo
 have hr : x.length % 256 < 256 := jo
 have hlen : bs.length = pre.length + 5 + x.length + post.length := by rw [hbs]; simp [eH]; omega
 unfold kK
 rw [eC (A := ofB pre) (B := [decide (h = 1)]) (n := 1) (p := 8 * pre.length) (⟨_, by rw [e0, qVg hh]; simp only [zj]; rfl⟩) rfl el.symm, qB]
 dsimp only
 rw [eC (A := ofB pre ++ [decide (h = 1)]) (B := [false, false]) (n := 2) (p := 8 * pre.length + 1) (⟨_, by rw [e0, qVg hh]; simp only [zj]; rfl⟩) rfl (by simp [el]), qB]
 dsimp only
 have n2 : num [false, false] = 0 := rfl
 rw [n2, if_neg jo, if_pos rfl]
 unfold mV
 rw [show (8 * pre.length + 1 + 2 + 7) / 8 * 8 = 8 * pre.length + 8 by omega]
 rw [eC (A := ofB pre ++ bitsL h 8) (B := bitsL (x.length % 256) 8 ++ bitsL (x.length / 256) 8) (n := 16) (p := 8 * pre.length + 8) (⟨_, by rw [e0]; simp only [zj]; rfl⟩) (by simp [qN]) (by simp [qN, el]), qB]
 dsimp only
 rw [eC (A := ofB pre ++ bitsL h 8 ++ (bitsL (x.length % 256) 8 ++ bitsL (x.length / 256) 8)) (B := bitsL (255 - x.length % 256) 8 ++ bitsL (255 - x.length / 256) 8) (n := 16) (p := 8 * pre.length + 8 + 16) (⟨_, by rw [e0]; simp only [zj]; rfl⟩) (by simp [qN]) (by simp [qN, el]), qB]
 dsimp only
 rw [qHe hr hq, qHe jo jo]
 have en : x.length % 256 + 256 * (x.length / 256) = x.length := Nat.mod_add_div ..
 rw [en]
 have hxor : x.length ^^^ (255 - x.length % 256 + 256 * (255 - x.length / 256)) = 65535 := (qT5 jo jo).2 jo
 rw [hxor, if_neg jp, if_neg jo, if_neg jo, qB]
 have ed : bs.drop ((8 * pre.length + 8 + 16 + 16) / 8) = x ++ post := by
  rw [hbs, show (8 * pre.length + 8 + 16 + 16) / 8 = (pre ++ [h, x.length % 256, x.length / 256, 255 - x.length % 256, 255 - x.length / 256]).length by simp; omega]
  unfold eH
  rw [show pre ++ ([h, x.length % 256, x.length / 256, 255 - x.length % 256, 255 - x.length / 256] ++ x) ++ post = (pre ++ [h, x.length % 256, x.length / 256, 255 - x.length % 256, 255 - x.length / 256]) ++ (x ++ post) by simp only [zj]]
  rw [zfm]
 rw [ed, zhf]
 congr 2
 · rcases (by omega : h = 0 ∨ h = 1) with rfl | rfl <;> rfl
 congr 1
 omega
theorem qQo {bs : List Nat} {most : Nat} {last : List Nat} (hl : last.length < 65536) : ∀ (r : List (List Nat)) (pre out : List Nat) (f : Nat), bs = pre ++ gX r last → (∀ x ∈ r, x.length < 65536) → out.length + r.flatten.length + last.length ≤ most → r.length < f →
  kT bs most f (8 * pre.length) out = .ok (8 * bs.length, out ++ r.flatten ++ last)
 | r, pre, out, 0, _, _, _, hf => jo
 | [], pre, out, f + 1, hbs, hx, hm, hf => by
  unfold kT
  rw [qZz (pre := pre) (x := last) (post := []) (h := 1) (by simpa [gX] using hbs) jo hl (by simpa using hm), qB]
  have : bs.length = pre.length + 5 + last.length := by rw [hbs]; simp [gX, eH]; omega
  simp [this]
 | x :: r, pre, out, f + 1, hbs, hx, hm, hf => by
  unfold kT
  simp only [zgy, za] at hm
  rw [qZz (pre := pre) (x := x) (post := gX r last) (h := 0) (by simpa [gX] using hbs) jo (hx x jp) jo, qB]
  have e1 : pre.length + 5 + x.length = (pre ++ eH 0 x).length := by simp [eH]; omega
  simp only [decide_true, if_true]
  rw [e1, qQo hl r (pre ++ eH 0 x) (out ++ x) f (by rw [hbs]; simp [gX]) (fun y hy => hx y (by simp [hy])) (by simp only [za]; omega) (by simpa using hf)]
  simp
theorem qSj {r : List (List Nat)} {last : List Nat} (hx : ∀ x ∈ r, x.length < 65536) (hl : last.length < 65536) :
  jP (gX r last) ((r.flatten ++ last).length : Nat) = .ok (r.flatten ++ last, (gX r last).length) := by
 have hlen : ∀ r : List (List Nat), r.length < 8 * (gX r last).length + 1 := by
  intro r
  induction r with
  | nil => simp
  | cons x r ih => simp only [gX, eH, zp, za] at *; omega
 unfold jP
 rw [if_neg jo]
 have h := qQo (bs := gX r last) (most := (r.flatten ++ last).length) hl r [] [] (8 * (gX r last).length + 1) rfl hx jp (hlen r)
 simp only [zac]
 rw [show (0 : Nat) = 8 * ([] : List Nat).length from rfl, h, qB]
 simp
 omega
end
section
open Go.RowKit
theorem qNz (l : List Int) (i : Nat) : ∀ d, (bC l i + cn l i) * 2 ^ (d + 1) ≤ bC l (i + 1 + d)
 | 0 => zk _
 | d + 1 => by
  have ih := qNz l i d
  have e : bC l (i + 1 + (d + 1)) = (bC l (i + 1 + d) + cn l (i + 1 + d)) * 2 := rfl
  rw [e, zbo, ← zdm]
  omega
theorem qWr {l : List Int} {s n i : Nat} (hc : cA l s = (bU l s, (n : Int))) (hn : l.getD s 0 = (n : Int)) (hi : i < n) : hit l i (bU l s / 2 ^ (n - i)) = none := by
 refine qKa (fun h => ?_)
 obtain ⟨d, rfl⟩ : ∃ d, n = i + 1 + d := ⟨n - i - 1, jo⟩
 have h1 := qNz l i d
 have h2 : bC l (i + 1 + d) ≤ bU l s := by
  unfold bU
  rw [hn, zac]
  omega
 have h3 : bC l i + cn l i ≤ bU l s / 2 ^ (d + 1) := (Nat.le_div_iff_mul_le (Nat.pow_pos jo)).2 jo
 rw [show i + 1 + d - i = d + 1 by omega] at h
 omega
theorem qWs (c n i : Nat) (hi : i < n) : ((bitsL c n).reverse)[i]? = some (decide (c / 2 ^ (n - 1 - i) % 2 = 1)) := by
 rw [List.getElem?_reverse (by rw [qN]; exact hi), qN]
 exact rZ c n (n - 1 - i) jo
theorem qSk (c k : Nat) : c / 2 ^ k = 2 * (c / 2 ^ (k + 1)) + (decide (c / 2 ^ k % 2 = 1)).toNat := by
 rw [zbo, ← zfa]
 by_cases h : c / 2 ^ k % 2 = 1
 ·
  rw [decide_eq_true h]
  simp
  omega
 rw [decide_eq_false h]
 simp
 omega
theorem qTg {l : List Int} {L A C : List Bool} {s n : Nat} (hs : s < l.length) (hc : cA l s = (bU l s, (n : Int))) (hn : l.getD s 0 = (n : Int)) (hn1 : 1 ≤ n) (hn15 : n ≤ 15) (hlt : bU l s < 2 ^ n) (hL : L = A ++ bH l s ++ C) :
  ∀ d i m, i + d = n → 1 ≤ d → d ≤ m → tk l L m (i + 1) (bU l s / 2 ^ d) (A.length + i) = (s, A.length + n, 0)
 | 0, i, m, _, h0, _ => jo
 | d + 1, i, 0, _, _, h => jo
 | d + 1, i, m + 1, h1, h2, h3 => by
  have hcb : bH l s = (bitsL (bU l s) n).reverse := by unfold bH; rw [hc]; rfl
  have hb : L[A.length + i]? = some (decide (bU l s / 2 ^ d % 2 = 1)) := by
   rw [hL, zj, zan jo, zds, zaj (by rw [hcb, zgd, qN]; omega), hcb, qWs _ _ _ jo, show n - 1 - i = d by omega]
  unfold tk
  rw [hb]
  dsimp only
  rw [← qSk]
  by_cases hd : d = 0
  ·
   subst hd
   obtain rfl : i + 1 = n := jo
   rw [zhw, Nat.div_one, (qW9 l (i + 1) (bU l s) s hn1 hn15).2 ⟨hs, hc⟩]
   rfl
  have hno := qWr hc hn (jo : i + 1 < n)
  rw [show n - (i + 1) = d by omega] at hno
  rw [hno]
  dsimp only
  have := qTg hs hc hn hn1 hn15 hlt hL d (i + 1) m jo jo jo
  rw [zek A.length i 1]
  exact this
theorem qUi {l : List Int} {L : List Bool} {s n p : Nat} (hs : s < l.length) (hc : cA l s = (bU l s, (n : Int))) (hn : l.getD s 0 = (n : Int)) (hn1 : 1 ≤ n) (hn15 : n ≤ 15) (hlt : bU l s < 2 ^ n) (hm : n ≤ bE l) (hL : ∃ A C, L = A ++ bH l s ++ C ∧ p = A.length) :
  jW L l p = .ok (s, p + n) := by
 obtain ⟨A, C, hL, rfl⟩ := hL
 have h : tk l L (bE l) 1 (bU l s / 2 ^ n) A.length = (s, A.length + n, 0) := qTg hs hc hn hn1 hn15 hlt hL n 0 (bE l) jo hn1 hm
 rw [zfd hlt] at h
 unfold jW
 rw [h]
 rfl
theorem rS (l : List Int) : (bG l).length = atL l 16 := fE l 16
theorem qXp {l : List Int} {n : Nat} : ∀ m, n < m → cn l n ≤ atL l m
 | 0, h => jo
 | m + 1, h => by
  rw [atL]
  by_cases hm : n < m
  · have := qXp (l := l) m hm; omega
  obtain rfl : n = m := jo
  omega
theorem qYt {l : List Int} {n k : Nat} (hnk : n < k) : ∀ m, k < m → cn l n + cn l k ≤ atL l m
 | 0, h => jo
 | m + 1, h => by
  rw [atL]
  by_cases hm : k < m
  · have := qYt (l := l) hnk m hm; omega
  obtain rfl : k = m := jo
  have := qXp (l := l) k hnk
  omega
theorem qUj {l : List Int} {s n : Nat} (he : newE l = 0) (hs : s < l.length) (hn : l.getD s 0 = (n : Int)) (hn1 : 1 ≤ n) (hn15 : n ≤ 15) : n ≤ bE l := by
 unfold bE
 split
 ·
  rename_i h2
  have hc : 1 ≤ cn l n := by have := tX l s n hs jo hn; omega
  have hp := qXp (l := l) (n := n) 16 jo
  unfold newE at he
  rw [h2] at he
  rw [rS] at he ⊢
  split at he
  ·
   rename_i h3
   rcases h3.2 with h4 | ⟨h4, h5⟩
   · omega
   by_cases hn2 : n = 1
   · omega
   have := qYt (l := l) (n := 1) (k := n) jo 16 jo
   omega
  omega
 exact hn15
def ROk (l : List Int) : Prop := LOk l ∧ newE l = 0
theorem kW {l : List Int} (h : ROk l) {s : Nat} (hs : s < l.length) (h0 : l.getD s 0 ≠ 0) {L : List Bool} {p : Nat} (hL : ∃ A C, L = A ++ bH l s ++ C ∧ p = A.length) : jW L l p = .ok (s, p + (bH l s).length) ∧ 1 ≤ (bH l s).length := by
 rcases oT h.1.1 h.1.2 hs with h1 | ⟨n, h1, h2, h3, h4, h5⟩
 ·
  exfalso
  unfold cA at h1
  rw [if_neg h0] at h1
  exact h0 (Prod.mk.inj h1).2
 have hl : (bH l s).length = n := by unfold bH; rw [h1, zgd, qN]; rfl
 rw [hl]
 exact ⟨qUi hs h1 h2 h3 h4 h5 (qUj h.2 hs h2 h3 h4) hL, h3⟩
theorem pE (l : List Int) (k n : Nat) : cn (l ++ List.replicate k 0) n = cn l n := by
 unfold cn
 split
 · rfl
 rename_i h
 rw [zaz, List.count_replicate, if_neg (by simp; omega), zdu]
theorem qN0 (l : List Int) (k n : Nat) : bC (l ++ List.replicate k 0) n = bC l n := zB n (fun m _ => pE l k m)
theorem qWt (l : List Int) (k s : Nat) (hs : s < l.length) : cA (l ++ List.replicate k 0) s = cA l s := by
 have e : (l ++ List.replicate k 0).getD s 0 = l.getD s 0 := by rw [ze, zaj hs, ← ze]
 unfold cA bU gC
 rw [e, qN0, zcg jo]
theorem qWu (l : List Int) (k s : Nat) (hs : s < l.length) : bH (l ++ List.replicate k 0) s = bH l s := by unfold bH; rw [qWt l k s hs]
theorem qXq {f g : Nat → Nat} (h : ∀ n, f n = g n) : ∀ i, KC f i = KC g i
 | 0 => rfl
 | i + 1 => by rw [KC, KC, qXq h i, h i]
theorem qZ0 (l : List Int) (k : Nat) : ∀ m, atL (l ++ List.replicate k 0) m = atL l m
 | 0 => rfl
 | m + 1 => by rw [atL, atL, qZ0 l k m, pE]
theorem qQp {l : List Int} {k : Nat} (h : fG (l ++ List.replicate k 0)) : fG l := ⟨by have := h.1; rw [za] at this; omega, fun x hx => h.2 x (List.mem_append.2 (.inl hx))⟩
theorem qN1 {l : List Int} {k : Nat} (h : fG (l ++ List.replicate k 0)) : chk (l ++ List.replicate k 0) = chk l := by
 have e : KC (cn (l ++ List.replicate k 0)) 16 = KC (cn l) 16 := qXq (pE l k) 16
 have h1 := qQp h
 unfold chk
 rw [e]
 simp only [h, h1, not_true_eq_false, if_false]
theorem ROk.zeros {l : List Int} {k : Nat} (h : ROk (l ++ List.replicate k 0)) : ROk l := by
 obtain ⟨⟨h1, h2⟩, h3⟩ := h
 refine ⟨⟨qQp h1, ?_⟩, ?_⟩
 ·
  rw [qXq (pE l k) 16] at h2
  exact h2
 unfold newE at h3 ⊢
 rw [qN1 h1, rS, qZ0, ← rS, pE] at h3
 exact h3
theorem rT (l : List Nat) (least : Nat) : ∀ n i, fN l least n ≤ i → i < n → l.getD i 0 = 0
 | 0, _, _, h => jo
 | n + 1, i, h1, h2 => by
  unfold fN at h1
  split at h1
  ·
   rename_i h3
   by_cases hi : i = n
   · rw [hi]; exact h3.2
   exact rT l least n i h1 jo
  omega
theorem qHf (l : List Nat) (least : Nat) : l = cN l least ++ List.replicate (l.length - (cN l least).length) 0 := by
 have hle := mG l least l.length
 apply zao
 intro i
 rw [gJ]
 by_cases h1 : i < fN l least l.length
 · rw [zaj (by rw [gJ]; exact h1), cN, zaq h1]
 rw [zan (by rw [gJ]; omega), gJ]
 by_cases h2 : i < l.length
 ·
  have h3 := rT l least l.length i jo h2
  rw [ze, zb h2, zba] at h3
  rw [zb h2, h3, zgg, if_pos jo]
 rw [zu jo, zu (by rw [zbn]; omega)]
theorem qVh (l : List Nat) (least : Nat) : toZ l = toZ (cN l least) ++ List.replicate (l.length - (cN l least).length) 0 := by
 have h := congrArg toZ (qHf l least)
 have e : toZ (cN l least ++ List.replicate (l.length - (cN l least).length) 0) = toZ (cN l least) ++ List.replicate (l.length - (cN l least).length) 0 := by
  unfold toZ
  rw [zbt, List.map_replicate]
  rfl
 rw [e] at h
 exact h
theorem ROk.cut {l : List Nat} (least : Nat) (h : ROk (toZ l)) : ROk (toZ (cN l least)) := by
 rw [qVh l least] at h
 exact h.zeros
theorem rU (l : List Nat) (least s : Nat) (hs : s < (cN l least).length) : bH (toZ l) s = bH (toZ (cN l least)) s := by
 rw [qVh l least]
 exact qWu _ _ _ (by rw [bM]; exact hs)
theorem qWv (cs : List Nat) (hl : cs.length ≤ 1024) : ∃ own, dH cs own := by
 refine ⟨(cP cs cs.length).mergeSort (fun a b => decide (eE a ≤ eE b)), List.mergeSort_perm _ _, ?_⟩
 have h1 : ((cP cs cs.length).mergeSort (fun a b => decide (eE a ≤ eE b))).Pairwise (fun a b => decide (eE a ≤ eE b) = true) := by
  refine List.pairwise_mergeSort ?_ ?_ _
  ·
   intro a b c h1 h2
   simp only [decide_eq_true_eq] at h1 h2 ⊢
   omega
  intro a b
  simp only [Bool.or_eq_true, decide_eq_true_eq]
  omega
 have h2 : (((cP cs cs.length).mergeSort (fun a b => decide (eE a ≤ eE b))).map eE).Nodup := ((List.mergeSort_perm _ _).map eE).nodup_iff.2 (uN cs cs.length hl)
 have h3 : ((cP cs cs.length).mergeSort (fun a b => decide (eE a ≤ eE b))).Pairwise (fun a b => eE a ≠ eE b) := by
  unfold List.Nodup at h2
  exact List.pairwise_map.1 h2
 refine (h1.and h3).imp ?_
 rintro a b ⟨h4, h5⟩
 simp only [decide_eq_true_eq] at h4
 omega
theorem nX {l : List Nat} {i : Nat} (h : l.getD i 0 ≠ 0) : i < l.length := by
 by_cases hi : i < l.length
 · exact hi
 rw [ze, zu jo] at h
 exact absurd rfl h
theorem wQ {cs : List Nat} {m : Nat} (hl : cs.length ≤ 320) (hm1 : 1 ≤ m) (hm2 : m ≤ 15) (hf : cs.length ≤ 2 ^ m) : LenOk cs (dJ cs m) m ∧ ROk (toZ (dJ cs m)) := by
 obtain ⟨own, hco⟩ := qWv cs jo
 have hok := qXo hco hl hm1 hm2 hf
 refine ⟨hok, hok.ok, ?_⟩
 have hfit : own.length ≤ 2 ^ m := zn (tL hco) hf
 obtain ⟨h1, h2⟩ := qYq hco hl hm1 hm2 hfit
 have hE : dJ cs m = cF cs.length m own := by unfold dJ; rw [rP hco]
 have hg := hok.ok.1
 have hK : KC (cn (toZ (dJ cs m))) 16 = if 2 ≤ own.length then 32768 else own.length * 16384 := by
  rw [qYb _ hg.2]
  have h3 := qXm (toZ (dJ cs m)) _ (zk _)
  rw [zas] at h3
  rw [h3, bM, hok.len, dE (h := fun k => if 0 < (cF cs.length m own).getD k 0 then 2 ^ (15 - (cF cs.length m own).getD k 0) else 0) _ (fun k _ => by rw [nS, zac, hE]), h2]
 have hchk : chk (toZ (dJ cs m)) = if 2 ≤ own.length then 0 else 2 := by
  unfold chk
  rw [if_neg (fun hn => hn hg), hK]
  split
  · simp
  rw [if_neg jo, if_pos jo]
 unfold newE
 rw [hchk]
 by_cases h3 : 2 ≤ own.length
 ·
  rw [if_pos h3]
  simp
 rw [if_neg h3, if_pos]
 refine ⟨rfl, ?_⟩
 have hKK : KC (cn (toZ (dJ cs m))) 16 = own.length * 16384 := by rw [hK, if_neg h3]
 rw [rS]
 have hone : ∀ n, 2 ≤ n → cn (toZ (dJ cs m)) n = 0 := by
  intro n hn
  unfold cn
  rw [if_neg jo, List.count_eq_zero]
  intro hmem
  obtain ⟨y, hy, hyn⟩ := List.mem_map.1 hmem
  obtain ⟨i, hi, rfl⟩ := zbe hy
  have h5 : (dJ cs m).getD i 0 = n := by rw [ze, zb hi, zba]; omega
  rw [hE] at h5
  unfold cF at h5
  rw [if_pos jo, pB _ _ _ (by rw [hok.len] at hi; exact hi), rN hco] at h5
  split at h5 <;> omega
 have hat : ∀ d, atL (toZ (dJ cs m)) (2 + d) = cn (toZ (dJ cs m)) 1 := by
  intro d
  induction d with
  | zero => simp [atL, cn]
  | succ d ih => rw [show 2 + (d + 1) = (2 + d) + 1 by omega, atL, ih, hone (2 + d) jo, zdu]
 have hkc : ∀ d, KC (cn (toZ (dJ cs m))) (2 + d) = cn (toZ (dJ cs m)) 1 * 16384 := by
  intro d
  induction d with
  | zero => simp [KC, cn]
  | succ d ih => rw [show 2 + (d + 1) = (2 + d) + 1 by omega, KC, ih, hone (2 + d) jo, zfo, zdu]
 have h6 := hat 14
 have h7 := hkc 14
 rw [hKK] at h7
 rw [show 2 + 14 = 16 from rfl] at h6
 rw [h6]
 omega
theorem qQq : newE cQ = 0 ∧ newE cX = 0 := by decide +kernel
theorem qZ1 : ROk cQ ∧ ROk cX := ⟨⟨mY, qQq.1⟩, ⟨rY, qQq.2⟩⟩
end
section
open Go.RowKit
def cS (bs : List Nat) : List Nat := if 65535 < bs.length then eH 0 (bs.take 65535) ++ cS (bs.drop 65535) else eH 1 bs
termination_by bs.length
decreasing_by simp; omega
theorem lD (bs : List Nat) : cS bs = if 65535 < bs.length then eH 0 (bs.take 65535) ++ cS (bs.drop 65535) else eH 1 bs := by rw [cS]
theorem qXr {h : Nat} {x : List Nat} (hh : h < 2) (hx : ∀ b ∈ x, b < 256) (hl : x.length ≤ 65535) : ∀ b ∈ eH h x, b < 256 := by
 intro b hb
 simp only [eH, List.mem_append, zbv, zbm, or_false] at hb
 rcases hb with (rfl | rfl | rfl | rfl | rfl) | hb
 · omega
 · omega
 · omega
 · omega
 · omega
 exact hx b hb
theorem tO (h : Nat) (x : List Nat) : (eH h x).length = x.length + 5 := by simp [eH]
theorem qQr {pre : List Nat} {h : Nat} (hh : h < 2) : cB (ofB pre ++ bitsL h 1 ++ bitsL 0 2) = ofB (pre ++ [h]) := by
 rw [fZ, show ofB [h] = bitsL h 8 ++ [] from rfl, qVg hh, zdd]
 unfold cB
 have e : (8 - (ofB pre ++ bitsL h 1 ++ bitsL 0 2).length % 8) % 8 = 5 := by
  simp only [za, bL, qN]
  omega
 rw [e]
 have e1 : bitsL h 1 = [decide (h = 1)] := by rcases (by omega : h = 0 ∨ h = 1) with rfl | rfl <;> rfl
 rw [e1]
 simp only [zj]
 rfl
theorem qN2 (l : List Nat) : cB (ofB l) = ofB l := qJ3 _ (by rw [bL]; omega)
theorem qZ2 (g c0 n : Nat) (A B : Option Addr) (l : List Bool) (bs : List Nat) (w : World) (hn : bs.length = n) (hl : l.length ≤ 1000000000) (hbs : bs.length ≤ 1000000000) (hB : ∀ b ∈ bs, b < 256) (hW : IsW w g A l) (hr : Rd w 1 B bs.length (NB bs)) :
  Calls Tryz.prog 53 #[.pointer (some ⟨g, 0, none⟩), .slice B n c0] w fun e w' => e = .returned (.tuple #[]) ∧ ∃ A', IsW w' g A' (cB l ++ ofB bs) ∧ Frm (g :: ob A) w w' ∧ ∀ x ∈ ob A', x ∈ ob A ∨ w.heap.size ≤ x := by
 subst hn
 exact qJ6 g c0 A B l bs w hl hbs hB hW hr
theorem rB : ∀ n (bs : List Nat), bs.length ≤ n → (cS bs).length ≤ 2 * bs.length + 5
 | n, bs, h => by
  rw [lD]
  split
  ·
   rename_i h1
   have h2 := rB (n - 1) (bs.drop 65535) (by rw [zr]; omega)
   rw [zr] at h2
   rw [za, tO, zi]
   omega
  rw [tO]; omega
 termination_by n => n
 decreasing_by omega
theorem zX : ∀ n (bs : List Nat), bs.length ≤ n → (∀ b ∈ bs, b < 256) → ∀ b ∈ cS bs, b < 256
 | n, bs, h, hB => by
  rw [lD]
  split
  ·
   intro b hb
   rcases List.mem_append.1 hb with hb | hb
   · exact qXr jo (fun b hb => hB b (zaf hb)) (by rw [zi]; omega) b hb
   exact zX (n - 1) (bs.drop 65535) (by rw [zr]; omega) (fun b hb => hB b (zch hb)) b hb
  exact qXr jo hB jo
 termination_by n => n
 decreasing_by omega
theorem qN3 (b : Bool) (w : World) : Calls Tryz.prog 52 #[.bool b] w fun e w' => e = .returned (.int .u64 ((b.toNat : Nat) : Int)) ∧ w = w' := by
 refine VC.calls (nt := 4) (res := #[.tmp 2]) Tryz.func52 rfl Tryz.ntmps52 Tryz.results52 rfl ?_
 refine jS (jR ?_)
 refine jy .u64 0 ?_
 refine jO (jN (jv1 0 ?_))
 refine jS (jS (jR (jm rfl (jO (jN (jv1 3 ?_))))))
 refine VC.condB rfl (fun hc1 => ?_) (fun hc1 => ?_)
 ·
  refine jS (jR ?_)
  refine jy .u64 1 ?_
  refine jO (jN (jv1 2 ?_))
  refine jT ?_
  refine qP (qT rfl ?_)
  subst hc1
  exact ⟨rfl, rfl⟩
 refine jQ (jN ?_)
 refine VC.sub [] .nil ?_
 refine jS (jR ?_)
 refine jy .u64 0 ?_
 refine jO (jN (jT ?_))
 refine qT rfl ?_
 rw [show b = false from by simpa using hc1]
 exact ⟨rfl, rfl⟩
theorem qN4 (A : Option Addr) (c : Nat) (bs : List Nat) (w : World) (hl : bs.length ≤ 1000000) (hc : bs.length ≤ c) (hB : ∀ b ∈ bs, b < 256) (hr : Rd w 1 A bs.length (NB bs)) :
  Calls Tryz.prog 32 #[.slice A bs.length c] w fun e w' => ∃ B d, e = .returned (.slice B (cS bs).length d) ∧ Own w' 5 1 B (cS bs).length d (NB (cS bs)) ∧ Frm [] w w' ∧ ∀ x ∈ ob B, w.heap.size ≤ x := by
 refine VC.calls (nt := 47) (res := #[.tmp 2]) Tryz.func32 rfl Tryz.ntmps32 Tryz.results32 rfl ?_
 refine jS (jR (ja rfl (jO (jN (jv1 0 ?_)))))
 refine jS (jR ?_)
 refine Ops.cl (jE0 Tryz.call50) (yJ _) rfl ?_
 rintro e w2 ⟨rfl, hW, hf2, _⟩
 refine ⟨_, rfl, ?_⟩
 obtain ⟨g, hgl, hgv⟩ : ∃ g, w.heap.size ≤ g ∧ g = w.heap.size := ⟨_, zk _, rfl⟩
 rw [← hgv] at hW
 refine ja rfl (jO (jN (jv2 0 3 ?_)))
 refine jS (jS (jR (ja rfl (jO (jN (jB ?_))))))
 refine VC.loop (σ := Option Addr × Nat × List Nat × Bool × Option Addr × List Nat) (fun s => [(0, .slice s.1 s.2.2.1.length s.2.1), (3, .pointer (some ⟨g, 0, none⟩)), (4, .bool s.2.2.2.1)]) (fun s wr => IsW wr g s.2.2.2.2.1 (ofB s.2.2.2.2.2) ∧ Rd w 1 s.1 s.2.2.1.length (NB s.2.2.1) ∧ s.2.2.1.length ≤ s.2.1 ∧ (∀ b ∈ s.2.2.1, b < 256) ∧ Frm [] w wr ∧ (∀ x ∈ ob s.2.2.2.2.1, w.heap.size ≤ x) ∧ (s.2.2.2.1 = true → s.2.2.2.2.2 ++ cS s.2.2.1 = cS bs ∧ s.2.2.2.2.2.length + 2 * s.2.2.1.length ≤ 2 * bs.length) ∧ (s.2.2.2.1 = false → s.2.2.2.2.2 = cS bs) ∧ s.2.2.1.length ≤ bs.length) (fun s => s.2.2.1.length + s.2.2.2.1.toNat) (A, c, bs, true, none, []) (js3 rfl (by rw [hgv]; rfl) rfl) ⟨hW, hr, hc, hB, hf2, by simp [ob], fun _ => ⟨rfl, jp⟩, jp, zk _⟩ ?_
 rintro ⟨B, c1, rest, more, A1, pre⟩ wr ⟨hW, hr1, hcr, hB1, K, hA1, hm, hf, hlr⟩
 dsimp only at hW hr1 hcr hB1 hA1 hm hf hlr ⊢
 refine jS (jS (jR (jm rfl (jO (jN (jv3 0 3 7 ?_))))))
 refine VC.condB rfl (fun hc1 => ?_) (fun hc1 => ?_)
 ·
  obtain ⟨hm1, hm2⟩ := hm hc1
  refine jQ (jN (jv2 0 3 ?_))
  refine jB (jS (jR (jm rfl (je (Run.lenS rfl zf) (je (Run.minI rfl rfl) ?_)))))
  have em : (if (65535 : Int) < ((rest.length : Nat) : Int) then (65535 : Int) else ((rest.length : Nat) : Int)) = ((min rest.length 65535 : Nat) : Int) := by split <;> omega
  rw [em]
  have hnle : min rest.length 65535 ≤ 65535 := Nat.min_le_right _ _
  have hnl : min rest.length 65535 ≤ rest.length := Nat.min_le_left _ _
  have hnlt : ¬ min rest.length 65535 < rest.length → min rest.length 65535 = rest.length := jo
  have hnlt2 : min rest.length 65535 < rest.length → min rest.length 65535 = 65535 := jo
  generalize min rest.length 65535 = n at hnle hnl hnlt hnlt2 ⊢
  refine ja rfl (jO (jN (jv3 0 3 5 ?_)))
  refine jS (jR (jm rfl (jm rfl (je (Run.lenS rfl zf) (jb rfl rfl (Bin.lssN _ _) (ja rfl (jO (jN (jv4 0 3 4 5 ?_)))))))))
  refine jS (jR (jm rfl (jm rfl (je (Run.not rfl) ?_))))
  refine Ops.cl (jE1 Tryz.call52) (qN3 _ _) rfl ?_
  rintro e _ ⟨rfl, rfl⟩
  refine ⟨_, rfl, ?_⟩
  have hh2 : (!decide (n < rest.length)).toNat < 2 := Bool.toNat_lt _
  generalize hhv : (!decide (n < rest.length)).toNat = hh at hh2 ⊢
  refine Ops.cl (jE3 zez) (gL g hh 1 A1 (ofB pre) wr jo jo (by rw [bL]; omega) hW) rfl ?_
  rintro e w3 ⟨rfl, A2, hW2, hf3, hA2⟩
  refine ⟨_, rfl, ?_⟩
  have hgA : ∀ x ∈ g :: ob A1, w.heap.size ≤ x := fun x hx => by rcases zbv.1 hx with rfl | hx; exact hgl; exact hA1 x hx
  have K3 := K.own hf3 hgA
  have hA2 : ∀ x ∈ ob A2, w.heap.size ≤ x := fun x hx => by rcases hA2 x hx with h | h; exact hA1 x h; have := K.size; omega
  refine jO (jN (jv4 0 3 4 5 ?_))
  refine jS (jR (jM ?_))
  refine Ops.cl (jE3 zez) (gL g 0 2 A2 _ w3 jd jo (by rw [za, bL, qN]; omega) hW2) rfl ?_
  rintro e w4 ⟨rfl, A3, hW3, hf4, hA3⟩
  refine ⟨_, rfl, ?_⟩
  have hgA : ∀ x ∈ g :: ob A2, w.heap.size ≤ x := fun x hx => by rcases zbv.1 hx with rfl | hx; exact hgl; exact hA2 x hx
  have K4 := K3.own hf4 hgA
  have hA3 : ∀ x ∈ ob A3, w.heap.size ≤ x := fun x hx => by rcases hA3 x hx with h | h; exact hA2 x h; have := K3.size; omega
  refine jO (jN (jv4 0 3 4 5 ?_))
  refine jS (jR (jm rfl (jm rfl (je (Run.conv8 _ rfl zaa zat) (jm rfl (jb rfl rfl (Bin.shr_i64 _ 8 jo) (je (Run.conv8 _ rfl zaa zat) (jm rfl (je (Run.compl _ rfl jo) (je (Run.conv rfl zaa zat _ (qGc n hnle)) (jm rfl (je (Run.compl _ rfl jo) (jb rfl rfl (Bin.shr_neg8 n) (je (Run.conv rfl zaa zat _ (qWb n hnle)) ?_))))))))))))))
  refine Ops.m (qV.buildN (cells := (NB [n % 256, n / 2 ^ 8 % 256, (65535 - n) % 256, (65535 - n) / 256]).toArray) (evs.cons rfl (evs.cons rfl (evs.cons rfl (evs.cons rfl evs.nil)))) zf zad pO rfl rfl jK) rfl ?_
  rintro _ w5 ⟨rfl, hF5⟩
  have hrd : Rd w5 1 (some ⟨w4.heap.size, 0, none⟩) 4 (NB [n % 256, n / 2 ^ 8 % 256, (65535 - n) % 256, (65535 - n) / 256]) := Rd.of_blk (n := 4) (size := 1) hF5.blk rfl
  have hW3 := hW3.frm hF5.frm jp
  have K5 := K4.trans hF5.frm jp
  refine Ops.cl (jE2 Tryz.call53) (qZ2 g 4 4 A3 _ _ [n % 256, n / 2 ^ 8 % 256, (65535 - n) % 256, (65535 - n) / 256] w5 rfl (by simp only [za, bL, qN]; omega) jp (by intro b hb; simp only [zbv, zbm, or_false] at hb; rcases hb with rfl | rfl | rfl | rfl <;> omega) hW3 hrd) rfl ?_
  rintro e w6 ⟨rfl, A4, hW4, hf6, hA4⟩
  refine ⟨_, rfl, ?_⟩
  have hgA : ∀ x ∈ g :: ob A3, w.heap.size ≤ x := fun x hx => by rcases zbv.1 hx with rfl | hx; exact hgl; exact hA3 x hx
  have K6 := K5.own hf6 hgA
  have hA4 : ∀ x ∈ ob A4, w.heap.size ≤ x := fun x hx => by rcases hA4 x hx with h | h; exact hA3 x h; have := K5.size; omega
  rw [qQr hh2, ← fZ] at hW4
  refine jO (jN (jv4 0 3 4 5 ?_))
  refine jS (jR (jm rfl (jm rfl (jm rfl (je (Run.sliceS 0 n rfl zf zad evB.none_ (evB.some_ rfl) jo jo) ?_)))))
  rw [pH, zcf, zcf]
  have hr6 : Rd w6 1 B rest.length (NB rest) := hr1.frm K6 jp
  have hr7 := oX rest 0 n jo hr6 hcr
  rw [pH, zby] at hr7
  have hln : (rest.take n).length = n := by rw [zi]; omega
  refine Ops.cl (jE2 Tryz.call53) (qZ2 g _ n A4 B _ (rest.take n) w6 hln (by simp only [za, bL, zp, zbx]; omega) jo (fun b hb => hB1 b (zaf hb)) hW4 hr7) rfl ?_
  rintro e w7 ⟨rfl, A5, hW5, hf7, hA5⟩
  refine ⟨_, rfl, ?_⟩
  have hgA : ∀ x ∈ g :: ob A4, w.heap.size ≤ x := fun x hx => by rcases zbv.1 hx with rfl | hx; exact hgl; exact hA4 x hx
  have K7 := K6.own hf7 hgA
  have hA5 : ∀ x ∈ ob A5, w.heap.size ≤ x := fun x hx => by rcases hA5 x hx with h | h; exact hA4 x h; have := K6.size; omega
  rw [qN2, ← fZ] at hW5
  refine jO (jN (jv4 0 3 4 5 ?_))
  refine jR (jm rfl (jm rfl (je (Run.sliceS n _ rfl zf zad (evB.some_ rfl) evB.none_ jo jo) (ja rfl (jO ?_)))))
  refine qJ (jN ⟨(cC B c1 n 1, c1 - n, rest.drop n, decide (n < rest.length), A5, pre ++ eH hh (rest.take n)), (js3 (by rw [zr]; rfl) rfl rfl), ?_, ?_⟩)
  ·
   have heq : pre ++ [hh] ++ [n % 256, n / 2 ^ 8 % 256, (65535 - n) % 256, (65535 - n) / 256] ++ rest.take n = pre ++ eH hh (rest.take n) := by
    have e1 : n / 2 ^ 8 % 256 = n / 256 := jo
    have e2 : (65535 - n) % 256 = 255 - n % 256 := jo
    have e3 : (65535 - n) / 256 = 255 - n / 256 := jo
    unfold eH
    rw [hln, e1, e2, e3]
    simp only [zj, zcr, zbf]
   rw [heq] at hW5
   refine ⟨hW5, ?_, by dsimp only; rw [zr]; omega, fun b hb => hB1 b (zch hb), K7, hA5, fun h => ?_, fun h => ?_, by dsimp only; rw [zr]; omega⟩
   ·
    have h9 := oX rest n (rest.length - n) jo hr1 hcr
    rw [zm (by rw [zr]; omega)] at h9
    exact h9
   ·
    have h9 : n < rest.length := of_decide_eq_true h
    have h8 := hnlt2 h9
    subst h8
    have h7 : hh = 0 := by rw [← hhv, decide_eq_true h9]; rfl
    rw [lD, if_pos h9] at hm1
    rw [h7, zj]
    refine ⟨hm1, ?_⟩
    rw [za, tO, hln, zr]
    omega
   have h9 : ¬ n < rest.length := of_decide_eq_false h
   have h8 := hnlt h9
   have h7 : hh = 1 := by rw [← hhv, decide_eq_false h9]; rfl
   rw [lD, if_neg jo] at hm1
   rw [h7, zm jo]
   exact hm1
  dsimp only
  rw [zr]
  have hdn : n < rest.length ∨ (decide (n < rest.length)).toNat = 0 := by
   by_cases h : n < rest.length
   · exact .inl h
   exact .inr (by rw [decide_eq_false h]; rfl)
  have hd1 : (decide (n < rest.length)).toNat < 2 := Bool.toNat_lt _
  have hd2 : more.toNat = 1 := by rw [hc1]; rfl
  omega
 refine jX ?_
 refine qZ (qZ (qW ?_))
 refine jN (jv1 3 ?_)
 refine jS (jR (jM ?_))
 refine Ops.cl (jE1 Tryz.call54) (tQ g A1 (ofB pre) wr (by rw [bL]; have := hf (by simpa using hc1); rw [this]; have := rB _ bs (zk _); omega) hW) rfl ?_
 rintro e w9 ⟨Bz, dz, rfl, hBz, hfz, huz⟩
 refine ⟨_, rfl, ?_⟩
 refine ja rfl (jO (jN (jv1 2 ?_)))
 refine jT ?_
 refine qT rfl ?_
 have he := hf (by simpa using hc1)
 subst he
 rw [yQ _ (zX _ bs (zk _) hB)] at hBz ⊢
 exact ⟨Bz, dz, rfl, hBz, K.trans hfz jp, fun x hx => zn K.size (huz x hx)⟩
end
section
open Go.RowKit
theorem qUk {w : World} {g : Nat} {t : TypeId} {a b : List Nat} {n : Nat} (h : Blk w g t (SyC a b)) (hn : a.length = n) : Rd w 1 (some ⟨g, 0, none⟩) n (NI a) := by
 subst hn
 refine ⟨by simp [NI], fun _ => ⟨_, rfl, h.lt, fun j u hu => ?_⟩⟩
 rw [fY, h.cell, SyC]
 have hj : j < (NI a).length := (List.getElem?_eq_some_iff.1 hu).1
 rw [zdp, zaj hj]
 exact hu
theorem qUl {w : World} {g : Nat} {t : TypeId} {a b : List Nat} {n m : Nat} (h : Blk w g t (SyC a b)) (hm : a.length = m) (hn : b.length = n) : Rd w 1 (some ⟨g, m, none⟩) n (NI b) := by
 subst hn hm
 refine ⟨by simp [NI], fun _ => ⟨_, rfl, h.lt, fun j u hu => ?_⟩⟩
 have e : ((⟨g, a.length, none⟩ : Addr).add j) = ⟨g, a.length + j, none⟩ := by simp [Addr.add]
 rw [e, h.cell, SyC, zdp, zan (by simp [NI]), show a.length + j - (NI a).length = j by simp [NI]]
 exact hu
theorem qUm (Bt : Option Addr) (n ct : Nat) (lt : List Tk) (w : World) (hn : lt.length = n) (hlt : ∀ t ∈ lt, pM t) (hll : n ≤ 1000000) (hot : Own w 132 3 Bt n ct (TC lt)) :
  Calls Tryz.prog 58 #[.slice Bt n ct] w fun e w' => e = .returned (.agg (SyC (dQ lt) (eJ lt))) ∧ Frm [] w w' := by
 subst hn
 exact qR4 Bt ct lt w hlt hll hot
theorem qVi (A : Option Addr) (n c0 : Nat) (cs : List Nat) (m : Nat) (w : World) (hn : cs.length = n) (hl : n ≤ 320) (hb : ∀ x ∈ cs, x ≤ 2147483647) (hm1 : 1 ≤ m) (hm2 : m ≤ 15) (hf : n ≤ 2 ^ m) (hr : Rd w 1 A n (NI cs)) :
  Calls Tryz.prog 60 #[.slice A n c0, .int .i64 ((m : Nat) : Int)] w fun e w' => ∃ B c, e = .returned (.tuple #[.slice B n c, .int .i64 ((0 : Nat) : Int)]) ∧ Own w' 3 1 B n c (NI (dJ cs m)) ∧ Frm [] w w' ∧ (∀ x ∈ ob B, w.heap.size ≤ x) ∧ LenOk cs (dJ cs m) m := by
 subst hn
 exact qUf A c0 cs m w hl hb hm1 hm2 hf hr
theorem qTh (A : Option Addr) (n c least : Nat) (l : List Nat) (w : World) (hn : l.length = n) (hl : n ≤ 1000000) (hc : n ≤ c) (hr : Rd w 1 A n (NI l)) :
  Calls Tryz.prog 61 #[.slice A n c, .int .i64 ((least : Nat) : Int)] w fun e w' => (∃ B d, e = .returned (.slice B (cN l least).length d) ∧ Rd w 1 B (cN l least).length (NI (cN l least)) ∧ (cN l least).length ≤ d) ∧ w = w' := by
 subst hn
 exact qNk A c least l w hl hc hr
theorem qCa (A : Option Addr) (n c : Nat) (l : List Nat) (w : World) (hn : l.length = n) (hl : n ≤ 100000) (hr : Rd w 1 A n (NI l)) :
  Calls Tryz.prog 62 #[.slice A n c] w fun e w' => ∃ B d, e = .returned (.slice B (dK l 0).length d) ∧ Own w' 113 3 B (dK l 0).length d (SDC (dK l 0)) ∧ Frm [] w w' ∧ ∀ x ∈ ob B, w.heap.size ≤ x := by
 subst hn
 exact qBp A c l w hl hr
theorem qUn (A : Option Addr) (c : Nat) (l : List Nat) (w : World) (hl : l.length = 19) (hr : Rd w 1 A 19 (NI l)) :
  Calls Tryz.prog 63 #[.slice A 19 c] w fun e w' => ∃ B d, e = .returned (.slice B (cU l).length d) ∧ Own w' 3 1 B (cU l).length d (NI (cU l)) ∧ Frm [] w w' ∧ ∀ x ∈ ob B, w.heap.size ≤ x := by
 have h := qR1 A c l w hl (by rw [hl]; exact hr)
 rw [hl] at h
 exact h
theorem qUo (A : Option Addr) (n c0 : Nat) (l : List Nat) (w : World) (hn : l.length = n) (h : LOk (toZ l)) (hr : Rd w 1 A n (NI l)) :
  Calls Tryz.prog 66 #[.slice A n c0] w fun e w' => Frm [] w w' ∧ ∃ B c, e = .returned (.tuple #[.slice B n c, .int .i64 ((0 : Nat) : Int)]) ∧ Own w' 179 2 B n c ((cW (toZ l)).flatMap CB) := by
 subst hn
 have h1 := yC A c0 (toZ l) w h (by rw [bM, ← oK]; exact hr)
 rw [bM] at h1
 exact h1
theorem qUp (n0 g g2 g3 s n v c : Nat) (A B : Option Addr) (l : List Bool) (ls : List Int) (w : World) (hn0 : ls.length = n0) (hg : fG ls) (hk : KC (cn ls) 16 ≤ 32768) (hs : s < n0) (hv : v < 2 ^ n) (hn : n ≤ 32) (hl : l.length ≤ 900000000) (hW : IsW w g A l) (ho : Own w 179 2 B n0 c ((cW ls).flatMap CB))
  (hb2 : Blk w g2 88 #[.pointer (some ⟨g, 0, none⟩)]) (hb3 : Blk w g3 117 #[.slice B n0 c]) :
  Calls Tryz.prog 99 #[.int .i64 ((s : Nat) : Int), .int .i64 ((n : Nat) : Int), .int .i64 ((v : Nat) : Int), .pointer (some ⟨g2, 0, none⟩), .pointer (some ⟨g3, 0, none⟩)] w fun e w' => e = .returned (.tuple #[]) ∧ WR w w' g A (l ++ bH ls s ++ bitsL v n) := by
 subst hn0
 exact tG g g2 g3 s n v c A B l ls w hg hk hs hv hn hl hW ho hb2 hb3
theorem qSl (g ct c1 c2 na nb nt : Nat) (A Bt La Lb : Option Addr) (l : List Bool) (lt : List Tk) (a b : List Nat) (w : World) (hna : a.length = na) (hnb : b.length = nb) (hnt : lt.length = nt) (ha : LOk (toZ a)) (hb : LOk (toZ b)) (ha2 : 286 ≤ na) (hb2 : 30 ≤ nb) (hlt : ∀ t ∈ lt, pM t) (hll : nt ≤ 1000000) (hl : l.length ≤ 100000000) (hW : IsW w g A l) (hot : Own w 132 3 Bt nt ct (TC lt)) (hra : Rd w 1 La na (NI a)) (hrb : Rd w 1 Lb nb (NI b)) :
  Calls Tryz.prog 57 #[.pointer (some ⟨g, 0, none⟩), .slice Bt nt ct, .slice La na c1, .slice Lb nb c2] w fun e w' => e = .returned (.tuple #[]) ∧ WR w w' g A (l ++ cT (toZ a) (toZ b) lt) := by
 subst hna hnb hnt
 have h := xG g ct c1 c2 A Bt La Lb l lt (toZ a) (toZ b) w ha hb (by rw [bM]; exact ha2) (by rw [bM]; exact hb2) hlt hll hl hW hot (by rw [bM, ← oK]; exact hra) (by rw [bM, ← oK]; exact hrb)
 rw [bM, bM] at h
 exact h
theorem qQs : ∀ (L : List Sd) (s : Nat) (_ : s < L.length), ((SDC L).drop (s * 3)).take 3 = sdC (L.getD s (0, 0, 0))
 | a :: L, 0, _ => rfl
 | a :: L, s + 1, h => by
  have := qQs L s (by simpa using h)
  rw [show SDC (a :: L) = sdC a ++ SDC L from rfl, show (s + 1) * 3 = (sdC a).length + s * 3 by simp [sdC]; omega, zco, zey]
  exact this
theorem wI {L : List Sd} {i : Nat} (h : i < L.length) : L.take (i + 1) = L.take i ++ [L.getD i (0, 0, 0)] := pN h
theorem nT {L : List Nat} {i : Nat} (h : i < L.length) : L.take (i + 1) = L.take i ++ [L.getD i 0] := by
 rw [zah, zb h, ze, zb h]
 rfl
theorem oO (a : List Nat) (i x : Nat) : (NI a).toArray.setIfInBounds i (.int .i64 ((x : Nat) : Int)) = (NI (a.set i x)).toArray := by rw [qKv]; simp
theorem pQ (a : List Nat) (i : Nat) (h : i < a.length) : (NI a).toArray[i]? = some (.int .i64 ((a.getD i 0 : Nat) : Int)) := by rw [zdp]; exact eZ a i h
theorem uQ (bs : List Nat) (hb : LenOk (dQ (qS bs 0)) (dZ bs) 15) (hw : LenOk (eJ (qS bs 0)) (dT bs) 15) :
  (dZ bs).length = 286 ∧ (dT bs).length = 30 ∧ 257 ≤ (bW bs).length ∧ (bW bs).length ≤ 286 ∧ 1 ≤ (bF bs).length ∧ (bF bs).length ≤ 30 ∧ (∀ t ∈ qL bs, yO t) ∧ (qL bs).length ≤ 316 := by
 have h1 : (dZ bs).length = 286 := hb.len.trans (dV _)
 have h2 : (dT bs).length = 30 := hw.len.trans (dD _)
 have h3 := nQ (dZ bs) 257 jo
 have h4 := nQ (dT bs) 1 jo
 have h5 := qSi (bW bs ++ bF bs)
 rw [za] at h5
 refine ⟨h1, h2, h3.1, by unfold bW; omega, h4.1, by unfold bF; omega, qUg (xP _ _ _ (mM _ _ _ hb.most) (mM _ _ _ hw.most)), ?_⟩
 have e1 : (bW bs).length = (cN (dZ bs) 257).length := rfl
 have e2 : (bF bs).length = (cN (dT bs) 1).length := rfl
 unfold qL
 omega
theorem qN5 (A : Option Addr) (c : Nat) (bs : List Nat) (w : World) (hl : bs.length ≤ 32768) (hc : bs.length ≤ c) (hB : ∀ b ∈ bs, b < 256) (hr : Rd w 1 A bs.length (NB bs)) :
  Calls Tryz.prog 34 #[.slice A bs.length c] w fun e w' => ∃ B d, e = .returned (.tuple #[.slice B (qC (eG bs)).length d, .int .i64 ((0 : Nat) : Int)]) ∧ Own w' 5 1 B (qC (eG bs)).length d (NB (qC (eG bs))) ∧ Frm [] w w' ∧ ∀ x ∈ ob B, w.heap.size ≤ x := by
 have htl := oZ bs
 have hok := nM bs 0 hl hB
 refine VC.calls (nt := 138) (res := #[.tmp 2, .tmp 3]) Tryz.func34 rfl Tryz.ntmps34 Tryz.results34 rfl ?_
 refine jS (jR (ja rfl (jz 0 (jO (jN (jv1 0 ?_))))))
 refine jS (jR (jM ?_))
 refine Ops.cl (jE1 Tryz.call55) (qQa A c bs w hl hc hB hr) rfl ?_
 rintro e w1 ⟨Bt, dt, rfl, hot, K, _⟩
 refine ⟨_, rfl, ?_⟩
 have hnt : (qS bs 0).length = (qS bs 0).length := rfl
 generalize hntv : (qS bs 0).length = nt at *
 refine jm rfl (je (Run.extract rfl rfl) (je (Run.extract rfl rfl) (ja rfl (ja rfl (jO (jN (jv2 4 5 ?_)))))))
 refine jS (jS (jR (jm rfl (jb rfl rfl (Bin.neqN _ 0) (jO (jN (jv3 4 5 29 ?_)))))))
 refine VC.condF rfl jd ?_
 refine jQ (jN (jv1 4 ?_))
 refine jS (jR (jM ?_))
 refine Ops.cl (jE1 Tryz.call58) (qUm Bt nt dt (qS bs 0) w1 hntv hok jo hot) rfl ?_
 rintro e w2 ⟨rfl, hf2⟩
 refine ⟨_, rfl, ?_⟩
 have hot := hot.frm hf2 jp
 have K := K.trans hf2 jp
 refine Ops.m (qV.alloc qKw) rfl ?_
 rintro _ w3 ⟨rfl, hF3⟩
 have hg6 := K.size
 have hot := hot.frm hF3.frm jp
 have K := K.trans hF3.frm jp
 have hb3 : Blk w3 w2.heap.size 103 (SyC (rep 286) (rep 30)) := hF3.blk
 generalize w2.heap.size = g6 at hb3 hg6 ⊢
 refine Ops.st (qR.storeA rfl rfl (fun w => by rw [eL, dV, dD]; exact Tryz.sizeOf103 w) hb3 (by rw [eL, eL, dV, dD]; simp [rep]) (qYl _ _)) ?_
 rintro w4 ⟨hb4, hf4, hs4⟩
 have hot := hot.frm hf4 (fun x hx hx2 => by rw [zh] at hx2; subst hx2; exact hot.ne_blk hb3 jd hx)
 have K := K.own hf4 (by simp; omega)
 refine jO (jN (jv2 4 6 ?_))
 refine jS ?_
 refine VC.held (fun v => Blk v g6 103 (SyC (dQ (qS bs 0)) (eJ (qS bs 0)))) jK ?_
 have hS : (fun v => Blk v g6 103 (SyC (dQ (qS bs 0)) (eJ (qS bs 0)))) w4.drew := hb4.drawn (qQ.drew _)
 have hot := hot.drawn (qQ.drew w4)
 have K := K.drawn (qQ.drew w4)
 refine jH 0 rfl hS (fun w0 hw0 => Run.fieldAddr rfl zee rfl zhe jd) ?_
 refine qK.take (v := .slice (some ⟨g6, 0, none⟩) 286 286) 1 rfl jK jK jK hS (fun w0 hw0 => Run.sliceA 0 286 rfl zfs zc evB.none_ evB.none_ jo jo) trivial rfl rfl ?_
 refine jH 6 rfl hS (fun w0 hw0 => Run.fieldAddr rfl zee rfl Tryz.sizeOf101 jd) ?_
 refine qK.take (v := .slice (some ⟨g6, 286, none⟩) 30 30) 7 rfl jK jK jK hS (fun w0 hw0 => Run.sliceA 0 30 rfl Tryz.underlying101 zc evB.none_ evB.none_ jo jo) trivial rfl rfl ?_
 refine qK.cl 2 rfl jK (jE2 Tryz.call60) (qVi (some ⟨g6, 0, none⟩) 286 286 (dQ (qS bs 0)) 15 _ (dV _) jo (fun x hx => by have := wD _ x hx; omega) jo jo jd (qUk hS (dV _))) trivial rfl rfl ?_
 rintro e w5 ⟨Ba, ca, rfl, hoa, hf5, hna, hlo⟩
 refine ⟨_, rfl, hS.frm hf5 jp, ?_⟩
 have hS := hS.frm hf5 jp
 have hot := hot.frm hf5 jp
 have K := K.trans hf5 jp
 refine jH 3 rfl hS (fun w0 hw0 => Run.extract rfl rfl) ?_
 refine jH 4 rfl hS (fun w0 hw0 => Run.extract rfl rfl) ?_
 refine qK.cl 5 rfl jK (jE2 Tryz.call59) (tP _ _ _) trivial rfl rfl ?_
 rintro e _ ⟨rfl, rfl⟩
 refine ⟨_, rfl, hS, ?_⟩
 refine qK.cl 8 rfl jK (jE2 Tryz.call60) (qVi (some ⟨g6, 286, none⟩) 30 30 (eJ (qS bs 0)) 15 _ (dD _) jo (fun x hx => by have := wE _ x hx; omega) jo jo jd (qUl hS (dV _) (dD _))) trivial rfl rfl ?_
 rintro e w6 ⟨Bb, cb, rfl, hob, hf6, hnb, hwo⟩
 refine ⟨_, rfl, hS.frm hf6 jp, ?_⟩
 have hS := hS.frm hf6 jp
 have hot := hot.frm hf6 jp
 have hoa := hoa.frm hf6 jp
 have K := K.trans hf6 jp
 have hlo : LenOk (dQ (qS bs 0)) (dZ bs) 15 := hlo
 have hwo : LenOk (eJ (qS bs 0)) (dT bs) 15 := hwo
 have hoa : Own w6 3 1 Ba 286 ca (NI (dZ bs)) := hoa
 have hob : Own w6 3 1 Bb 30 cb (NI (dT bs)) := hob
 obtain ⟨hL1, hL2, hM1, hM2, hF1, hF2, hLok, hLl⟩ := uQ bs hlo hwo
 refine jH 9 rfl hS (fun w0 hw0 => Run.extract rfl rfl) ?_
 refine jH 10 rfl hS (fun w0 hw0 => Run.extract rfl rfl) ?_
 refine qK.cl 11 rfl jK (jE2 Tryz.call59) (tP _ _ _) trivial rfl rfl ?_
 rintro e _ ⟨rfl, rfl⟩
 refine ⟨_, rfl, hS, ?_⟩
 refine jH 12 rfl hS (fun w0 hw0 => Run.asg rfl) ?_
 refine jH 13 rfl hS (fun w0 hw0 => Run.asg rfl) ?_
 refine qK.done jK ?_
 refine jN (jv3 4 7 8 ?_)
 refine jS (jR (jM ?_))
 refine Ops.cl (jE2 Tryz.call61) (qTh Ba 286 ca 257 (dZ bs) w6 hL1 jo hoa.le hoa.rd) rfl ?_
 rintro e _ ⟨⟨Bm, dm, rfl, hrm, hcm⟩, rfl⟩
 refine ⟨_, rfl, ?_⟩
 have hrm : Rd w6 1 Bm (bW bs).length (NI (bW bs)) := hrm
 have em : (cN (dZ bs) 257).length = (bW bs).length := rfl
 rw [em]
 refine jM ?_
 refine Ops.cl (jE2 Tryz.call61) (qTh Bb 30 cb 1 (dT bs) w6 hL2 jo hob.le hob.rd) rfl ?_
 rintro e _ ⟨⟨Bf, df, rfl, hrf, hcf⟩, rfl⟩
 refine ⟨_, rfl, ?_⟩
 have hrf : Rd w6 1 Bf (bF bs).length (NI (bF bs)) := hrf
 have ef : (cN (dT bs) 1).length = (bF bs).length := rfl
 rw [ef]
 clear hcm hcf
 generalize hvm : (bW bs).length = vm at *
 generalize hvf : (bF bs).length = vf at *
 refine ja rfl (ja rfl (jO (jN (jv5 4 7 8 9 10 ?_))))
 refine jS (jR (jM ?_))
 refine Ops.m (qV.app rfl rfl zd (dX) rfl jd (Own.nil _ _ _) hrm (fH _) jo jo) rfl ?_
 rintro _ w7 ⟨A7, c7, rfl, ho7, hf7, hob7⟩
 have hf7 : Frm [] w6 w7 := hf7
 rw [zbf] at ho7
 have hrf := hrf.frm hf7 jp
 refine jM ?_
 refine Ops.m (qV.app rfl rfl zd (dX) rfl jd ho7 hrf (fH _) jo jo) rfl ?_
 rintro _ w8 ⟨A8, c8, rfl, ho8, hf8, hob8⟩
 have hu7 : ∀ x ∈ ob A7, w6.heap.size ≤ x := fun x hx => by
  rcases hob7 with h | h
  · rw [h] at hx; cases hx
  rw [h, zh] at hx; omega
 have hf8 : Frm [] w6 w8 := hf7.own hf8 hu7
 rw [show NI (bW bs) ++ NI (bF bs) = NI (bW bs ++ bF bs) by simp [NI]] at ho8
 refine Ops.cl (jE1 Tryz.call62) (qCa A8 (0 + vm + vf) c8 (bW bs ++ bF bs) w8 (by rw [za]; omega) jo ho8.rd) rfl ?_
 rintro e w9 ⟨Bl, dl, rfl, hol, hf9, _⟩
 refine ⟨_, rfl, ?_⟩
 have hf9 := hf8.trans hf9 jp
 have hot := hot.frm hf9 jp
 have hoa := hoa.frm hf9 jp
 have hob := hob.frm hf9 jp
 have K := K.trans hf9 jp
 have hol : Own w9 113 3 Bl (qL bs).length dl (SDC (qL bs)) := hol
 have el : (dK (bW bs ++ bF bs) 0).length = (qL bs).length := rfl
 rw [el]
 clear ho8 ho7 hrm hrf hf8 hf7 hb4 hb3
 refine ja rfl (jO (jN (jv6 4 7 8 9 10 11 ?_)))
 refine jS (jR ?_)
 refine Ops.m (qV.alloc sJ) rfl ?_
 rintro _ w10 ⟨rfl, hF10⟩
 have hb12 : Blk w10 w9.heap.size 111 (NI (dM ((qL bs).take 0))).toArray := hF10.blk
 have hg12 : w9.heap.size ≤ w9.heap.size := zk _
 have K10 : Frm [] w9 w10 := hF10.frm
 generalize hgv : w9.heap.size = g12 at hb12 hg12 ⊢
 have hgl : w9.heap.size ≤ g12 := jo
 refine jO (jN (jS (jS (jR (jm rfl (je (Run.lenS rfl zdc) ?_))))))
 refine jx .i64 0 ?_
 refine jO (jN (jB ?_))
 refine VC.loop (σ := Nat) (fun s => [(4, _), (7, _), (8, _), (9, _), (10, _), (11, _), (12, _), (54, .slice Bl (qL bs).length dl), (55, .int .i64 (((qL bs).length : Nat) : Int)), (56, .int .i64 ((s : Nat) : Int))]) (fun s wr => s ≤ (qL bs).length ∧ Blk wr g12 111 (NI (dM ((qL bs).take s))).toArray ∧ Frm [] w9 wr) (fun s => (qL bs).length - s) 0 (js10 rfl rfl rfl rfl rfl rfl rfl rfl rfl rfl) ⟨zak _, hb12, K10⟩ ?_
 rintro i wr ⟨hi, hb12, K10⟩
 refine jS (jR (jb rfl rfl (Bin.lssN _ _) (jO (jN (jS ?_)))))
 refine jD rfl (fun hc2 => ?_) fun hc2 => ?_
 ·
  have hol1 := hol.frm K10 jp
  obtain ⟨ad, rfl, hel⟩ := hol1.rd.elem hc2
  rw [qQs (qL bs) i hc2] at hel
  have hsn := wI hc2
  have hqok := hLok ((qL bs).getD i (0, 0, 0)) (by rw [ze, zb hc2]; exact zt hc2)
  generalize (qL bs).getD i (0, 0, 0) = q at hel hsn hqok
  have hq19 := hqok.1
  have hts := xN ((qL bs).take i) q
  rw [← hsn] at hts
  have htl1 := eK ((qL bs).take i)
  have hle1 := rR ((qL bs).take i)
  rw [zi, zal hi] at hle1
  generalize dM ((qL bs).take i) = ct at *
  have hv1 := mH hle1 q.1
  refine jQ (jN (jv10 4 7 8 9 10 11 12 54 55 56 ?_))
  refine jS (jB (jS (jR (je (Run.indexS _ rfl rfl zdc zev jo) (je (Run.loadA rfl Tryz.isAgg113 zev hel (by first | rfl | (simp; done))) ?_)))))
  refine Ops.m (qV.alloc jZ) rfl ?_
  rintro _ w11 ⟨rfl, hF11⟩
  refine Ops.st (qR.storeA rfl rfl zev hF11.blk rfl (by intro v hv; exact SDC_one [q] v (by simpa [SDC] using hv))) ?_
  rintro w12 ⟨hb14, hf12, hs12⟩
  have hf12 : Frm [] wr w12 := hF11.frm.own hf12 jp
  have hb12 := hb12.frm hf12 jp
  have K10 := K10.trans hf12 jp
  refine jO (jN (jv11 4 7 8 9 10 11 12 14 54 55 56 ?_))
  refine jR (jf rfl zgn rfl zc (jl rfl zg (hb14.cell 0) (je (Run.indexA1 _ rfl rfl zfg zc jo) (jl rfl zg ((hb12.cell _).trans (by rw [zap]; exact pQ _ _ jo)) (jb rfl rfl (Bin.add_i64 _ 1 jo) (je (Run.indexA1 _ rfl rfl zfg zc jo) ?_))))))
  refine Ops.st (qR.store rfl rfl zc hb12 (by rw [zep]; simp [NI]; omega) rfl) ?_
  rintro w13 ⟨hb13, hf13, hs13⟩
  rw [zap, oO] at hb13
  unfold timeStep at hts
  rw [← hts] at hb13
  refine jO ?_
  refine qJ (jN ?_)
  refine jv10 4 7 8 9 10 11 12 54 55 56 ?_
  refine jR (jb rfl rfl (Bin.add_i64 _ 1 jo) (jm rfl (jO ?_)))
  refine jN ⟨i + 1, (js10 rfl rfl rfl rfl rfl rfl rfl rfl rfl rfl), ?_, ?_⟩
  · exact ⟨hc2, hb13, K10.own hf13 (by simp; omega)⟩
  first | omega | (dsimp only; omega)
 refine jX ?_
 refine qZ (qZ (qW ?_))
 refine jN (jv7 4 7 8 9 10 11 12 ?_)
 refine jS (jR ?_)
 have ei : i = (qL bs).length := jo
 subst ei
 rw [zas] at hb12
 refine Ops.r (v := .slice (some ⟨g12, 0, none⟩) 19 19) (Run.sliceA 0 19 rfl zfg zc evB.none_ evB.none_ jo jo) rfl ?_
 refine Ops.cl (jE2 Tryz.call60) (qVi (some ⟨g12, 0, none⟩) 19 19 (dM (qL bs)) 7 wr (eK _) jo (fun x hx => by have := rR _ x hx; omega) jo jo jd (Rd.of_blk (n := 19) (size := 1) hb12 (by simp [NI, eK]))) rfl ?_
 rintro e w14 ⟨B3, c3, rfl, ho3, hf14, _, h3o⟩
 refine ⟨_, rfl, ?_⟩
 have K10 := K10.trans hf14 jp
 have ho3 : Own w14 3 1 B3 19 c3 (NI (bJ bs)) := ho3
 have h3o : LenOk (dM (qL bs)) (bJ bs) 7 := h3o
 have h3l : (bJ bs).length = 19 := h3o.len.trans (eK _)
 refine je (Run.extract rfl rfl) (je (Run.extract rfl rfl) ?_)
 refine Ops.cl (jE2 Tryz.call59) (tP _ _ _) rfl ?_
 rintro e _ ⟨rfl, rfl⟩
 refine ⟨_, rfl, ?_⟩
 refine ja rfl (jO (jN (jv7 4 7 8 9 10 11 15 ?_)))
 refine jS (jR (jM ?_))
 refine Ops.cl (jE1 Tryz.call63) (qUn B3 c3 (bJ bs) w14 h3l ho3.rd) rfl ?_
 rintro e w15 ⟨Bo, co, rfl, hoo, hf15, _⟩
 refine ⟨_, rfl, ?_⟩
 have K10 := K10.trans hf15 jp
 have ho3 := ho3.frm hf15 jp
 refine Ops.cl (jE2 Tryz.call61) (qNk Bo co 4 (cU (bJ bs)) w15 (by rw [eO]; omega) hoo.le hoo.rd) rfl ?_
 rintro e _ ⟨⟨Bw, dw, rfl, hrw, hcw⟩, rfl⟩
 refine ⟨_, rfl, ?_⟩
 have hrw : Rd w15 1 Bw (bY bs).length (NI (bY bs)) := hrw
 have ew : (cN (cU (bJ bs)) 4).length = (bY bs).length := rfl
 rw [ew]
 have hwb : 4 ≤ (bY bs).length ∧ (bY bs).length ≤ 19 := by
  have := nQ (cU (bJ bs)) 4 (by rw [eO]; omega)
  rw [eO] at this
  exact this
 have hw7 : ∀ i, (bY bs).getD i 0 ≤ 7 := mM _ _ _ (qZy _ _ h3o.most)
 generalize hvw : (bY bs).length = vw at *
 have hot := hot.frm K10 jp
 have hoa := hoa.frm K10 jp
 have hob := hob.frm K10 jp
 have hol := hol.frm K10 jp
 have K := K.trans K10 jp
 clear hoo hcw
 refine ja rfl (jO (jN (jv8 4 7 8 9 10 11 15 16 ?_)))
 refine jS (jR ?_)
 refine Ops.cl (jE0 Tryz.call50) (yJ _) rfl ?_
 rintro e w16 ⟨rfl, hW, hf16, _⟩
 refine ⟨_, rfl, ?_⟩
 have K11 := hf16
 obtain ⟨g, hgl, hgv⟩ : ∃ g, w15.heap.size ≤ g ∧ g = w15.heap.size := ⟨_, zk _, rfl⟩
 rw [← hgv] at hW
 rw [← hgv]
 have hA0 : ∀ x ∈ ob (none : Option Addr), w15.heap.size ≤ x := by simp [ob]
 refine ja rfl (jO (jN (jv9 4 7 8 9 10 11 15 16 17 ?_)))
 refine jS (jR (jM ?_))
 refine Ops.cl (jE3 zez) (gL g 1 1 none _ w16 jd jo (by simp [qN]) hW) rfl ?_
 rintro e w17 ⟨rfl, A1, hW1, hfp, hAp⟩
 refine ⟨_, rfl, ?_⟩
 have K11n := K11.own hfp (fun x hx => by rcases zbv.1 hx with rfl | hx; exact hgl; exact hA0 x hx)
 have hA0 : ∀ x ∈ ob A1, w15.heap.size ≤ x := fun x hx => by rcases hAp x hx with h | h; exact hA0 x h; have := K11.size; omega
 have K11 := K11n
 clear K11n hfp hAp
 refine jO (jN (jv9 4 7 8 9 10 11 15 16 17 ?_))
 refine jS (jR (jM ?_))
 refine Ops.cl (jE3 zez) (gL g 2 2 A1 _ w17 jd jo (by simp [qN]) hW1) rfl ?_
 rintro e w18 ⟨rfl, A2, hW2, hfp, hAp⟩
 refine ⟨_, rfl, ?_⟩
 have K11n := K11.own hfp (fun x hx => by rcases zbv.1 hx with rfl | hx; exact hgl; exact hA0 x hx)
 have hA0 : ∀ x ∈ ob A2, w15.heap.size ≤ x := fun x hx => by rcases hAp x hx with h | h; exact hA0 x h; have := K11.size; omega
 have K11 := K11n
 clear K11n hfp hAp
 refine jO (jN (jv9 4 7 8 9 10 11 15 16 17 ?_))
 refine jS (jR (jm rfl (jm rfl (je (Run.lenS rfl zd) (jb rfl rfl (Bin.sub_i64 _ 257 jo jo) (je (Run.convN _ rfl zaa zv (by simp only [bmax]; omega)) ?_))))))
 refine Ops.cl (jE3 zez) (gL g (vm - 257) 5 A2 _ w18 jo jo (by simp [qN]) hW2) rfl ?_
 rintro e w19 ⟨rfl, A3, hW3, hfp, hAp⟩
 refine ⟨_, rfl, ?_⟩
 have K11n := K11.own hfp (fun x hx => by rcases zbv.1 hx with rfl | hx; exact hgl; exact hA0 x hx)
 have hA0 : ∀ x ∈ ob A3, w15.heap.size ≤ x := fun x hx => by rcases hAp x hx with h | h; exact hA0 x h; have := K11.size; omega
 have K11 := K11n
 clear K11n hfp hAp
 refine jO (jN (jv8 4 7 8 10 11 15 16 17 ?_))
 refine jS (jR (jm rfl (jm rfl (je (Run.lenS rfl zd) (jb rfl rfl (Bin.sub_i64 _ 1 jo jo) (je (Run.convN _ rfl zaa zv (by simp only [bmax]; omega)) ?_))))))
 refine Ops.cl (jE3 zez) (gL g (vf - 1) 5 A3 _ w19 jo jo (by simp [qN]) hW3) rfl ?_
 rintro e w20 ⟨rfl, A4, hW4, hfp, hAp⟩
 refine ⟨_, rfl, ?_⟩
 have K11n := K11.own hfp (fun x hx => by rcases zbv.1 hx with rfl | hx; exact hgl; exact hA0 x hx)
 have hA0 : ∀ x ∈ ob A4, w15.heap.size ≤ x := fun x hx => by rcases hAp x hx with h | h; exact hA0 x h; have := K11.size; omega
 have K11 := K11n
 clear K11n hfp hAp
 refine jO (jN (jv7 4 7 8 11 15 16 17 ?_))
 refine jS (jR (jm rfl (jm rfl (je (Run.lenS rfl zd) (jb rfl rfl (Bin.sub_i64 _ 4 jo jo) (je (Run.convN _ rfl zaa zv (by simp only [bmax]; omega)) ?_))))))
 refine Ops.cl (jE3 zez) (gL g (vw - 4) 4 A4 _ w20 jo jo (by simp [qN]) hW4) rfl ?_
 rintro e w21 ⟨rfl, A5, hW5, hfp, hAp⟩
 refine ⟨_, rfl, ?_⟩
 have K11n := K11.own hfp (fun x hx => by rcases zbv.1 hx with rfl | hx; exact hgl; exact hA0 x hx)
 have hA0 : ∀ x ∈ ob A5, w15.heap.size ≤ x := fun x hx => by rcases hAp x hx with h | h; exact hA0 x h; have := K11.size; omega
 have K11 := K11n
 clear K11n hfp hAp
 refine jO (jN (jv7 4 7 8 11 15 16 17 ?_))
 refine jS (jS (jR (jm rfl (je (Run.lenS rfl zd) ?_))))
 refine jx .i64 0 ?_
 refine jO (jN (jv9 4 7 8 11 15 17 98 99 100 ?_))
 refine jB ?_
 obtain ⟨PRE, hPRE⟩ : ∃ P, P = (([] : List Bool) ++ bitsL 1 1 ++ bitsL 2 2 ++ bitsL (vm - 257) 5 ++ bitsL (vf - 1) 5 ++ bitsL (vw - 4) 4) := ⟨_, rfl⟩
 rw [← hPRE] at hW5
 have hPl : PRE.length = 17 := by rw [hPRE]; simp [qN]
 refine VC.loop (σ := Nat × Option Addr) (fun s => [(4, _), (7, _), (8, _), (11, _), (15, _), (17, .pointer (some ⟨g, 0, none⟩)), (98, .slice Bw vw dw), (99, .int .i64 ((vw : Nat) : Int)), (100, .int .i64 ((s.1 : Nat) : Int))]) (fun s wr => s.1 ≤ vw ∧ IsW wr g s.2 (PRE ++ ((bY bs).take s.1).flatMap (fun n => bitsL n 3)) ∧ Frm [] w15 wr ∧ ∀ x ∈ ob s.2, w15.heap.size ≤ x) (fun s => vw - s.1) (0, A5) (js9 rfl rfl rfl rfl rfl rfl rfl rfl rfl) ⟨zak _, by simpa using hW5, K11, hA0⟩ ?_
 rintro ⟨i, A6⟩ wr ⟨hi, hW6, K11, hA0⟩
 dsimp only at hi hW6 hA0 ⊢
 have hfl := kD ((bY bs).take i)
 have hti := List.length_take_le i (bY bs)
 refine jS (jR (jb rfl rfl (Bin.lssN _ _) (jO (jN (jS ?_)))))
 refine jD rfl (fun hc3 => ?_) fun hc3 => ?_
 ·
  obtain ⟨ad, rfl, _, hadc⟩ := (hrw.frm K11 jp).2 jo
  have hcell := hadc i _ (eZ (bY bs) i jo)
  have hsn := nT (jo : i < (bY bs).length)
  have hq7 := hw7 i
  generalize (bY bs).getD i 0 = q at hcell hsn hq7
  refine jQ (jN (jv9 4 7 8 11 15 17 98 99 100 ?_))
  refine jS (jB (jS (jR (je (Run.index1 _ rfl rfl zd zc jo) (jl rfl zg hcell (ja rfl (jO (jN (jv10 4 7 8 11 15 17 19 98 99 100 ?_)))))))))
  refine jR (jm rfl (jm rfl (je (Run.convN _ rfl zaa zv (by simp only [bmax]; omega)) ?_)))
  refine Ops.cl (jE3 zez) (gL g q 3 A6 _ wr jo jo (by rw [za]; omega) hW6) rfl ?_
  rintro e w22 ⟨rfl, A7, hW7, hfp, hAp⟩
  refine ⟨_, rfl, ?_⟩
  have K11n := K11.own hfp (fun x hx => by rcases zbv.1 hx with rfl | hx; exact hgl; exact hA0 x hx)
  have hA0 : ∀ x ∈ ob A7, w15.heap.size ≤ x := fun x hx => by rcases hAp x hx with h | h; exact hA0 x h; have := K11.size; omega
  refine jO ?_
  refine qJ (jN ?_)
  refine jv9 4 7 8 11 15 17 98 99 100 ?_
  refine jR (jb rfl rfl (Bin.add_i64 _ 1 jo) (jm rfl (jO ?_)))
  refine jN ⟨(i + 1, A7), (js9 rfl rfl rfl rfl rfl rfl rfl rfl rfl), ?_, ?_⟩
  · exact ⟨hc3, by rw [hsn, zw, zcp, ← zj]; exact hW7, K11n, hA0⟩
  first | omega | (dsimp only; omega)
 refine jX ?_
 refine qZ (qZ (qW ?_))
 refine jN (jv6 4 7 8 11 15 17 ?_)
 refine jS (jR (jm rfl (jM ?_)))
 refine Ops.cl (jE1 Tryz.call66) (qUo B3 19 c3 (bJ bs) wr h3l h3o.ok (ho3.frm K11 jp).rd) rfl ?_
 rintro e w23 ⟨hf23, Bc, cc, rfl, hoc⟩
 refine ⟨_, rfl, ?_⟩
 have hW6 := hW6.new hf23
 have K11 := K11.trans hf23 jp
 refine je (Run.extract rfl rfl) (je (Run.extract rfl rfl) ?_)
 refine Ops.cl (jE2 Tryz.call65) (tR _ _ _) rfl ?_
 rintro e _ ⟨rfl, rfl⟩
 refine ⟨_, rfl, ?_⟩
 refine Ops.cl (jE2 Tryz.call64) (vN (.pointer (some ⟨g, 0, none⟩)) (.slice Bc 19 cc) rfl rfl _) rfl ?_
 rintro e w24 ⟨g2, g3, rfl, hg2, hg3, hf24⟩
 refine ⟨_, rfl, ?_⟩
 have hW6 := hW6.new hf24
 have hoc := hoc.frm hf24 jp
 have K11 := K11.trans hf24 jp
 have ei : i = vw := jo
 subst ei
 rw [← hvw, zas] at hW6
 refine ja rfl (jO (jN (jv6 4 7 8 11 17 20 ?_)))
 refine jS (jS (jR (jm rfl (je (Run.lenS rfl zdc) ?_))))
 refine jx .i64 0 ?_
 refine jO (jN (jv8 4 7 8 17 20 116 117 118 ?_))
 refine jB ?_
 refine VC.loop (σ := Nat × Option Addr) (fun s => [(4, _), (7, _), (8, _), (17, .pointer (some ⟨g, 0, none⟩)), (20, .func (.func 99) #[] #[.pointer (some ⟨g2, 0, none⟩), .pointer (some ⟨g3, 0, none⟩)]), (116, .slice Bl (qL bs).length dl), (117, .int .i64 (((qL bs).length : Nat) : Int)), (118, .int .i64 ((s.1 : Nat) : Int))]) (fun s wr => s.1 ≤ (qL bs).length ∧ IsW wr g s.2 (PRE ++ (bY bs).flatMap (fun n => bitsL n 3) ++ ((qL bs).take s.1).flatMap (dF (toZ (bJ bs)))) ∧ Frm [] w15 wr ∧ (∀ x ∈ ob s.2, w15.heap.size ≤ x) ∧ Blk wr g2 88 #[.pointer (some ⟨g, 0, none⟩)] ∧ Blk wr g3 117 #[.slice Bc 19 cc] ∧ Own wr 179 2 Bc 19 cc ((cW (toZ (bJ bs))).flatMap CB)) (fun s => (qL bs).length - s.1) (0, A6) (js8 rfl rfl rfl rfl rfl rfl rfl rfl) ⟨zak _, by simpa using hW6, K11, hA0, hg2, hg3, hoc⟩ ?_
 rintro ⟨i, A8⟩ wr ⟨hi, hW8, K11, hA0, hg2, hg3, hoc⟩
 dsimp only at hi hW8 hA0 ⊢
 have hfl2 := zQ h3o.ok (by rw [bM, h3l]; omega) ((qL bs).take i) (fun t ht => hLok t (zaf ht))
 have hti2 : ((qL bs).take i).length = i := by rw [zi, zal hi]
 have hfl3 := kD (bY bs)
 have hbl : (PRE ++ (bY bs).flatMap (fun n => bitsL n 3) ++ ((qL bs).take i).flatMap (dF (toZ (bJ bs)))).length ≤ 100000 := by
  rw [za, za, hPl, hfl3, hvw]
  omega
 refine jS (jR (jb rfl rfl (Bin.lssN _ _) (jO (jN (jS ?_)))))
 refine jD rfl (fun hc4 => ?_) fun hc4 => ?_
 ·
  have hol1 := hol.frm K11 jp
  obtain ⟨ad, rfl, hel⟩ := hol1.rd.elem hc4
  rw [qQs (qL bs) i hc4] at hel
  have hsn := wI hc4
  have hqok := hLok ((qL bs).getD i (0, 0, 0)) (by rw [ze, zb hc4]; exact zt hc4)
  generalize (qL bs).getD i (0, 0, 0) = q at hel hsn hqok
  refine jQ (jN (jv8 4 7 8 17 20 116 117 118 ?_))
  refine jS (jB (jS (jR (je (Run.indexS _ rfl rfl zdc zev jo) (je (Run.loadA rfl Tryz.isAgg113 zev hel (by first | rfl | (simp; done))) ?_)))))
  refine Ops.m (qV.alloc jZ) rfl ?_
  rintro _ w25 ⟨rfl, hF25⟩
  refine Ops.st (qR.storeA rfl rfl zev hF25.blk rfl (by intro v hv; exact SDC_one [q] v (by simpa [SDC] using hv))) ?_
  rintro w26 ⟨hb22, hf26, hs26⟩
  have hf26 : Frm [] wr w26 := hF25.frm.own hf26 jp
  have hW8 := hW8.new hf26
  have hg2 := hg2.frm hf26 jp
  have hg3 := hg3.frm hf26 jp
  have hoc := hoc.frm hf26 jp
  have K11 := K11.trans hf26 jp
  refine jO (jN (jv9 4 7 8 17 20 22 116 117 118 ?_))
  refine jR (jm rfl (jf rfl zgn rfl zc (jl rfl zg (hb22.cell 0) (jf rfl zgn rfl zc (jl rfl zg (hb22.cell 1) (jf rfl zgn rfl zc (jl rfl zg (hb22.cell 2) ?_)))))))
  refine Ops.cl (bP.dyn rfl (evs.cons rfl (evs.cons rfl (evs.cons rfl evs.nil))) Tryz.call99) (qUp 19 g g2 g3 q.1 q.2.1 q.2.2 cc A8 Bc _ (toZ (bJ bs)) w26 (by rw [bM, h3l]) h3o.ok.1 h3o.ok.2 hqok.1 hqok.2.2 (by have := hqok.2.1; omega) jo hW8 hoc hg2 hg3) rfl ?_
  rintro e w27 ⟨rfl, A9, hW9, hf27, hA9⟩
  refine ⟨_, rfl, ?_⟩
  have hg2 := hW8.keepB hf27 hg2 jd jd
  have hg3 := hW8.keepB hf27 hg3 jd jd
  have hoc := hW8.keepO hf27 hoc jd jd
  have hA0n : ∀ x ∈ ob A9, w15.heap.size ≤ x := fun x hx => by rcases hA9 x hx with h | h; exact hA0 x h; have := K11.size; omega
  have K11 := K11.own hf27 (fun x hx => by rcases zbv.1 hx with rfl | hx; exact hgl; exact hA0 x hx)
  refine jO ?_
  refine qJ (jN ?_)
  refine jv8 4 7 8 17 20 116 117 118 ?_
  refine jR (jb rfl rfl (Bin.add_i64 _ 1 jo) (jm rfl (jO ?_)))
  refine jN ⟨(i + 1, A9), (js8 rfl rfl rfl rfl rfl rfl rfl rfl), ?_, ?_⟩
  · exact ⟨hc4, by rw [hsn, zw, zcp]; unfold dF at hW9 ⊢; simpa [zj] using hW9, K11, hA0n, hg2, hg3, hoc⟩
  first | omega | (dsimp only; omega)
 refine jX ?_
 refine qZ (qZ (qW ?_))
 refine jN (jv4 4 7 8 17 ?_)
 refine jS (jR (jm rfl (jm rfl (jm rfl (jM ?_)))))
 refine Ops.cl (jE4 Tryz.call57) (qSl g dt ca cb 286 30 nt A8 Bt Ba Bb _ (qS bs 0) (dZ bs) (dT bs) wr hL1 hL2 hntv hlo.ok hwo.ok jo jo hok jo jo hW8 (hot.frm K11 jp) (hoa.frm K11 jp).rd (hob.frm K11 jp).rd) rfl ?_
 rintro e w28 ⟨rfl, A9, hW9, hf28, hA9⟩
 refine ⟨_, rfl, ?_⟩
 have K11 := K11.own hf28 (fun x hx => by rcases zbv.1 hx with rfl | hx; exact hgl; exact hA0 x hx)
 have ei : i = (qL bs).length := jo
 subst ei
 have hfin : PRE ++ (bY bs).flatMap (fun n => bitsL n 3) ++ ((qL bs).take (qL bs).length).flatMap (dF (toZ (bJ bs))) ++ cT (toZ (dZ bs)) (toZ (dT bs)) (qS bs 0) = eG bs := by
  rw [zas, hPRE]
  unfold eG
  rw [hvm, hvf, hvw, zbf]
 rw [hfin] at hW9
 refine jO (jN (jv1 17 ?_))
 refine jS (jR (jM ?_))
 refine Ops.cl (jE1 Tryz.call54) (tQ g A9 (eG bs) w28 (by have h1 := mW hlo.ok hwo.ok (by rw [bM]; omega) (by rw [bM]; omega) _ hok; have h3 := eY hlo.ok.1 hlo.ok.2 (show 256 < (toZ (dZ bs)).length by rw [bM]; omega); rw [← hfin]; unfold cT; simp only [za] at hbl ⊢; omega) hW9) rfl ?_
 rintro e w29 ⟨B, d, rfl, hB7, hf29, hu7⟩
 refine ⟨_, rfl, ?_⟩
 refine ja rfl (jz 0 (jO (jN (jv2 2 3 ?_))))
 refine jT ?_
 refine cY rfl rfl ?_
 exact ⟨B, d, rfl, hB7, (K.trans K11 jp).trans hf29 jp, fun x hx => by have := hu7 x hx; have := K.size; have := K11.size; omega⟩
end
section
open Go.RowKit
theorem fR {l : List Int} {i : Nat} (h : l.getD i 0 ≠ 0) : i < l.length := by
 by_cases hi : i < l.length
 · exact hi
 rw [ze, zu jo] at h
 exact absurd rfl h
theorem qSm {L A C : List Bool} {a b : List Int} {s most p : Nat} {out : List Nat} (ha : ROk a) (hs : s < 256) (h0 : a.getD s 0 ≠ 0) (hL : L = A ++ bH a s ++ C) (hp : p = A.length) (ho : out.length < most) :
  fF L a b most p out = .ok (true, p + (bH a s).length, out ++ [s]) := by
 have h := (kW ha (fR h0) h0 ⟨A, C, hL, hp⟩).1
 unfold fF
 rw [h, qB]
 dsimp only
 rw [if_pos hs, if_pos ho]
theorem qSn {L A C : List Bool} {a b : List Int} {most p : Nat} {out : List Nat} (ha : ROk a) (h0 : a.getD 256 0 ≠ 0) (hL : L = A ++ bH a 256 ++ C) (hp : p = A.length) :
  fF L a b most p out = .ok (false, p + (bH a 256).length, out) := by
 have h := (kW ha (fR h0) h0 ⟨A, C, hL, hp⟩).1
 unfold fF
 rw [h, qB]
 rfl
theorem qHg {L A C : List Bool} {a b : List Int} {n d most p : Nat} {out : List Nat} (ha : ROk a) (hb : ROk b) (h3 : 3 ≤ n) (h4 : n ≤ 258) (h5 : 1 ≤ d) (h6 : d ≤ 32768) (h0 : a.getD (257 + lenS n) 0 ≠ 0) (h1 : b.getD (wayS d) 0 ≠ 0)
  (hL : L = A ++ (lT a n ++ mD b d) ++ C) (hp : p = A.length) (hd : d ≤ out.length) (ho : out.length + n ≤ most) :
  fF L a b most p out = .ok (true, p + (lT a n ++ mD b d).length, dB n d out) := by
 obtain ⟨l1, l2, l3, _⟩ := fA h3 h4
 obtain ⟨w1, w2, w3, _⟩ := fI h5 h6
 unfold lT mD at hL ⊢
 generalize hk1 : bH a (257 + lenS n) = k1 at hL
 generalize hk2 : bH b (wayS d) = k2 at hL
 have hs1 := (kW ha (fR h0) h0 (L := L) (p := p) ⟨A, bitsL (n - (longT.getD (lenS n) (0, 0)).1) (longT.getD (lenS n) (0, 0)).2 ++ k2 ++ bitsL (d - (wayT.getD (wayS d) (0, 0)).1) (wayT.getD (wayS d) (0, 0)).2 ++ C, by rw [hL, hk1]; simp only [zj], hp⟩).1
 rw [hk1] at hs1
 have ht1 : bN L (longT.getD (lenS n) (0, 0)).2 (p + k1.length) = .ok (n - (longT.getD (lenS n) (0, 0)).1, p + k1.length + (longT.getD (lenS n) (0, 0)).2) := by
  have := eC (L := L) (A := A ++ k1) (B := bitsL (n - (longT.getD (lenS n) (0, 0)).1) (longT.getD (lenS n) (0, 0)).2) (n := (longT.getD (lenS n) (0, 0)).2) (p := p + k1.length) ⟨k2 ++ bitsL (d - (wayT.getD (wayS d) (0, 0)).1) (wayT.getD (wayS d) (0, 0)).2 ++ C, by rw [hL]; simp only [zj]⟩ (by rw [qN]) (by rw [za, hp])
  rw [eD _ _ l3] at this
  exact this
 have hs2 := (kW hb (fR h1) h1 (L := L) (p := p + k1.length + (longT.getD (lenS n) (0, 0)).2) ⟨A ++ k1 ++ bitsL (n - (longT.getD (lenS n) (0, 0)).1) (longT.getD (lenS n) (0, 0)).2, bitsL (d - (wayT.getD (wayS d) (0, 0)).1) (wayT.getD (wayS d) (0, 0)).2 ++ C, by rw [hL, hk2]; simp only [zj], by rw [za, za, qN, hp]⟩).1
 rw [hk2] at hs2
 have ht2 : bN L (wayT.getD (wayS d) (0, 0)).2 (p + k1.length + (longT.getD (lenS n) (0, 0)).2 + k2.length) = .ok (d - (wayT.getD (wayS d) (0, 0)).1, p + k1.length + (longT.getD (lenS n) (0, 0)).2 + k2.length + (wayT.getD (wayS d) (0, 0)).2) := by
  have := eC (L := L) (A := A ++ k1 ++ bitsL (n - (longT.getD (lenS n) (0, 0)).1) (longT.getD (lenS n) (0, 0)).2 ++ k2) (B := bitsL (d - (wayT.getD (wayS d) (0, 0)).1) (wayT.getD (wayS d) (0, 0)).2) (n := (wayT.getD (wayS d) (0, 0)).2) (p := p + k1.length + (longT.getD (lenS n) (0, 0)).2 + k2.length) ⟨C, by rw [hL]; simp only [zj]⟩ (by rw [qN]) (by simp only [za, qN, hp])
  rw [eD _ _ w3] at this
  exact this
 have e1 : 257 + lenS n - 257 = lenS n := jo
 have e2 : (longT.getD (lenS n) (0, 0)).1 + (n - (longT.getD (lenS n) (0, 0)).1) = n := jo
 have e3 : (wayT.getD (wayS d) (0, 0)).1 + (d - (wayT.getD (wayS d) (0, 0)).1) = d := jo
 unfold fF
 rw [hs1, qB]
 dsimp only
 rw [if_neg jo, if_neg jo, if_neg jo, e1, ht1, qB]
 dsimp only
 rw [hs2, qB]
 dsimp only
 rw [if_neg jo, ht2, qB]
 dsimp only
 rw [e2, e3, if_neg jo, if_neg jo]
 simp only [za, qN, zek]
theorem qZ3 {bs : List Nat} {d : Nat} (hd : 1 ≤ d) : ∀ n a, d ≤ a → a + n ≤ bs.length → (∀ j, j < n → bs.getD (a - d + j) 0 = bs.getD (a + j) 0) → dB n d (bs.take a) = bs.take (a + n)
 | 0, a, _, _, _ => rfl
 | n + 1, a, h1, h2, h3 => by
  have hl : (bs.take a).length = a := by rw [zi]; omega
  have e : (bs.take a).getD (a - d) 0 = bs.getD a 0 := by
   rw [ze, zaq jo, ← ze]
   have := h3 0 jo
   rw [zdu, zdu] at this
   exact this
  rw [dB, hl, e, ← nT (L := bs) jo, qZ3 hd n (a + 1) jo jo (fun j hj => by
   have := h3 (j + 1) jo
   rw [show a + 1 - d + j = a - d + (j + 1) by omega, show a + 1 + j = a + (j + 1) by omega]
   exact this), show a + 1 + n = a + (n + 1) by omega]
def wX (a b : List Int) (t : Tk) : Prop := if t.2.1 = 0 then a.getD t.1 0 ≠ 0 else a.getD (257 + lenS t.2.1) 0 ≠ 0 ∧ b.getD (wayS t.2.2) 0 ≠ 0
theorem sQ {bs : List Nat} {c1 c2 : List Int} (hl : bs.length ≤ 32768) (hB : ∀ b ∈ bs, b < 256) (h1 : ROk c1) (h2 : ROk c2) (h0 : c1.getD 256 0 ≠ 0) :
  ∀ m a f (L A C : List Bool) p, bs.length - a ≤ m → a ≤ bs.length → (∀ t ∈ qS bs a, wX c1 c2 t) → L = A ++ cT c1 c2 (qS bs a) ++ C → p = A.length → (qS bs a).length < f →
   dL L c1 c2 bs.length f p (bs.take a) = .ok (p + (cT c1 c2 (qS bs a)).length, bs)
 | m, a, 0, L, A, C, p, _, _, _, _, _, hf => jo
 | m, a, f + 1, L, A, C, p, hm, ha, hu, hL, hp, hf => by
  by_cases hend : a = bs.length
  ·
   rw [yG bs a jo] at hL ⊢
   have ht : cT c1 c2 [] = bH c1 256 := rfl
   rw [ht] at hL ⊢
   rw [dL, qSn h1 h0 hL hp, qB]
   dsimp only
   rw [zm jo]
   rfl
  have ha2 : a < bs.length := jo
  have htl : (bs.take a).length = a := by rw [zi]; omega
  cases m with
  | zero => omega
  | succ m =>
   by_cases hbm : (bQ bs a).1 = 0
   ·
    rw [yH bs a ha2 hbm] at hu hL hf ⊢
    have hu0 := hu _ zcc
    have htb : fM c1 c2 (bs.getD a 0, 0, 0) = bH c1 (bs.getD a 0) := rfl
    have htt : cT c1 c2 ((bs.getD a 0, 0, 0) :: qS bs (a + 1)) = bH c1 (bs.getD a 0) ++ cT c1 c2 (qS bs (a + 1)) := by
     unfold cT
     rw [zq, htb, zj]
    rw [htt] at hL ⊢
    have hx := qSm (b := c2) (most := bs.length) (out := bs.take a) h1 (mK hB a) hu0 (show L = A ++ bH c1 (bs.getD a 0) ++ (cT c1 c2 (qS bs (a + 1)) ++ C) by rw [hL]; simp only [zj]) hp jo
    rw [dL, hx, qB]
    dsimp only
    rw [← nT (L := bs) ha2, if_pos rfl, sQ hl hB h1 h2 h0 m (a + 1) f L (A ++ bH c1 (bs.getD a 0)) C _ jo jo (fun t ht => hu t (zbu _ ht)) (by rw [hL]; simp only [zj]) (by rw [hp]; simp only [za]) (by simpa using hf)]
    rw [za, zek]
   rcases lX bs a jo with h3 | ⟨h3, h4, h5, h6, h7, h8⟩
   · rw [h3] at hbm; exact absurd rfl hbm
   rw [tJ bs a ha2 hbm] at hu hL hf ⊢
   have hu0 := hu _ zcc
   unfold wX at hu0
   rw [if_neg hbm] at hu0
   have htb : fM c1 c2 (0, (bQ bs a).1, (bQ bs a).2) = lT c1 (bQ bs a).1 ++ mD c2 (bQ bs a).2 := by unfold fM; rw [if_neg hbm]
   have htt : cT c1 c2 ((0, (bQ bs a).1, (bQ bs a).2) :: qS bs (a + (bQ bs a).1)) = (lT c1 (bQ bs a).1 ++ mD c2 (bQ bs a).2) ++ cT c1 c2 (qS bs (a + (bQ bs a).1)) := by
    unfold cT
    rw [zq, htb, zj]
   rw [htt] at hL ⊢
   have hx := qHg (most := bs.length) (out := bs.take a) (n := (bQ bs a).1) (d := (bQ bs a).2) (p := p) h1 h2 h3 h4 h5 jo hu0.1 hu0.2 (show L = A ++ (lT c1 (bQ bs a).1 ++ mD c2 (bQ bs a).2) ++ (cT c1 c2 (qS bs (a + (bQ bs a).1)) ++ C) by rw [hL]; simp only [zj]) hp jo jo
   have hcp : dB (bQ bs a).1 (bQ bs a).2 (bs.take a) = bs.take (a + (bQ bs a).1) := by
    refine qZ3 h5 _ a h6 h7 (fun j hj => ?_)
    have := (qKb bs 258 (a - (bQ bs a).2) a (bQ bs a).1 h4).1 (by
     have : longM bs (a - (bQ bs a).2) a = lgM bs (a - (bQ bs a).2) a 258 := rfl
     omega) j hj
    exact this.2
   rw [dL, hx, qB]
   dsimp only
   rw [hcp, if_pos rfl, sQ hl hB h1 h2 h0 m (a + (bQ bs a).1) f L (A ++ (lT c1 (bQ bs a).1 ++ mD c2 (bQ bs a).2)) C _ jo h7 (fun t ht => hu t (zbu _ ht)) (by rw [hL]; simp only [zj]) (by rw [hp]; simp only [za]) (by simpa using hf)]
   simp only [za, zek]
theorem qYu {c1 c2 : List Int} (h1 : ROk c1) : ∀ L : List Tk, (∀ t ∈ L, wX c1 c2 t) → L.length ≤ (L.flatMap (fM c1 c2)).length
 | [], _ => zk _
 | t :: L, h => by
  have ih := qYu h1 L (fun t ht => h t (zbu _ ht))
  have hu := h t zcc
  have h2 : 1 ≤ (fM c1 c2 t).length := by
   unfold wX at hu
   unfold fM
   split
   ·
    rename_i h0
    rw [if_pos h0] at hu
    exact (kW h1 (fR hu) hu ⟨[], [], rfl, rfl⟩).2
   rename_i h0
   rw [if_neg h0] at hu
   have := (kW h1 (fR hu.1) hu.1 ⟨[], [], rfl, rfl⟩).2
   unfold lT
   rw [za, za]
   omega
  rw [zq, za, zp]
  omega
theorem qZ4 {bs : List Nat} {c1 c2 : List Int} {H : List Bool} {k : Nat} (hl : bs.length ≤ 32768) (hB : ∀ b ∈ bs, b < 256) (h1 : ROk c1) (h2 : ROk c2) (h0 : c1.getD 256 0 ≠ 0) (hu : ∀ t ∈ qS bs 0, wX c1 c2 t) (hc : (k = 1 ∧ H = [] ∧ c1 = cQ ∧ c2 = cX) ∨ (k = 2 ∧ ∀ C, rO (bitsL 1 1 ++ bitsL k 2 ++ H ++ cT c1 c2 (qS bs 0) ++ C) 3 = .ok (3 + H.length, c1, c2))) :
  jP (qC (bitsL 1 1 ++ bitsL k 2 ++ H ++ cT c1 c2 (qS bs 0))) bs.length = .ok (bs, (qC (bitsL 1 1 ++ bitsL k 2 ++ H ++ cT c1 c2 (qS bs 0))).length) := by
 have hk : k = 1 ∨ k = 2 := hc.imp (·.1) (·.1)
 generalize hM : bitsL 1 1 ++ bitsL k 2 ++ H ++ cT c1 c2 (qS bs 0) = M at hc
 have hL : ∃ C, ofB (qC M) = M ++ C := ⟨_, qP3 M⟩
 obtain ⟨C, hL⟩ := hL
 have hMl : M.length = 3 + H.length + (cT c1 c2 (qS bs 0)).length := by rw [← hM]; simp only [za, qN]
 have hfew := qYu (c2 := c2) h1 (qS bs 0) hu
 have hLl : M.length ≤ 8 * (qC M).length := by rw [← bL, hL, za]; omega
 have ht1 : bN (ofB (qC M)) 1 0 = .ok (1, 1) := by
  have := eC (L := ofB (qC M)) (A := []) (B := bitsL 1 1) (n := 1) (p := 0) ⟨bitsL k 2 ++ H ++ cT c1 c2 (qS bs 0) ++ C, by rw [hL, ← hM]; simp only [zj, zbf]⟩ rfl rfl
  exact this
 have ht2 : bN (ofB (qC M)) 2 1 = .ok (k, 3) := by
  have := eC (L := ofB (qC M)) (A := bitsL 1 1) (B := bitsL k 2) (n := 2) (p := 1) ⟨H ++ cT c1 c2 (qS bs 0) ++ C, by rw [hL, ← hM]; simp only [zj]⟩ (by rw [qN]) rfl
  rw [eD 2 k (by rcases hk with rfl | rfl <;> decide)] at this
  exact this
 have htok := sQ hl hB h1 h2 h0 bs.length 0 (8 * (qC M).length + 1) (ofB (qC M)) (bitsL 1 1 ++ bitsL k 2 ++ H) C (3 + H.length) jo jo hu (by rw [hL, ← hM]) (by simp only [za, qN]) (by
  unfold cT at hMl
  rw [za] at hMl
  omega)
 rw [zdt] at htok
 have hblk : kK (qC M) bs.length 0 [] = .ok (false, 3 + H.length + (cT c1 c2 (qS bs 0)).length, bs) := by
  unfold kK
  rw [ht1, qB]
  dsimp only
  rw [ht2, qB]
  dsimp only
  rw [if_neg jo, if_neg jo]
  rcases hc with ⟨rfl, rfl, rfl, rfl⟩ | ⟨rfl, hcC⟩
  ·
   rw [if_pos rfl]
   rw [zbx, zdu] at htok ⊢
   rw [htok, qB]
   rfl
  rw [if_neg jo]
  have hcC := hcC C
  rw [← hL] at hcC
  rw [hcC, qB]
  dsimp only
  rw [htok, qB]
  rfl
 unfold jP
 rw [if_neg jo, zac, kT, hblk, qB]
 dsimp only
 rw [if_neg jd, qB, cM, hMl]
end
section
open Go.RowKit
theorem wZ {α : Type} {f : List Nat → α → List Nat} (h : ∀ c t i, c.getD i 0 ≤ (f c t).getD i 0) : ∀ (l : List α) c i, c.getD i 0 ≤ (l.foldl f c).getD i 0
 | [], _, _ => zk _
 | t :: l, c, i => zn (h c t i) (wZ h l _ i)
theorem pF {α : Type} {f : List Nat → α → List Nat} {n : Nat} (h : ∀ c t i, c.getD i 0 ≤ (f c t).getD i 0) (hlen : ∀ c t, (f c t).length = c.length) {t : α} {k : Nat} (hk : ∀ c, c.length = n → 0 < (f c t).getD k 0) : ∀ (l : List α) c, c.length = n → t ∈ l → 0 < (l.foldl f c).getD k 0
 | [], _, _, h => by cases h
 | u :: l, c, hc, hm => by
  rcases zbv.1 hm with rfl | hm
  · exact zbb (hk c hc) (wZ h l _ k)
  exact pF h hlen hk l _ (by rw [hlen]; exact hc) hm
theorem wJ (c : List Nat) (k i : Nat) : c.getD i 0 ≤ (c.set k (c.getD k 0 + 1)).getD i 0 := by
 simp only [ze, zew]
 by_cases h : k = i
 ·
  subst h
  by_cases h2 : k < c.length
  · simp [h2]
  simp [h2]
 simp [h]
theorem uX (c : List Nat) (k : Nat) (h : k < c.length) : 0 < (c.set k (c.getD k 0 + 1)).getD k 0 := by
 simp [ze, h]
theorem zZ (c : List Nat) (t : Tk) (i : Nat) : c.getD i 0 ≤ (eW c t).getD i 0 := by
 unfold eW
 split <;> exact wJ _ _ _
theorem qSo (c : List Nat) (t : Tk) (i : Nat) : c.getD i 0 ≤ (eB c t).getD i 0 := by
 unfold eB
 split
 · exact zk _
 exact wJ _ _ _
theorem qWw {lt : List Tk} (hok : ∀ t ∈ lt, pM t) : (∀ t ∈ lt, if t.2.1 = 0 then (dQ lt).getD t.1 0 ≠ 0 else (dQ lt).getD (257 + lenS t.2.1) 0 ≠ 0 ∧ (eJ lt).getD (wayS t.2.2) 0 ≠ 0) ∧ (dQ lt).getD 256 0 ≠ 0 := by
 have h0l : tS.length = 286 := by unfold tS; rw [zdw, zbn]
 refine ⟨fun t ht => ?_, ?_⟩
 ·
  have hq := hok t ht
  by_cases h0 : t.2.1 = 0
  ·
   rw [if_pos h0]
   have h1 : t.1 < 256 := by rcases hq with ⟨_, _, h⟩ | ⟨_, h, _⟩ <;> omega
   have := pF (n := 286) (k := t.1) zZ litStep_len (fun c hc => by unfold eW; rw [if_pos h0]; exact uX _ _ jo) lt tS h0l ht
   unfold dQ
   omega
  rw [if_neg h0]
  obtain ⟨q3, q4, q5, q6⟩ : 3 ≤ t.2.1 ∧ t.2.1 ≤ 258 ∧ 1 ≤ t.2.2 ∧ t.2.2 ≤ 32768 := by
   rcases hq with ⟨h, _⟩ | ⟨_, h⟩
   · exact absurd h h0
   exact h
  have hl := (fA q3 q4).1
  have hw := (fI q5 q6).1
  have h1 := pF (n := 286) (k := 257 + lenS t.2.1) zZ litStep_len (fun c hc => by unfold eW; rw [if_neg h0]; exact uX _ _ jo) lt tS h0l ht
  have h2 := pF (n := 30) (k := wayS t.2.2) qSo wayStep_len (fun c hc => by unfold eB; rw [if_neg h0]; exact uX _ _ jo) lt (List.replicate 30 0) jp ht
  unfold dQ eJ
  exact ⟨jo, jo⟩
 have h1 := wZ zZ lt tS 256
 have h2 : tS.getD 256 0 = 1 := jd
 unfold dQ
 omega
theorem xR {L : List Sd} (hok : ∀ t ∈ L, yO t) : ∀ t ∈ L, (dM L).getD t.1 0 ≠ 0 := by
 intro t ht
 have h1 := (hok t ht).1
 have := pF (f := timeStep) (n := 19) (k := t.1) (fun c t i => wJ c t.1 i) (fun c t => by unfold timeStep; rw [zdw]) (fun c hc => uX c t.1 jo) L (rep 19) (by simp [rep]) ht
 unfold dM
 omega
theorem qQt {L : List Bool} {v : Nat → Nat} (hv : ∀ s, v s ≤ 7) : ∀ (R : List Nat) (A C : List Bool) (p : Nat) (l : List Int), L = A ++ (R.map v).flatMap (fun n => bitsL n 3) ++ C → p = A.length → kJ L R p l = .ok (p + 3 * R.length, R.foldl (fun l s => l.set s ((v s : Nat) : Int)) l)
 | [], A, C, p, l, _, _ => rfl
 | s :: R, A, C, p, l, hL, hp => by
  have ht := eC (L := L) (A := A) (B := bitsL (v s) 3) (n := 3) (p := p) ⟨(R.map v).flatMap (fun n => bitsL n 3) ++ C, by rw [hL]; simp only [zai, zq, zj]⟩ (by rw [qN]) hp
  rw [eD 3 (v s) (by have := hv s; omega)] at ht
  rw [kJ, ht, qB]
  dsimp only
  rw [qQt hv R (A ++ bitsL (v s) 3) C (p + 3) _ (by rw [hL]; simp only [zai, zq, zj]) (by rw [za, qN, hp]), zp, zdn]
  congr 2
  omega
theorem qVj (v : Nat → Nat) : ∀ (R : List Nat) (l : List Int), (R.foldl (fun l s => l.set s ((v s : Nat) : Int)) l).length = l.length
 | [], _ => rfl
 | s :: R, l => by rw [zdn, qVj v R, zdw]
theorem qZ5 (v : Nat → Nat) : ∀ (R : List Nat) (l : List Int) (i : Nat), i < l.length → (R.foldl (fun l s => l.set s ((v s : Nat) : Int)) l).getD i 0 = if i ∈ R then ((v i : Nat) : Int) else l.getD i 0
 | [], _, _, _ => rfl
 | s :: R, l, i, hi => by
  rw [zdn, qZ5 v R _ i (by rw [zdw]; exact hi)]
  by_cases h : i ∈ R
  · rw [if_pos h, if_pos (zbu _ h)]
  rw [if_neg h]
  by_cases h2 : s = i
  ·
   subst h2
   rw [if_pos zcc]
   simp [ze, hi]
  rw [if_neg (by rw [zbv]; rintro (h3 | h3); exact h2 h3.symm; exact h h3)]
  simp [ze, h2]
theorem pA : bX.length = 19 := rfl
theorem qN6 : ∀ s, s < 19 → ∃ j, j < 19 ∧ bX.getD j 0 = s := by decide +kernel
theorem qHh {third : List Nat} (h19 : third.length = 19) (w : Nat) (hw : w = (cN (cU third) 4).length) : (bX.take w).foldl (fun l s => l.set s ((third.getD s 0 : Nat) : Int)) (List.replicate 19 0) = toZ third := by
 apply zao
 intro i
 have hlen := qVj (fun s => third.getD s 0) (bX.take w) (List.replicate 19 0)
 rw [zbn] at hlen
 by_cases hi : i < 19
 ·
  have h1 := qZ5 (fun s => third.getD s 0) (bX.take w) (List.replicate 19 0) i (by rw [zbn]; exact hi)
  rw [ze, zb (by rw [hlen]; exact hi), zba] at h1
  rw [zb (by rw [hlen]; exact hi), h1]
  have h2 : (toZ third)[i]? = some ((third.getD i 0 : Nat) : Int) := by
   have := nS third i
   rw [ze, zb (by rw [bM, h19]; exact hi), zba] at this
   rw [zb (by rw [bM, h19]; exact hi), this]
  rw [h2]
  by_cases h3 : i ∈ bX.take w
  · rw [if_pos h3]
  rw [if_neg h3]
  obtain ⟨j, hj, hji⟩ := qN6 i hi
  have hwj : w ≤ j := by
   rcases zha j w with h | h
   ·
    exfalso
    refine h3 ?_
    rw [← hji, ze, zb (show j < bX.length by rw [pA]; exact hj), zba]
    exact List.mem_take_iff_getElem.2 ⟨j, by rw [pA]; omega, rfl⟩
   exact h
  have h4 := rT (cU third) 4 (cU third).length j (by rw [← gJ, ← hw]; exact hwj) (by rw [eO]; exact hj)
  have h5 : (cU third).getD j 0 = third.getD i 0 := by
   unfold cU
   rw [ze, zbd, zb (show j < bX.length by rw [pA]; exact hj)]
   rw [ze (l := bX), zb (show j < bX.length by rw [pA]; exact hj), zba] at hji
   simp only [zhr, zba, hji]
  rw [← h5, h4, ze, zgg, if_pos hi]
  rfl
 rw [zu jo, zu (by rw [bM]; omega)]
theorem qQu (l : List Nat) (v : Nat) : ∀ m n j, j < nN l v m n → n + j < l.length ∧ l.getD (n + j) 0 = v
 | 0, n, j, h => by simp [nN] at h
 | m + 1, n, j, h => by
  by_cases hc : n < l.length ∧ l.getD n 0 = v
  ·
   rw [sT hc.1 hc.2 jo, zgp] at h
   cases j with
   | zero => exact hc
   | succ j =>
    have := qQu l v m (n + 1) j jo
    rw [show n + (j + 1) = n + 1 + j by omega]
    exact this
  rw [vU hc] at h
  omega
theorem qVk (l : List Nat) (a : Nat) : ∀ n, n ≤ runN l a → l.take (a + n) = l.take a ++ List.replicate n (l.getD a 0)
 | 0, _ => jp
 | n + 1, h => by
  have h1 := qQu l (l.getD a 0) (l.length - a) a n (by unfold runN at h; omega)
  rw [← zek, nT h1.1, qVk l a n jo, h1.2, zj, List.replicate_succ']
theorem oE (a b : List Nat) : toZ (a ++ b) = toZ a ++ toZ b := by simp [toZ]
theorem qUq (n v : Nat) : toZ (List.replicate n v) = List.replicate n (v : Int) := by simp [toZ]
theorem qN7 {L A C : List Bool} {third : List Int} {x : List Nat} {a p : Nat} (h3 : ROk third) (hl : third.length = 19) (hx : ∀ i, x.getD i 0 ≤ 15) (ha : a < x.length) (hu : third.getD (bB x a).1.1 0 ≠ 0) (hL : L = A ++ dF third (bB x a).1 ++ C) (hp : p = A.length) :
  nE L third p (toZ (x.take a)) x.length = .ok (p + (dF third (bB x a).1).length, toZ (x.take (a + (bB x a).2))) := by
 have hle := qKs ha
 have hal : (toZ (x.take a)).length = a := by rw [bM, zi]; omega
 obtain ⟨hs19, hn7, hv⟩ := qVf hx a
 have hsym := (kW h3 (by rw [hl]; exact hs19) hu (L := L) (p := p) ⟨A, bitsL (bB x a).1.2.2 (bB x a).1.2.1 ++ C, by rw [hL]; unfold dF; simp only [zj], hp⟩).1
 have htk : bN L (bB x a).1.2.1 (p + (bH third (bB x a).1.1).length) = .ok ((bB x a).1.2.2, p + (bH third (bB x a).1.1).length + (bB x a).1.2.1) := by
  have := eC (L := L) (A := A ++ bH third (bB x a).1.1) (B := bitsL (bB x a).1.2.2 (bB x a).1.2.1) (n := (bB x a).1.2.1) (p := p + (bH third (bB x a).1.1).length) ⟨C, by rw [hL]; unfold dF; simp only [zj]⟩ (by rw [qN]) (by rw [za, hp])
  rw [eD _ _ hv] at this
  exact this
 have hlen : (dF third (bB x a).1).length = (bH third (bB x a).1.1).length + (bB x a).1.2.1 := by unfold dF; rw [za, qN]
 rw [hlen, ← zek]
 generalize hk : (bH third (bB x a).1.1).length = k at hsym htk ⊢
 have hrun : (bB x a).2 ≤ runN x a := by
  have := yE ha
  unfold bB
  split
  · dsimp only; omega
  split
  · dsimp only; omega
  split
  · dsimp only; omega
  dsimp only; omega
 have htr := qVk x a _ hrun
 unfold nE
 rw [hsym, qB]
 dsimp only
 rw [htr, oE, qUq]
 have hsa := hle
 unfold bB at htk hsa ⊢
 by_cases c1 : x.getD a 0 = 0 ∧ 11 ≤ runN x a
 ·
  rw [if_pos c1] at htk hsa ⊢
  dsimp only at htk hsa ⊢
  rw [if_neg jo, if_neg jo, if_pos rfl, htk, qB, qB]
  dsimp only
  rw [hal, if_neg jo, show 11 + (min (runN x a) 138 - 11) = min (runN x a) 138 by omega, c1.1]
  rfl
 rw [if_neg c1] at htk hsa ⊢
 by_cases c2 : x.getD a 0 = 0 ∧ 3 ≤ runN x a
 ·
  rw [if_pos c2] at htk hsa ⊢
  dsimp only at htk hsa ⊢
  rw [if_neg jo, if_pos rfl, htk, qB, qB]
  dsimp only
  rw [hal, if_neg jo, show 3 + (min (runN x a) 10 - 3) = min (runN x a) 10 by omega, c2.1]
  rfl
 rw [if_neg c2] at htk hsa ⊢
 by_cases c3 : 0 < a ∧ x.getD (a - 1) 0 = x.getD a 0 ∧ 3 ≤ runN x a
 ·
  rw [if_pos c3] at htk hsa ⊢
  dsimp only at htk hsa ⊢
  have hlast : (toZ (x.take a)).getD (a - 1) 0 = ((x.getD a 0 : Nat) : Int) := by
   rw [nS, ze, zaq jo, ← ze, c3.2.1]
  rw [if_pos rfl, hal, if_neg jo, htk, qB, qB]
  dsimp only
  rw [if_neg jo, show 3 + (min (runN x a) 6 - 3) = min (runN x a) 6 by omega, hlast]
 rw [if_neg c3] at htk hsa ⊢
 dsimp only at htk hsa ⊢
 have h15 := hx a
 rw [if_neg jo, if_neg jo, if_neg jo, qB]
 dsimp only
 rw [hal, if_neg jo]
 rfl
theorem qQv {L : List Bool} {third : List Int} {x : List Nat} (h3 : ROk third) (hl : third.length = 19) (hx : ∀ i, x.getD i 0 ≤ 15) :
  ∀ m a f (A C : List Bool) p, x.length - a ≤ m → a ≤ x.length → (dK x a).length < f → (∀ t ∈ dK x a, third.getD t.1 0 ≠ 0) → L = A ++ (dK x a).flatMap (dF third) ++ C → p = A.length →
   mU L third x.length f p (toZ (x.take a)) = .ok (p + ((dK x a).flatMap (dF third)).length, toZ x)
 | m, a, 0, _, _, _, _, _, hf, _, _, _ => jo
 | m, a, f + 1, A, C, p, hm, ha, hf, hu, hL, hp => by
  have hal : (toZ (x.take a)).length = a := by rw [bM, zi]; omega
  rw [mU, hal]
  by_cases h1 : a < x.length
  ·
   rw [fL h1] at hu hL hf ⊢
   have hpos := vB (l := x) (a := a)
   have hle := qKs h1
   rw [zq] at hL ⊢
   cases m with
   | zero => omega
   | succ m =>
    rw [if_pos h1, qN7 h3 hl hx h1 (hu _ zcc) (show L = A ++ dF third (bB x a).1 ++ ((dK x (a + (bB x a).2)).flatMap (dF third) ++ C) by rw [hL]; simp only [zj]) hp, qB]
    dsimp only
    rw [qQv h3 hl hx m (a + (bB x a).2) f (A ++ dF third (bB x a).1) C _ jo hle (by simpa using hf) (fun t ht => hu t (zbu _ ht)) (by rw [hL]; simp only [zj]) (by rw [za, hp]), za, zek]
  rw [if_neg h1, yA jo, zm jo]
  rfl
theorem qYv {third : List Int} (h : ROk third) : ∀ L : List Sd, (∀ t ∈ L, third.getD t.1 0 ≠ 0) → L.length ≤ (L.flatMap (dF third)).length
 | [], _ => zk _
 | t :: L, hu => by
  have ih := qYv h L (fun t ht => hu t (zbu _ ht))
  have h0 := hu t zcc
  have := (kW h (fR h0) h0 ⟨[], [], rfl, rfl⟩).2
  rw [zq, za, zp]
  unfold dF at ih ⊢
  rw [za]
  omega
theorem wK {α β : Type} {f g : α → List β} : ∀ l : List α, (∀ t ∈ l, f t = g t) → l.flatMap f = l.flatMap g
 | [], _ => rfl
 | t :: l, h => by rw [zq, zq, h t zcc, wK l (fun t ht => h t (zbu _ ht))]
end
section
open Go.RowKit
def wL (i : Nat) : FuncId := if i = 0 then 33 else 34
noncomputable section
def uZ (bs : List Nat) (i : Nat) : List Nat := if i = 0 then qC (eQ bs) else qC (eG bs)
def cO (bs : List Nat) : Nat → List Nat
 | 0 => cS bs
 | i + 1 => if (uZ bs i).length < (cO bs i).length then uZ bs i else cO bs i
end
theorem qN8 (i : Nat) (args : Array Value) (w : World) : (callFunc (wL i) args).run Tryz.prog w = .ok (.enter (wL i) args) w := by
 unfold wL
 split
 · exact Tryz.call33 args w
 exact Tryz.call34 args w
theorem qN9 (i : Nat) (A : Option Addr) (c : Nat) (bs : List Nat) (w : World) (hl : bs.length ≤ 32768) (hc : bs.length ≤ c) (hB : ∀ b ∈ bs, b < 256) (hr : Rd w 1 A bs.length (NB bs)) :
  Calls Tryz.prog (wL i) #[.slice A bs.length c] w fun e w' => ∃ B d, e = .returned (.tuple #[.slice B (uZ bs i).length d, .int .i64 ((0 : Nat) : Int)]) ∧ Own w' 5 1 B (uZ bs i).length d (NB (uZ bs i)) ∧ Frm [] w w' ∧ ∀ x ∈ ob B, w.heap.size ≤ x := by
 unfold wL uZ
 split
 · exact qNi A c bs w hl hc hB hr
 exact qN5 A c bs w hl hc hB hr
def qHi : Array Value := #[.func (.func 33) #[] #[], .func (.func 34) #[] #[]]
theorem qSp (i : Nat) (h : i < 2) : qHi[i]? = some (.func (.func (wL i)) #[] #[]) := by
 rcases (by omega : i = 0 ∨ i = 1) with rfl | rfl <;> rfl
theorem qBu (w : World) : (zeroValue 52).run Tryz.prog w = .ok .nilFunc w := by
 simp only [zeroValue, Sem.run_bind, Tryz.typeInfo52, Result.andThen_ok]; rfl
theorem qPa (A : Option Addr) (c : Nat) (bs : List Nat) (w : World) (hl : bs.length ≤ 32768) (hc : bs.length ≤ c) (hB : ∀ b ∈ bs, b < 256) (hr : Rd w 1 A bs.length (NB bs)) :
  Calls Tryz.prog 18 #[.slice A bs.length c] w fun e w' => ∃ B d, e = .returned (.tuple #[.slice B (cO bs 2).length d, .int .i64 ((0 : Nat) : Int)]) ∧ Own w' 5 1 B (cO bs 2).length d (NB (cO bs 2)) ∧ Frm [] w w' ∧ ∀ x ∈ ob B, w.heap.size ≤ x := by
 refine VC.calls (nt := 34) (res := #[.tmp 2, .tmp 3]) Tryz.func18 rfl Tryz.ntmps18 Tryz.results18 rfl ?_
 refine jS (jR (ja rfl (jz 0 (jO (jN (jv1 0 ?_))))))
 refine jS (jR (jM ?_))
 refine Ops.cl (jE1 Tryz.call32) (qN4 A c bs w jo hc hB hr) rfl ?_
 rintro e w1 ⟨B0, c0, rfl, ho0, K, hu0⟩
 refine ⟨_, rfl, ?_⟩
 refine ja rfl (jO (jN (jv2 0 4 ?_)))
 refine jS (jS (jR ?_))
 refine Ops.m (qV.buildN (cells := qHi) (evs.cons rfl (evs.cons rfl evs.nil)) Tryz.underlying73 Tryz.sizeOf52 qBu rfl rfl jK) rfl ?_
 rintro _ w2 ⟨rfl, hF2⟩
 have hb2 := hF2.blk
 have ho0 := ho0.frm hF2.frm jp
 have K2 : Frm [] w w2 := K.trans hF2.frm jp
 have hgl : w.heap.size ≤ w1.heap.size := K.size
 generalize w1.heap.size = gk at hb2 hgl ⊢
 refine je (Run.lenS rfl Tryz.underlying73) ?_
 refine jx .i64 0 ?_
 refine jO (jN (jB ?_))
 refine VC.loop (σ := Nat × Option Addr × Nat) (fun s => [(0, .slice A bs.length c), (4, .slice s.2.1 (cO bs s.1).length s.2.2), (11, .slice (some ⟨gk, 0, none⟩) 2 2), (12, .int .i64 ((2 : Nat) : Int)), (13, .int .i64 ((s.1 : Nat) : Int))]) (fun s wr => s.1 ≤ 2 ∧ Own wr 5 1 s.2.1 (cO bs s.1).length s.2.2 (NB (cO bs s.1)) ∧ Blk wr gk 52 qHi ∧ Frm [] w wr ∧ ∀ x ∈ ob s.2.1, w.heap.size ≤ x) (fun s => 2 - s.1) (0, B0, c0) (js5 rfl rfl rfl rfl rfl) ⟨zak _, ho0, hb2, K2, hu0⟩ ?_
 rintro ⟨i, B, d⟩ wr ⟨hi, hO, hb2, K, hu⟩
 dsimp only at hi hO hu ⊢
 refine jS (jR (jb rfl rfl (Bin.lssN _ _) (jO (jN (jS ?_)))))
 refine jD rfl (fun hc1 => ?_) fun hc1 => ?_
 ·
  refine jQ (jN (jv5 0 4 11 12 13 ?_))
  refine jS (jB (jS (jR (je (Run.index1 _ rfl rfl Tryz.underlying73 Tryz.sizeOf52 jo) (jl rfl Tryz.isAgg52 (by rw [fY, hb2.cell]; exact qSp i hc1) (ja rfl (jO (jN (jv6 0 4 6 11 12 13 ?_)))))))))
  refine jS (jR (jm rfl (jM ?_)))
  refine Ops.cl (bP.dyn rfl (evs.cons rfl evs.nil) (qN8 i)) (qN9 i A c bs wr hl hc hB (hr.frm K jp)) rfl ?_
  rintro e w3 ⟨B3, d3, rfl, hO3, hf3, hu3⟩
  refine ⟨_, rfl, ?_⟩
  have hO := hO.frm hf3 jp
  have hb2 := hb2.frm hf3 jp
  have hu3 : ∀ x ∈ ob B3, w.heap.size ≤ x := fun x hx => zn K.size (hu3 x hx)
  have K := K.trans hf3 jp
  refine jm rfl (je (Run.extract rfl rfl) (je (Run.extract rfl rfl) (ja rfl (ja rfl (jO (jN (jv7 0 4 7 8 11 12 13 ?_)))))))
  refine jS (jS (jR (jm rfl (jb rfl rfl (Bin.neqN _ 0) (jO (jN (jv8 0 4 7 8 11 12 13 24 ?_)))))))
  refine VC.condF rfl jd ?_
  refine jQ (jN (jv6 0 4 7 11 12 13 ?_))
  refine jS (jR (jm rfl (je (Run.lenS rfl zf) (jm rfl (je (Run.lenS rfl zf) (jb rfl rfl (Bin.lssN _ _) (jO (jN (jv7 0 4 7 11 12 13 30 ?_)))))))))
  refine jD rfl (fun hc3 => ?_) fun hc3 => ?_
  ·
   refine jR (jm rfl (ja rfl (jO ?_)))
   refine qJ (jN ?_)
   refine jv5 0 4 11 12 13 ?_
   refine jR (jb rfl rfl (Bin.add_i64 _ 1 jo) (jm rfl (jO ?_)))
   refine jN ⟨(i + 1, B3, d3), (js5 rfl (by rw [cO, if_pos hc3]; rfl) rfl rfl rfl), ?_, ?_⟩
   ·
    have e : cO bs (i + 1) = uZ bs i := by rw [cO, if_pos hc3]
    exact ⟨hc1, by rw [e]; exact hO3, hb2, K, hu3⟩
   first | omega | (dsimp only; omega)
  refine jQ ?_
  refine qJ (jN ?_)
  refine jv5 0 4 11 12 13 ?_
  refine jR (jb rfl rfl (Bin.add_i64 _ 1 jo) (jm rfl (jO ?_)))
  refine jN ⟨(i + 1, B, d), (js5 rfl (by rw [cO, if_neg hc3]; rfl) rfl rfl rfl), ?_, ?_⟩
  ·
   have e : cO bs (i + 1) = cO bs i := by rw [cO, if_neg hc3]
   exact ⟨hc1, by rw [e]; exact hO, hb2, K, hu⟩
  first | omega | (dsimp only; omega)
 refine jX ?_
 refine qZ (qZ (qW ?_))
 refine jN (jv1 4 ?_)
 refine jS (jR (jm rfl (ja rfl (jz 0 (jO (jN (jv2 2 3 ?_)))))))
 refine jT ?_
 refine cY rfl rfl ?_
 have ei : i = 2 := jo
 subst ei
 exact ⟨B, d, rfl, hO, K, hu⟩
end
section
open Go.RowKit
theorem qHj (A : Option Addr) (c a : Nat) (bs : List Nat) (w : World) (hl : bs.length ≤ 32768) (ha : a < bs.length) (hr : Rd w 1 A bs.length (NB bs)) :
  Calls Tryz.prog 107 #[.slice A bs.length c, .int .i64 ((a : Nat) : Int)] w fun e w' => e = .returned (.tuple #[.int .i64 (((bQ bs a).1 : Nat) : Int), .int .i64 (((bQ bs a).2 : Nat) : Int)]) ∧ qQ w w' := by
 obtain ⟨ad, hA, _, hadc⟩ := hr.2 jo
 subst hA
 refine VC.calls (nt := 57) (res := #[.tmp 4, .tmp 5]) Tryz.func107 rfl Tryz.ntmps107 Tryz.results107 rfl ?_
 refine jS (jR (jz 0 (jz 0 (jO (jN (jv2 0 1 ?_))))))
 refine jS (jR (jz 0 (jz 0 (jO (jN (jS (jS (jR (jz 1 (jO (jN (jB ?_))))))))))))
 refine VC.loop (σ := Nat) (fun s => [(0, .slice (some ad) bs.length c), (1, .int .i64 ((a : Nat) : Int)), (6, .int .i64 (((bst bs a s).1 : Nat) : Int)), (7, .int .i64 (((bst bs a s).2 : Nat) : Int)), (8, .int .i64 ((s + 1 : Nat) : Int))]) (fun s wr => s ≤ a ∧ qQ w wr) (fun s => a - s) 0 (js5 rfl rfl rfl rfl rfl) ⟨zak _, qQ.refl w⟩ ?_
 rintro D wr ⟨hD, hd⟩
 refine jS (jS ?_)
 refine VC.split1 [(0, _), (1, _), (6, _), (7, _), (8, _)] (js5 rfl rfl rfl rfl rfl) 16 (.bool (decide (D + 1 ≤ a))) ?_ ?_
 ·
  refine jR ?_
  refine jm rfl (jm rfl (jb rfl rfl (Bin.leqN _ _) ?_))
  by_cases hs12 : D + 1 ≤ a
  ·
   refine jM ?_
   refine jG ?_
   refine jk (Run.bin rfl rfl (Bin.leqN _ 32768)) ?_
   by_cases hs15 : D + 1 ≤ 32768
   ·
    refine je (Run.pickT rfl rfl au) (jO ?_)
    refine jN ⟨(js6 (jC (by first | exact decide_eq_decide.2 ⟨fun _ => by assumption, fun _ => jo⟩ | exact (decide_eq_false (by assumption)).symm)) rfl rfl rfl rfl rfl), rfl⟩
   refine je (Run.pickT rfl rfl au) (jO ?_)
   refine jN ⟨(js6 (jC (by first | exact decide_eq_decide.2 ⟨fun _ => by assumption, fun _ => jo⟩ | exact (decide_eq_false (by assumption)).symm)) rfl rfl rfl rfl rfl), rfl⟩
  refine jM ?_
  refine jU ?_
  refine jU ?_
  refine je (Run.pickF rfl rfl au) (jO ?_)
  refine jN ⟨(js6 (jC (by first | exact decide_eq_decide.2 ⟨fun _ => by assumption, fun _ => jo⟩ | exact (decide_eq_false (by assumption)).symm)) rfl rfl rfl rfl rfl), rfl⟩
 intro Γ hΓ
 refine jN (VC.sub _ hΓ ?_)
 refine jD rfl (fun hc1 => ?_) fun hc1 => ?_
 ·
  refine jQ (jN (jv5 0 1 6 7 8 ?_))
  refine jS (jB (jS (jR (jz 0 (jO (jN (jS (jB ?_))))))))
  refine VC.loop (σ := Nat) (fun s => [(0, .slice (some ad) bs.length c), (1, .int .i64 ((a : Nat) : Int)), (6, .int .i64 (((bst bs a D).1 : Nat) : Int)), (7, .int .i64 (((bst bs a D).2 : Nat) : Int)), (8, .int .i64 ((D + 1 : Nat) : Int)), (9, .int .i64 ((s : Nat) : Int))]) (fun s wr => s ≤ 258 ∧ a + s ≤ bs.length ∧ longM bs (a - (D + 1)) a = s + lgM bs (a - (D + 1) + s) (a + s) (258 - s) ∧ qQ w wr) (fun s => 258 - s) 0 (js6 rfl rfl rfl rfl rfl rfl) ⟨jo, jo, by simp [longM], hd⟩ ?_
  rintro n wr ⟨hn, hna, hlg, hd⟩
  have hcell : ∀ j, j < bs.length → wr.cell? (ad.add j) = some (.int .u8 ((bs.getD j 0 : Nat) : Int)) := fun j hj => by
   obtain ⟨m, rfl⟩ := hd
   exact hadc j _ (mS bs j hj)
  refine jS (jS ?_)
  refine VC.splitR [(0, .slice (some ad) bs.length c), (1, .int .i64 ((a : Nat) : Int)), (6, .int .i64 (((bst bs a D).1 : Nat) : Int)), (7, .int .i64 (((bst bs a D).2 : Nat) : Int)), (8, .int .i64 ((D + 1 : Nat) : Int)), (9, .int .i64 ((n : Nat) : Int))] (qQ w) 45 (.bool (decide (n < 258 ∧ a + n < bs.length ∧ bs.getD (a + n) 0 = bs.getD (a + n - (D + 1)) 0))) ?_ ?_
  ·
   refine VC.still jK jK ?_
   refine qM ?_
   refine qE (Run.bin rfl rfl (Bin.lssN _ 258)) ?_
   by_cases hs20 : n < 258
   ·
    refine qM ?_
    refine qG (Run.mv rfl) ?_
    refine qG (Run.mv rfl) ?_
    refine qG (Run.bin rfl rfl (Bin.add_i64 _ _ jo)) ?_
    refine qG (Run.mv rfl) ?_
    refine qG (Run.lenS rfl zf) ?_
    refine qG (Run.bin rfl rfl (Bin.lssN _ _)) ?_
    by_cases hs27 : a + n < bs.length
    ·
     refine qE (Run.pickT rfl rfl au) ?_
     refine qM ?_
     refine qG (Run.mv rfl) ?_
     refine qG (Run.mv rfl) ?_
     refine qG (Run.mv rfl) ?_
     refine qG (Run.bin rfl rfl (Bin.add_i64 _ _ jo)) ?_
     refine qG (Run.index1 _ rfl rfl zf zad jo) ?_
     refine qG (Run.load rfl zdr (hcell _ jo)) ?_
     refine qG (Run.mv rfl) ?_
     refine qG (Run.mv rfl) ?_
     refine qG (Run.mv rfl) ?_
     refine qG (Run.bin rfl rfl (Bin.add_i64 _ _ jo)) ?_
     refine qG (Run.mv rfl) ?_
     refine qG (Run.bin rfl rfl (Bin.sub_i64 _ _ jo jo)) ?_
     refine qG (Run.index1 _ rfl rfl zf zad jo) ?_
     refine qG (Run.load rfl zdr (hcell _ jo)) ?_
     refine qG (Run.bin rfl rfl (Bin.eqlN _ _)) ?_
     by_cases hs44 : bs.getD (a + n) 0 = bs.getD (a + n - (D + 1)) 0
     ·
      refine qE (Run.pickT rfl rfl au) ?_
      refine qH.nil ?_
      refine jN ⟨(js7 (jC (by simp [*])) rfl rfl rfl rfl rfl rfl), (hd.trans (qQ.drew _))⟩
     refine qE (Run.pickT rfl rfl au) ?_
     refine qH.nil ?_
     refine jN ⟨(js7 (jC (by simp [*])) rfl rfl rfl rfl rfl rfl), (hd.trans (qQ.drew _))⟩
    refine qE (Run.pickT rfl rfl au) ?_
    refine qM ?_
    refine qU ?_
    refine qU ?_
    refine qU ?_
    refine qU ?_
    refine qU ?_
    refine qU ?_
    refine qU ?_
    refine qU ?_
    refine qU ?_
    refine qU ?_
    refine qU ?_
    refine qU ?_
    refine qU ?_
    refine qU ?_
    refine qU ?_
    refine qE (Run.pickF rfl rfl au) ?_
    refine qH.nil ?_
    refine jN ⟨(js7 (jC (by simp [*])) rfl rfl rfl rfl rfl rfl), (hd.trans (qQ.drew _))⟩
   refine qM ?_
   refine qU ?_
   refine qU ?_
   refine qU ?_
   refine qU ?_
   refine qU ?_
   refine qU ?_
   refine qE (Run.pickF rfl rfl au) ?_
   refine qM ?_
   refine qU ?_
   refine qU ?_
   refine qU ?_
   refine qU ?_
   refine qU ?_
   refine qU ?_
   refine qU ?_
   refine qU ?_
   refine qU ?_
   refine qU ?_
   refine qU ?_
   refine qU ?_
   refine qU ?_
   refine qU ?_
   refine qU ?_
   refine qE (Run.pickF rfl rfl au) ?_
   refine qH.nil ?_
   refine jN ⟨(js7 (jC (by simp [*])) rfl rfl rfl rfl rfl rfl), (hd.trans (qQ.drew _))⟩
  intro Γ wr2 hΓ hd2
  refine jN (VC.sub _ hΓ ?_)
  refine jD rfl (fun hc2 => ?_) fun hc2 => ?_
  ·
   refine jQ (jN (jv6 0 1 6 7 8 9 ?_))
   refine jB (jR (jm rfl (jb rfl rfl (Bin.add_i64 _ 1 jo) (ja rfl (jO ?_)))))
   refine qJ (jN ⟨n + 1, (js6 rfl rfl rfl rfl rfl rfl), ?_, ?_⟩)
   ·
    obtain ⟨h1, h2, h3⟩ := hc2
    refine ⟨jo, jo, ?_, hd2⟩
    rw [show a + n - (D + 1) = a - (D + 1) + n by omega] at h3
    rw [hlg, qMy h2 h3.symm jo, show a - (D + 1) + (n + 1) = a - (D + 1) + n + 1 by omega, show a + (n + 1) = a + n + 1 by omega, show 258 - (n + 1) = 258 - n - 1 by omega]
    omega
   first | omega | (dsimp only; omega)
  have hln : longM bs (a - (D + 1)) a = n := by
   rw [hlg]
   by_cases h1 : n < 258
   ·
    rw [qKe (fun h => hc2 ⟨h1, h.1, by rw [show a + n - (D + 1) = a - (D + 1) + n by omega]; exact h.2.symm⟩)]
    rfl
   rw [show 258 - n = 0 by omega]
   rfl
  have hst : bst bs a (D + 1) = if (bst bs a D).1 < n then (n, D + 1) else bst bs a D := by rw [bst, hln]
  refine jX ?_
  refine qZ (qZ (qW ?_))
  refine jN (jv6 0 1 6 7 8 9 ?_)
  refine jS (jR (jm rfl (jm rfl (jb rfl rfl (Bin.gtrN _ _) (jO (jN (jv7 0 1 6 7 8 9 50 ?_)))))))
  refine jD rfl (fun hc3 => ?_) fun hc3 => ?_
  ·
   refine jS (jR (jm rfl (ja rfl (jO (jN (jv4 0 1 6 8 ?_))))))
   refine jR (jm rfl (ja rfl (jO ?_)))
   refine qJ (jN ?_)
   refine jv5 0 1 6 7 8 ?_
   refine jR (jm rfl (jb rfl rfl (Bin.add_i64 _ 1 jo) (ja rfl (jO ?_))))
   refine jN ⟨D + 1, (js5 rfl rfl (by rw [hst, if_pos hc3]; rfl) (by rw [hst, if_pos hc3]; rfl) rfl), ?_, ?_⟩
   · exact ⟨hc1, hd2⟩
   first | omega | (dsimp only; omega)
  refine jQ ?_
  refine qJ (jN ?_)
  refine jv5 0 1 6 7 8 ?_
  refine jR (jm rfl (jb rfl rfl (Bin.add_i64 _ 1 jo) (ja rfl (jO ?_))))
  refine jN ⟨D + 1, (js5 rfl rfl (by rw [hst, if_neg hc3]; rfl) (by rw [hst, if_neg hc3]; rfl) rfl), ?_, ?_⟩
  · exact ⟨hc1, hd2⟩
  first | omega | (dsimp only; omega)
 refine jX ?_
 refine qZ (qZ (qW ?_))
 refine jN (jv2 6 7 ?_)
 refine jS (jS (jR (jm rfl (jb rfl rfl (Bin.lssN _ 3) (jO (jN (jv3 6 7 54 ?_)))))))
 refine jD rfl (fun hc4 => ?_) fun hc4 => ?_
 ·
  refine jS (jR (jz 0 (jz 0 (jO (jN (jv2 4 5 ?_))))))
  refine jT ?_
  refine qP (cY rfl rfl ?_)
  have e : D = a := jo
  subst e
  have e2 : bQ bs D = (0, 0) := by unfold bQ lG; rw [if_pos hc4]
  rw [e2]
  exact ⟨rfl, hd⟩
 refine jQ (jN (jv2 6 7 ?_))
 refine jS (jR (jm rfl (jm rfl (ja rfl (ja rfl (jO (jN (jv2 4 5 ?_))))))))
 refine jT ?_
 refine cY rfl rfl ?_
 have e : D = a := jo
 subst e
 have e2 : bQ bs D = bst bs D D := by unfold bQ lG; rw [if_neg hc4]
 rw [e2]
 exact ⟨rfl, hd⟩
theorem qQw (A : Option Addr) (c : Nat) (bs : List Nat) (w : World) (hl : bs.length ≤ 32768) (hr : Rd w 1 A bs.length (NB bs)) :
  Calls Tryz.prog 73 #[.slice A bs.length c] w fun e w' => ∃ B d, e = .returned (.slice B (qS bs 0).length d) ∧ Own w' 132 3 B (qS bs 0).length d (TC (qS bs 0)) ∧ Frm [] w w' ∧ ∀ x ∈ ob B, w.heap.size ≤ x := by
 refine VC.calls (nt := 39) (res := #[.tmp 2]) Tryz.func73 rfl Tryz.ntmps73 Tryz.results73 rfl ?_
 refine jS (jR (ja rfl (jO (jN (jv1 0 ?_)))))
 refine jS (jR (ja rfl (jO (jN (jS (jR (jz 0 (jO (jN (jS (jB ?_)))))))))))
 refine VC.loop (σ := Nat × List Tk × Option Addr × Nat) (fun s => [(0, .slice A bs.length c), (3, .slice s.2.2.1 s.2.1.length s.2.2.2), (4, .int .i64 ((s.1 : Nat) : Int))]) (fun s wr => s.1 ≤ bs.length ∧ s.2.1.length ≤ s.1 ∧ qS bs 0 = s.2.1 ++ qS bs s.1 ∧ Own wr 132 3 s.2.2.1 s.2.1.length s.2.2.2 (TC s.2.1) ∧ Frm [] w wr ∧ ∀ x ∈ ob s.2.2.1, w.heap.size ≤ x) (fun s => bs.length - s.1) (0, [], none, 0) (js3 rfl rfl rfl) ⟨zak _, zk _, rfl, Own.nil _ _ _, Frm.refl _ _, by simp [ob]⟩ ?_
 rintro ⟨a, pre, B, d⟩ wr ⟨ha, hpl, hsp, hO, K, hup⟩
 dsimp only at ha hpl hsp hO hup ⊢
 refine jS (jS (jR (jm rfl (jm rfl (je (Run.lenS rfl zf) (jb rfl rfl (Bin.lssN _ _) (jO (jN (jv4 0 3 4 10 ?_)))))))))
 refine jD rfl (fun hc1 => ?_) fun hc1 => ?_
 ·
  refine jQ (jN (jv3 0 3 4 ?_))
  refine jB (jS (jR (jm rfl (jM ?_))))
  refine Ops.cl (jE2 Tryz.call107) (qHj A c a bs wr hl hc1 (hr.frm K jp)) rfl ?_
  rintro e w3 ⟨rfl, hd3⟩
  refine ⟨_, rfl, ?_⟩
  have hO := hO.drawn hd3
  have K := K.drawn hd3
  have hbf := lX bs a jo
  refine jm rfl (je (Run.extract rfl rfl) (je (Run.extract rfl rfl) (ja rfl (ja rfl (jO (jN (jv5 0 3 4 5 6 ?_)))))))
  refine jS (jR (jm rfl (jb rfl rfl (Bin.eqlN _ 0) (jO (jN (jv6 0 3 4 5 6 18 ?_))))))
  refine jD rfl (fun hc2 => ?_) fun hc2 => ?_
  ·
   obtain ⟨ad, rfl, hadlt, hadc⟩ := (hr.frm K jp).2 jo
   have hcell := hadc a _ (mS bs a jo)
   have hnx := yH bs a jo hc2
   refine jS (jR (jm rfl (jm rfl (jm rfl (je (Run.index1 _ rfl rfl zf zad jo) (jl rfl zdr hcell (je (Run.build (evs.cons rfl evs.nil) gW (gH).choose_spec.1 (gH).choose_spec.2 rfl) ?_)))))))
   refine Ops.m (qV.buildS1 rfl zbp zcs gW jd jd rfl rfl) rfl ?_
   rintro _ w4 ⟨rfl, hF4⟩
   have hO4 := hO.frm hF4.frm jp
   have hrd4 : Rd w4 3 (some ⟨_, 0, none⟩) 1 (TC [(bs.getD a 0, 0, 0)]) := Rd.of_blk (n := 1) (size := 3) hF4.blk rfl
   refine Ops.m (qV.app rfl rfl zbp (wS) rfl jd hO4 hrd4 (TC_one _) jo jo) rfl ?_
   rintro _ w5 ⟨B5, d5, rfl, hO5, hf5, hob5⟩
   rw [← rW] at hO5
   have K5 := (K.trans hF4.frm jp).own hf5 hup
   have hup5 := cG hup hob5 (by have := K.size; have := hF4.size; omega)
   refine ja rfl (jO (jN (jv3 0 3 4 ?_)))
   refine jR (jm rfl (jb rfl rfl (Bin.add_i64 _ 1 jo) (ja rfl (jO ?_))))
   refine qJ (jN ⟨(a + 1, pre ++ [(bs.getD a 0, 0, 0)], B5, d5), (js3 rfl (by rw [za]; rfl) rfl), ?_, ?_⟩)
   · refine ⟨by dsimp only; omega, by rw [za]; simp; omega, by rw [hsp, hnx]; simp, by rw [za]; exact hO5, K5, hup5⟩
   first | omega | (dsimp only; omega)
  have hnx := tJ bs a jo hc2
  have hbm : 3 ≤ (bQ bs a).1 ∧ a + (bQ bs a).1 ≤ bs.length := by
   rcases hbf with h | ⟨h1, _, _, _, h2, _⟩
   · rw [h] at hc2; exact absurd rfl hc2
   exact ⟨h1, h2⟩
  refine jS (jR (jm rfl (jm rfl (jm rfl (je (Run.build (evs.cons rfl (evs.cons rfl evs.nil)) gW (gH).choose_spec.1 (gH).choose_spec.2 rfl) ?_)))))
  refine Ops.m (qV.buildS1 rfl zbp zcs gW jd jd rfl rfl) rfl ?_
  rintro _ w4 ⟨rfl, hF4⟩
  have hO4 := hO.frm hF4.frm jp
  have hrd4 : Rd w4 3 (some ⟨_, 0, none⟩) 1 (TC [(0, (bQ bs a).1, (bQ bs a).2)]) := Rd.of_blk (n := 1) (size := 3) hF4.blk rfl
  refine Ops.m (qV.app rfl rfl zbp (wS) rfl jd hO4 hrd4 (TC_one _) jo jo) rfl ?_
  rintro _ w5 ⟨B5, d5, rfl, hO5, hf5, hob5⟩
  rw [← rW] at hO5
  have K5 := (K.trans hF4.frm jp).own hf5 hup
  have hup5 := cG hup hob5 (by have := K.size; have := hF4.size; omega)
  refine ja rfl (jO (jN (jv4 0 3 4 5 ?_)))
  refine jR (jm rfl (jm rfl (jb rfl rfl (Bin.add_i64 _ _ jo) (ja rfl (jO ?_)))))
  refine qJ (jN ⟨(a + (bQ bs a).1, pre ++ [(0, (bQ bs a).1, (bQ bs a).2)], B5, d5), (js3 rfl (by rw [za]; rfl) rfl), ?_, ?_⟩)
  · refine ⟨by dsimp only; omega, by rw [za]; simp; omega, by rw [hsp, hnx]; simp, by rw [za]; exact hO5, K5, hup5⟩
  first | omega | (dsimp only; omega)
 refine jX ?_
 refine qZ (qZ (qW ?_))
 refine jN (jv1 3 ?_)
 refine jS (jR (jm rfl (ja rfl (jO (jN (jv1 2 ?_))))))
 refine jT ?_
 refine qT rfl ?_
 have ea : a = bs.length := jo
 have et : qS bs 0 = pre := by rw [hsp, ea, yG bs bs.length (zk _), zdd]
 rw [et]
 exact ⟨_, _, rfl, hO, K, hup⟩
end
section
open Go.RowKit
def lastU (l : List Nat) (least : Nat) : Nat → Nat
 | 0 => least
 | k + 1 => if l.getD k 0 ≠ 0 ∧ lastU l least k < k + 1 then k + 1 else lastU l least k
theorem qVl (l : List Nat) (least : Nat) : ∀ k, least ≤ lastU l least k
 | 0 => zk _
 | k + 1 => by
  have := qVl l least k
  unfold lastU
  split
  · omega
  exact this
theorem xS (l : List Nat) (least : Nat) : ∀ k, lastU l least k ≤ max least k
 | 0 => by simp [lastU]
 | k + 1 => by
  have := xS l least k
  unfold lastU
  split <;> omega
theorem qZ6 (l : List Nat) (least : Nat) : ∀ k, least ≤ k → lastU l least k = fN l least k
 | 0, h => by
  have h0 : least = 0 := jo
  subst h0
  rfl
 | k + 1, h => by
  have hb := xS l least k
  have hg := qVl l least k
  unfold lastU fN
  by_cases h1 : l.getD k 0 = 0
  ·
   rw [if_neg (fun hh => hh.1 h1)]
   by_cases h2 : least < k + 1
   ·
    rw [if_pos ⟨h2, h1⟩]
    exact qZ6 l least k jo
   rw [if_neg (fun hh => h2 hh.1)]
   omega
  by_cases h3 : least ≤ k
  · rw [if_pos ⟨h1, jo⟩, if_neg (show ¬ (least < k + 1 ∧ l.getD k 0 = 0) from fun hh => h1 hh.2)]
  rw [if_neg (show ¬ (l.getD k 0 ≠ 0 ∧ lastU l least k < k + 1) from fun hh => by have := hh.2; omega), if_neg (show ¬ (least < k + 1 ∧ l.getD k 0 = 0) from fun hh => h1 hh.2)]
  omega
theorem qHk (A : Option Addr) (c least : Nat) (l : List Nat) (w : World) (hl : l.length ≤ 1000000) (hle : least ≤ 1000000) (hr : Rd w 1 A l.length (NI l)) :
  Calls Tryz.prog 78 #[.slice A l.length c, .int .i64 ((least : Nat) : Int)] w fun e w' => e = .returned (.int .i64 ((lastU l least l.length : Nat) : Int)) ∧ w = w' := by
 refine VC.calls (nt := 28) (res := #[.tmp 4]) Tryz.func78 rfl Tryz.ntmps78 Tryz.results78 rfl ?_
 refine jS (jR (jz 0 (jO (jN (jv2 0 1 ?_)))))
 refine jS (jR (jm rfl (ja rfl (jO (jN (jv2 0 5 ?_))))))
 refine jS (jS (jR (jz 0 (jO (jN (jB ?_))))))
 refine VC.loop (σ := Nat) (fun s => [(0, .slice A l.length c), (5, .int .i64 ((lastU l least s : Nat) : Int)), (6, .int .i64 ((s : Nat) : Int))]) (fun s wr => s ≤ l.length ∧ w = wr) (fun s => l.length - s) 0 (js3 rfl rfl rfl) ⟨zak _, rfl⟩ ?_
 rintro i wr ⟨hi, rfl⟩
 refine jS (jS (jR (jm rfl (jm rfl (je (Run.lenS rfl zd) (jb rfl rfl (Bin.lssN _ _) (jO (jN (jv4 0 5 6 11 ?_)))))))))
 refine jD rfl (fun hc1 => ?_) fun hc1 => ?_
 ·
  obtain ⟨ad, rfl, hadlt, hadc⟩ := hr.2 jo
  have hcell := hadc i _ (eZ l i hc1)
  refine jQ (jN (jv3 0 5 6 ?_))
  refine jS (jB (jS ?_))
  refine VC.split1 [(0, _), (5, _), (6, _)] (js3 rfl rfl rfl) 24 (.bool (decide (l.getD i 0 ≠ 0 ∧ lastU l least i < i + 1))) ?_ ?_
  ·
   refine jR ?_
   refine jm rfl (jm rfl (je (Run.index1 _ rfl rfl zd zc jo) (jl rfl zg hcell (jb rfl rfl (Bin.neqN _ 0) ?_))))
   by_cases hs18 : l.getD i 0 ≠ 0
   ·
    refine jM ?_
    refine jG ?_
    refine jk (Run.bin rfl rfl (Bin.add_i64 _ 1 jo)) ?_
    refine jG ?_
    refine jk (Run.bin rfl rfl (Bin.gtrN _ _)) ?_
    by_cases hs23 : lastU l least i < i + 1
    ·
     refine je (Run.pickT rfl rfl au) (jO ?_)
     refine jN ⟨(js4 (jC (by first | exact decide_eq_decide.2 ⟨fun h => ⟨by assumption, h⟩, fun h => h.2⟩ | exact (decide_eq_false (fun h => absurd h.1 (by assumption))).symm)) rfl rfl rfl), rfl⟩
    refine je (Run.pickT rfl rfl au) (jO ?_)
    refine jN ⟨(js4 (jC (by first | exact decide_eq_decide.2 ⟨fun h => ⟨by assumption, h⟩, fun h => h.2⟩ | exact (decide_eq_false (fun h => absurd h.1 (by assumption))).symm)) rfl rfl rfl), rfl⟩
   refine jM ?_
   refine jU ?_
   refine jU ?_
   refine jU ?_
   refine jU ?_
   refine je (Run.pickF rfl rfl au) (jO ?_)
   refine jN ⟨(js4 (jC (by first | exact decide_eq_decide.2 ⟨fun h => ⟨by assumption, h⟩, fun h => h.2⟩ | exact (decide_eq_false (fun h => absurd h.1 (by assumption))).symm)) rfl rfl rfl), rfl⟩
  intro Γ hΓ
  refine jN (VC.sub _ hΓ ?_)
  refine jD rfl (fun hc2 => ?_) fun hc2 => ?_
  ·
   refine jR (jm rfl (jb rfl rfl (Bin.add_i64 _ 1 jo) (ja rfl (jO ?_))))
   refine qJ (jN ?_)
   refine jv3 0 5 6 ?_
   refine jR (jm rfl (jb rfl rfl (Bin.add_i64 _ 1 jo) (ja rfl (jO ?_))))
   refine jN ⟨i + 1, (js3 rfl (by rw [lastU, if_pos hc2]; rfl) rfl), ?_, ?_⟩
   · exact ⟨hc1, rfl⟩
   first | omega | (dsimp only; omega)
  refine jQ ?_
  refine qJ (jN ?_)
  refine jv3 0 5 6 ?_
  refine jR (jm rfl (jb rfl rfl (Bin.add_i64 _ 1 jo) (ja rfl (jO ?_))))
  refine jN ⟨i + 1, (js3 rfl (by rw [lastU, if_neg hc2]; rfl) rfl), ?_, ?_⟩
  · exact ⟨hc1, rfl⟩
  first | omega | (dsimp only; omega)
 refine jX ?_
 refine qZ (qZ (qW ?_))
 refine jN (jv1 5 ?_)
 refine jS (jR (jm rfl (ja rfl (jO (jN (jv1 4 ?_))))))
 refine jT ?_
 refine qT rfl ?_
 have e : i = l.length := jo
 rw [e]
 exact ⟨rfl, rfl⟩
def symV (l : List Nat) (n : Nat) : Nat → Nat
 | 0 => 0
 | k + 1 => if l.getD k 0 ≤ n then k else symV l n k
theorem zJ (T : List (Nat × Nat)) (n : Nat) : ∀ k, k ≤ T.length → symV (T.map (·.1)) n k = lS T n k
 | 0, _ => rfl
 | k + 1, h => by
  have e : (T.map (·.1)).getD k 0 = (T.getD k (0, 0)).1 := by
   simp [ze, zb (jo : k < T.length)]
  rw [symV, lS, e, zJ T n k jo]
theorem qQx (A : Option Addr) (c n : Nat) (l : List Nat) (w : World) (hl : l.length ≤ 1000000) (hr : Rd w 1 A l.length (NI l)) :
  Calls Tryz.prog 74 #[.slice A l.length c, .int .i64 ((n : Nat) : Int)] w fun e w' => e = .returned (.int .i64 ((symV l n l.length : Nat) : Int)) ∧ w = w' := by
 refine VC.calls (nt := 21) (res := #[.tmp 4]) Tryz.func74 rfl Tryz.ntmps74 Tryz.results74 rfl ?_
 refine jS (jR (jz 0 (jO (jN (jv2 0 1 ?_)))))
 refine jS (jR (jz 0 (jO (jN (jS (jS (jR (jz 0 (jO (jN (jB ?_)))))))))))
 refine VC.loop (σ := Nat) (fun s => [(0, .slice A l.length c), (1, .int .i64 ((n : Nat) : Int)), (5, .int .i64 ((symV l n s : Nat) : Int)), (6, .int .i64 ((s : Nat) : Int))]) (fun s wr => s ≤ l.length ∧ w = wr) (fun s => l.length - s) 0 (js4 rfl rfl rfl rfl) ⟨zak _, rfl⟩ ?_
 rintro i wr ⟨hi, rfl⟩
 refine jS (jS (jR (jm rfl (jm rfl (je (Run.lenS rfl zd) (jb rfl rfl (Bin.lssN _ _) (jO (jN (jv5 0 1 5 6 10 ?_)))))))))
 refine jD rfl (fun hc1 => ?_) fun hc1 => ?_
 ·
  obtain ⟨ad, rfl, hadlt, hadc⟩ := hr.2 jo
  have hcell := hadc i _ (eZ l i hc1)
  refine jQ (jN (jv4 0 1 5 6 ?_))
  refine jS (jB (jS (jR (jm rfl (jm rfl (je (Run.index1 _ rfl rfl zd zc jo) (jl rfl zg hcell (jm rfl (jb rfl rfl (Bin.leqN _ _) (jO (jN (jv5 0 1 5 6 18 ?_))))))))))))
  refine jD rfl (fun hc2 => ?_) fun hc2 => ?_
  ·
   refine jR (jm rfl (ja rfl (jO ?_)))
   refine qJ (jN ?_)
   refine jv4 0 1 5 6 ?_
   refine jR (jm rfl (jb rfl rfl (Bin.add_i64 _ 1 jo) (ja rfl (jO ?_))))
   refine jN ⟨i + 1, (js4 rfl rfl (by rw [symV, if_pos hc2]; rfl) rfl), ?_, ?_⟩
   · exact ⟨hc1, rfl⟩
   first | omega | (dsimp only; omega)
  refine jQ ?_
  refine qJ (jN ?_)
  refine jv4 0 1 5 6 ?_
  refine jR (jm rfl (jb rfl rfl (Bin.add_i64 _ 1 jo) (ja rfl (jO ?_))))
  refine jN ⟨i + 1, (js4 rfl rfl (by rw [symV, if_neg hc2]; rfl) rfl), ?_, ?_⟩
  · exact ⟨hc1, rfl⟩
  first | omega | (dsimp only; omega)
 refine jX ?_
 refine qZ (qZ (qW ?_))
 refine jN (jv1 5 ?_)
 refine jS (jR (jm rfl (ja rfl (jO (jN (jv1 4 ?_))))))
 refine jT ?_
 refine qT rfl ?_
 have e : i = l.length := jo
 rw [e]
 exact ⟨rfl, rfl⟩
def IsU (w : World) (g : Nat) (A : Option Addr) (l : List Bool) : Prop := ∃ c, Blk w g 124 #[.slice A l.length c] ∧ Own w 4 1 A l.length c (BL l)
theorem IsU.frm {w w' : World} {g : Nat} {A : Option Addr} {l : List Bool} {S : List Nat} (h : IsU w g A l) (k : Frm S w w') (hS : ∀ x ∈ g :: ob A, x ∉ S) : IsU w' g A l := by
 obtain ⟨c, h1, h2⟩ := h
 exact ⟨c, h1.frm k (hS g jp), h2.frm k (fun x hx => hS x (by simp [hx]))⟩
def UR (w w' : World) (g : Nat) (A : Option Addr) (l : List Bool) : Prop := ∃ A', IsU w' g A' l ∧ Frm (g :: ob A) w w' ∧ ∀ x ∈ ob A', x ∈ ob A ∨ w.heap.size ≤ x
theorem dW (g v n : Nat) (A : Option Addr) (l : List Bool) (w : World) (hv : v ≤ 1000000000) (hn : n ≤ 1000) (hl : l.length ≤ 1000000000) (hU : IsU w g A l) :
  Calls Tryz.prog 67 #[.pointer (some ⟨g, 0, none⟩), .int .i64 ((v : Nat) : Int), .int .i64 ((n : Nat) : Int)] w fun e w' => e = .returned (.tuple #[]) ∧ UR w w' g A (l ++ bitsL v n) := by
 obtain ⟨c, hb, ho⟩ := hU
 refine VC.calls (nt := 18) (res := #[]) Tryz.func67 rfl Tryz.ntmps67 Tryz.results67 rfl ?_
 refine VC.heldL 12 (fun v => Blk v g 124 #[.slice A l.length c]) jK ?_
 have hS : (fun v => Blk v g 124 #[.slice A l.length c]) w.drew := hb.drawn (qQ.drew _)
 have ho := ho.drawn (qQ.drew w)
 refine jH 0 rfl hS (fun w0 hw0 => Run.mv rfl) ?_
 refine jH 1 rfl hS (fun w0 hw0 => Run.mv rfl) ?_
 refine jH 2 rfl hS (fun w0 hw0 => Run.nilck rfl) ?_
 refine jH 3 rfl hS (fun w0 hw0 => Run.fieldAddr rfl zdb rfl zcx jd) ?_
 refine jH 4 rfl hS (fun w0 hw0 => Run.load rfl zgl (hw0.cell 0)) ?_
 refine jH 5 rfl hS (fun w0 hw0 => Run.mv rfl) ?_
 refine jH 6 rfl hS (fun w0 hw0 => Run.convN _ rfl zaa zv (by simp only [bmax]; omega)) ?_
 refine qK.r1 7 rfl jK hS (Run.mv rfl) trivial rfl rfl ?_
 refine qK.cl 8 rfl jK (jE2 Tryz.call103) (pY v n _ jo hn) trivial rfl rfl ?_
 rintro e w1 ⟨B, d, rfl, hB, hf1, hu1⟩
 have hS := hS.frm hf1 jp
 have ho := ho.frm hf1 jp
 refine ⟨_, rfl, hS, ?_⟩
 refine qK.m 9 rfl jK (qV.app rfl rfl zaw (oN) rfl jd ho hB.rd (oQ _) jo jo) trivial rfl rfl ?_
 rintro _ w2 ⟨A2, c2, rfl, ho2, hf2, hob2⟩
 have hgA := ho.ne_blk hS jd
 have hS := hS.frm hf2 hgA
 refine ⟨hS, ?_⟩
 refine qK.r1 10 rfl jK hS (Run.nilck rfl) trivial rfl rfl ?_
 refine qK.r1 11 rfl jK hS (Run.fieldAddr rfl zdb rfl zcx jd) trivial rfl rfl ?_
 refine qK.stL rfl jK (qR.store rfl rfl zcx hS rfl rfl) trivial rfl ?_
 rintro w3 ⟨hb3, hf3, hs3⟩
 refine qK.done jK ?_
 refine eM ?_
 have h2 := ho2.ne_blk hS jd
 rw [← kX] at ho2
 have hlen : (l ++ bitsL v n).length = l.length + n := by rw [za, qN]
 have K : Frm (g :: ob A) w w3 := ((((qQ.drew w).frm.trans hf1 jp).mono (T := g :: ob A) jp).trans hf2 (fun x hx => .inl (by simp [hx]))).trans hf3 (fun x hx => .inl (by simp at hx; simp [hx]))
 refine ⟨rfl, A2, ⟨c2, by rw [hlen]; exact hb3, by rw [hlen]; exact ho2.frm hf3 (fun x hx hx2 => by rw [zh] at hx2; subst hx2; exact h2 hx)⟩, K, fun x hx => ?_⟩
 rcases hob2 with h | h
 · rw [h] at hx; exact .inl hx
 rw [h, zh] at hx
 have := hf1.size
 have e : w.drew.heap.size = w.heap.size := rfl
 exact .inr jo
theorem qPb {l : List Int} {s : Nat} (hg : fG l) (hk : KC (cn l) 16 ≤ 32768) (hs : s < l.length) : ∃ v n : Nat, cA l s = (v, (n : Int)) ∧ n ≤ 15 ∧ v ≤ 32768 := by
 rcases oT hg hk hs with h | ⟨n, h1, _, _, h2, h3⟩
 · exact ⟨0, 0, h, jo, jo⟩
 have : 2 ^ n ≤ 2 ^ 15 := zz jo h2
 exact ⟨_, n, h1, h2, jo⟩
theorem qSq (v n : Nat) (w : World) (hv : v ≤ 18446744073709551615) (hn : n ≤ 1000) :
  Calls Tryz.prog 103 #[.int .u64 v, .int .i64 n] w fun e w' => ∃ A c, e = .returned (.slice A (bitsL v n).length c) ∧ Own w' 4 1 A (bitsL v n).length c (BL (bitsL v n)) ∧ Frm [] w w' := by
 refine (pY v n w hv hn).mono ?_
 rintro e w' ⟨A, c, h1, h2, h3, _⟩
 rw [qN]
 exact ⟨A, c, h1, h2, h3⟩
theorem qVm : ∀ (L : List (Nat × Int)) (s : Nat) (h : s < L.length), ((L.flatMap CB).drop (s * 2)).take 2 = CB L[s]
 | a :: L, 0, _ => rfl
 | a :: L, s + 1, h => by
  have := qVm L s (by simpa using h)
  rw [show (a :: L).flatMap CB = CB a ++ L.flatMap CB from rfl, show (s + 1) * 2 = (CB a).length + s * 2 by rw [zD]; omega, zco]
  exact this
theorem nZ (g s c1 : Nat) (A B : Option Addr) (l : List Bool) (ls : List Int) (w : World) (hg : fG ls) (hk : KC (cn ls) 16 ≤ 32768) (hs : s < ls.length) (hl : l.length ≤ 1000000000) (hU : IsU w g A l) (hc : Own w 179 2 B ls.length c1 ((cW ls).flatMap CB)) :
  Calls Tryz.prog 81 #[.pointer (some ⟨g, 0, none⟩), .slice B ls.length c1, .int .i64 ((s : Nat) : Int)] w fun e w' => e = .returned (.tuple #[]) ∧ UR w w' g A (l ++ bH ls s) := by
 obtain ⟨c, hb, ho⟩ := hU
 have hl320 := hg.1
 obtain ⟨v, n, hvn, hn, hv⟩ := qPb hg hk hs
 obtain ⟨ad, rfl, hel⟩ := hc.rd.elem hs
 rw [qVm _ s (by simpa [cW] using hs), show (cW ls)[s]'(by simpa [cW] using hs) = cA ls s by simp [cW], hvn] at hel
 have hcb : bH ls s = (bitsL v n).reverse := by unfold bH; rw [hvn]; rfl
 refine VC.calls (nt := 26) (res := #[]) Tryz.func81 rfl Tryz.ntmps81 Tryz.results81 rfl ?_
 refine VC.heldL 20 (fun V => Blk V g 124 #[.slice A l.length c] ∧ V.cell? (ad.add (s * 2)) = some (.int .u64 ((v : Nat) : Int)) ∧ V.cell? ((ad.add (s * 2)).add 1) = some (.int .i64 ((n : Nat) : Int))) jK ?_
 have hS : (fun V => Blk V g 124 #[.slice A l.length c] ∧ V.cell? (ad.add (s * 2)) = some (.int .u64 ((v : Nat) : Int)) ∧ V.cell? ((ad.add (s * 2)).add 1) = some (.int .i64 ((n : Nat) : Int))) w.drew := ⟨hb.drawn (qQ.drew _), by have := hel 0 _ rfl; rwa [add_zero'] at this, hel 1 _ rfl⟩
 have ho := ho.drawn (qQ.drew w)
 refine jH 0 rfl hS (fun w0 hw0 => Run.mv rfl) ?_
 refine jH 1 rfl hS (fun w0 hw0 => Run.mv rfl) ?_
 refine jH 2 rfl hS (fun w0 hw0 => Run.nilck rfl) ?_
 refine jH 3 rfl hS (fun w0 hw0 => Run.fieldAddr rfl zdb rfl zcx jd) ?_
 refine jH 4 rfl hS (fun w0 hw0 => Run.load rfl zgl (hw0.1.cell 0)) ?_
 refine jH 5 rfl hS (fun w0 hw0 => Run.mv rfl) ?_
 refine jH 6 rfl hS (fun w0 hw0 => Run.mv rfl) ?_
 refine jH 7 rfl hS (fun w0 hw0 => Run.indexS _ rfl rfl zdy zdl jo) ?_
 refine jH 8 rfl hS (fun w0 hw0 => Run.fieldAddr rfl zet rfl zbl jd) ?_
 refine jH 9 rfl hS (fun w0 hw0 => Run.load rfl zcj hw0.2.1) ?_
 refine jH 10 rfl hS (fun w0 hw0 => Run.mv rfl) ?_
 refine qK.r1 11 rfl jK hS (Run.mv rfl) trivial rfl rfl ?_
 refine qK.r1 12 rfl jK hS (Run.indexS _ rfl rfl zdy zdl jo) trivial rfl rfl ?_
 refine qK.r1 13 rfl jK hS (Run.fieldAddr rfl zet rfl zc jd) trivial rfl rfl ?_
 refine qK.r1 14 rfl jK hS (Run.load rfl zg hS.2.2) trivial rfl rfl ?_
 refine qK.cl 15 rfl jK (jE2 Tryz.call103) (qSq v n _ jo jo) trivial rfl rfl ?_
 rintro e w1 ⟨B1, d1, rfl, hB, hf1⟩
 have hbl := qN v n
 generalize bitsL v n = bv at hB hcb hbl ⊢
 have hS := And.intro (hS.1.frm hf1 jp) (And.intro (hf1.cell hS.2.1 jp) (hf1.cell hS.2.2 jp))
 have ho := ho.frm hf1 jp
 refine ⟨_, rfl, hS, ?_⟩
 refine qK.cl 16 rfl jK (jE1 Tryz.call112) (qMp B1 d1 bv _ jo hB.rd) trivial rfl rfl ?_
 rintro e w2 ⟨B2, d2, rfl, hB2, hf2, hu2⟩
 have hS := And.intro (hS.1.frm hf2 jp) (And.intro (hf2.cell hS.2.1 jp) (hf2.cell hS.2.2 jp))
 have ho := ho.frm hf2 jp
 refine ⟨_, rfl, hS, ?_⟩
 refine qK.m 17 rfl jK (qV.app rfl rfl zaw (oN) rfl jd ho hB2.rd (oQ _) jo jo) trivial rfl rfl ?_
 rintro _ w3 ⟨A2, c2, rfl, ho2, hf3, hob2⟩
 have hgA := ho.ne_blk hS.1 jd
 have hcB := ho.ne_own ((((hc.frm (qQ.drew w).frm jp).frm hf1 jp).frm hf2 jp)) jd
 have hcw := (((hc.frm (qQ.drew w).frm jp).frm hf1 jp).frm hf2 jp).frm hf3 (fun x hx hx2 => hcB x hx2 hx)
 obtain ⟨ad2, had2, hcel⟩ := hcw.rd.elem hs
 cases had2
 rw [qVm _ s (by simpa [cW] using hs), show (cW ls)[s]'(by simpa [cW] using hs) = cA ls s by simp [cW], hvn] at hcel
 have hS := And.intro (hS.1.frm hf3 hgA) (And.intro (by have := hcel 0 _ rfl; rwa [add_zero'] at this) (hcel 1 _ rfl))
 refine ⟨hS, ?_⟩
 refine qK.r1 18 rfl jK hS (Run.nilck rfl) trivial rfl rfl ?_
 refine qK.r1 19 rfl jK hS (Run.fieldAddr rfl zdb rfl zcx jd) trivial rfl rfl ?_
 refine qK.stL rfl jK (qR.store rfl rfl zcx hS.1 rfl rfl) trivial rfl ?_
 rintro w4 ⟨hb4, hf4, hs4⟩
 refine qK.done jK ?_
 refine eM ?_
 have h2 := ho2.ne_blk hS.1 jd
 rw [← kX, ← hcb] at ho2
 have hlen : (l ++ bH ls s).length = l.length + bv.length := by rw [za, hcb, zgd]
 have K : Frm (g :: ob A) w w4 := (((((qQ.drew w).frm.trans hf1 jp).trans hf2 jp).mono (T := g :: ob A) jp).trans hf3 (fun x hx => .inl (by simp [hx]))).trans hf4 (fun x hx => .inl (by simp at hx; simp [hx]))
 refine ⟨rfl, A2, ⟨c2, by rw [hlen]; exact hb4, by rw [hlen]; exact ho2.frm hf4 (fun x hx hx2 => by rw [zh] at hx2; subst hx2; exact h2 hx)⟩, K, fun x hx => ?_⟩
 rcases hob2 with h | h
 · rw [h] at hx; exact .inl hx
 rw [h, zh] at hx
 have := hf1.size
 have := hf2.size
 have e : w.drew.heap.size = w.heap.size := rfl
 exact .inr jo
end
end Go.Proofs.YtndjgmbfkkgpdaaGreat
