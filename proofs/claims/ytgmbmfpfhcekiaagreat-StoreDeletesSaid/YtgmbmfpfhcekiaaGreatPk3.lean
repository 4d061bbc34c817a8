/-
  Lemmas on the way, joined: StoW, SeqU, StoX, BoxI, BoxR, BoxK, StoY, StoZ, StoZa, FlagA, BoxF, BoxX, BoxZ, StoZb, BoxL0, StoQ0.
-/
import Derived.Test.YtgmbmfpfhcekiaaGreatPk2
set_option maxRecDepth 100000
set_option linter.unusedVariables false
set_option linter.unusedSimpArgs false
namespace Go.Proofs.YtgmbmfpfhcekiaaGreat
section
open Go.RowKit Go.Sort
set_option maxHeartbeats 1000000 in
theorem pM (w : World) (hv : cQ w) : Calls Tryz.prog 16 #[] w fun e w' => e = .returned (.bool true) ∧ Frm [] w w' := by
 have K := Frm.refl [] w
 refine VC.calls (nt := 95) (res := #[.tmp 0]) Tryz.func16 rfl Tryz.ntmps16 Tryz.results16 rfl ?_
 refine jS (jR (ja rfl (jO (jN ?_))))
 refine VC.sub [] .nil ?_
 refine jS (jR ?_)
 refine Ops.cl (jE0 Tryz.call28) (vR _) rfl ?_
 rintro e w1 ⟨m0, rfl, hm0, ⟨S0, hk0⟩, hfw1⟩
 refine ⟨_, rfl, ?_⟩
 have hv := hv.frm hfw1
 have K := K.trans hfw1 jp
 have hm0R := hk0.now (RdL.zero _)
 refine Ops.cl (jE2 Tryz.call13) (pW m0 abT _ hm0R jd hv) rfl ?_
 rintro e w2 ⟨ma, ke, rfl, ⟨⟨Sa, hka⟩, hra⟩, hfw2⟩
 refine ⟨_, rfl, ?_⟩
 have hm0R := hm0R.frm hfw2
 have hv := hv.frm hfw2
 have K := K.trans hfw2 jp
 have hmaR := hka.now hm0R
 rw [hm0, qQh] at hra
 obtain ⟨rfl, hma⟩ : ke = 0 ∧ mA = ma.p := by
  rcases hra with ⟨h1, h2⟩ | ⟨h1, h2, _⟩
  · exact ⟨h1, Except.ok.inj h2⟩
  cases h2
 refine jm rfl (je (Run.extract rfl rfl) (je (Run.extract rfl rfl) ?_))
 refine Ops.m (qK.alloc bZ) rfl ?_
 rintro _ w3 ⟨rfl, hFw3⟩
 refine Ops.st (qP.storeA rfl rfl zc hFw3.blk rfl (MlC.cells_one ma)) ?_
 rintro w4 ⟨hba, hfw4, hsw4⟩
 have hba : Blk w4 w2.heap.size 25 (ma.cells.toArray) := hba
 have Kw4 : Frm [] w2 w4 := hFw3.frm.trans hfw4 jp
 have hm0R := hm0R.frm Kw4
 have hmaR := hmaR.frm Kw4
 have hv := hv.frm Kw4
 have K := K.trans Kw4 jp
 generalize w2.heap.size = ga at hba ⊢
 refine ja rfl (jO (jN (jv2 1 2 ?_)))
 refine jS (jR (je (Run.loadA rfl zh zc hba.cells (by first | rfl | (simp; done))) ?_))
 refine Ops.cl (jE2 Tryz.call23) (mO ma aT _ hmaR jd hv) rfl ?_
 rintro e w5 ⟨vx, nx, Bx, dx, lx, bx, rfl, hOMx, hcx, hfw5⟩
 refine ⟨_, rfl, ?_⟩
 have hm0R := hm0R.frm hfw5
 have hmaR := hmaR.frm hfw5
 have hba := hba.frm hfw5 jp
 have hv := hv.frm hfw5
 have K := K.trans hfw5 jp
 rw [← hma, qQi] at hcx
 obtain ⟨rfl, rfl⟩ : bx = true ∧ vx = 2 := by
  rcases hcx with ⟨h1, h2⟩ | ⟨_, h2, _⟩
  · exact ⟨h1, (BoxV.mk.inj (Option.some.inj h2)).1.symm⟩
  cases h2
 refine jm rfl (je (Run.extract rfl rfl) (je (Run.extract rfl rfl) ?_))
 refine Ops.m (qK.alloc cB) rfl ?_
 rintro _ w6 ⟨rfl, hFw6⟩
 refine Ops.st (qP.storeA rfl rfl zq hFw6.blk rfl (cR _ _ _ _ _)) ?_
 rintro w7 ⟨hbx, hfw7, hsw7⟩
 have hbx : Blk w7 w5.heap.size 43 ((BVc 2 nx Bx lx.length dx).toArray) := hbx
 have Kw7 : Frm [] w5 w7 := hFw6.frm.trans hfw7 jp
 have hm0R := hm0R.frm Kw7
 have hmaR := hmaR.frm Kw7
 have hba := hba.frm Kw7 jp
 have hv := hv.frm Kw7
 have K := K.trans Kw7 jp
 generalize w5.heap.size = gx at hbx ⊢
 refine ja rfl (jO (jN (jv4 1 2 3 4 ?_)))
 refine jS (jR (je (Run.loadA rfl zh zc hba.cells (by first | rfl | (simp; done))) ?_))
 refine Ops.cl (jE2 Tryz.call23) (mO ma abT _ hmaR jd hv) rfl ?_
 rintro e w8 ⟨vz, nz, Bz, dz, lz, bz, rfl, hOMz, hcz, hfw8⟩
 refine ⟨_, rfl, ?_⟩
 have hm0R := hm0R.frm hfw8
 have hmaR := hmaR.frm hfw8
 have hba := hba.frm hfw8 jp
 have hbx := hbx.frm hfw8 jp
 have hv := hv.frm hfw8
 have K := K.trans hfw8 jp
 rw [← hma, zT] at hcz
 obtain ⟨rfl, rfl⟩ : bz = true ∧ vz = 3 := by
  rcases hcz with ⟨h1, h2⟩ | ⟨_, h2, _⟩
  · exact ⟨h1, (BoxV.mk.inj (Option.some.inj h2)).1.symm⟩
  cases h2
 refine jm rfl (je (Run.extract rfl rfl) (je (Run.extract rfl rfl) ?_))
 refine Ops.m (qK.alloc cB) rfl ?_
 rintro _ w9 ⟨rfl, hFw9⟩
 refine Ops.st (qP.storeA rfl rfl zq hFw9.blk rfl (cR _ _ _ _ _)) ?_
 rintro w10 ⟨hby, hfw10, hsw10⟩
 have hby : Blk w10 w8.heap.size 43 ((BVc 3 nz Bz lz.length dz).toArray) := hby
 have Kw10 : Frm [] w8 w10 := hFw9.frm.trans hfw10 jp
 have hm0R := hm0R.frm Kw10
 have hmaR := hmaR.frm Kw10
 have hba := hba.frm Kw10 jp
 have hbx := hbx.frm Kw10 jp
 have hv := hv.frm Kw10
 have K := K.trans Kw10 jp
 generalize w8.heap.size = gy at hby ⊢
 refine ja rfl (jO (jN (jv6 1 2 3 4 5 6 ?_)))
 refine jS (jR (je (Run.loadA rfl zh zc hba.cells (by first | rfl | (simp; done))) ?_))
 refine Ops.cl (jE3 Tryz.call19) (pH ma aT cT _ hmaR jd jd (by rw [← hma]; exact zC) qQj (.error 0) hv) rfl ?_
 rintro e w11 ⟨mb, kf, rfl, ⟨⟨Sb, hkb⟩, hrb⟩, hfw11⟩
 refine ⟨_, rfl, ?_⟩
 have hm0R := hm0R.frm hfw11
 have hmaR := hmaR.frm hfw11
 have hba := hba.frm hfw11 jp
 have hbx := hbx.frm hfw11 jp
 have hby := hby.frm hfw11 jp
 have hv := hv.frm hfw11
 have K := K.trans hfw11 jp
 have hmbR := hkb.now hmaR
 rw [← hma, zU] at hrb
 obtain ⟨rfl, hmb⟩ : kf = 0 ∧ mB = mb.p := by
  rcases hrb with ⟨h1, h2⟩ | ⟨h1, h2, _⟩
  · exact ⟨h1, Except.ok.inj h2⟩
  cases h2
 refine jm rfl (je (Run.extract rfl rfl) (je (Run.extract rfl rfl) ?_))
 refine Ops.m (qK.alloc bZ) rfl ?_
 rintro _ w12 ⟨rfl, hFw12⟩
 refine Ops.st (qP.storeA rfl rfl zc hFw12.blk rfl (MlC.cells_one mb)) ?_
 rintro w13 ⟨hbb, hfw13, hsw13⟩
 have hbb : Blk w13 w11.heap.size 25 (mb.cells.toArray) := hbb
 have Kw13 : Frm [] w11 w13 := hFw12.frm.trans hfw13 jp
 have hm0R := hm0R.frm Kw13
 have hmaR := hmaR.frm Kw13
 have hba := hba.frm Kw13 jp
 have hbx := hbx.frm Kw13 jp
 have hby := hby.frm Kw13 jp
 have hmbR := hmbR.frm Kw13
 have hv := hv.frm Kw13
 have K := K.trans Kw13 jp
 generalize w11.heap.size = gb at hbb ⊢
 refine ja rfl (jO (jN (jv7 2 3 4 5 6 7 8 ?_)))
 refine jS (jR (je (Run.loadA rfl zh zc hbb.cells (by first | rfl | (simp; done))) ?_))
 refine Ops.cl (jE2 Tryz.call17) (fI mb cT _ hmbR jd hv) rfl ?_
 rintro e w14 ⟨mg, kg, rfl, ⟨⟨Sg, hkg⟩, hrg⟩, hfw14⟩
 refine ⟨_, rfl, ?_⟩
 have hm0R := hm0R.frm hfw14
 have hmaR := hmaR.frm hfw14
 have hba := hba.frm hfw14 jp
 have hbx := hbx.frm hfw14 jp
 have hby := hby.frm hfw14 jp
 have hmbR := hmbR.frm hfw14
 have hbb := hbb.frm hfw14 jp
 have hv := hv.frm hfw14
 have K := K.trans hfw14 jp
 rw [← hmb, qQk] at hrg
 obtain rfl : kg = 16 := by
  rcases hrg with ⟨_, h2⟩ | ⟨_, h2, _⟩
  · cases h2
  injection h2 with h2; exact h2.symm
 refine jm rfl (je (Run.extract rfl rfl) (je (Run.extract rfl rfl) ?_))
 refine Ops.m (qK.alloc bZ) rfl ?_
 rintro _ w15 ⟨rfl, hFw15⟩
 refine Ops.st (qP.storeA rfl rfl zc hFw15.blk rfl (MlC.cells_one mg)) ?_
 rintro w16 ⟨hbg9, hfw16, hsw16⟩
 have hbg9 : Blk w16 w14.heap.size 25 (mg.cells.toArray) := hbg9
 have Kw16 : Frm [] w14 w16 := hFw15.frm.trans hfw16 jp
 have hm0R := hm0R.frm Kw16
 have hmaR := hmaR.frm Kw16
 have hba := hba.frm Kw16 jp
 have hbx := hbx.frm Kw16 jp
 have hby := hby.frm Kw16 jp
 have hmbR := hmbR.frm Kw16
 have hbb := hbb.frm Kw16 jp
 have hv := hv.frm Kw16
 have K := K.trans Kw16 jp
 generalize w14.heap.size = gg9 at hbg9 ⊢
 refine ja rfl (jO (jN (jv8 2 3 4 5 6 7 8 10 ?_)))
 refine jS (jR (je (Run.loadA rfl zh zc hbb.cells (by first | rfl | (simp; done))) ?_))
 refine Ops.cl (jE2 Tryz.call17) (fI mb yJ _ hmbR jd hv) rfl ?_
 rintro e w17 ⟨mh, kh, rfl, ⟨⟨Sh, hkh⟩, hrh⟩, hfw17⟩
 refine ⟨_, rfl, ?_⟩
 have hm0R := hm0R.frm hfw17
 have hmaR := hmaR.frm hfw17
 have hba := hba.frm hfw17 jp
 have hbx := hbx.frm hfw17 jp
 have hby := hby.frm hfw17 jp
 have hmbR := hmbR.frm hfw17
 have hbb := hbb.frm hfw17 jp
 have hbg9 := hbg9.frm hfw17 jp
 have hv := hv.frm hfw17
 have K := K.trans hfw17 jp
 rw [← hmb, qQl] at hrh
 obtain rfl : kh = 17 := by
  rcases hrh with ⟨_, h2⟩ | ⟨_, h2, _⟩
  · cases h2
  injection h2 with h2; exact h2.symm
 refine jm rfl (je (Run.extract rfl rfl) (je (Run.extract rfl rfl) ?_))
 refine Ops.m (qK.alloc bZ) rfl ?_
 rintro _ w18 ⟨rfl, hFw18⟩
 refine Ops.st (qP.storeA rfl rfl zc hFw18.blk rfl (MlC.cells_one mh)) ?_
 rintro w19 ⟨hbg11, hfw19, hsw19⟩
 have hbg11 : Blk w19 w17.heap.size 25 (mh.cells.toArray) := hbg11
 have Kw19 : Frm [] w17 w19 := hFw18.frm.trans hfw19 jp
 have hm0R := hm0R.frm Kw19
 have hmaR := hmaR.frm Kw19
 have hba := hba.frm Kw19 jp
 have hbx := hbx.frm Kw19 jp
 have hby := hby.frm Kw19 jp
 have hmbR := hmbR.frm Kw19
 have hbb := hbb.frm Kw19 jp
 have hbg9 := hbg9.frm Kw19 jp
 have hv := hv.frm Kw19
 have K := K.trans Kw19 jp
 generalize w17.heap.size = gg11 at hbg11 ⊢
 refine ja rfl (jO (jN (jv9 2 3 4 5 6 7 8 10 12 ?_)))
 refine jS (jR (je (Run.loadA rfl zh zc hbb.cells (by first | rfl | (simp; done))) ?_))
 refine Ops.cl (jE3 Tryz.call27) (tA mb csT false _ hmbR jd hv) rfl ?_
 rintro e w20 ⟨Bl, dl, ss, rfl, hol, hss, _, hfw20⟩
 refine ⟨_, rfl, ?_⟩
 have hm0R := hm0R.frm hfw20
 have hmaR := hmaR.frm hfw20
 have hba := hba.frm hfw20 jp
 have hbx := hbx.frm hfw20 jp
 have hby := hby.frm hfw20 jp
 have hmbR := hmbR.frm hfw20
 have hbb := hbb.frm hfw20 jp
 have hbg9 := hbg9.frm hfw20 jp
 have hbg11 := hbg11.frm hfw20 jp
 have hv := hv.frm hfw20
 have K := K.trans hfw20 jp
 rw [← hmb, qQm] at hss
 subst hss
 obtain ⟨adl, rfl, hel0⟩ := hol.rd.elem (k := 0) jd
 obtain ⟨_, h1, hel1⟩ := hol.rd.elem (k := 1) jd
 cases h1
 refine ja rfl (jO (jN (jv9 2 3 4 5 6 8 10 12 13 ?_)))
 refine jS ?_
 refine VC.split1 [] .nil 0 (.bool (decide (True))) ?_ ?_
 ·
  refine jR ?_
  refine jm rfl (jb rfl rfl (Bin.eqlN _ 0) (jM ?_))
  refine jG ?_
  refine je (Run.pickT rfl rfl au) (jM ?_)
  refine jk (Run.fieldAddr rfl zi rfl zk jd) ?_
  refine jk (Run.load rfl zo (hbx.cell 0)) ?_
  refine jk (Run.bin rfl rfl (Bin.eql _ 2)) ?_
  refine je (Run.pickT rfl rfl au) (jM ?_)
  refine jG ?_
  refine je (Run.pickT rfl rfl au) (jM ?_)
  refine jk (Run.fieldAddr rfl zi rfl zk jd) ?_
  refine jk (Run.load rfl zo (hby.cell 0)) ?_
  refine jk (Run.bin rfl rfl (Bin.eql _ 3)) ?_
  refine je (Run.pickT rfl rfl au) (jM ?_)
  refine jG ?_
  refine jk (Run.bin rfl rfl (Bin.eqlN _ 0)) ?_
  refine je (Run.pickT rfl rfl au) (jM ?_)
  refine jG ?_
  refine jk (Run.lenS rfl zd) ?_
  refine jk (Run.bin rfl rfl (Bin.eqlN _ 2)) ?_
  refine je (Run.pickT rfl rfl au) (jM ?_)
  refine jG ?_
  refine jk (Run.indexS 0 rfl rfl zd zj jd) ?_
  refine jk (Run.load rfl zr (hel0 0 (encStr cT) rfl)) ?_
  refine jk (Run.eqlT rfl rfl) ?_
  refine je (Run.pickT rfl rfl au) (jM ?_)
  refine jG ?_
  refine jk (Run.indexS 1 rfl rfl zd zj jd) ?_
  refine jk (Run.load rfl zr (hel1 0 (encStr cbT) rfl)) ?_
  refine jk (Run.eqlT rfl rfl) ?_
  refine je (Run.pickT rfl rfl au) (jM ?_)
  refine jG ?_
  refine jk (Run.bin rfl rfl (Bin.eqlN _ 16)) ?_
  refine je (Run.pickT rfl rfl au) (jM ?_)
  refine jG ?_
  refine jk (Run.bin rfl rfl (Bin.eqlN _ 17)) ?_
  refine je (Run.pickT rfl rfl au) (jm rfl (je (Run.pickT rfl rfl au) (ja rfl (jO ?_))))
  refine jN ⟨(js1 (jC jp)), rfl⟩
 intro Γ hΓ
 refine jN (VC.sub _ hΓ ?_)
 refine jT ?_
 refine qN rfl ?_
 exact ⟨jp, K⟩
end
section
open Go.RowKit Go.Sort
def gQ (b : Tx) : List Tx → List Tx
 | [] => [b]
 | p :: ps => (b ++ p) :: ps
theorem mQ (c : UInt8) : ∀ s : Tx, bV c s ≠ []
 | [] => by simp [bV]
 | x :: r => by
  unfold bV
  split
  · simp
  split <;> simp
theorem pN {l : List Tx} (h : l ≠ []) : gQ [] l = l := by
 cases l with
 | nil => exact absurd rfl h
 | cons p ps => rfl
theorem tL (c : UInt8) (b r : Tx) : gQ b (bV c (c :: r)) = b :: bV c r := by simp [bV, gQ]
theorem rG {c x : UInt8} (h : x ≠ c) (b r : Tx) : gQ b (bV c (x :: r)) = gQ (b ++ [x]) (bV c r) := by
 have e : bV c (x :: r) = match bV c r with
  | [] => [[x]]
  | p :: ps => (x :: p) :: ps := by
  rw [bV, if_neg h]
  cases bV c r <;> rfl
 rw [e]
 cases hs : bV c r with
 | nil => exact absurd hs (mQ c r)
 | cons p ps => simp [gQ]
theorem vB {α : Type} {s : List α} {i : Nat} (h : i < s.length) : s.drop i = s[i] :: s.drop (i + 1) := by rw [zar h]
theorem xS {α : Type} (a : List α) (b v : α) : (a ++ [b]).set a.length v = a ++ [v] := jp
theorem hrdT {w w' : World} {t : TypeId} {q : Tx} (h : Fresh w w' t #[encStr q]) : Rd w' 1 (some ⟨w.heap.size, 0, none⟩) 1 (SB [q]) := Rd.of_blk (n := 1) (size := 1) h.blk rfl
theorem vC {w : World} {ad : Addr} {a : List Tx} {b : Tx} {d : Nat} (h : Own w 9 1 (some ad) (a ++ [b]).length d (SB (a ++ [b]))) : w.cell? (ad.add ((a ++ [b]).length - 1)) = some (encStr b) := by
 obtain ⟨ad', h1, h2⟩ := dH h.rd (show (a ++ [b]).length - 1 < (a ++ [b]).length by simp)
 cases h1
 rw [h2]
 simp
theorem vD (q : Tx) (c : UInt8) (w : World) (hs : q.length ≤ 1000000) : Calls Tryz.prog 138 #[encStr q, .int .u8 ((c.toNat : Nat) : Int)] w fun e w' => Frm [] w w' ∧ ∃ A d, e = .returned (.slice A (bV c q).length d) ∧ Own w' 9 1 A (bV c q).length d (SB (bV c q)) ∧ ∀ x ∈ ob A, w.heap.size ≤ x := by
 refine VC.calls (nt := 36) (res := #[.tmp 4]) Tryz.func138 rfl Tryz.ntmps138 Tryz.results138 rfl ?_
 refine jS (jR (ja rfl (jO (jN (jv2 0 1 ?_)))))
 refine jS (jR ?_)
 refine Ops.m (qK.buildS1 rfl zd zj dE jd jd rfl rfl) rfl ?_
 rintro _ w1 ⟨rfl, hF1⟩
 have K := hF1.frm
 have hA : Own w1 9 1 (some ⟨w.heap.size, 0, none⟩) 1 1 (SB [[]]) := Own.of_blk (n := 1) hF1.blk rfl jd
 have hub : ∀ x ∈ ob (some (⟨w.heap.size, 0, none⟩ : Addr)), w.heap.size ≤ x := by simp [ob]
 refine ja rfl (jO (jN (jv3 0 1 5 ?_)))
 refine jS (jS (jR (jz 0 (jO (jN (jB ?_))))))
 refine VC.loop (σ := Nat × List Tx × Tx × Option Addr × Nat) (fun s => [(0, encStr q), (1, .int .u8 ((c.toNat : Nat) : Int)), (5, .slice s.2.2.2.1 (s.2.1 ++ [s.2.2.1]).length s.2.2.2.2), (6, .int .i64 ((s.1 : Nat) : Int))]) (fun s wr => s.1 ≤ q.length ∧ bV c q = s.2.1 ++ gQ s.2.2.1 (bV c (q.drop s.1)) ∧ s.2.1.length ≤ s.1 ∧ s.2.2.1.length ≤ s.1 ∧ Own wr 9 1 s.2.2.2.1 (s.2.1 ++ [s.2.2.1]).length s.2.2.2.2 (SB (s.2.1 ++ [s.2.2.1])) ∧ (∀ x ∈ ob s.2.2.2.1, w.heap.size ≤ x) ∧ Frm [] w wr) (fun s => q.length - s.1) (0, [], [], some ⟨w.heap.size, 0, none⟩, 1) (js4 rfl rfl rfl rfl) ⟨jo, by rw [zbo, zbv, pN (mQ c q)], jp, jp, hA, hub, K⟩ ?_
 rintro ⟨i, a, b, A, d⟩ wr ⟨hi, hsp, hal, hbl, hA, hub, K⟩
 dsimp only at hi hsp hal hbl hA hub ⊢
 have hwl : (a ++ [b]).length = a.length + 1 := jp
 refine jS (jS (jR (jm rfl (jm rfl (je (Run.lenT rfl zg) (jb rfl rfl (Bin.lssN _ _) (jO (jN (jv5 0 1 5 6 11 ?_)))))))))
 refine jD rfl (fun hc1 => ?_) fun hc1 => ?_
 ·
  have hgx : q[i]? = some q[i] := zb hc1
  have hdc := vB hc1
  have htk1 : (q.drop i).take (i + 1 - i) = [q[i]] := by rw [hdc, show i + 1 - i = 1 by omega]; rfl
  have hlk : ((q.drop i).take (i + 1 - i)).length = 1 := by rw [htk1]; rfl
  generalize hx : q[i] = x at *
  refine jQ (jN (jv4 0 1 5 6 ?_))
  refine jS (jB (jS (jR (jm rfl (jm rfl (je (Run.indexT _ rfl rfl zg hgx) (jm rfl (jb rfl rfl (Bin.eqlN _ _) (jO (jN (jv5 0 1 5 6 18 ?_)))))))))))
  refine VC.meet (σ := List Tx × Tx × Option Addr × Nat) (fun s => [(0, encStr q), (1, .int .u8 ((c.toNat : Nat) : Int)), (5, .slice s.2.2.1 (s.1 ++ [s.2.1]).length s.2.2.2), (6, .int .i64 ((i : Nat) : Int))]) (fun s wr => bV c q = s.1 ++ gQ s.2.1 (bV c (q.drop (i + 1))) ∧ s.1.length ≤ i + 1 ∧ s.2.1.length ≤ i + 1 ∧ Own wr 9 1 s.2.2.1 (s.1 ++ [s.2.1]).length s.2.2.2 (SB (s.1 ++ [s.2.1])) ∧ (∀ x ∈ ob s.2.2.1, w.heap.size ≤ x) ∧ Frm [] w wr) ?_ ?_
  ·
   refine jD rfl (fun hc2 => ?_) fun hc2 => ?_
   ·
    have hl2 : (a ++ [b]).length + 1 = (a ++ [b] ++ [([] : Tx)]).length := jp
    have hxc : x = c := UInt8.toNat_inj.1 hc2
    have hsp2 : bV c q = (a ++ [b]) ++ gQ [] (bV c (q.drop (i + 1))) := by rw [hsp, hdc, hxc, tL, pN (mQ c _)]; simp
    refine jR (jM ?_)
    refine Ops.m (qK.buildS1 rfl zd zj dE jd jd rfl rfl) rfl ?_
    rintro _ w3 ⟨rfl, hF3⟩
    have K := K.trans hF3.frm jp
    refine Ops.m (qK.app rfl rfl zd (fK) rfl jd (hA.frm hF3.frm jp) (hrdT (q := []) hF3) (dD _) jo jo) rfl ?_
    rintro _ w4 ⟨A4, d4, rfl, hA4, hf4, hob4⟩
    rw [← bO] at hA4
    have hub4 := fM hub hob4 K.size
    have K := Frm.own K hf4 hub
    refine ja rfl (jO ?_)
    refine jN ⟨(a ++ [b], [], A4, d4), (js4 rfl rfl (by rw [← hl2]; rfl) rfl), ?_⟩
    exact ⟨hsp2, by dsimp only; omega, jp, by simpa using hA4, hub4, K⟩
   obtain ⟨ad, rfl, _⟩ := dH hA.rd (jo : a.length < (a ++ [b]).length)
   have hxc : x ≠ c := fun h => hc2 (by rw [h])
   have hsp2 : bV c q = a ++ gQ (b ++ [x]) (bV c (q.drop (i + 1))) := by rw [hsp, hdc, rG hxc]
   refine VC.held (fun _ => True) jK ?_
   refine jH 0 rfl trivial (fun w0 hw0 => Run.mv rfl) ?_
   refine jH 1 rfl trivial (fun w0 hw0 => Run.mv rfl) ?_
   refine jH 2 rfl trivial (fun w0 hw0 => Run.lenS rfl zd) ?_
   refine jH 3 rfl trivial (fun w0 hw0 => Run.bin rfl rfl (Bin.subN (a ++ [b]).length 1 jo (by simp [bmax]; omega))) ?_
   refine jH 4 rfl trivial (fun w0 hw0 => Run.index1 ((a ++ [b]).length - 1) rfl rfl zd zj (jo : (a ++ [b]).length - 1 < (a ++ [b]).length)) ?_
   refine jH 6 rfl trivial (fun w0 hw0 => Run.mv rfl) ?_
   refine jH 7 rfl trivial (fun w0 hw0 => Run.mv rfl) ?_
   refine jH 8 rfl trivial (fun w0 hw0 => Run.mv rfl) ?_
   refine jH 9 rfl trivial (fun w0 hw0 => Run.bin rfl rfl (Bin.add_i64 _ 1 jo)) ?_
   refine jH 10 rfl trivial (fun w0 hw0 => Run.sliceT i (i + 1) rfl zg (evB.some_ rfl) (evB.some_ rfl) jo jo) ?_
   refine qZ.r1 5 rfl jK trivial (Run.load rfl zr (vC hA)) trivial rfl rfl ?_
   refine jH 11 rfl trivial (fun w0 hw0 => Run.addT rfl rfl jo) ?_
   refine jH 12 rfl trivial (fun w0 hw0 => Run.index1 ((a ++ [b]).length - 1) rfl rfl zd zj (jo : (a ++ [b]).length - 1 < (a ++ [b]).length)) ?_
   refine qZ.st 13 rfl jK (qP.storeOwn ((a ++ [b]).length - 1) rfl rfl zj hA rfl jo rfl) trivial rfl ?_
   rintro w6 ⟨hA6, hf6, _⟩
   rw [htk1] at hA6
   have hA6 : Own w6 9 1 (some ad) (a ++ [b ++ [x]]).length d (SB (a ++ [b ++ [x]])) := by
    have e1 : (SB (a ++ [b])).set ((a ++ [b]).length - 1) (encStr (b ++ [x])) = SB (a ++ [b ++ [x]]) := by
     rw [show (a ++ [b]).length - 1 = a.length by omega, bO, bO, ← zY a]
     exact xS _ _ _
    rw [← e1, show (a ++ [b ++ [x]]).length = (a ++ [b]).length by simp]
    exact hA6
   have K := Frm.own K.drew hf6 hub
   refine ⟨trivial, ?_⟩
   refine qZ.done jK ?_
   refine jN ⟨(a, b ++ [x], some ad, d), (js4 rfl rfl (by simp; rfl) rfl), ?_⟩
   exact ⟨hsp2, by dsimp only; omega, by simp; omega, hA6, hub, K⟩
  rintro ⟨a5, b5, A5, d5⟩ w5 ⟨hsp5, hal5, hbl5, hA5, hub5, K5⟩ Γ hΓ
  dsimp only at hsp5 hal5 hbl5 hA5 hub5
  refine qH (jN (VC.sub _ hΓ ?_))
  refine jR (jm rfl (jb rfl rfl (Bin.add_i64 _ 1 jo) (ja rfl (jO ?_))))
  refine jN ⟨(i + 1, a5, b5, A5, d5), (js4 rfl rfl rfl rfl), ?_, ?_⟩
  · exact ⟨hc1, hsp5, hal5, hbl5, hA5, hub5, K5⟩
  first | omega | (dsimp only; omega)
 have him : i = q.length := jo
 subst him
 have hfin : bV c q = a ++ [b] := by rw [hsp, List.drop_length]; simp [bV, gQ]
 refine jX ?_
 refine qJ (qJ (qT ?_))
 refine jN (jv1 5 ?_)
 refine jS (jR (jm rfl (ja rfl (jO (jN (jv1 4 ?_))))))
 refine jT ?_
 refine qN rfl ?_
 rw [hfin]
 exact ⟨K, A, d, rfl, hA, hub⟩
end
section
open Go.RowKit Go.Sort
theorem xU (x : UInt8) : ¬ fC x ↔ x.toNat < 33 ∨ 126 < x.toNat ∨ x.toNat = 40 ∨ x.toNat = 41 ∨ x.toNat = 123 ∨ x.toNat = 125 ∨ x.toNat = 37 ∨ x.toNat = 42 ∨ x.toNat = 34 ∨ x.toNat = 92 := by
 have e : ∀ k : UInt8, x = k ↔ x.toNat = k.toNat := fun k => ⟨fun h => by rw [h], fun h => UInt8.toNat_inj.1 h⟩
 unfold fC kY
 simp only [zau, zbx, or_false, e]
 simp only [show (40 : UInt8).toNat = 40 from rfl, show (41 : UInt8).toNat = 41 from rfl, show (123 : UInt8).toNat = 123 from rfl, show (125 : UInt8).toNat = 125 from rfl, show (37 : UInt8).toNat = 37 from rfl, show (42 : UInt8).toNat = 42 from rfl, show (34 : UInt8).toNat = 34 from rfl, show (92 : UInt8).toNat = 92 from rfl]
 omega
def OkAt (q : Tx) (j : Nat) : Prop := ∀ x, q[j]? = some x → fC x ∧ ¬ (x.toNat = 47 ∧ (j = 0 ∨ j = q.length - 1 ∨ dW q[j - 1]? = 47))
theorem n47 {x : UInt8} : x.toNat = 47 ↔ x = 47 := ⟨fun h => UInt8.toNat_inj.1 h, fun h => by rw [h]; rfl⟩
theorem jE (q : Tx) : isN q ↔ (∀ j, j < q.length → OkAt q j) ∧ 1 ≤ q.length ∧ q.length ≤ 60 := by
 unfold isN
 constructor
 ·
  rintro ⟨h1, h2, h3, h4, h5, h6⟩
  refine ⟨fun j hj x hx => ⟨h6 x (zbz hx), ?_⟩, List.length_pos_iff.2 h1, h2⟩
  rintro ⟨h7, h8⟩
  rw [n47] at h7
  subst h7
  rcases h8 with rfl | rfl | h8
  · exact h3 hx
  · exact h4 hx
  rw [oH] at h8
  rcases zbw j with rfl | h9
  · exact h3 hx
  have := (oS q).2 ⟨j - 1, h8, by rw [show j - 1 + 1 = j by omega]; exact hx⟩
  rw [h5] at this
  cases this
 rintro ⟨h1, h2, h3⟩
 refine ⟨List.length_pos_iff.1 h2, h3, fun h => ((h1 0 jo) 47 h).2 ⟨rfl, .inl rfl⟩, fun h => ((h1 (q.length - 1) jo) 47 h).2 ⟨rfl, .inr (.inl rfl)⟩, ?_, fun c hc => ?_⟩
 ·
  cases hd : gY q with
  | false => rfl
  | true =>
   obtain ⟨i, h4, h5⟩ := (oS q).1 hd
   have hi : i + 1 < q.length := (List.getElem?_eq_some_iff.1 h5).1
   exact absurd ⟨rfl, .inr (.inr (by rw [show i + 1 - 1 = i by omega, h4]; rfl))⟩ ((h1 (i + 1) hi) 47 h5).2
 obtain ⟨j, hj, rfl⟩ := zab hc
 exact ((h1 j hj) _ (zb hj)).1
theorem gX (q : Tx) (w : World) (hq : q.length ≤ 1000000) : Calls Tryz.prog 50 #[encStr q] w fun e w' => e = .returned (.bool (decide (isN q))) ∧ w = w' := by
 refine VC.calls (nt := 80) (res := #[.tmp 2]) Tryz.func50 rfl Tryz.ntmps50 Tryz.results50 rfl ?_
 refine jS (jR (ja rfl (jO (jN (jv1 0 ?_)))))
 refine jS (jS (jR (jz 0 (jO (jN (jB ?_))))))
 refine VC.loop (σ := Nat) (fun s => [(0, encStr q), (3, .int .i64 ((s : Nat) : Int))]) (fun s wr => s ≤ q.length ∧ (∀ j, j < s → OkAt q j) ∧ w = wr) (fun s => q.length - s) 0 (js2 rfl rfl) ⟨zaf _, fun _ h => jo, rfl⟩ ?_
 rintro i _ ⟨hi, hd, rfl⟩
 refine jS (jS (jR (jm rfl (jm rfl (je (Run.lenT rfl zg) (jb rfl rfl (Bin.lssN _ _) (jO (jN (jv3 0 3 8 ?_)))))))))
 refine jD rfl (fun hc1 => ?_) fun hc1 => ?_
 ·
  obtain ⟨x, hx⟩ := eZ hc1
  have hsn := xU x
  refine jQ (jN (jv2 0 3 ?_))
  refine jS (jB (jS (jR (jm rfl (jm rfl (je (Run.indexT _ rfl rfl zg hx) (ja rfl (jO (jN (jv3 0 3 4 ?_))))))))))
  refine jS (jS ?_)
  refine VC.split1 [(0, _), (3, _), (4, _)] (js3 rfl rfl rfl) 51 (.bool (decide (x.toNat < 33 ∨ 126 < x.toNat ∨ x.toNat = 40 ∨ x.toNat = 41 ∨ x.toNat = 123 ∨ x.toNat = 125 ∨ x.toNat = 37 ∨ x.toNat = 42 ∨ x.toNat = 34 ∨ x.toNat = 92))) ?_ ?_
  ·
   refine jR ?_
   refine jm rfl (jb rfl rfl (Bin.lssN _ 33) ?_)
   by_cases hs15 : x.toNat < 33
   ·
    refine jM ?_
    refine jU ?_
    refine jU ?_
    refine je (Run.pickT rfl rfl au) (jM ?_)
    refine jU ?_
    refine jU ?_
    refine je (Run.pickT rfl rfl au) (jM ?_)
    refine jU ?_
    refine jU ?_
    refine je (Run.pickT rfl rfl au) (jM ?_)
    refine jU ?_
    refine jU ?_
    refine je (Run.pickT rfl rfl au) (jM ?_)
    refine jU ?_
    refine jU ?_
    refine je (Run.pickT rfl rfl au) (jM ?_)
    refine jU ?_
    refine jU ?_
    refine je (Run.pickT rfl rfl au) (jM ?_)
    refine jU ?_
    refine jU ?_
    refine je (Run.pickT rfl rfl au) (jM ?_)
    refine jU ?_
    refine jU ?_
    refine je (Run.pickT rfl rfl au) (jM ?_)
    refine jU ?_
    refine jU ?_
    refine je (Run.pickT rfl rfl au) (jO ?_)
    refine jN ⟨(js4 (jC (by clear hsn; simp [*])) rfl rfl rfl), rfl⟩
   refine jM ?_
   refine jG ?_
   refine jk (Run.bin rfl rfl (Bin.gtrN _ 126)) ?_
   by_cases hs18 : 126 < x.toNat
   ·
    refine je (Run.pickF rfl rfl au) (jM ?_)
    refine jU ?_
    refine jU ?_
    refine je (Run.pickT rfl rfl au) (jM ?_)
    refine jU ?_
    refine jU ?_
    refine je (Run.pickT rfl rfl au) (jM ?_)
    refine jU ?_
    refine jU ?_
    refine je (Run.pickT rfl rfl au) (jM ?_)
    refine jU ?_
    refine jU ?_
    refine je (Run.pickT rfl rfl au) (jM ?_)
    refine jU ?_
    refine jU ?_
    refine je (Run.pickT rfl rfl au) (jM ?_)
    refine jU ?_
    refine jU ?_
    refine je (Run.pickT rfl rfl au) (jM ?_)
    refine jU ?_
    refine jU ?_
    refine je (Run.pickT rfl rfl au) (jM ?_)
    refine jU ?_
    refine jU ?_
    refine je (Run.pickT rfl rfl au) (jO ?_)
    refine jN ⟨(js4 (jC (by clear hsn; simp [*])) rfl rfl rfl), rfl⟩
   refine je (Run.pickF rfl rfl au) (jM ?_)
   refine jG ?_
   refine jk (Run.bin rfl rfl (Bin.eqlN _ 40)) ?_
   by_cases hs22 : x.toNat = 40
   ·
    refine je (Run.pickF rfl rfl au) (jM ?_)
    refine jU ?_
    refine jU ?_
    refine je (Run.pickT rfl rfl au) (jM ?_)
    refine jU ?_
    refine jU ?_
    refine je (Run.pickT rfl rfl au) (jM ?_)
    refine jU ?_
    refine jU ?_
    refine je (Run.pickT rfl rfl au) (jM ?_)
    refine jU ?_
    refine jU ?_
    refine je (Run.pickT rfl rfl au) (jM ?_)
    refine jU ?_
    refine jU ?_
    refine je (Run.pickT rfl rfl au) (jM ?_)
    refine jU ?_
    refine jU ?_
    refine je (Run.pickT rfl rfl au) (jM ?_)
    refine jU ?_
    refine jU ?_
    refine je (Run.pickT rfl rfl au) (jO ?_)
    refine jN ⟨(js4 (jC (by clear hsn; simp [*])) rfl rfl rfl), rfl⟩
   refine je (Run.pickF rfl rfl au) (jM ?_)
   refine jG ?_
   refine jk (Run.bin rfl rfl (Bin.eqlN _ 41)) ?_
   by_cases hs26 : x.toNat = 41
   ·
    refine je (Run.pickF rfl rfl au) (jM ?_)
    refine jU ?_
    refine jU ?_
    refine je (Run.pickT rfl rfl au) (jM ?_)
    refine jU ?_
    refine jU ?_
    refine je (Run.pickT rfl rfl au) (jM ?_)
    refine jU ?_
    refine jU ?_
    refine je (Run.pickT rfl rfl au) (jM ?_)
    refine jU ?_
    refine jU ?_
    refine je (Run.pickT rfl rfl au) (jM ?_)
    refine jU ?_
    refine jU ?_
    refine je (Run.pickT rfl rfl au) (jM ?_)
    refine jU ?_
    refine jU ?_
    refine je (Run.pickT rfl rfl au) (jO ?_)
    refine jN ⟨(js4 (jC (by clear hsn; simp [*])) rfl rfl rfl), rfl⟩
   refine je (Run.pickF rfl rfl au) (jM ?_)
   refine jG ?_
   refine jk (Run.bin rfl rfl (Bin.eqlN _ 123)) ?_
   by_cases hs30 : x.toNat = 123
   ·
    refine je (Run.pickF rfl rfl au) (jM ?_)
    refine jU ?_
    refine jU ?_
    refine je (Run.pickT rfl rfl au) (jM ?_)
    refine jU ?_
    refine jU ?_
    refine je (Run.pickT rfl rfl au) (jM ?_)
    refine jU ?_
    refine jU ?_
    refine je (Run.pickT rfl rfl au) (jM ?_)
    refine jU ?_
    refine jU ?_
    refine je (Run.pickT rfl rfl au) (jM ?_)
    refine jU ?_
    refine jU ?_
    refine je (Run.pickT rfl rfl au) (jO ?_)
    refine jN ⟨(js4 (jC (by clear hsn; simp [*])) rfl rfl rfl), rfl⟩
   refine je (Run.pickF rfl rfl au) (jM ?_)
   refine jG ?_
   refine jk (Run.bin rfl rfl (Bin.eqlN _ 125)) ?_
   by_cases hs34 : x.toNat = 125
   ·
    refine je (Run.pickF rfl rfl au) (jM ?_)
    refine jU ?_
    refine jU ?_
    refine je (Run.pickT rfl rfl au) (jM ?_)
    refine jU ?_
    refine jU ?_
    refine je (Run.pickT rfl rfl au) (jM ?_)
    refine jU ?_
    refine jU ?_
    refine je (Run.pickT rfl rfl au) (jM ?_)
    refine jU ?_
    refine jU ?_
    refine je (Run.pickT rfl rfl au) (jO ?_)
    refine jN ⟨(js4 (jC (by clear hsn; simp [*])) rfl rfl rfl), rfl⟩
   refine je (Run.pickF rfl rfl au) (jM ?_)
   refine jG ?_
   refine jk (Run.bin rfl rfl (Bin.eqlN _ 37)) ?_
   by_cases hs38 : x.toNat = 37
   ·
    refine je (Run.pickF rfl rfl au) (jM ?_)
    refine jU ?_
    refine jU ?_
    refine je (Run.pickT rfl rfl au) (jM ?_)
    refine jU ?_
    refine jU ?_
    refine je (Run.pickT rfl rfl au) (jM ?_)
    refine jU ?_
    refine jU ?_
    refine je (Run.pickT rfl rfl au) (jO ?_)
    refine jN ⟨(js4 (jC (by clear hsn; simp [*])) rfl rfl rfl), rfl⟩
   refine je (Run.pickF rfl rfl au) (jM ?_)
   refine jG ?_
   refine jk (Run.bin rfl rfl (Bin.eqlN _ 42)) ?_
   by_cases hs42 : x.toNat = 42
   ·
    refine je (Run.pickF rfl rfl au) (jM ?_)
    refine jU ?_
    refine jU ?_
    refine je (Run.pickT rfl rfl au) (jM ?_)
    refine jU ?_
    refine jU ?_
    refine je (Run.pickT rfl rfl au) (jO ?_)
    refine jN ⟨(js4 (jC (by clear hsn; simp [*])) rfl rfl rfl), rfl⟩
   refine je (Run.pickF rfl rfl au) (jM ?_)
   refine jG ?_
   refine jk (Run.bin rfl rfl (Bin.eqlN _ 34)) ?_
   by_cases hs46 : x.toNat = 34
   ·
    refine je (Run.pickF rfl rfl au) (jM ?_)
    refine jU ?_
    refine jU ?_
    refine je (Run.pickT rfl rfl au) (jO ?_)
    refine jN ⟨(js4 (jC (by clear hsn; simp [*])) rfl rfl rfl), rfl⟩
   refine je (Run.pickF rfl rfl au) (jM ?_)
   refine jG ?_
   refine jk (Run.bin rfl rfl (Bin.eqlN _ 92)) ?_
   refine je (Run.pickF rfl rfl au) (jO ?_)
   refine jN ⟨(js4 (jC (by clear hsn; simp [*])) rfl rfl rfl), rfl⟩
  intro Γ hΓ
  refine jN (VC.sub _ hΓ ?_)
  refine jD rfl (fun hc2 => ?_) fun hc2 => ?_
  ·
   have hbad : ¬ isN q := fun h => (hsn.2 hc2) ((((jE q).1 h).1 i hc1) x hx).1
   refine jS (jR (ja rfl (jO (jN (jv1 2 ?_)))))
   refine jT ?_
   refine qQ (qV (qQ (qQ (qV (qQ (qN rfl ?_))))))
   exact ⟨by rw [decide_eq_false hbad], rfl⟩
  refine jQ (jN (jv3 0 3 4 ?_))
  refine jS ?_
  refine VC.split1 [(0, _), (3, _)] (js2 rfl rfl) 71 (.bool (decide (x.toNat = 47 ∧ (i = 0 ∨ i = q.length - 1 ∨ dW q[i - 1]? = 47)))) ?_ ?_
  ·
   refine jR ?_
   refine jm rfl (jb rfl rfl (Bin.eqlN _ 47) ?_)
   by_cases hs53 : x.toNat = 47
   ·
    refine jM ?_
    refine jG ?_
    refine jk (Run.bin rfl rfl (Bin.eqlN _ 0)) ?_
    by_cases hs56 : i = 0
    ·
     refine jG ?_
     refine jU ?_
     refine jU ?_
     refine jU ?_
     refine jU ?_
     refine jU ?_
     refine jk (Run.pickT rfl rfl au) ?_
     refine jG ?_
     refine jU ?_
     refine jU ?_
     refine jU ?_
     refine jU ?_
     refine jU ?_
     refine jk (Run.pickT rfl rfl au) ?_
     refine je (Run.pickT rfl rfl au) (jO ?_)
     refine jN ⟨(js3 (jC (by clear hsn hc2; simp [dW, *])) rfl rfl), rfl⟩
    obtain ⟨y, hy⟩ := eZ (jo : i - 1 < q.length)
    refine jG ?_
    refine jG ?_
    refine jG ?_
    refine jk (Run.lenT rfl zg) ?_
    refine jk (Run.bin rfl rfl (Bin.sub_i64 _ 1 jo jo)) ?_
    refine jk (Run.bin rfl rfl (Bin.eqlN _ _)) ?_
    by_cases hs62 : i = q.length - 1
    ·
     refine jk (Run.pickF rfl rfl au) ?_
     refine jG ?_
     refine jU ?_
     refine jU ?_
     refine jU ?_
     refine jU ?_
     refine jU ?_
     refine jk (Run.pickT rfl rfl au) ?_
     refine je (Run.pickT rfl rfl au) (jO ?_)
     refine jN ⟨(js3 (jC (by clear hsn hc2; simp [dW, *])) rfl rfl), rfl⟩
    refine jk (Run.pickF rfl rfl au) ?_
    refine jG ?_
    refine jG ?_
    refine jG ?_
    refine jk (Run.bin rfl rfl (Bin.sub_i64 _ 1 jo jo)) ?_
    refine jk (Run.indexT _ rfl rfl zg hy) ?_
    refine jk (Run.bin rfl rfl (Bin.eqlN _ 47)) ?_
    refine jk (Run.pickF rfl rfl au) ?_
    refine je (Run.pickT rfl rfl au) (jO ?_)
    refine jN ⟨(js3 (jC (by clear hsn hc2; simp [dW, *])) rfl rfl), rfl⟩
   refine jM ?_
   refine jU ?_
   refine jU ?_
   refine jU ?_
   refine Ops.skU rfl rfl ?_
   refine Ops.skU rfl rfl ?_
   refine Ops.skU rfl rfl ?_
   refine Ops.skU rfl rfl ?_
   refine Ops.skU rfl rfl ?_
   refine jU ?_
   refine jU ?_
   refine Ops.skU rfl rfl ?_
   refine Ops.skU rfl rfl ?_
   refine Ops.skU rfl rfl ?_
   refine Ops.skU rfl rfl ?_
   refine Ops.skU rfl rfl ?_
   refine jU ?_
   refine je (Run.pickF rfl rfl au) (jO ?_)
   refine jN ⟨(js3 (jC (by clear hsn hc2; simp [dW, *])) rfl rfl), rfl⟩
  intro Γ hΓ
  refine jN (VC.sub _ hΓ ?_)
  refine jD rfl (fun hc3 => ?_) fun hc3 => ?_
  ·
   have hbad : ¬ isN q := fun h => ((((jE q).1 h).1 i hc1) x hx).2 hc3
   refine jS (jR (ja rfl (jO (jN (jv1 2 ?_)))))
   refine jT ?_
   refine qV (qQ (qQ (qV (qQ (qN rfl ?_)))))
   exact ⟨by rw [decide_eq_false hbad], rfl⟩
  refine jQ ?_
  refine qH (jN ?_)
  refine jv2 0 3 ?_
  refine jR (jm rfl (jb rfl rfl (Bin.add_i64 _ 1 jo) (ja rfl (jO ?_))))
  refine jN ⟨(i + 1), (js2 rfl rfl), ?_, ?_⟩
  ·
   refine ⟨hc1, fun j hj => ?_, rfl⟩
   by_cases e : j = i
   ·
    subst e
    intro y hy
    rw [hx] at hy
    cases hy
    exact ⟨Classical.not_not.1 (fun h => hc2 (hsn.1 h)), hc3⟩
   exact hd j jo
  first | omega | (dsimp only; omega)
 refine jX ?_
 refine qJ (qJ (qT ?_))
 refine jN (jv1 0 ?_)
 refine jS ?_
 refine VC.split1 [] .nil 2 (.bool (decide (1 ≤ q.length ∧ q.length ≤ 60))) ?_ ?_
 ·
  refine jR ?_
  refine jm rfl (je (Run.lenT rfl zg) (jb rfl rfl (Bin.leqN 1 _) ?_))
  by_cases hs74 : 1 ≤ q.length
  ·
   refine jM ?_
   refine jG ?_
   refine jk (Run.lenT rfl zg) ?_
   refine jk (Run.bin rfl rfl (Bin.leqN _ 60)) ?_
   refine je (Run.pickT rfl rfl au) (ja rfl (jO ?_))
   refine jN ⟨(js1 (jC (by simp [*]))), rfl⟩
  refine jM ?_
  refine jU ?_
  refine jU ?_
  refine jU ?_
  refine je (Run.pickF rfl rfl au) (ja rfl (jO ?_))
  refine jN ⟨(js1 (jC (by simp [*]))), rfl⟩
 intro Γ hΓ
 refine jN (VC.sub _ hΓ ?_)
 refine jT ?_
 refine qN rfl ?_
 obtain rfl : i = q.length := jo
 exact ⟨by rw [decide_eq_decide.2 (show isN q ↔ 1 ≤ q.length ∧ q.length ≤ 60 from ⟨fun h => ((jE q).1 h).2, fun h => (jE q).2 ⟨hd, h⟩⟩)], rfl⟩
theorem zD : ∀ L ∈ qI, ∀ c : UInt8, low c = low L ↔ upC c = L := by
 have e : ∀ a b : UInt8, a = b ↔ a.toNat = b.toNat := fun a b => ⟨fun h => by rw [h], fun h => UInt8.toNat_inj.1 h⟩
 intro L hL c
 rw [e, e, cF, cF, nH]
 simp only [qI, zau, zbx, or_false] at hL
 rcases hL with rfl | rfl | rfl | rfl | rfl
 · simp only [show (73 : UInt8).toNat = 73 from rfl]; (repeat' split) <;> omega
 · simp only [show (78 : UInt8).toNat = 78 from rfl]; (repeat' split) <;> omega
 · simp only [show (66 : UInt8).toNat = 66 from rfl]; (repeat' split) <;> omega
 · simp only [show (79 : UInt8).toNat = 79 from rfl]; (repeat' split) <;> omega
 simp only [show (88 : UInt8).toNat = 88 from rfl]; (repeat' split) <;> omega
theorem pP : ∀ (l : Tx), (∀ L ∈ l, ∀ c : UInt8, low c = low L ↔ upC c = L) → ∀ a : Tx, qR a = qR l ↔ upT a = l
 | [], _, a => by
  unfold qR upT
  rw [zcv, List.map_eq_nil_iff, List.map_eq_nil_iff]
 | L :: l, h, a => by
  have ih := pP l (fun x hx => h x (.tail _ hx))
  cases a with
  | nil => simp [qR, upT]
  | cons c a =>
   have h1 := h L (.head _) c
   have h2 := ih a
   unfold qR upT at *
   rw [zbi, zbi, zbi, List.cons.injEq, List.cons.injEq, h1, h2]
theorem nX (c : UInt8) : ∀ s : Tx, ∃ r, bV c s = bC c s :: r
 | [] => ⟨[], rfl⟩
 | x :: s => by
  obtain ⟨r, hr⟩ := nX c s
  unfold bV bC
  split
  · exact ⟨_, rfl⟩
  rw [hr]; exact ⟨r, rfl⟩
theorem sV (c : UInt8) : ∀ s : Tx, (bC c s).length ≤ s.length
 | [] => zae _
 | x :: s => by
  unfold bC
  split
  · simp
  rw [zbj, zbj]; have := sV c s; omega
theorem rH (q : Tx) (w : World) (hq : q.length ≤ 1000000) : Calls Tryz.prog 111 #[encStr q] w fun e w' => e = .returned (encStr (dF q)) ∧ Frm [] w w' := by
 obtain ⟨r, hr⟩ := nX 47 q
 have hbl := sV 47 q
 have hsu := pP qI zD (bC 47 q)
 refine VC.calls (nt := 14) (res := #[.tmp 2]) Tryz.func111 rfl Tryz.ntmps111 Tryz.results111 rfl ?_
 refine jS (jR (ja rfl (jO (jN (jv1 0 ?_)))))
 refine jS (jR (jM ?_))
 refine Ops.cl (jE2 Tryz.call138) (vD q 47 _ hq) rfl ?_
 rintro e w1 ⟨hf1, A, d, rfl, ho, _⟩
 refine ⟨_, rfl, ?_⟩
 have K := hf1
 rw [hr] at ho ⊢
 obtain ⟨ad, rfl, hel⟩ := ho.rd.elem (k := 0) jp
 refine je (Run.indexS 0 rfl rfl zd zj jp) (jl rfl zr (hel 0 (encStr (bC 47 q)) (by simp [SB])) (ja rfl (jO (jN (jv2 0 3 ?_)))))
 refine jS (jS (jR (jM ?_)))
 refine Ops.cl (jE2 Tryz.call139) (mD (bC 47 q) qI _ jo jd) rfl ?_
 rintro e w2 ⟨rfl, hd⟩
 refine ⟨_, rfl, ?_⟩
 have K := K.drawn hd
 refine jO (jN (jv2 0 9 ?_))
 refine VC.condB rfl (fun hc1 => ?_) (fun hc1 => ?_)
 ·
  have hc1 := hsu.1 (of_decide_eq_true hc1)
  have h5 : 5 ≤ q.length := by
   have := congrArg List.length hc1
   rw [gR] at this
   have h6 : qI.length = 5 := rfl
   omega
  refine jS (jR (jm rfl (je (Run.sliceT 5 q.length rfl zg (evB.some_ rfl) evB.none_ h5 (zae _)) ?_)))
  rw [zp (by rw [zy]; omega)]
  have hdl : (q.drop 5).length = q.length - 5 := zy
  have h5l : ([73, 78, 66, 79, 88] : Tx).length = 5 := rfl
  refine je (Run.addT rfl rfl jo) (ja rfl (jO (jN (jv1 2 ?_))))
  refine jT ?_
  refine qQ (qN rfl ?_)
  refine ⟨?_, K⟩
  unfold dF
  rw [if_pos hc1]
  rfl
 have hc1 : ¬ upT (bC 47 q) = qI := fun h => of_decide_eq_false hc1 (hsu.2 h)
 refine jQ (jN (jv1 0 ?_))
 refine jS (jR (jm rfl (ja rfl (jO (jN (jv1 2 ?_))))))
 refine jT ?_
 refine qN rfl ?_
 refine ⟨?_, K⟩
 unfold dF
 rw [if_neg hc1]
theorem dZ (q : Tx) (w : World) (hq : q.length ≤ 1000000) : Calls Tryz.prog 60 #[encStr q] w fun e w' => e = .returned (encStr (qW q)) ∧ Frm [] w w' := by
 refine VC.calls (nt := 8) (res := #[.tmp 2]) Tryz.func60 rfl Tryz.ntmps60 Tryz.results60 rfl ?_
 refine jS (jR (ja rfl (jO (jN (jv1 0 ?_)))))
 refine jS (jS (jR (jM ?_)))
 refine Ops.cl (jE1 Tryz.call50) (gX q _ hq) rfl ?_
 rintro e _ ⟨rfl, rfl⟩
 refine ⟨_, rfl, ?_⟩
 refine jO (jN (jv2 0 4 ?_))
 refine VC.condB rfl (fun hc1 => ?_) (fun hc1 => ?_)
 ·
  refine jS (jR (jM ?_))
  refine Ops.cl (jE1 Tryz.call111) (rH q _ hq) rfl ?_
  rintro e w1 ⟨rfl, hf1⟩
  refine ⟨_, rfl, ?_⟩
  refine ja rfl (jO (jN (jv1 2 ?_)))
  refine jT ?_
  refine qQ (qN rfl ?_)
  exact ⟨by unfold qW; rw [if_pos (of_decide_eq_true hc1)], hf1⟩
 refine jQ (jN (jv1 0 ?_))
 refine jS (jR (jm rfl (ja rfl (jO (jN (jv1 2 ?_))))))
 refine jT ?_
 refine qN rfl ?_
 exact ⟨by unfold qW; rw [if_neg (of_decide_eq_false hc1)], Frm.refl _ _⟩
theorem zX (a b : Tx) : (b ++ [47]) <+: a ↔ b.length < a.length ∧ a.take b.length = b ∧ dW a[b.length]? = 47 := by
 rw [oH]
 constructor
 ·
  rintro ⟨r, rfl⟩
  simp
 rintro ⟨h1, h2, h3⟩
 refine ⟨a.drop (b.length + 1), ?_⟩
 have h4 : a[b.length] = 47 := by
  rw [zb h1] at h3
  exact Option.some.inj h3
 have h5 := zbc b.length a
 rw [h2, zar h1, h4] at h5
 rw [zcj]
 exact h5
theorem rM (q p : Tx) (w : World) (hq : q.length ≤ 1000000) (hp : p.length ≤ 1000000) : Calls Tryz.prog 61 #[encStr q, encStr p] w fun e w' => e = .returned (.bool (decide (underN q p))) ∧ Frm [] w w' := by
 refine VC.calls (nt := 39) (res := #[.tmp 4]) Tryz.func61 rfl Tryz.ntmps61 Tryz.results61 rfl ?_
 refine jS (jR (ja rfl (jO (jN (jv2 0 1 ?_)))))
 refine jS (jS ?_)
 refine VC.split1 [(0, _), (1, _)] (js2 rfl rfl) 14 (.bool (decide (¬ isN q ∨ ¬ isN p))) ?_ ?_
 ·
  refine jR (jM ?_)
  refine Ops.cl (jE1 Tryz.call50) (gX q _ hq) rfl ?_
  rintro e _ ⟨rfl, rfl⟩
  refine ⟨_, rfl, ?_⟩
  by_cases hs8 : isN q
  ·
   refine je (Run.not rfl) (jM ?_)
   refine jG ?_
   refine Ops.clg rfl au (jE1 Tryz.call50) (gX p _ hp) rfl ?_
   rintro e _ ⟨rfl, rfl⟩
   refine ⟨_, rfl, ?_⟩
   refine jk (Run.not rfl) ?_
   refine je (Run.pickF rfl rfl au) (jO ?_)
   refine jN ⟨(js3 (jC (by simp [*])) rfl rfl), rfl⟩
  refine je (Run.not rfl) (jM ?_)
  refine jU ?_
  refine jU ?_
  refine jU ?_
  refine je (Run.pickT rfl rfl au) (jO ?_)
  refine jN ⟨(js3 (jC (by simp [*])) rfl rfl), rfl⟩
 intro Γ hΓ
 refine jN (VC.sub _ hΓ ?_)
 refine jD rfl (fun hc1 => ?_) fun hc1 => ?_
 ·
  refine jS (jR (ja rfl (jO (jN (jv1 4 ?_)))))
  refine jT ?_
  refine qQ (qN rfl ?_)
  exact ⟨by rw [decide_eq_false (fun h : underN q p => by rcases hc1 with h1 | h1; exact h1 h.1; exact h1 h.2.1)], Frm.refl _ _⟩
 obtain ⟨hca, hcb⟩ : isN q ∧ isN p := ⟨Classical.not_not.1 (fun h => hc1 (.inl h)), Classical.not_not.1 (fun h => hc1 (.inr h))⟩
 refine jQ (jN (jv2 0 1 ?_))
 refine jS (jR (jM ?_))
 refine Ops.cl (jE1 Tryz.call60) (dZ q _ hq) rfl ?_
 rintro e w1 ⟨rfl, hf1⟩
 refine ⟨_, rfl, ?_⟩
 refine jM ?_
 refine Ops.cl (jE1 Tryz.call60) (dZ p _ hp) rfl ?_
 rintro e w2 ⟨rfl, hf2⟩
 refine ⟨_, rfl, ?_⟩
 have K := hf1.trans hf2 jp
 have hu : underN q p ↔ (qW p ++ [47]) <+: qW q := ⟨fun h => h.2.2, fun h => ⟨hca, hcb, h⟩⟩
 have hpi := zX (qW q) (qW p)
 have hla := bI q
 have hlb := bI p
 generalize qW q = a at *
 generalize qW p = b at *
 generalize hz : dW a[b.length]? = z at *
 refine ja rfl (ja rfl (jO (jN (jv2 5 6 ?_))))
 refine jS ?_
 refine VC.split1 [] .nil 4 (.bool (decide (b.length < a.length ∧ a.take b.length = b ∧ z = 47))) ?_ ?_
 ·
  refine jR ?_
  refine jm rfl (je (Run.lenT rfl zg) (jm rfl (je (Run.lenT rfl zg) (jb rfl rfl (Bin.gtrN _ _) ?_))))
  by_cases hs23 : b.length < a.length
  ·
   obtain ⟨y, hy⟩ := eZ hs23
   have hyz : y.toNat = z := by rw [← hz, hy]; rfl
   refine jM ?_
   refine jG ?_
   refine jG ?_
   refine jk (Run.lenT rfl zg) ?_
   refine jk (Run.sliceT 0 b.length rfl zg evB.none_ (evB.some_ rfl) (zaf _) (Nat.le_of_lt hs23)) ?_
   rw [zbo, zbk]
   refine jG ?_
   refine jk (Run.eqlT rfl rfl) ?_
   by_cases hs30 : a.take b.length = b
   ·
    refine je (Run.pickT rfl rfl au) (jM ?_)
    refine jG ?_
    refine jG ?_
    refine jk (Run.lenT rfl zg) ?_
    refine jk (Run.indexT _ rfl rfl zg hy) ?_
    refine jk (Run.bin rfl rfl (Bin.eqlN _ 47)) ?_
    refine je (Run.pickT rfl rfl au) (ja rfl (jO ?_))
    refine jN ⟨(js1 (jC (by first | (clear hpi hu hla hlb hz; simp [*]; done) | (clear hpi hu hla hlb hz hy; simp [*])))), rfl⟩
   refine je (Run.pickT rfl rfl au) (jM ?_)
   refine jU ?_
   refine jU ?_
   refine jU ?_
   refine jU ?_
   refine jU ?_
   refine je (Run.pickF rfl rfl au) (ja rfl (jO ?_))
   refine jN ⟨(js1 (jC (by first | (clear hpi hu hla hlb hz; simp [*]; done) | (clear hpi hu hla hlb hz hy; simp [*])))), rfl⟩
  refine jM ?_
  refine jU ?_
  refine jU ?_
  refine jU ?_
  refine jU ?_
  refine jU ?_
  refine jU ?_
  refine je (Run.pickF rfl rfl au) (jM ?_)
  refine jU ?_
  refine jU ?_
  refine jU ?_
  refine jU ?_
  refine jU ?_
  refine je (Run.pickF rfl rfl au) (ja rfl (jO ?_))
  refine jN ⟨(js1 (jC (by first | (clear hpi hu hla hlb hz; simp [*]; done) | (clear hpi hu hla hlb hz hy; simp [*])))), rfl⟩
 intro Γ hΓ
 refine jN (VC.sub _ hΓ ?_)
 refine jT ?_
 refine qN rfl ?_
 exact ⟨by rw [decide_eq_decide.2 (hu.trans hpi)], K⟩
end
section
open Go.RowKit Go.Sort
theorem zZ (a b c d : Int) (w : World) : (Op.eqFields 9999 #[.int .i64 a, .int .i64 b] #[.int .i64 c, .int .i64 d] (Tryz.prog.fieldsOf 58).toList).run Tryz.prog w = .ok (decide (a = c ∧ b = d)) w := by
 obtain ⟨f0, f1, hf, ⟨n0, t0, o0⟩, n1, t1, o1⟩ := wK
 rw [hf]
 have h := rT (P := Tryz.prog) (w := w) (d := 9998) (xs := #[.int .i64 a, .int .i64 b]) (ys := #[.int .i64 c, .int .i64 d]) (f := f0) (fs := [f1]) (k := .i64) (k' := .i64) (a := a) (b := c) (by rw [n0]; decide) (by rw [t0]; exact zdv) (by rw [t0]; exact Tryz.underlying2) (by rw [o0]; rfl) (by rw [o0]; rfl)
  (rT (k := .i64) (k' := .i64) (a := b) (b := d) (by rw [n1]; decide) (by rw [t1]; exact zo) (by rw [t1]; exact zag) (by rw [o1]; rfl) (by rw [o1]; rfl) yV)
 have e : decide (a = c ∧ b = d) = (decide (a = c) && (decide (b = d) && true)) := by
  rw [zcd]
  simp
 rw [e]
 exact h
theorem zE (x y : MsgP) : x = y ↔ (x.uid = y.uid ∧ (x.sec = y.sec ∧ x.zone = y.zone) ∧ x.size = y.size ∧ x.blob = y.blob ∧ x.flags = y.flags) := by
 cases x; cases y
 simp [and_assoc]
end
section
open Go.RowKit Go.Sort
theorem jL (x : Mc) (w : World) (hx : x.At w) : Calls Tryz.prog 124 #[.agg x.cells.toArray] w fun e w' => e = .returned (.bool (decide (cV x.m))) ∧ Frm [] w w' := by
 refine VC.calls (nt := 29) (res := #[.tmp 2]) Tryz.func124 rfl Tryz.ntmps124 Tryz.results124 rfl ?_
 refine jS (jR ?_)
 refine Ops.m (qK.box rfl) rfl ?_
 rintro _ w1 ⟨rfl, hF1⟩
 have hb1 := hF1.blk
 have hf1 := hF1.frm
 have hs1 : w.heap.size ≤ w.heap.size := zae _
 generalize hg1 : w.heap.size = g1 at hb1 ⊢
 refine ja rfl (jO (jN (jv1 1 ?_)))
 refine jS (jR (jf rfl zaa rfl zcq (je (Run.loadA rfl Tryz.isAgg58 zcq (hb1.sub 1 [.int .i64 x.m.sec, .int .i64 x.m.zone] rfl) (by first | rfl | (simp; done))) ?_)))
 refine Ops.cl (jE1 Tryz.call156) (tY x.m.sec x.m.zone _) rfl ?_
 rintro e w2 ⟨rfl, hf2⟩
 refine ⟨_, rfl, ?_⟩
 have hfr2 := hf1.trans hf2 jp
 have hb1 := hb1.frm hf2 jp
 have hck := wU x.m.sec x.m.zone
 rw [hck]
 refine jm rfl (je (Run.extract rfl rfl) (je (Run.extract rfl rfl) (je (Run.extract rfl rfl) (ja rfl (ja rfl (ja rfl (jO (jN (jv2 1 5 ?_)))))))))
 refine jS ?_
 refine VC.splitR [] (Frm [] w) 2 (.bool (decide (cV x.m))) ?_ ?_
 ·
  refine jR (jM ?_)
  by_cases hs13 : cS x.m.sec x.m.zone
  ·
   refine jM ?_
   refine jk (Run.fieldAddr rfl zaa rfl zk jd) ?_
   refine jk (Run.load rfl zo (hb1.cell 3)) ?_
   refine jk (Run.bin rfl rfl (Bin.geq _ 0)) ?_
   by_cases hs17 : 0 ≤ x.m.size
   ·
    refine je (Run.pickT rfl rfl au) (jM ?_)
    refine jk (Run.fieldAddr rfl zaa rfl zdk jd) ?_
    refine jk (Run.load rfl zdn (hb1.cell 4)) ?_
    refine jk (Run.bin rfl rfl (Bin.gtrN _ 0)) ?_
    by_cases hs22 : 0 < x.m.blob
    ·
     refine je (Run.pickT rfl rfl au) (jM ?_)
     refine jk (Run.fieldAddr rfl zaa rfl zac jd) ?_
     refine jk (Run.load rfl zan (hb1.cell 5)) ?_
     refine Ops.clg rfl au (jE1 Tryz.call157) (pI x.A x.c x.m.flags _ (by have := hx.n; omega) hx.q (hx.frm hfr2 jp).rd) rfl ?_
     rintro e w3 ⟨rfl, hf3⟩
     refine ⟨_, rfl, ?_⟩
     have hfr3 := hfr2.trans hf3 jp
     by_cases hs27 : cX x.m.flags
     ·
      refine je (Run.pickT rfl rfl au) (ja rfl (jO ?_))
      refine jN ⟨(js1 (jC (Eq.symm (by unfold cV; first | exact decide_eq_true ⟨by assumption, by assumption, jo, by assumption⟩ | exact decide_eq_false (fun h => by first | exact absurd h.1 (by assumption) | exact absurd h.2.1 (by assumption) | (have := h.2.2.1; omega) | exact absurd h.2.2.2 (by assumption)) | exact decide_eq_decide.2 ⟨fun h => h.2.2.2, fun h => ⟨by assumption, by assumption, jo, h⟩⟩)))), (by first | exact hfr3 | exact hfr2)⟩
     refine je (Run.pickT rfl rfl au) (ja rfl (jO ?_))
     refine jN ⟨(js1 (jC (Eq.symm (by unfold cV; first | exact decide_eq_true ⟨by assumption, by assumption, jo, by assumption⟩ | exact decide_eq_false (fun h => by first | exact absurd h.1 (by assumption) | exact absurd h.2.1 (by assumption) | (have := h.2.2.1; omega) | exact absurd h.2.2.2 (by assumption)) | exact decide_eq_decide.2 ⟨fun h => h.2.2.2, fun h => ⟨by assumption, by assumption, jo, h⟩⟩)))), (by first | exact hfr3 | exact hfr2)⟩
    refine je (Run.pickT rfl rfl au) (jM ?_)
    refine jU ?_
    refine jU ?_
    refine jU ?_
    refine je (Run.pickF rfl rfl au) (ja rfl (jO ?_))
    refine jN ⟨(js1 (jC (Eq.symm (by unfold cV; first | exact decide_eq_true ⟨by assumption, by assumption, jo, by assumption⟩ | exact decide_eq_false (fun h => by first | exact absurd h.1 (by assumption) | exact absurd h.2.1 (by assumption) | (have := h.2.2.1; omega) | exact absurd h.2.2.2 (by assumption)) | exact decide_eq_decide.2 ⟨fun h => h.2.2.2, fun h => ⟨by assumption, by assumption, jo, h⟩⟩)))), (by first | exact hfr3 | exact hfr2)⟩
   refine je (Run.pickT rfl rfl au) (jM ?_)
   refine jU ?_
   refine jU ?_
   refine jU ?_
   refine je (Run.pickF rfl rfl au) (jM ?_)
   refine jU ?_
   refine jU ?_
   refine jU ?_
   refine je (Run.pickF rfl rfl au) (ja rfl (jO ?_))
   refine jN ⟨(js1 (jC (Eq.symm (by unfold cV; first | exact decide_eq_true ⟨by assumption, by assumption, jo, by assumption⟩ | exact decide_eq_false (fun h => by first | exact absurd h.1 (by assumption) | exact absurd h.2.1 (by assumption) | (have := h.2.2.1; omega) | exact absurd h.2.2.2 (by assumption)) | exact decide_eq_decide.2 ⟨fun h => h.2.2.2, fun h => ⟨by assumption, by assumption, jo, h⟩⟩)))), (by first | exact hfr3 | exact hfr2)⟩
  refine jM ?_
  refine jU ?_
  refine jU ?_
  refine jU ?_
  refine je (Run.pickF rfl rfl au) (jM ?_)
  refine jU ?_
  refine jU ?_
  refine jU ?_
  refine je (Run.pickF rfl rfl au) (jM ?_)
  refine jU ?_
  refine jU ?_
  refine jU ?_
  refine je (Run.pickF rfl rfl au) (ja rfl (jO ?_))
  refine jN ⟨(js1 (jC (Eq.symm (by unfold cV; first | exact decide_eq_true ⟨by assumption, by assumption, jo, by assumption⟩ | exact decide_eq_false (fun h => by first | exact absurd h.1 (by assumption) | exact absurd h.2.1 (by assumption) | (have := h.2.2.1; omega) | exact absurd h.2.2.2 (by assumption)) | exact decide_eq_decide.2 ⟨fun h => h.2.2.2, fun h => ⟨by assumption, by assumption, jo, h⟩⟩)))), (by first | exact hfr3 | exact hfr2)⟩
 intro Γ wR hΓ hR
 refine jN (VC.sub _ hΓ ?_)
 refine jT ?_
 refine qN rfl ?_
 exact ⟨rfl, hR⟩
theorem lG {n : Int} {l : List Mc} : ∀ {i : Nat}, i ≤ l.length → (∀ j (hj : j < l.length), j < i → bB n (Ms l) j (l[j]).m) → 0 ≤ fW (Ms l) i ∧ (0 < i → 1 ≤ fW (Ms l) i)
 | 0, _, _ => ⟨Int.le_refl _, fun h => absurd h (Nat.lt_irrefl 0)⟩
 | i + 1, hi, h => by
  have ih := lG (i := i) jo (fun j hj hji => h j hj jo)
  have h1 := (h i jo jo).1
  have h2 := kS (l := l) (i := i) jo
  rw [h2]
  omega
theorem oX (v n : Int) (A : Option Addr) (c : Nat) (l : List Mc) (w : World) (hl : RdM w A l) (hn : l.length ≤ 1000000) : Calls Tryz.prog 78 #[.agg #[.int .i64 v, .int .i64 n, .slice A l.length c]] w fun e w' => e = .returned (.bool (decide (bT ⟨v, n, Ms l⟩))) ∧ Frm [] w w' := by
 refine VC.calls (nt := 74) (res := #[.tmp 2]) Tryz.func78 rfl Tryz.ntmps78 Tryz.results78 rfl ?_
 refine jS (jR ?_)
 refine Ops.m (qK.box rfl) rfl ?_
 rintro _ w1 ⟨rfl, hF1⟩
 have hb1 := hF1.blk
 have hf1 := hF1.frm
 have hs1 : w.heap.size ≤ w.heap.size := zae _
 generalize hg1 : w.heap.size = g1 at hb1 ⊢
 refine ja rfl (jO (jN (jv1 1 ?_)))
 refine jS (jS (jR (jz 0 (jO (jN (jB ?_))))))
 refine VC.loop (σ := Nat) (fun s => [(1, .pointer (some ⟨g1, 0, none⟩)), (3, .int .i64 ((s : Nat) : Int))]) (fun s wr => s ≤ l.length ∧ Frm [] w wr ∧ Blk wr g1 43 #[.int .i64 v, .int .i64 n, .slice A l.length c] ∧ ∀ j (hj : j < l.length), j < s → bB n (Ms l) j (l[j]).m) (fun s => l.length - s) 0 (js2 rfl rfl) ⟨jo, hf1, hb1, jp⟩ ?_
 rintro i wr ⟨hi, hfr, hb1, hg⟩
 refine jS (jS (jR (jm rfl (jf rfl zi rfl zad (jl rfl zao (hb1.cell 2) (je (Run.lenS rfl zv) (jb rfl rfl (Bin.lssN _ _) (jO (jN (jv3 1 3 9 ?_))))))))))
 refine jD rfl (fun hc1 => ?_) fun hc1 => ?_
 ·
  have hR := hl.frm hfr
  have hAe : ∃ ad, A = some ad := (hR.elem hc1).elim fun ad h => ⟨ad, h.1⟩
  obtain ⟨ad, rfl⟩ := hAe
  have hcell : ∀ k (hk : k < l.length) j v, (l[k]).cells[j]? = some v → wr.cell? ((ad.add (k * 6)).add j) = some v := fun k hk => by
   obtain ⟨ad', hA, h⟩ := hR.elem hk
   injection hA with hA
   subst hA
   exact h
  have hxa := hR.fl (l[i]) (zu hc1)
  have hcx := hcell i hc1
  have hpz : i = 0 → fW (Ms l) i = 0 := fun h => by subst h; rfl
  have hps : ∀ (h : 0 < i), fW (Ms l) i = (l[i - 1]'jo).m.uid := fun h => by
   have := kS (l := l) (i := i - 1) jo
   rwa [show i - 1 + 1 = i by omega] at this
  have hpge := lG hi hg
  generalize hx : l[i] = x at *
  refine jQ (jN (jv2 1 3 ?_))
  refine jS (jB (jS (jR (jf rfl zi rfl zad (jl rfl zao (hb1.cell 2) (jm rfl (je (Run.indexS i rfl rfl zv zaj hc1) (jf rfl zaa rfl zk (jl rfl zo (hcx 0 _ rfl) (ja rfl (jO (jN (jv3 1 3 4 ?_)))))))))))))
  refine jS ?_
  refine VC.splitR [(1, .pointer (some ⟨g1, 0, none⟩)), (3, .int .i64 ((i : Nat) : Int))] (Frm [] wr) 49 (.bool (decide (¬ bB n (Ms l) i x.m))) ?_ ?_
  ·
   refine jR ?_
   refine jm rfl (jb rfl rfl (Bin.lss _ 1) ?_)
   by_cases hs19 : x.m.uid < 1
   ·
    refine jM ?_
    refine jU ?_
    refine jU ?_
    refine jU ?_
    refine jU ?_
    refine je (Run.pickT rfl rfl au) (jM ?_)
    refine jU ?_
    refine jU ?_
    refine jU ?_
    refine Ops.skU rfl rfl ?_
    refine Ops.skU rfl rfl ?_
    refine Ops.skU rfl rfl ?_
    refine Ops.skU rfl rfl ?_
    refine Ops.skU rfl rfl ?_
    refine Ops.skU rfl rfl ?_
    refine Ops.skU rfl rfl ?_
    refine Ops.skU rfl rfl ?_
    refine Ops.skU rfl rfl ?_
    refine jU ?_
    refine je (Run.pickT rfl rfl au) (jM ?_)
    refine jU ?_
    refine jU ?_
    refine jU ?_
    refine jU ?_
    refine jU ?_
    refine jU ?_
    refine jU ?_
    refine je (Run.pickT rfl rfl au) (jO ?_)
    refine jN ⟨(js3 (jC (Eq.symm (by first | exact decide_eq_true (fun h => by have h1 := h.1; have h2 := h.2.1; first | omega | (have := hps (by assumption); omega) | (have := hpz jo; omega)) | (rw [← decide_not]; exact decide_eq_decide.2 ⟨fun h hm => h ⟨by first | (have := hps (by assumption); omega) | (have := hpz jo; omega), jo, hm⟩, fun h hg => h hg.2.2⟩) | exact decide_eq_decide.2 ⟨fun _ => jo, fun _ h => by have h1 := h.1; have := hps (by assumption); omega⟩))) rfl rfl), (by first | exact hf4 | exact Frm.refl _ _)⟩
   refine jM ?_
   refine jG ?_
   refine jk (Run.fieldAddr rfl zi rfl zk jd) ?_
   refine jk (Run.load rfl zo (hb1.cell 1)) ?_
   refine jk (Run.bin rfl rfl (Bin.geq _ _)) ?_
   by_cases hs24 : n ≤ x.m.uid
   ·
    refine je (Run.pickF rfl rfl au) (jM ?_)
    refine jU ?_
    refine jU ?_
    refine jU ?_
    refine Ops.skU rfl rfl ?_
    refine Ops.skU rfl rfl ?_
    refine Ops.skU rfl rfl ?_
    refine Ops.skU rfl rfl ?_
    refine Ops.skU rfl rfl ?_
    refine Ops.skU rfl rfl ?_
    refine Ops.skU rfl rfl ?_
    refine Ops.skU rfl rfl ?_
    refine Ops.skU rfl rfl ?_
    refine jU ?_
    refine je (Run.pickT rfl rfl au) (jM ?_)
    refine jU ?_
    refine jU ?_
    refine jU ?_
    refine jU ?_
    refine jU ?_
    refine jU ?_
    refine jU ?_
    refine je (Run.pickT rfl rfl au) (jO ?_)
    refine jN ⟨(js3 (jC (Eq.symm (by first | exact decide_eq_true (fun h => by have h1 := h.1; have h2 := h.2.1; first | omega | (have := hps (by assumption); omega) | (have := hpz jo; omega)) | (rw [← decide_not]; exact decide_eq_decide.2 ⟨fun h hm => h ⟨by first | (have := hps (by assumption); omega) | (have := hpz jo; omega), jo, hm⟩, fun h hg => h hg.2.2⟩) | exact decide_eq_decide.2 ⟨fun _ => jo, fun _ h => by have h1 := h.1; have := hps (by assumption); omega⟩))) rfl rfl), (by first | exact hf4 | exact Frm.refl _ _)⟩
   refine je (Run.pickF rfl rfl au) (jM ?_)
   refine jG ?_
   refine jk (Run.bin rfl rfl (Bin.gtrN _ 0)) ?_
   by_cases hs28 : 0 < i
   ·
    refine jG ?_
    refine jk (Run.fieldAddr rfl zi rfl zad jd) ?_
    refine jk (Run.load rfl zao (hb1.cell 2)) ?_
    refine jG ?_
    refine jk (Run.bin rfl rfl (Bin.sub_i64 _ 1 jo jo)) ?_
    refine jk (Run.indexS (i - 1) rfl rfl zv zaj jo) ?_
    refine jk (Run.fieldAddr rfl zaa rfl zk jd) ?_
    refine jk (Run.load rfl zo (hcell (i - 1) jo 0 _ rfl)) ?_
    refine jG ?_
    refine jk (Run.bin rfl rfl (Bin.geq _ _)) ?_
    by_cases hs38 : x.m.uid ≤ (l[i - 1]'jo).m.uid
    ·
     refine jk (Run.pickT rfl rfl au) ?_
     refine je (Run.pickF rfl rfl au) (jM ?_)
     refine jU ?_
     refine jU ?_
     refine jU ?_
     refine jU ?_
     refine jU ?_
     refine jU ?_
     refine jU ?_
     refine je (Run.pickT rfl rfl au) (jO ?_)
     refine jN ⟨(js3 (jC (Eq.symm (by first | exact decide_eq_true (fun h => by have h1 := h.1; have h2 := h.2.1; first | omega | (have := hps (by assumption); omega) | (have := hpz jo; omega)) | (rw [← decide_not]; exact decide_eq_decide.2 ⟨fun h hm => h ⟨by first | (have := hps (by assumption); omega) | (have := hpz jo; omega), jo, hm⟩, fun h hg => h hg.2.2⟩) | exact decide_eq_decide.2 ⟨fun _ => jo, fun _ h => by have h1 := h.1; have := hps (by assumption); omega⟩))) rfl rfl), (by first | exact hf4 | exact Frm.refl _ _)⟩
    refine jk (Run.pickT rfl rfl au) ?_
    refine je (Run.pickF rfl rfl au) (jM ?_)
    refine jk (Run.fieldAddr rfl zi rfl zad jd) ?_
    refine jk (Run.load rfl zao (hb1.cell 2)) ?_
    refine jG ?_
    refine jk (Run.indexS i rfl rfl zv zaj hc1) ?_
    refine jk (Run.loadA rfl zcx zaj hcx (by first | rfl | (simp; done))) ?_
    refine Ops.clg rfl au (jE1 Tryz.call124) (jL x _ hxa) rfl ?_
    rintro e w4 ⟨rfl, hf4⟩
    refine ⟨_, rfl, ?_⟩
    by_cases hs47 : cV x.m
    ·
     refine jk (Run.not rfl) ?_
     refine je (Run.pickF rfl rfl au) (jO ?_)
     refine jN ⟨(js3 (jC (Eq.symm (by first | exact decide_eq_true (fun h => by have h1 := h.1; have h2 := h.2.1; first | omega | (have := hps (by assumption); omega) | (have := hpz jo; omega)) | (rw [← decide_not]; exact decide_eq_decide.2 ⟨fun h hm => h ⟨by first | (have := hps (by assumption); omega) | (have := hpz jo; omega), jo, hm⟩, fun h hg => h hg.2.2⟩) | exact decide_eq_decide.2 ⟨fun _ => jo, fun _ h => by have h1 := h.1; have := hps (by assumption); omega⟩))) rfl rfl), (by first | exact hf4 | exact Frm.refl _ _)⟩
    refine jk (Run.not rfl) ?_
    refine je (Run.pickF rfl rfl au) (jO ?_)
    refine jN ⟨(js3 (jC (Eq.symm (by first | exact decide_eq_true (fun h => by have h1 := h.1; have h2 := h.2.1; first | omega | (have := hps (by assumption); omega) | (have := hpz jo; omega)) | (rw [← decide_not]; exact decide_eq_decide.2 ⟨fun h hm => h ⟨by first | (have := hps (by assumption); omega) | (have := hpz jo; omega), jo, hm⟩, fun h hg => h hg.2.2⟩) | exact decide_eq_decide.2 ⟨fun _ => jo, fun _ h => by have h1 := h.1; have := hps (by assumption); omega⟩))) rfl rfl), (by first | exact hf4 | exact Frm.refl _ _)⟩
   refine jG ?_
   refine jU ?_
   refine jU ?_
   refine jU ?_
   refine jU ?_
   refine jU ?_
   refine jU ?_
   refine jU ?_
   refine jU ?_
   refine jU ?_
   refine jk (Run.pickF rfl rfl au) ?_
   refine je (Run.pickF rfl rfl au) (jM ?_)
   refine jk (Run.fieldAddr rfl zi rfl zad jd) ?_
   refine jk (Run.load rfl zao (hb1.cell 2)) ?_
   refine jG ?_
   refine jk (Run.indexS i rfl rfl zv zaj hc1) ?_
   refine jk (Run.loadA rfl zcx zaj hcx (by first | rfl | (simp; done))) ?_
   refine Ops.clg rfl au (jE1 Tryz.call124) (jL x _ hxa) rfl ?_
   rintro e w4 ⟨rfl, hf4⟩
   refine ⟨_, rfl, ?_⟩
   by_cases hs47 : cV x.m
   ·
    refine jk (Run.not rfl) ?_
    refine je (Run.pickF rfl rfl au) (jO ?_)
    refine jN ⟨(js3 (jC (Eq.symm (by first | exact decide_eq_true (fun h => by have h1 := h.1; have h2 := h.2.1; first | omega | (have := hps (by assumption); omega) | (have := hpz jo; omega)) | (rw [← decide_not]; exact decide_eq_decide.2 ⟨fun h hm => h ⟨by first | (have := hps (by assumption); omega) | (have := hpz jo; omega), jo, hm⟩, fun h hg => h hg.2.2⟩) | exact decide_eq_decide.2 ⟨fun _ => jo, fun _ h => by have h1 := h.1; have := hps (by assumption); omega⟩))) rfl rfl), (by first | exact hf4 | exact Frm.refl _ _)⟩
   refine jk (Run.not rfl) ?_
   refine je (Run.pickF rfl rfl au) (jO ?_)
   refine jN ⟨(js3 (jC (Eq.symm (by first | exact decide_eq_true (fun h => by have h1 := h.1; have h2 := h.2.1; first | omega | (have := hps (by assumption); omega) | (have := hpz jo; omega)) | (rw [← decide_not]; exact decide_eq_decide.2 ⟨fun h hm => h ⟨by first | (have := hps (by assumption); omega) | (have := hpz jo; omega), jo, hm⟩, fun h hg => h hg.2.2⟩) | exact decide_eq_decide.2 ⟨fun _ => jo, fun _ h => by have h1 := h.1; have := hps (by assumption); omega⟩))) rfl rfl), (by first | exact hf4 | exact Frm.refl _ _)⟩
  intro Γ w4 hΓ hf4
  refine jN (VC.sub _ hΓ ?_)
  refine jD rfl (fun hc2 => ?_) fun hc2 => ?_
  ·
   have hng : ¬ bB n (Ms l) i x.m := hc2
   refine jS (jR (ja rfl (jO (jN (jv1 2 ?_)))))
   refine jT ?_
   refine qV (qQ (qQ (qV (qQ (qN rfl ?_)))))
   refine ⟨?_, hfr.trans hf4 jp⟩
   rw [decide_eq_false]
   intro h
   have := (mF h).2 i hc1
   rw [hx] at this
   exact hng this
  have hgi : bB n (Ms l) i x.m := Classical.not_not.1 hc2
  have hfr4 := hfr.trans hf4 jp
  refine jQ ?_
  refine qH (jN ?_)
  refine jv2 1 3 ?_
  refine jR (jm rfl (jb rfl rfl (Bin.add_i64 _ 1 jo) (ja rfl (jO ?_))))
  refine jN ⟨(i + 1), (js2 rfl rfl), ?_, ?_⟩
  ·
   refine ⟨hc1, hfr4, hb1.frm hf4 jp, fun j hj hji => ?_⟩
   rcases zce j i with h | h
   · exact hg j hj h
   obtain rfl : j = i := jo
   rw [hx]; exact hgi
  first | omega | (dsimp only; omega)
 refine jX ?_
 refine qJ (qJ (qT ?_))
 refine jN (jv1 1 ?_)
 refine jS ?_
 refine VC.split1 [] .nil 2 (.bool (decide (1 ≤ v ∧ v ≤ 2147483647 ∧ 1 ≤ n ∧ n ≤ 2147483648 ∧ l.length ≤ 128))) ?_ ?_
 ·
  refine jR (jf rfl zi rfl zk (jl rfl zo (hb1.cell 0) (jb rfl rfl (Bin.leq 1 _) ?_)))
  by_cases hs52 : 1 ≤ v
  ·
   refine jM ?_
   refine jk (Run.fieldAddr rfl zi rfl zk jd) ?_
   refine jk (Run.load rfl zo (hb1.cell 0)) ?_
   refine jk (Run.bin rfl rfl (Bin.leq _ 2147483647)) ?_
   by_cases hs56 : v ≤ 2147483647
   ·
    refine je (Run.pickT rfl rfl au) (jM ?_)
    refine jk (Run.fieldAddr rfl zi rfl zk jd) ?_
    refine jk (Run.load rfl zo (hb1.cell 1)) ?_
    refine jk (Run.bin rfl rfl (Bin.leq 1 _)) ?_
    by_cases hs61 : 1 ≤ n
    ·
     refine je (Run.pickT rfl rfl au) (jM ?_)
     refine jk (Run.fieldAddr rfl zi rfl zk jd) ?_
     refine jk (Run.load rfl zo (hb1.cell 1)) ?_
     refine jk (Run.bin rfl rfl (Bin.leq _ 2147483648)) ?_
     by_cases hs66 : n ≤ 2147483648
     ·
      refine je (Run.pickT rfl rfl au) (jM ?_)
      refine jk (Run.fieldAddr rfl zi rfl zad jd) ?_
      refine jk (Run.load rfl zao (hb1.cell 2)) ?_
      refine jk (Run.lenS rfl zv) ?_
      refine jk (Run.bin rfl rfl (Bin.leqN _ 128)) ?_
      by_cases hs72 : l.length ≤ 128
      ·
       refine je (Run.pickT rfl rfl au) (ja rfl (jO ?_))
       refine jN ⟨(js1 (jC (Eq.symm (by simp [*])))), rfl⟩
      refine je (Run.pickT rfl rfl au) (ja rfl (jO ?_))
      refine jN ⟨(js1 (jC (Eq.symm (by simp [*])))), rfl⟩
     refine je (Run.pickT rfl rfl au) (jM ?_)
     refine jU ?_
     refine jU ?_
     refine jU ?_
     refine jU ?_
     refine je (Run.pickF rfl rfl au) (ja rfl (jO ?_))
     refine jN ⟨(js1 (jC (Eq.symm (by simp [*])))), rfl⟩
    refine je (Run.pickT rfl rfl au) (jM ?_)
    refine jU ?_
    refine jU ?_
    refine jU ?_
    refine je (Run.pickF rfl rfl au) (jM ?_)
    refine jU ?_
    refine jU ?_
    refine jU ?_
    refine jU ?_
    refine je (Run.pickF rfl rfl au) (ja rfl (jO ?_))
    refine jN ⟨(js1 (jC (Eq.symm (by simp [*])))), rfl⟩
   refine je (Run.pickT rfl rfl au) (jM ?_)
   refine jU ?_
   refine jU ?_
   refine jU ?_
   refine je (Run.pickF rfl rfl au) (jM ?_)
   refine jU ?_
   refine jU ?_
   refine jU ?_
   refine je (Run.pickF rfl rfl au) (jM ?_)
   refine jU ?_
   refine jU ?_
   refine jU ?_
   refine jU ?_
   refine je (Run.pickF rfl rfl au) (ja rfl (jO ?_))
   refine jN ⟨(js1 (jC (Eq.symm (by simp [*])))), rfl⟩
  refine jM ?_
  refine jU ?_
  refine jU ?_
  refine jU ?_
  refine je (Run.pickF rfl rfl au) (jM ?_)
  refine jU ?_
  refine jU ?_
  refine jU ?_
  refine je (Run.pickF rfl rfl au) (jM ?_)
  refine jU ?_
  refine jU ?_
  refine jU ?_
  refine je (Run.pickF rfl rfl au) (jM ?_)
  refine jU ?_
  refine jU ?_
  refine jU ?_
  refine jU ?_
  refine je (Run.pickF rfl rfl au) (ja rfl (jO ?_))
  refine jN ⟨(js1 (jC (Eq.symm (by simp [*])))), rfl⟩
 intro Γ hΓ
 refine jN (VC.sub _ hΓ ?_)
 refine jT ?_
 refine qN rfl ?_
 refine ⟨?_, hfr⟩
 congr 2
 rw [decide_eq_decide]
 exact ⟨fun h => rO h (fun j hj => hg j hj jo), fun h => (mF h).1⟩
end
section
open Go.RowKit Go.Sort
theorem rN (v n v2 n2 : Int) (A B : Option Addr) (c d : Nat) (l l2 : List Mc) (w : World) (hl : RdM w A l) (hl2 : RdM w B l2) (hn : l.length ≤ 1000000) (hn2 : l2.length ≤ 1000000) :
  Calls Tryz.prog 22 #[.agg #[.int .i64 v, .int .i64 n, .slice A l.length c], .agg #[.int .i64 v2, .int .i64 n2, .slice B l2.length d]] w fun e w' => e = .returned (.bool (decide (v = v2 ∧ n = n2 ∧ Ms l = Ms l2))) ∧ Frm [] w w' := by
 refine VC.calls (nt := 80) (res := #[.tmp 4]) Tryz.func22 rfl Tryz.ntmps22 Tryz.results22 rfl ?_
 refine jS (jR ?_)
 refine Ops.m (qK.box rfl) rfl ?_
 rintro _ w1 ⟨rfl, hF2⟩
 have hb2 := hF2.blk
 have hf2 := hF2.frm
 have hs2 : w.heap.size ≤ w.heap.size := zae _
 generalize hg2 : w.heap.size = g2 at hb2 ⊢
 refine Ops.m (qK.box rfl) rfl ?_
 rintro _ w2 ⟨rfl, hF3⟩
 have hb3 := hF3.blk
 have hb2 := hb2.frm hF3.frm jp
 have hf3 := hf2.trans hF3.frm jp
 have hs3 : w.heap.size ≤ w1.heap.size := hf2.size
 generalize hg3 : w1.heap.size = g3 at hb3 hs3 ⊢
 refine ja rfl (jO (jN (jv2 2 3 ?_)))
 refine jS (jS ?_)
 refine VC.split1 [(2, _), (3, _)] (js2 rfl rfl) 28 (.bool (decide (v ≠ v2 ∨ n ≠ n2 ∨ l.length ≠ l2.length))) ?_ ?_
 ·
  refine jR (jf rfl zi rfl zk (jl rfl zo (hb2.cell 0) (jf rfl zi rfl zk (jl rfl zo (hb3.cell 0) (jb rfl rfl (Bin.neq _ _) ?_)))))
  by_cases hs12 : v ≠ v2
  ·
   refine jM ?_
   refine jU ?_
   refine jU ?_
   refine jU ?_
   refine jU ?_
   refine jU ?_
   refine je (Run.pickT rfl rfl au) (jM ?_)
   refine jU ?_
   refine jU ?_
   refine jU ?_
   refine jU ?_
   refine jU ?_
   refine jU ?_
   refine jU ?_
   refine je (Run.pickT rfl rfl au) (jO ?_)
   refine jN ⟨(js3 (jC (Eq.symm (by simp [*]))) rfl rfl), rfl⟩
  refine jM ?_
  refine jk (Run.fieldAddr rfl zi rfl zk jd) ?_
  refine jk (Run.load rfl zo (hb2.cell 1)) ?_
  refine jk (Run.fieldAddr rfl zi rfl zk jd) ?_
  refine jk (Run.load rfl zo (hb3.cell 1)) ?_
  refine jk (Run.bin rfl rfl (Bin.neq _ _)) ?_
  by_cases hs18 : n ≠ n2
  ·
   refine je (Run.pickF rfl rfl au) (jM ?_)
   refine jU ?_
   refine jU ?_
   refine jU ?_
   refine jU ?_
   refine jU ?_
   refine jU ?_
   refine jU ?_
   refine je (Run.pickT rfl rfl au) (jO ?_)
   refine jN ⟨(js3 (jC (Eq.symm (by simp [*]))) rfl rfl), rfl⟩
  refine je (Run.pickF rfl rfl au) (jM ?_)
  refine jk (Run.fieldAddr rfl zi rfl zad jd) ?_
  refine jk (Run.load rfl zao (hb2.cell 2)) ?_
  refine jk (Run.lenS rfl zv) ?_
  refine jk (Run.fieldAddr rfl zi rfl zad jd) ?_
  refine jk (Run.load rfl zao (hb3.cell 2)) ?_
  refine jk (Run.lenS rfl zv) ?_
  refine jk (Run.bin rfl rfl (Bin.neqN _ _)) ?_
  by_cases hs27 : l.length ≠ l2.length
  ·
   refine je (Run.pickF rfl rfl au) (jO ?_)
   refine jN ⟨(js3 (jC (Eq.symm (by simp [*]))) rfl rfl), rfl⟩
  refine je (Run.pickF rfl rfl au) (jO ?_)
  refine jN ⟨(js3 (jC (Eq.symm (by simp [*]))) rfl rfl), rfl⟩
 intro Γ hΓ
 refine jN (VC.sub _ hΓ ?_)
 refine jD rfl (fun hc1 => ?_) fun hc1 => ?_
 ·
  refine jS (jR (ja rfl (jO (jN (jv1 4 ?_)))))
  refine jT ?_
  refine qQ (qN rfl ?_)
  refine ⟨?_, hf3⟩
  rw [decide_eq_false]
  rintro ⟨h1, h2, h3⟩
  have h4 := congrArg List.length h3
  simp only [Ms, zaq] at h4
  rcases hc1 with h | h | h
  · exact h h1
  · exact h h2
  exact h h4
 obtain ⟨hvv, hnn, hll⟩ : v = v2 ∧ n = n2 ∧ l.length = l2.length := jo
 refine jQ (jN (jv2 2 3 ?_))
 refine jS (jS (jR (jz 0 (jO (jN (jB ?_))))))
 refine VC.loop (σ := Nat) (fun s => [(2, .pointer (some ⟨g2, 0, none⟩)), (3, .pointer (some ⟨g3, 0, none⟩)), (5, .int .i64 ((s : Nat) : Int))]) (fun s wr => s ≤ l.length ∧ Frm [] w wr ∧ Blk wr g2 43 #[.int .i64 v, .int .i64 n, .slice A l.length c] ∧ Blk wr g3 43 #[.int .i64 v2, .int .i64 n2, .slice B l2.length d] ∧ Ms (l.take s) = Ms (l2.take s)) (fun s => l.length - s) 0 (js3 rfl rfl rfl) ⟨jo, hf3, hb2, hb3, jp⟩ ?_
 rintro i wr ⟨hi, hfr, hb2, hb3, hsm⟩
 refine jS (jS (jR (jm rfl (jf rfl zi rfl zad (jl rfl zao (hb2.cell 2) (je (Run.lenS rfl zv) (jb rfl rfl (Bin.lssN _ _) (jO (jN (jv4 2 3 5 33 ?_))))))))))
 refine jD rfl (fun hc2 => ?_) fun hc2 => ?_
 ·
  obtain ⟨ad, hAe, hcell⟩ : ∃ ad, A = some ad ∧ ∀ W, Frm [] w W → ∀ j v, (l[i]).cells[j]? = some v → W.cell? ((ad.add (i * 6)).add j) = some v := by
   obtain ⟨ad, hA, _⟩ := hl.elem hc2
   refine ⟨ad, hA, fun W hW => ?_⟩
   obtain ⟨ad', hA', h⟩ := (hl.frm hW).elem hc2
   rw [hA] at hA'
   injection hA' with hA'
   subst hA'
   exact h
  have hc2' : i < l2.length := jo
  obtain ⟨ad2, hBe, hcell2⟩ : ∃ ad, B = some ad ∧ ∀ W, Frm [] w W → ∀ j v, (l2[i]).cells[j]? = some v → W.cell? ((ad.add (i * 6)).add j) = some v := by
   obtain ⟨ad, hA, _⟩ := hl2.elem hc2'
   refine ⟨ad, hA, fun W hW => ?_⟩
   obtain ⟨ad', hA', h⟩ := (hl2.frm hW).elem hc2'
   rw [hA] at hA'
   injection hA' with hA'
   subst hA'
   exact h
  subst hAe hBe
  have hxa := (hl.frm hfr).fl (l[i]) (zu hc2)
  have hya := (hl2.frm hfr).fl (l2[i]) (zu hc2')
  have hms := nY hc2
  have hms2 := nY hc2'
  generalize hx : l[i] = x at *
  generalize hy : l2[i] = y at *
  have hme := zE x.m y.m
  refine jQ (jN (jv3 2 3 5 ?_))
  refine jS (jB (jS ?_))
  refine VC.meet (σ := Nat × Nat) (fun s => [(2, .pointer (some ⟨g2, 0, none⟩)), (3, .pointer (some ⟨g3, 0, none⟩)), (5, .int .i64 ((i : Nat) : Int)), (6, .pointer (some ⟨s.1, 0, none⟩)), (7, .pointer (some ⟨s.2, 0, none⟩))]) (fun s wm => Blk wm s.1 60 x.cells.toArray ∧ Blk wm s.2 60 y.cells.toArray ∧ Frm [] wr wm) ?_ ?_
  ·
   refine VC.held (fun W => Frm [] wr W) jK ?_
   have hS : Frm [] wr wr.drew := (Frm.refl _ _).drew
   refine jH 0 rfl hS (fun w0 hw0 => Run.fieldAddr rfl zi rfl zad jd) ?_
   refine jH 1 rfl hS (fun w0 hw0 => Run.load rfl zao ((hb2.frm hw0 jp).cell 2)) ?_
   refine jH 2 rfl hS (fun w0 hw0 => Run.mv rfl) ?_
   refine jH 3 rfl hS (fun w0 hw0 => Run.indexS i rfl rfl zv zaj hc2) ?_
   refine jH 4 rfl hS (fun w0 hw0 => Run.loadA rfl zcx zaj (hcell _ (hfr.trans hw0 jp)) (by first | rfl | (simp; done))) ?_
   refine jH 5 rfl hS (fun w0 hw0 => Run.fieldAddr rfl zi rfl zad jd) ?_
   refine jH 6 rfl hS (fun w0 hw0 => Run.load rfl zao ((hb3.frm hw0 jp).cell 2)) ?_
   refine jH 7 rfl hS (fun w0 hw0 => Run.mv rfl) ?_
   refine jH 8 rfl hS (fun w0 hw0 => Run.indexS i rfl rfl zv zaj hc2') ?_
   refine jH 9 rfl hS (fun w0 hw0 => Run.loadA rfl zcx zaj (hcell2 _ (hfr.trans hw0 jp)) (by first | rfl | (simp; done))) ?_
   refine qZ.or2 10 11 jK ?_ ?_
   ·
    refine dJ.m rfl (qK.alloc fU) trivial rfl rfl ?_
    rintro _ w6 ⟨rfl, hF6⟩
    have hge6 := hS.size
    try have hne := hb7.lt
    try have hb7 := hb7.frm hF6.frm jp
    have hS6 : Frm [] wr w6 := hS.trans hF6.frm jp
    refine ⟨hS6, ?_⟩
    have hS := hS6
    have hb6 := hF6.blk
    refine qZ.m 11 rfl jK (qK.alloc fU) trivial rfl rfl ?_
    rintro _ w7 ⟨rfl, hF7⟩
    have hge7 := hS.size
    try have hne := hb6.lt
    try have hb6 := hb6.frm hF7.frm jp
    have hS7 : Frm [] wr w7 := hS.trans hF7.frm jp
    refine ⟨hS7, ?_⟩
    have hS := hS7
    have hb7 := hF7.blk
    refine qZ.st 12 rfl jK (qP.storeA rfl rfl zaj hb6 rfl x.cells_one) trivial rfl ?_
    rintro w8 ⟨hb68, hf8, hs8⟩
    have hS8 : Frm [] wr w8 := hS.own hf8 (fun y hy => by simp only [za] at hy; subst hy; exact hge6)
    refine ⟨hS8, ?_⟩
    have hS := hS8
    have hb78 := hb7.frm hf8 (by simp only [za]; omega)
    refine qZ.st 13 rfl jK (qP.storeA rfl rfl zaj hb78 rfl y.cells_one) trivial rfl ?_
    rintro w9 ⟨hb79, hf9, hs9⟩
    have hS9 : Frm [] wr w9 := hS.own hf9 (fun y hy => by simp only [za] at hy; subst hy; exact hge7)
    refine ⟨hS9, ?_⟩
    have hS := hS9
    have hb69 := hb68.frm hf9 (by simp only [za]; omega)
    refine qZ.done jK ?_
    refine jN ⟨(_, _), (js5 rfl rfl rfl rfl rfl), ?_⟩
    exact ⟨hb69, hb79, hS⟩
   refine dJ.m rfl (qK.alloc fU) trivial rfl rfl ?_
   rintro _ w7 ⟨rfl, hF7⟩
   have hge7 := hS.size
   try have hne := hb6.lt
   try have hb6 := hb6.frm hF7.frm jp
   have hS7 : Frm [] wr w7 := hS.trans hF7.frm jp
   refine ⟨hS7, ?_⟩
   have hS := hS7
   have hb7 := hF7.blk
   refine qZ.m 10 rfl jK (qK.alloc fU) trivial rfl rfl ?_
   rintro _ w6 ⟨rfl, hF6⟩
   have hge6 := hS.size
   try have hne := hb7.lt
   try have hb7 := hb7.frm hF6.frm jp
   have hS6 : Frm [] wr w6 := hS.trans hF6.frm jp
   refine ⟨hS6, ?_⟩
   have hS := hS6
   have hb6 := hF6.blk
   refine qZ.st 12 rfl jK (qP.storeA rfl rfl zaj hb6 rfl x.cells_one) trivial rfl ?_
   rintro w8 ⟨hb68, hf8, hs8⟩
   have hS8 : Frm [] wr w8 := hS.own hf8 (fun y hy => by simp only [za] at hy; subst hy; exact hge6)
   refine ⟨hS8, ?_⟩
   have hS := hS8
   have hb78 := hb7.frm hf8 (by simp only [za]; omega)
   refine qZ.st 13 rfl jK (qP.storeA rfl rfl zaj hb78 rfl y.cells_one) trivial rfl ?_
   rintro w9 ⟨hb79, hf9, hs9⟩
   have hS9 : Frm [] wr w9 := hS.own hf9 (fun y hy => by simp only [za] at hy; subst hy; exact hge7)
   refine ⟨hS9, ?_⟩
   have hS := hS9
   have hb69 := hb68.frm hf9 (by simp only [za]; omega)
   refine qZ.done jK ?_
   refine jN ⟨(_, _), (js5 rfl rfl rfl rfl rfl), ?_⟩
   exact ⟨hb69, hb79, hS⟩
  rintro ⟨g6, g7⟩ w5 ⟨hb6, hb7, hf5⟩ Γ hΓ
  dsimp only at hb6 hb7
  refine jN (VC.sub _ hΓ (jS ?_))
  refine VC.splitR [(2, .pointer (some ⟨g2, 0, none⟩)), (3, .pointer (some ⟨g3, 0, none⟩)), (5, .int .i64 ((i : Nat) : Int))] (Frm [] w5) 79 (.bool (decide (¬ x.m = y.m))) ?_ ?_
  ·
   refine jR (jf rfl zaa rfl zk (jl rfl zo (hb6.cell 0) (jf rfl zaa rfl zk (jl rfl zo (hb7.cell 0) (jb rfl rfl (Bin.neq _ _) ?_)))))
   by_cases hs50 : x.m.uid ≠ y.m.uid
   ·
    refine jM ?_
    refine jU ?_
    refine jU ?_
    refine jU ?_
    refine jU ?_
    refine jU ?_
    refine je (Run.pickT rfl rfl au) (jM ?_)
    refine jU ?_
    refine jU ?_
    refine jU ?_
    refine jU ?_
    refine jU ?_
    refine je (Run.pickT rfl rfl au) (jM ?_)
    refine jU ?_
    refine jU ?_
    refine jU ?_
    refine jU ?_
    refine jU ?_
    refine je (Run.pickT rfl rfl au) (jM ?_)
    refine jU ?_
    refine jU ?_
    refine jU ?_
    refine jU ?_
    refine jU ?_
    refine jU ?_
    refine je (Run.pickT rfl rfl au) (jO ?_)
    refine jN ⟨(js4 (jC (Eq.symm (by simp_all))) rfl rfl rfl), (by first | exact hd6.frm | exact Frm.refl _ _)⟩
   refine jM ?_
   refine jk (Run.fieldAddr rfl zaa rfl zcq jd) ?_
   refine jk (Run.loadA rfl Tryz.isAgg58 zcq (hb6.sub 1 [.int .i64 x.m.sec, .int .i64 x.m.zone] rfl) (by first | rfl | (simp; done))) ?_
   refine jk (Run.fieldAddr rfl zaa rfl zcq jd) ?_
   refine jk (Run.loadA rfl Tryz.isAgg58 zcq (hb7.sub 1 [.int .i64 y.m.sec, .int .i64 y.m.zone] rfl) (by first | rfl | (simp; done))) ?_
   refine jk (Run.neqAgg rfl rfl jK jK jK (zZ _ _ _ _ _)) ?_
   by_cases hs56 : ¬ (x.m.sec = y.m.sec ∧ x.m.zone = y.m.zone)
   ·
    refine je (Run.pickF rfl rfl au) (jM ?_)
    refine jU ?_
    refine jU ?_
    refine jU ?_
    refine jU ?_
    refine jU ?_
    refine je (Run.pickT rfl rfl au) (jM ?_)
    refine jU ?_
    refine jU ?_
    refine jU ?_
    refine jU ?_
    refine jU ?_
    refine je (Run.pickT rfl rfl au) (jM ?_)
    refine jU ?_
    refine jU ?_
    refine jU ?_
    refine jU ?_
    refine jU ?_
    refine jU ?_
    refine je (Run.pickT rfl rfl au) (jO ?_)
    refine jN ⟨(js4 (jC (Eq.symm (by simp_all))) rfl rfl rfl), (by first | exact hd6.frm | exact Frm.refl _ _)⟩
   refine je (Run.pickF rfl rfl au) (jM ?_)
   refine jk (Run.fieldAddr rfl zaa rfl zk jd) ?_
   refine jk (Run.load rfl zo (hb6.cell 3)) ?_
   refine jk (Run.fieldAddr rfl zaa rfl zk jd) ?_
   refine jk (Run.load rfl zo (hb7.cell 3)) ?_
   refine jk (Run.bin rfl rfl (Bin.neq _ _)) ?_
   by_cases hs63 : x.m.size ≠ y.m.size
   ·
    refine je (Run.pickF rfl rfl au) (jM ?_)
    refine jU ?_
    refine jU ?_
    refine jU ?_
    refine jU ?_
    refine jU ?_
    refine je (Run.pickT rfl rfl au) (jM ?_)
    refine jU ?_
    refine jU ?_
    refine jU ?_
    refine jU ?_
    refine jU ?_
    refine jU ?_
    refine je (Run.pickT rfl rfl au) (jO ?_)
    refine jN ⟨(js4 (jC (Eq.symm (by simp_all))) rfl rfl rfl), (by first | exact hd6.frm | exact Frm.refl _ _)⟩
   refine je (Run.pickF rfl rfl au) (jM ?_)
   refine jk (Run.fieldAddr rfl zaa rfl zdk jd) ?_
   refine jk (Run.load rfl zdn (hb6.cell 4)) ?_
   refine jk (Run.fieldAddr rfl zaa rfl zdk jd) ?_
   refine jk (Run.load rfl zdn (hb7.cell 4)) ?_
   refine jk (Run.bin rfl rfl (Bin.neqN _ _)) ?_
   by_cases hs70 : x.m.blob ≠ y.m.blob
   ·
    refine je (Run.pickF rfl rfl au) (jM ?_)
    refine jU ?_
    refine jU ?_
    refine jU ?_
    refine jU ?_
    refine jU ?_
    refine jU ?_
    refine je (Run.pickT rfl rfl au) (jO ?_)
    refine jN ⟨(js4 (jC (Eq.symm (by simp_all))) rfl rfl rfl), (by first | exact hd6.frm | exact Frm.refl _ _)⟩
   refine je (Run.pickF rfl rfl au) (jM ?_)
   refine jk (Run.fieldAddr rfl zaa rfl zac jd) ?_
   refine jk (Run.load rfl zan (hb6.cell 5)) ?_
   refine jk (Run.fieldAddr rfl zaa rfl zac jd) ?_
   refine jk (Run.load rfl zan (hb7.cell 5)) ?_
   refine Ops.clg rfl au (jE2 Tryz.call71) (mE x.A y.A x.c y.c x.m.flags y.m.flags _ (by have := hxa.n; omega) (by have := hya.n; omega) (hxa.frm hf5 jp).rd (hya.frm hf5 jp).rd) rfl ?_
   rintro e w6 ⟨rfl, hd6⟩
   refine ⟨_, rfl, ?_⟩
   by_cases hs77 : x.m.flags = y.m.flags
   ·
    refine jk (Run.not rfl) ?_
    refine je (Run.pickF rfl rfl au) (jO ?_)
    refine jN ⟨(js4 (jC (Eq.symm (by simp_all))) rfl rfl rfl), (by first | exact hd6.frm | exact Frm.refl _ _)⟩
   refine jk (Run.not rfl) ?_
   refine je (Run.pickF rfl rfl au) (jO ?_)
   refine jN ⟨(js4 (jC (Eq.symm (by simp_all))) rfl rfl rfl), (by first | exact hd6.frm | exact Frm.refl _ _)⟩
  intro Γ w6 hΓ hf6
  refine jN (VC.sub _ hΓ ?_)
  refine jD rfl (fun hc3 => ?_) fun hc3 => ?_
  ·
   refine jS (jR (ja rfl (jO (jN (jv1 4 ?_)))))
   refine jT ?_
   refine qV (qQ (qQ (qV (qQ (qN rfl ?_)))))
   refine ⟨?_, (hfr.trans hf5 jp).trans hf6 jp⟩
   rw [decide_eq_false]
   rintro ⟨_, _, h⟩
   have h1 := congrArg (fun z => z[i]?) h
   simp only [Ms, zco, zb hc2, zb hc2', zck, Option.some.injEq] at h1
   rw [hx, hy] at h1
   exact hc3 h1
  refine jQ ?_
  refine qH (jN ?_)
  refine jv3 2 3 5 ?_
  refine jR (jm rfl (jb rfl rfl (Bin.add_i64 _ 1 jo) (ja rfl (jO ?_))))
  refine jN ⟨(i + 1), (js3 rfl rfl rfl), ?_, ?_⟩
  ·
   have hxy : x.m = y.m := Classical.not_not.1 hc3
   have hf56 := hf5.trans hf6 jp
   exact ⟨hc2, hfr.trans hf56 jp, hb2.frm hf56 jp, hb3.frm hf56 jp, by rw [hms, hms2, hsm, hxy]⟩
  first | omega | (dsimp only; omega)
 refine jX ?_
 refine qJ (qJ (qT ?_))
 refine jN ?_
 refine VC.sub [] .nil ?_
 refine jS (jR (ja rfl (jO (jN (jT ?_)))))
 refine qN rfl ?_
 refine ⟨?_, hfr⟩
 have hil : i = l.length := jo
 subst hil
 rw [zah, hll, zah] at hsm
 rw [decide_eq_true ⟨hvv, hnn, hsm⟩]
end
section
open Go.RowKit Go.Sort
theorem gM (q : Tx) (w : World) : Calls Tryz.prog 12 #[encStr q] w fun e w' => e = .returned (encStr (q.take 70)) ∧ w = w' := by
 refine VC.calls (nt := 9) (res := #[.tmp 2]) Tryz.func12 rfl Tryz.ntmps12 Tryz.results12 rfl ?_
 refine jS (jR (ja rfl (jO (jN (jv1 0 ?_)))))
 refine jS (jS (jR (jm rfl (je (Run.lenT rfl zg) (jb rfl rfl (Bin.gtrN _ 70) (jO (jN (jv2 0 5 ?_))))))))
 refine jD rfl (fun hc1 => ?_) fun hc1 => ?_
 ·
  refine jS (jR (jm rfl (je (Run.sliceT 0 70 rfl zg evB.none_ (evB.some_ rfl) jo jo) ?_)))
  rw [zbo, zbk]
  refine ja rfl (jO (jN (jv1 2 ?_)))
  refine jT ?_
  refine qQ (qN rfl ?_)
  exact ⟨rfl, rfl⟩
 refine jQ (jN (jv1 0 ?_))
 refine jS (jR (jm rfl (ja rfl (jO (jN (jv1 2 ?_))))))
 refine jT ?_
 refine qN rfl ?_
 exact ⟨by rw [zp jo], rfl⟩
theorem kC (q : Tx) (w : World) (hq : q.length ≤ 1000000) : Calls Tryz.prog 77 #[encStr q] w fun e w' => e = .returned (.bool (decide (cA q))) ∧ Frm [] w w' := by
 have K := Frm.refl [] w
 refine VC.calls (nt := 11) (res := #[.tmp 2]) Tryz.func77 rfl Tryz.ntmps77 Tryz.results77 rfl ?_
 refine jS (jR (ja rfl (jO (jN (jv1 0 ?_)))))
 refine jS ?_
 refine VC.splitR [] (fun wz => Frm [] w wz) 2 (.bool (decide (cA q))) ?_ ?_
 ·
  refine jR (jM ?_)
  refine Ops.cl (jE1 Tryz.call50) (gX q _ hq) rfl ?_
  rintro e _ ⟨rfl, rfl⟩
  refine ⟨_, rfl, ?_⟩
  by_cases hs4 : isN q
  ·
   refine jM ?_
   refine jG ?_
   refine Ops.clg rfl au (jE1 Tryz.call60) (dZ q _ hq) rfl ?_
   rintro e w2 ⟨rfl, hf2⟩
   refine ⟨_, rfl, ?_⟩
   have K := K.trans hf2 jp
   refine jG ?_
   refine jk (Run.eqlT rfl rfl) ?_
   refine je (Run.pickT rfl rfl au) (ja rfl (jO ?_))
   refine jN ⟨(js1 (jC (by simp [cA, *]))), (K)⟩
  refine jM ?_
  refine jU ?_
  refine jU ?_
  refine jU ?_
  refine jU ?_
  refine je (Run.pickF rfl rfl au) (ja rfl (jO ?_))
  refine jN ⟨(js1 (jC (by simp [cA, *]))), (K)⟩
 intro Γ wz hΓ K
 refine jN (VC.sub _ hΓ ?_)
 refine jT ?_
 refine qN rfl ?_
 exact ⟨rfl, K⟩
set_option maxHeartbeats 1000000 in
theorem lH (m1 m2 : MlC) (w : World) (hm1 : RdL w m1) (hm2 : RdL w m2) : Calls Tryz.prog 15 #[m1.val, m2.val] w fun e w' => e = .returned (.bool (decide (m1.p = m2.p))) ∧ Frm [] w w' := by
 have hn1 := hm1.ln
 have hn2 := hm2.ln
 have hs1 := hm1.sn
 have hs2 := hm2.sn
 have hext : m1.p = m2.p ↔ m1.v = m2.v ∧ m1.b = m2.b ∧ Ns m1.l = Ns m2.l ∧ m1.ss = m2.ss := by
  constructor
  ·
   intro h
   injection h with h1 h2 h3 h4
   exact ⟨h3, h4, h1, h2⟩
  rintro ⟨h1, h2, h3, h4⟩
  show MailP.mk _ _ _ _ = MailP.mk _ _ _ _
  rw [h1, h2, h3, h4]
 refine VC.calls (nt := 91) (res := #[.tmp 4]) Tryz.func15 rfl Tryz.ntmps15 Tryz.results15 rfl ?_
 refine jS (jR ?_)
 refine Ops.m (qK.box rfl) rfl ?_
 rintro _ w1 ⟨rfl, hF_w1⟩
 have hb1 : Blk w1 w.heap.size 25 m1.cells.toArray := hF_w1.blk
 have K := hF_w1.frm
 generalize w.heap.size = g1 at hb1 ⊢
 refine Ops.m (qK.box rfl) rfl ?_
 rintro _ w2 ⟨rfl, hF_w2⟩
 have hb2 : Blk w2 w1.heap.size 25 m2.cells.toArray := hF_w2.blk
 have hb1 := hb1.frm hF_w2.frm jp
 have K := K.trans hF_w2.frm jp
 generalize w1.heap.size = g2 at hb2 ⊢
 refine ja rfl (jO (jN (jv2 2 3 ?_)))
 refine jS (jS ?_)
 refine VC.split1 [(2, _), (3, _)] (js2 rfl rfl) 36 (.bool (decide (m1.v ≠ m2.v ∨ m1.b ≠ m2.b ∨ m1.l.length ≠ m2.l.length ∨ m1.ss.length ≠ m2.ss.length))) ?_ ?_
 ·
  refine jR (jf rfl zf rfl zk (jl rfl zo (hb1.cell 2) (jf rfl zf rfl zk (jl rfl zo (hb2.cell 2) (jb rfl rfl (Bin.neq _ _) ?_)))))
  by_cases hs11 : m1.v ≠ m2.v
  ·
   refine jM ?_
   refine jU ?_
   refine jU ?_
   refine jU ?_
   refine jU ?_
   refine jU ?_
   refine je (Run.pickT rfl rfl au) (jM ?_)
   refine jU ?_
   refine jU ?_
   refine jU ?_
   refine jU ?_
   refine jU ?_
   refine jU ?_
   refine jU ?_
   refine je (Run.pickT rfl rfl au) (jM ?_)
   refine jU ?_
   refine jU ?_
   refine jU ?_
   refine jU ?_
   refine jU ?_
   refine jU ?_
   refine jU ?_
   refine je (Run.pickT rfl rfl au) (jO ?_)
   refine jN ⟨(js3 (jC (by clear hext; simp [*])) rfl rfl), rfl⟩
  refine jM ?_
  refine jk (Run.fieldAddr rfl zf rfl zk jd) ?_
  refine jk (Run.load rfl zo (hb1.cell 3)) ?_
  refine jk (Run.fieldAddr rfl zf rfl zk jd) ?_
  refine jk (Run.load rfl zo (hb2.cell 3)) ?_
  refine jk (Run.bin rfl rfl (Bin.neq _ _)) ?_
  by_cases hs17 : m1.b ≠ m2.b
  ·
   refine je (Run.pickF rfl rfl au) (jM ?_)
   refine jU ?_
   refine jU ?_
   refine jU ?_
   refine jU ?_
   refine jU ?_
   refine jU ?_
   refine jU ?_
   refine je (Run.pickT rfl rfl au) (jM ?_)
   refine jU ?_
   refine jU ?_
   refine jU ?_
   refine jU ?_
   refine jU ?_
   refine jU ?_
   refine jU ?_
   refine je (Run.pickT rfl rfl au) (jO ?_)
   refine jN ⟨(js3 (jC (by clear hext; simp [*])) rfl rfl), rfl⟩
  refine je (Run.pickF rfl rfl au) (jM ?_)
  refine jk (Run.fieldAddr rfl zf rfl zw jd) ?_
  refine jk (Run.load rfl zak (hb1.cell 0)) ?_
  refine jk (Run.lenS rfl ze) ?_
  refine jk (Run.fieldAddr rfl zf rfl zw jd) ?_
  refine jk (Run.load rfl zak (hb2.cell 0)) ?_
  refine jk (Run.lenS rfl ze) ?_
  refine jk (Run.bin rfl rfl (Bin.neqN _ _)) ?_
  by_cases hs26 : m1.l.length ≠ m2.l.length
  ·
   refine je (Run.pickF rfl rfl au) (jM ?_)
   refine jU ?_
   refine jU ?_
   refine jU ?_
   refine jU ?_
   refine jU ?_
   refine jU ?_
   refine jU ?_
   refine je (Run.pickT rfl rfl au) (jO ?_)
   refine jN ⟨(js3 (jC (by clear hext; simp [*])) rfl rfl), rfl⟩
  refine je (Run.pickF rfl rfl au) (jM ?_)
  refine jk (Run.fieldAddr rfl zf rfl zac jd) ?_
  refine jk (Run.load rfl zan (hb1.cell 1)) ?_
  refine jk (Run.lenS rfl zd) ?_
  refine jk (Run.fieldAddr rfl zf rfl zac jd) ?_
  refine jk (Run.load rfl zan (hb2.cell 1)) ?_
  refine jk (Run.lenS rfl zd) ?_
  refine jk (Run.bin rfl rfl (Bin.neqN _ _)) ?_
  refine je (Run.pickF rfl rfl au) (jO ?_)
  refine jN ⟨(js3 (jC (by clear hext; simp [*])) rfl rfl), rfl⟩
 intro Γ hΓ
 refine jN (VC.sub _ hΓ ?_)
 refine jD rfl (fun hc1 => ?_) fun hc1 => ?_
 ·
  have hbad : ¬ m1.p = m2.p := fun h => by
   obtain ⟨h1, h2, h3, h4⟩ := hext.1 h
   have h5 := congrArg List.length h3
   rw [bM, bM] at h5
   rw [h4] at hc1
   omega
  refine jS (jR (ja rfl (jO (jN (jv1 4 ?_)))))
  refine jT ?_
  refine qQ (qN rfl ?_)
  exact ⟨by rw [decide_eq_false hbad], K⟩
 obtain ⟨hvv, hbb, hll, hss⟩ : m1.v = m2.v ∧ m1.b = m2.b ∧ m1.l.length = m2.l.length ∧ m1.ss.length = m2.ss.length := by omega
 refine jQ (jN (jv2 2 3 ?_))
 refine jS (jS (jR (jz 0 (jO (jN (jB ?_))))))
 refine VC.loop (σ := Nat) (fun s => [(2, .pointer (some ⟨g1, 0, none⟩)), (3, .pointer (some ⟨g2, 0, none⟩)), (5, .int .i64 ((s : Nat) : Int))]) (fun s wr => s ≤ m1.l.length ∧ (∀ j (h1 : j < m1.l.length) (h2 : j < m2.l.length), j < s → (m1.l[j]).p = (m2.l[j]).p) ∧ Blk wr g1 25 m1.cells.toArray ∧ Blk wr g2 25 m2.cells.toArray ∧ Frm [] w wr) (fun s => m1.l.length - s) 0 (js3 rfl rfl rfl) ⟨zaf _, fun _ _ _ h => jo, hb1, hb2, K⟩ ?_
 rintro i wr ⟨hi, hd, hb1, hb2, K⟩
 refine jS (jS (jR (jm rfl (jf rfl zf rfl zw (jl rfl zak (hb1.cell 0) (je (Run.lenS rfl ze) (jb rfl rfl (Bin.lssN _ _) (jO (jN (jv4 2 3 5 41 ?_))))))))))
 refine jD rfl (fun hc2 => ?_) fun hc2 => ?_
 ·
  obtain ⟨ad1, had1, helad1⟩ : ∃ ad, m1.A = some ad ∧ ∀ W, Frm [] wr W → ∀ j v, (m1.l[i]).cells[j]? = some v → W.cell? ((ad.add (i * 4)).add j) = some v := by
   have hi' : i < m1.l.length := by omega
   obtain ⟨ad, hA, _⟩ := (hm1.frm K).l.elem hi'
   refine ⟨ad, hA, fun W hW => ?_⟩
   obtain ⟨ad', hA', h⟩ := (hm1.frm (K.trans hW jp)).l.elem hi'
   rw [hA] at hA'
   cases hA'
   exact h
  obtain ⟨ad2, had2, helad2⟩ : ∃ ad, m2.A = some ad ∧ ∀ W, Frm [] wr W → ∀ j v, (m2.l[i]).cells[j]? = some v → W.cell? ((ad.add (i * 4)).add j) = some v := by
   have hi' : i < m2.l.length := by omega
   obtain ⟨ad, hA, _⟩ := (hm2.frm K).l.elem hi'
   refine ⟨ad, hA, fun W hW => ?_⟩
   obtain ⟨ad', hA', h⟩ := (hm2.frm (K.trans hW jp)).l.elem hi'
   rw [hA] at hA'
   cases hA'
   exact h
  have hxa := (hm1.frm K).l.el _ (zu hc2)
  have hya := (hm2.frm K).l.el _ (zu (jo : i < m2.l.length))
  generalize hx : m1.l[i] = x at *
  generalize hy : m2.l[i] = y at *
  have hpe : x.p = y.p ↔ x.nm = y.nm ∧ x.v = y.v ∧ x.n = y.n ∧ Ms x.l = Ms y.l := by
   unfold Nc.p
   constructor
   ·
    intro h
    injection h with h1 h2
    injection h2 with h2 h3 h4
    exact ⟨h1, h2, h3, h4⟩
   rintro ⟨h1, h2, h3, h4⟩
   rw [h1, h2, h3, h4]
  refine jQ (jN (jv3 2 3 5 ?_))
  refine jS (jB (jS ?_))
  refine VC.meet (σ := Unit) (fun s => [(2, .pointer (some ⟨g1, 0, none⟩)), (3, .pointer (some ⟨g2, 0, none⟩)), (5, .int .i64 ((i : Nat) : Int)), (72, .bool (decide (x.p ≠ y.p)))]) (fun s wz => Frm [] wr wz) ?_ ?_
  ·
   refine VC.held (fun W => Frm [] wr W) jK ?_
   have hS : Frm [] wr wr.drew := (Frm.refl _ _).drew
   refine jH 0 rfl hS (fun w0 hw0 => Run.fieldAddr rfl zf rfl zw jd) ?_
   refine jH 1 rfl hS (fun w0 hw0 => Run.load rfl zak ((hb1.frm hw0 jp).cell 0)) ?_
   refine jH 2 rfl hS (fun w0 hw0 => Run.mv rfl) ?_
   refine jH 3 rfl hS (fun w0 hw0 => Run.indexS i (show _ = some (Value.slice (some ad1) m1.l.length m1.c) by rw [← had1]; rfl) rfl ze zm jo) ?_
   refine jH 4 rfl hS (fun w0 hw0 => Run.fieldAddr rfl zt rfl zj jd) ?_
   refine jH 5 rfl hS (fun w0 hw0 => Run.load rfl zr (helad1 _ hw0 0 (encStr x.nm) rfl)) ?_
   refine jH 6 rfl hS (fun w0 hw0 => Run.fieldAddr rfl zf rfl zw jd) ?_
   refine jH 7 rfl hS (fun w0 hw0 => Run.load rfl zak ((hb2.frm hw0 jp).cell 0)) ?_
   refine jH 8 rfl hS (fun w0 hw0 => Run.mv rfl) ?_
   refine jH 9 rfl hS (fun w0 hw0 => Run.indexS i (show _ = some (Value.slice (some ad2) m2.l.length m2.c) by rw [← had2]; rfl) rfl ze zm jo) ?_
   refine jH 10 rfl hS (fun w0 hw0 => Run.fieldAddr rfl zt rfl zj jd) ?_
   refine jH 11 rfl hS (fun w0 hw0 => Run.load rfl zr (helad2 _ hw0 0 (encStr y.nm) rfl)) ?_
   refine jH 12 rfl hS (fun w0 hw0 => Run.neqT rfl rfl) ?_
   refine jH 13 rfl hS (fun w0 hw0 => Run.mv rfl) ?_
   by_cases hs57 : x.nm ≠ y.nm
   ·
    refine qZ.skip 14 rfl jK jK jK hS rfl rfl (decide_eq_true hs57) rfl rfl ?_
    refine qZ.skip 15 rfl jK jK jK hS rfl rfl (decide_eq_true hs57) rfl rfl ?_
    refine qZ.skip 16 rfl jK jK jK hS rfl rfl (decide_eq_true hs57) rfl rfl ?_
    refine qZ.skip 17 rfl jK jK jK hS rfl rfl (decide_eq_true hs57) rfl rfl ?_
    refine qZ.skip 18 rfl jK jK jK hS rfl rfl (decide_eq_true hs57) rfl rfl ?_
    refine qZ.skip 19 rfl jK jK jK hS rfl rfl (decide_eq_true hs57) rfl rfl ?_
    refine qZ.skip 20 rfl jK jK jK hS rfl rfl (decide_eq_true hs57) rfl rfl ?_
    refine qZ.skip 21 rfl jK jK jK hS rfl rfl (decide_eq_true hs57) rfl rfl ?_
    refine qZ.skip 22 rfl jK jK jK hS rfl rfl (decide_eq_true hs57) rfl rfl ?_
    refine qZ.skip 23 rfl jK jK jK hS rfl rfl (decide_eq_true hs57) rfl rfl ?_
    refine qZ.skip 24 rfl jK jK jK hS rfl rfl (decide_eq_true hs57) rfl rfl ?_
    refine qZ.skip 25 rfl jK jK jK hS rfl rfl (decide_eq_true hs57) rfl rfl ?_
    refine qZ.skip 26 rfl jK jK jK hS rfl rfl (decide_eq_true hs57) rfl rfl ?_
    refine qZ.skip 27 rfl jK jK jK hS rfl rfl (decide_eq_true hs57) rfl rfl ?_
    refine jH 28 rfl hS (fun w0 hw0 => Run.pickT rfl rfl (decide_eq_true hs57)) ?_
    refine qZ.done jK ?_
    refine jN ⟨(), (js4 rfl rfl rfl (by rw [show decide (x.p ≠ y.p) = true from decide_eq_true (fun h => hs57 (hpe.1 h).1)]; rfl)), ?_⟩
    exact hS
   refine qZ.take 14 rfl jK jK jK hS (fun w0 hw0 => Run.fieldAddr rfl zf rfl zw jd) (Up.g rfl ((decide_eq_false hs57))) rfl rfl ?_
   refine qZ.take 15 rfl jK jK jK hS (fun w0 hw0 => Run.load rfl zak ((hb1.frm hw0 jp).cell 0)) (Up.g rfl ((decide_eq_false hs57))) rfl rfl ?_
   refine qZ.take 16 rfl jK jK jK hS (fun w0 hw0 => Run.mv rfl) (Up.g rfl ((decide_eq_false hs57))) rfl rfl ?_
   refine qZ.take 17 rfl jK jK jK hS (fun w0 hw0 => Run.indexS i (show _ = some (Value.slice (some ad1) m1.l.length m1.c) by rw [← had1]; rfl) rfl ze zm jo) (Up.g rfl ((decide_eq_false hs57))) rfl rfl ?_
   refine qZ.take 18 rfl jK jK jK hS (fun w0 hw0 => Run.fieldAddr rfl zt rfl zq jd) (Up.g rfl ((decide_eq_false hs57))) rfl rfl ?_
   refine qZ.take 19 rfl jK jK jK hS (fun w0 hw0 => Run.loadA rfl zat zq (cs := BVc x.v x.n x.A x.l.length x.c) (fun j v hj => by rw [Go.Proofs.YtgmbmfpfhcekiaaGreat.add_add]; exact helad1 _ hw0 (1 + j) v (by rw [Nat.add_comm]; exact hj)) (by first | rfl | (simp; done))) (Up.g rfl ((decide_eq_false hs57))) rfl rfl ?_
   refine qZ.take 20 rfl jK jK jK hS (fun w0 hw0 => Run.fieldAddr rfl zf rfl zw jd) (Up.g rfl ((decide_eq_false hs57))) rfl rfl ?_
   refine qZ.take 21 rfl jK jK jK hS (fun w0 hw0 => Run.load rfl zak ((hb2.frm hw0 jp).cell 0)) (Up.g rfl ((decide_eq_false hs57))) rfl rfl ?_
   refine qZ.take 22 rfl jK jK jK hS (fun w0 hw0 => Run.mv rfl) (Up.g rfl ((decide_eq_false hs57))) rfl rfl ?_
   refine qZ.take 23 rfl jK jK jK hS (fun w0 hw0 => Run.indexS i (show _ = some (Value.slice (some ad2) m2.l.length m2.c) by rw [← had2]; rfl) rfl ze zm jo) (Up.g rfl ((decide_eq_false hs57))) rfl rfl ?_
   refine qZ.take 24 rfl jK jK jK hS (fun w0 hw0 => Run.fieldAddr rfl zt rfl zq jd) (Up.g rfl ((decide_eq_false hs57))) rfl rfl ?_
   refine qZ.take 25 rfl jK jK jK hS (fun w0 hw0 => Run.loadA rfl zat zq (cs := BVc y.v y.n y.A y.l.length y.c) (fun j v hj => by rw [Go.Proofs.YtgmbmfpfhcekiaaGreat.add_add]; exact helad2 _ hw0 (1 + j) v (by rw [Nat.add_comm]; exact hj)) (by first | rfl | (simp; done))) (Up.g rfl ((decide_eq_false hs57))) rfl rfl ?_
   refine qZ.cl 26 rfl jK (jE2 Tryz.call22) (rN x.v x.n y.v y.n x.A y.A x.c y.c x.l y.l _ (hxa.rd.frm hS) (hya.rd.frm hS) (by have := hxa.n; omega) (by have := hya.n; omega)) (Up.g rfl ((decide_eq_false hs57))) rfl rfl ?_
   rintro e wA ⟨rfl, hfA⟩
   have hSA := hS.trans hfA jp
   refine ⟨_, rfl, hSA, ?_⟩
   have hS := hSA
   refine qZ.take 27 rfl jK jK jK hS (fun w0 hw0 => Run.not rfl) (Up.g rfl ((decide_eq_false hs57))) rfl rfl ?_
   refine jH 28 rfl hS (fun w0 hw0 => Run.pickF rfl rfl (decide_eq_false hs57)) ?_
   refine qZ.done jK ?_
   refine jN ⟨(), (js4 rfl rfl rfl (by rw [show decide (x.p ≠ y.p) = !decide (x.v = y.v ∧ x.n = y.n ∧ Ms x.l = Ms y.l) from by rw [← decide_not, decide_eq_decide]; exact not_congr (hpe.trans ⟨fun h => h.2, fun h => ⟨Classical.not_not.1 hs57, h⟩⟩)]; rfl)), ?_⟩
   exact hS
  rintro _ wz hfz Γ hΓ
  have hb1 := hb1.frm hfz jp
  have hb2 := hb2.frm hfz jp
  have K := K.trans hfz jp
  refine jN (VC.sub _ hΓ ?_)
  refine VC.condB rfl (fun hc3 => ?_) (fun hc3 => ?_)
  ·
   have hbad : ¬ m1.p = m2.p := fun h => by
    have h3 := (hext.1 h).2.2.1
    have h4 := congrArg (fun l => l[i]?) h3
    simp only [Ns, zco, zb hc2, zb (jo : i < m2.l.length), hx, hy, zck, Option.some.injEq] at h4
    exact (of_decide_eq_true hc3) h4
   refine jS (jR (ja rfl (jO (jN (jv1 4 ?_)))))
   refine jT ?_
   refine qV (qQ (qQ (qV (qQ (qN rfl ?_)))))
   exact ⟨by rw [decide_eq_false hbad], K⟩
  have hc3 : x.p = y.p := Classical.not_not.1 (of_decide_eq_false hc3)
  refine jQ ?_
  refine qH (jN ?_)
  refine jv3 2 3 5 ?_
  refine jR (jm rfl (jb rfl rfl (Bin.add_i64 _ 1 jo) (ja rfl (jO ?_))))
  refine jN ⟨(i + 1), (js3 rfl rfl rfl), ?_, ?_⟩
  ·
   refine ⟨hc2, fun j h1 h2 hj => ?_, hb1, hb2, K⟩
   by_cases e : j = i
   ·
    subst e
    rw [hx, hy]
    exact hc3
   exact hd j h1 h2 jo
  first | omega | (dsimp only; omega)
 obtain rfl : i = m1.l.length := by omega
 have hNs : Ns m1.l = Ns m2.l := List.ext_getElem (by rw [bM, bM]; exact hll) (fun j h1 h2 => by
  rw [bM] at h1 h2
  rw [show (Ns m1.l)[j] = (m1.l[j]).p from zay _, show (Ns m2.l)[j] = (m2.l[j]).p from zay _]
  exact hd j h1 h2 h1)
 refine jX ?_
 refine qJ (qJ (qT ?_))
 refine jN (jv2 2 3 ?_)
 refine jS (jS (jR (jz 0 (jO (jN (jB ?_))))))
 refine VC.loop (σ := Nat) (fun s => [(2, .pointer (some ⟨g1, 0, none⟩)), (3, .pointer (some ⟨g2, 0, none⟩)), (6, .int .i64 ((s : Nat) : Int))]) (fun s wr => s ≤ m1.ss.length ∧ (∀ j, j < s → m1.ss[j]? = m2.ss[j]?) ∧ Blk wr g1 25 m1.cells.toArray ∧ Blk wr g2 25 m2.cells.toArray ∧ Frm [] w wr) (fun s => m1.ss.length - s) 0 (js3 rfl rfl rfl) ⟨zaf _, fun _ h => jo, hb1, hb2, K⟩ ?_
 rintro k wr ⟨hk, hd2, hb1, hb2, K⟩
 refine jS (jS (jR (jm rfl (jf rfl zf rfl zac (jl rfl zan (hb1.cell 1) (je (Run.lenS rfl zd) (jb rfl rfl (Bin.lssN _ _) (jO (jN (jv4 2 3 6 77 ?_))))))))))
 refine jD rfl (fun hc4 => ?_) fun hc4 => ?_
 ·
  have hdw := bQ.drew wr
  have hb1 := hb1.drawn hdw
  have hb2 := hb2.drawn hdw
  have K := K.drawn hdw
  have hk2 : k < m2.ss.length := by omega
  obtain ⟨ad1, had1, hel1⟩ := (hm1.s.frm K jp).elem hc4
  obtain ⟨ad2, had2, hel2⟩ := (hm2.s.frm K jp).elem hk2
  have hg1 : m1.ss[k]? = some m1.ss[k] := zb hc4
  have hg2 : m2.ss[k]? = some m2.ss[k] := zb hk2
  refine jQ (jN (jv3 2 3 6 ?_))
  refine jS (jB (jS ?_))
  refine VC.still jK jK ?_
  refine qE (Run.fieldAddr rfl zf rfl zac jd) ?_
  refine qE (Run.load rfl zan (hb1.cell 1)) ?_
  refine qM ?_
  refine qE (Run.indexS k (show _ = some (Value.slice (some ad1) m1.ss.length m1.d) by rw [← had1]; rfl) rfl zd zj hc4) ?_
  refine qE (Run.load rfl zr (hel1 0 (encStr m1.ss[k]) (by simp [SB, hc4]))) ?_
  refine qE (Run.fieldAddr rfl zf rfl zac jd) ?_
  refine qE (Run.load rfl zan (hb2.cell 1)) ?_
  refine qM ?_
  refine qE (Run.indexS k (show _ = some (Value.slice (some ad2) m2.ss.length m2.d) by rw [← had2]; rfl) rfl zd zj hk2) ?_
  refine qE (Run.load rfl zr (hel2 0 (encStr m2.ss[k]) (by simp [SB, hk2]))) ?_
  refine qE (Run.neqT rfl rfl) ?_
  refine bX.nil ?_
  refine jN (jv4 2 3 6 90 ?_)
  refine jD rfl (fun hc5 => ?_) fun hc5 => ?_
  ·
   have hbad : ¬ m1.p = m2.p := fun h => by
    have h3 := congrArg (fun l => l[k]?) (hext.1 h).2.2.2
    simp only [hg1, hg2, Option.some.injEq] at h3
    exact hc5 h3
   refine jS (jR (ja rfl (jO (jN (jv1 4 ?_)))))
   refine jT ?_
   refine qV (qQ (qQ (qV (qQ (qN rfl ?_)))))
   exact ⟨by rw [decide_eq_false hbad], K⟩
  have hc5 : m1.ss[k] = m2.ss[k] := Classical.not_not.1 hc5
  refine jQ ?_
  refine qH (jN ?_)
  refine jv3 2 3 6 ?_
  refine jR (jm rfl (jb rfl rfl (Bin.add_i64 _ 1 jo) (ja rfl (jO ?_))))
  refine jN ⟨(k + 1), (js3 rfl rfl rfl), ?_, ?_⟩
  ·
   refine ⟨hc4, fun j hj => ?_, hb1, hb2, K⟩
   by_cases e : j = k
   ·
    subst e
    rw [hg1, hg2, hc5]
   exact hd2 j jo
  first | omega | (dsimp only; omega)
 refine jX ?_
 refine qJ (qJ (qT ?_))
 refine jN ?_
 refine VC.sub [] .nil ?_
 refine jS (jR (ja rfl (jO (jN (jT ?_)))))
 refine qN rfl ?_
 obtain rfl : k = m1.ss.length := by omega
 have hse : m1.ss = m2.ss := zcc (fun j => by
  rcases zce j m1.ss.length with h | h
  · exact hd2 j h
  rw [zbb h, zbb jo])
 exact ⟨by rw [decide_eq_true (hext.2 ⟨hvv, hbb, hNs, hse⟩)], K⟩
def atR (l : List NmP) (t : Tx) : Int := match l.findIdx? (fun x => decide (x.1 = t)) with | some i => (i : Int) | none => -1
theorem sW {l : List NmP} {t : Tx} : atR l t < 0 ↔ t ∉ l.map Prod.fst := by
 unfold atR
 cases h : l.findIdx? (fun x => decide (x.1 = t)) with
 | none =>
  rw [List.findIdx?_eq_none_iff] at h
  refine ⟨fun _ hm => ?_, fun _ => jd⟩
  obtain ⟨x, hx, rfl⟩ := List.mem_map.1 hm
  have := h x hx
  simp at this
 | some i =>
  rw [List.findIdx?_eq_some_iff_getElem] at h
  obtain ⟨h1, h2, _⟩ := h
  refine ⟨fun h3 => by dsimp only at h3; omega, fun h3 => absurd ?_ h3⟩
  rw [← of_decide_eq_true h2]
  exact zbh (zu h1)
theorem xB (A : Option Addr) (c : Nat) (l : List Nc) (q : Tx) (w : World) (hl : RdN w A l) (hln : l.length ≤ 1000000) (hq : q.length ≤ 1000000) : Calls Tryz.prog 30 #[.slice A l.length c, encStr q] w fun e w' => e = .returned (.int .i64 (atR (Ns l) (qW q))) ∧ Frm [] w w' := by
 have K := Frm.refl [] w
 refine VC.calls (nt := 21) (res := #[.tmp 4]) Tryz.func30 rfl Tryz.ntmps30 Tryz.results30 rfl ?_
 refine jS (jR (jz 0 (jO (jN (jv2 0 1 ?_)))))
 refine jS (jS (jR (jz 0 (jO (jN (jB ?_))))))
 refine VC.loop (σ := Nat) (fun s => [(0, .slice A l.length c), (1, encStr q), (5, .int .i64 ((s : Nat) : Int))]) (fun s wr => s ≤ l.length ∧ (∀ j (h : j < l.length), j < s → (l[j]).nm ≠ qW q) ∧ Frm [] w wr) (fun s => l.length - s) 0 (js3 rfl rfl rfl) ⟨zaf _, fun _ _ h => jo, K⟩ ?_
 rintro i wr ⟨hi, hd, K⟩
 refine jS (jS (jR (jm rfl (jm rfl (je (Run.lenS rfl ze) (jb rfl rfl (Bin.lssN _ _) (jO (jN (jv4 0 1 5 9 ?_)))))))))
 refine jD rfl (fun hc1 => ?_) fun hc1 => ?_
 ·
  obtain ⟨ad, hA, _⟩ := (hl.frm K).elem hc1
  have hel : ∀ W, Frm [] wr W → ∀ j v, (l[i]).cells[j]? = some v → W.cell? ((ad.add (i * 4)).add j) = some v := fun W hW => by
   obtain ⟨ad', hA', h⟩ := (hl.frm (K.trans hW jp)).elem hc1
   rw [hA] at hA'
   cases hA'
   exact h
  obtain ⟨x, hx⟩ : ∃ x, x = l[i] := ⟨_, rfl⟩
  rw [← hx] at hel
  refine jQ (jN (jv3 0 1 5 ?_))
  refine jS (jB (jS ?_))
  refine VC.held (fun W => Frm [] wr W) jK ?_
  have hS : Frm [] wr wr.drew := (Frm.refl _ _).drew
  refine jH 0 rfl hS (fun w0 hw0 => Run.mv rfl) ?_
  refine jH 1 rfl hS (fun w0 hw0 => Run.mv rfl) ?_
  refine jH 2 rfl hS (fun w0 hw0 => Run.indexS i (show _ = some (Value.slice (some ad) l.length c) by rw [← hA]; rfl) rfl ze zm hc1) ?_
  refine jH 3 rfl hS (fun w0 hw0 => Run.fieldAddr rfl zt rfl zj jd) ?_
  refine jH 4 rfl hS (fun w0 hw0 => Run.load rfl zr (hel _ hw0 0 (encStr x.nm) rfl)) ?_
  refine jH 5 rfl hS (fun w0 hw0 => Run.mv rfl) ?_
  refine qZ.cl 6 rfl jK (jE1 Tryz.call60) (dZ q _ hq) trivial rfl rfl ?_
  rintro e wA ⟨rfl, hfA⟩
  have hSA := hS.trans hfA jp
  refine ⟨_, rfl, hSA, ?_⟩
  have hS := hSA
  have K := K.trans hS jp
  refine jH 7 rfl hS (fun w0 hw0 => Run.eqlT rfl rfl) ?_
  refine qZ.done jK ?_
  refine jN (jv4 0 1 5 19 ?_)
  refine jD rfl (fun hc2 => ?_) fun hc2 => ?_
  ·
   refine jS (jR (jm rfl (ja rfl (jO (jN (jv1 4 ?_))))))
   refine jT ?_
   refine qV (qQ (qQ (qV (qQ (qN rfl ?_)))))
   have hc2 : (l[i]).nm = qW q := by
    rw [← hx]
    first | exact hc2 | exact of_decide_eq_true hc2
   refine ⟨?_, K⟩
   have e : (Ns l).findIdx? (fun x => decide (x.1 = qW q)) = some i := by
    rw [List.findIdx?_eq_some_iff_getElem]
    refine ⟨by rw [bM]; exact hc1, ?_, fun j hj => ?_⟩
    ·
     rw [show (Ns l)[i]'(by rw [bM]; exact hc1) = (l[i]).p from zay _]
     exact decide_eq_true hc2
    rw [show (Ns l)[j]'(by rw [bM]; omega) = (l[j]).p from zay _]
    simp only [decide_eq_true_eq]
    exact hd j jo hj
   unfold atR
   rw [e]
  refine jQ ?_
  refine qH (jN ?_)
  refine jv3 0 1 5 ?_
  refine jR (jm rfl (jb rfl rfl (Bin.add_i64 _ 1 jo) (ja rfl (jO ?_))))
  refine jN ⟨(i + 1), (js3 rfl rfl rfl), ?_, ?_⟩
  ·
   refine ⟨hc1, fun j h hj => ?_, K⟩
   by_cases e : j = i
   ·
    subst e
    rw [← hx]
    first | exact hc2 | exact of_decide_eq_false hc2
   exact hd j h jo
  first | omega | (dsimp only; omega)
 refine jX ?_
 refine qJ (qJ (qT ?_))
 refine jN ?_
 refine VC.sub [] .nil ?_
 refine jS (jR ?_)
 refine Ops.r (v := .int .i64 (-1)) (Run.asg rfl) rfl ?_
 refine jO (jN (jT ?_))
 refine qN rfl ?_
 refine ⟨?_, K⟩
 have e : (Ns l).findIdx? (fun x => decide (x.1 = qW q)) = none := by
  rw [List.findIdx?_eq_none_iff]
  intro x hx
  obtain ⟨y, hy, rfl⟩ := List.mem_map.1 hx
  obtain ⟨j, hj, rfl⟩ := zab hy
  exact decide_eq_false (hd j hj jo)
 unfold atR
 rw [e]
end
section
open Go.RowKit Go.Sort
def NmC (m : MlC) (i : Nat) (x : Nc) : Prop := bJ (qC m.p) i x.nm ∧ bT x.p.2 ∧ x.v ≤ m.v
instance (m : MlC) (i : Nat) (x : Nc) : Decidable (NmC m i x) := by unfold NmC; infer_instance
theorem oZ (m : MlC) {i : Nat} (h : i < m.l.length) : (qC m.p)[i]? = some (m.l[i]).nm := by
 simp [qC, MlC.p, Ns, Nc.p, zb h]
theorem nZ (m : MlC) {i : Nat} (h : i < m.l.length) {h2 : i < (qC m.p).length} : (qC m.p)[i] = (m.l[i]).nm := Option.some.inj ((zb h2).symm.trans (oZ m h))
theorem xC (m : MlC) : bU m.p ↔ ((∀ i (h : i < m.l.length), NmC m i m.l[i] ∧ (m.l[i]).v ∉ (m.l.take i).map Nc.v ∧ ∀ y ∈ (m.l[i]).l, (y.m.blob : Int) ≤ m.b) ∧ (∀ i (h : i < m.ss.length), bJ m.ss i m.ss[i])) ∧ qI ∈ m.l.map Nc.nm ∧ m.l.length ≤ 24 ∧ m.ss.length ≤ 24 ∧ 1 ≤ m.v ∧ m.v ≤ 2147483647 ∧ 0 ≤ m.b ∧ m.b ≤ 2147483647 := by
 have en : qC m.p = m.l.map Nc.nm := by simp [qC, MlC.p, Ns, Nc.p]
 have el := eF m
 rw [sZ]
 constructor
 ·
  rintro ⟨⟨⟨h1, h2⟩, ⟨h3, h4⟩, h5, h6, h7, h8, h9⟩, hb⟩
  refine ⟨⟨fun i h => ?_, h4⟩, by rw [← en]; exact h9, jo, h3, h5, h6, h7, h8⟩
  have h2i := h2 i jo
  rw [nZ m h] at h2i
  obtain ⟨⟨k1, k2, k3⟩, k4⟩ := hb i h
  exact ⟨⟨h2i, k1, k2⟩, k3, k4⟩
 rintro ⟨⟨h, h4⟩, h9, h1, h3, h5, h6, h7, h8⟩
 refine ⟨⟨⟨jo, fun i hi => ?_⟩, ⟨h3, h4⟩, h5, h6, h7, h8, by rw [en]; exact h9⟩, fun i hi => ?_⟩
 ·
  have hi' : i < m.l.length := jo
  rw [nZ m hi']
  exact (h i hi').1.1
 obtain ⟨⟨_, k1, k2⟩, k3, k4⟩ := h i hi
 exact ⟨⟨k1, k2, k3⟩, k4⟩
set_option maxHeartbeats 1000000 in
theorem tO (m : MlC) (w : World) (hm : RdL w m) (hbb : m.b ≤ 9223372036854775807) : Calls Tryz.prog 26 #[m.val] w fun e w' => e = .returned (.bool (decide (bU m.p))) ∧ Frm [] w w' := by
 have hln := hm.ln
 have hsn := hm.sn
 have hMi := xC m
 refine VC.calls (nt := 166) (res := #[.tmp 2]) Tryz.func26 rfl Tryz.ntmps26 Tryz.results26 rfl ?_
 refine jS (jR ?_)
 refine Ops.m (qK.box rfl) rfl ?_
 rintro _ w1 ⟨rfl, hF_w1⟩
 have hb1 : Blk w1 w.heap.size 25 #[.slice m.A m.l.length m.c, .slice m.S m.ss.length m.d, .int .i64 m.v, .int .i64 m.b] := hF_w1.blk
 have K := hF_w1.frm
 generalize w.heap.size = g1 at hb1 ⊢
 refine ja rfl (jO (jN (jv1 1 ?_)))
 refine jS (jR (ja rfl (jO (jN (jS (jS (jR (jz 0 (jO (jN (jB ?_)))))))))))
 refine VC.loop (σ := Nat) (fun s => [(1, .pointer (some ⟨g1, 0, none⟩)), (3, .bool (decide (qI ∈ (m.l.take s).map Nc.nm))), (4, .int .i64 ((s : Nat) : Int))]) (fun s wr => s ≤ m.l.length ∧ Blk wr g1 25 #[.slice m.A m.l.length m.c, .slice m.S m.ss.length m.d, .int .i64 m.v, .int .i64 m.b] ∧ (∀ j (h : j < m.l.length), j < s → NmC m j m.l[j] ∧ (m.l[j]).v ∉ (m.l.take j).map Nc.v ∧ ∀ y ∈ (m.l[j]).l, (y.m.blob : Int) ≤ m.b) ∧ Frm [] w wr) (fun s => m.l.length - s) 0 (js3 rfl rfl rfl) ⟨zaf _, hb1, fun _ _ h => jo, K⟩ ?_
 rintro i wr ⟨hi, hb1, hd, K⟩
 refine jS (jS (jR (jm rfl (jf rfl zf rfl zw (jl rfl zak (hb1.cell 0) (je (Run.lenS rfl ze) (jb rfl rfl (Bin.lssN _ _) (jO (jN (jv4 1 3 4 13 ?_))))))))))
 refine jD rfl (fun hc1 => ?_) fun hc1 => ?_
 ·
  obtain ⟨ad, had, hel⟩ := (hm.frm K).l.elem hc1
  have hxa := (hm.frm K).l.el _ (zu hc1)
  have hts : (m.l.take (i + 1)).map Nc.nm = (m.l.take i).map Nc.nm ++ [(m.l[i]).nm] := by rw [zam, zb hc1, zax]; rfl
  have hnm : NmC m i m.l[i] ↔ (cA (m.l[i]).nm ∧ (0 < i → ((qC m.p)[i - 1]?).getD [] < (m.l[i]).nm)) ∧ bT (m.l[i]).p.2 ∧ (m.l[i]).v ≤ m.v := Iff.rfl
  have hnp : ∀ (h0 : 0 < i), (m.l[i - 1]).nm = ((qC m.p)[i - 1]?).getD [] := fun h0 => by rw [oZ m jo]; rfl
  generalize hpvd : ((qC m.p)[i - 1]?).getD [] = pv at hnm hnp
  have hxn := hxa.n
  have hxq := hxa.q
  generalize hx : m.l[i] = x at *
  refine jQ (jN (jv3 1 3 4 ?_))
  refine jS (jB (jS (jR (jf rfl zf rfl zw (jl rfl zak (hb1.cell 0) (jm rfl (je (Run.indexS i (show _ = some (Value.slice (some ad) m.l.length m.c) by rw [← had]; rfl) rfl ze zm hc1) (je (Run.loadA rfl zcy zm hel (by first | rfl | (simp; done))) ?_))))))))
  refine Ops.m (qK.alloc cG) rfl ?_
  rintro _ w2 ⟨rfl, hF2⟩
  refine Ops.st (qP.storeA rfl rfl zm hF2.blk rfl x.cells_one) ?_
  rintro w3 ⟨hb5, hf3, hs3⟩
  have hb5 : Blk w3 wr.heap.size 45 #[encStr x.nm, .int .i64 x.v, .int .i64 x.n, .slice x.A x.l.length x.c] := hb5
  have K3 : Frm [] wr w3 := hF2.frm.trans hf3 jp
  have hg5 : w.heap.size ≤ wr.heap.size := K.size
  have K := K.trans K3 jp
  have hb1 := hb1.frm K3 jp
  have hxa := hxa.frm K3
  generalize hgg5 : wr.heap.size = g5 at hb5 hg5 ⊢
  refine jO (jN (jv4 1 3 4 5 ?_))
  refine jS ?_
  refine VC.split1 [(1, _), (4, _), (5, _)] (js3 rfl rfl rfl) 3 (.bool (decide ((qI ∈ (m.l.take i).map Nc.nm) ∨ (x.nm = qI)))) ?_ ?_
  ·
   by_cases hs0 : qI ∈ (m.l.take i).map Nc.nm
   ·
    refine jR (jm rfl (jM ?_))
    refine jU ?_
    refine jU ?_
    refine jU ?_
    refine je (Run.pickT rfl rfl au) (ja rfl (jO ?_))
    refine jN ⟨(js4 (by rw [dor1 hs0]; rfl) rfl rfl rfl), rfl⟩
   refine jR (jm rfl (jM ?_))
   refine jk (Run.fieldAddr rfl zt rfl zj jd) ?_
   refine jk (Run.load rfl zr (hb5.cell 0)) ?_
   refine jk (Run.eqlT rfl rfl) ?_
   refine je (Run.pickF rfl rfl au) (ja rfl (jO ?_))
   refine jN ⟨(js4 (by rw [dor0 hs0]; rfl) rfl rfl rfl), rfl⟩
  intro Γ hΓ
  refine jN (VC.sub _ hΓ (jS (jS ?_)))
  refine VC.meet (σ := Unit) (fun s => [(1, .pointer (some ⟨g1, 0, none⟩)), (3, .bool (decide (qI ∈ (m.l.take i).map Nc.nm ∨ x.nm = qI))), (4, .int .i64 ((i : Nat) : Int)), (5, .pointer (some ⟨g5, 0, none⟩)), (60, .bool (decide (¬ ((cA x.nm ∧ (0 < i → pv < x.nm)) ∧ bT ⟨x.v, x.n, Ms x.l⟩ ∧ x.v ≤ m.v))))]) (fun s wz => Frm [] w3 wz) ?_ ?_
  ·
   refine VC.held (fun W => Frm [] w3 W) jK ?_
   have hS : Frm [] w3 w3.drew := (Frm.refl _ _).drew
   refine jH 0 rfl hS (fun w0 hw0 => Run.fieldAddr rfl zt rfl zj jd) ?_
   refine jH 1 rfl hS (fun w0 hw0 => Run.load rfl zr ((hb5.frm hw0 jp).cell 0)) ?_
   refine qZ.cl 2 rfl jK (jE1 Tryz.call77) (kC x.nm _ jo) trivial rfl rfl ?_
   rintro e wA ⟨rfl, hfwA⟩
   have hSwA := hS.trans hfwA jp
   refine ⟨_, rfl, hSwA, ?_⟩
   have hS := hSwA
   by_cases hs29 : cA x.nm
   ·
    refine jH 3 rfl hS (fun w0 hw0 => Run.not rfl) ?_
    refine jH 4 rfl hS (fun w0 hw0 => Run.mv rfl) ?_
    refine qZ.take 5 rfl jK jK jK hS (fun w0 hw0 => Run.mv rfl) (Up.g rfl (by first | rfl | exact decide_eq_true hs29 | (simp [hs29]; done))) rfl rfl ?_
    refine qZ.take 6 rfl jK jK jK hS (fun w0 hw0 => Run.bin rfl rfl (Bin.gtrN _ 0)) (Up.g rfl (by first | rfl | exact decide_eq_true hs29 | (simp [hs29]; done))) rfl rfl ?_
    by_cases hs33 : 0 < i
    ·
     obtain ⟨ad2, had2, hel2⟩ : ∃ ad, m.A = some ad ∧ ∀ W, Frm [] w3 W → W.cell? ((ad.add ((i - 1) * 4)).add 0) = some (encStr pv) := by
      obtain ⟨ad, hA, _⟩ := (hm.frm K).l.elem (jo : i - 1 < m.l.length)
      refine ⟨ad, hA, fun W hW => ?_⟩
      obtain ⟨ad', hA', h⟩ := (hm.frm (K.trans hW jp)).l.elem (jo : i - 1 < m.l.length)
      rw [hA] at hA'
      cases hA'
      exact h 0 _ (by rw [← hnp hs33]; rfl)
     refine qZ.take 7 rfl jK jK jK hS (fun w0 hw0 => Run.mv rfl) (Up.g rfl (by first | rfl | exact decide_eq_true hs29 | exact decide_eq_true hs33 | (simp [hs29]; done) | (simp [hs33]; done))) rfl rfl ?_
     refine qZ.take 8 rfl jK jK jK hS (fun w0 hw0 => Run.fieldAddr rfl zf rfl zw jd) (Up.g rfl (by first | rfl | exact decide_eq_true hs29 | exact decide_eq_true hs33 | (simp [hs29]; done) | (simp [hs33]; done))) rfl rfl ?_
     refine qZ.take 9 rfl jK jK jK hS (fun w0 hw0 => Run.load rfl zak ((hb1.frm hw0 jp).cell 0)) (Up.g rfl (by first | rfl | exact decide_eq_true hs29 | exact decide_eq_true hs33 | (simp [hs29]; done) | (simp [hs33]; done))) rfl rfl ?_
     refine qZ.take 10 rfl jK jK jK hS (fun w0 hw0 => Run.mv rfl) (Up.g rfl (by first | rfl | exact decide_eq_true hs29 | exact decide_eq_true hs33 | (simp [hs29]; done) | (simp [hs33]; done))) rfl rfl ?_
     refine qZ.take 11 rfl jK jK jK hS (fun w0 hw0 => Run.bin rfl rfl (Bin.sub_i64 _ 1 jo jo)) (Up.g rfl (by first | rfl | exact decide_eq_true hs29 | exact decide_eq_true hs33 | (simp [hs29]; done) | (simp [hs33]; done))) rfl rfl ?_
     refine qZ.take 12 rfl jK jK jK hS (fun w0 hw0 => Run.indexS (i - 1) (show _ = some (Value.slice (some ad2) m.l.length m.c) by rw [← had2]; rfl) rfl ze zm jo) (Up.g rfl (by first | rfl | exact decide_eq_true hs29 | exact decide_eq_true hs33 | (simp [hs29]; done) | (simp [hs33]; done))) rfl rfl ?_
     refine qZ.take 13 rfl jK jK jK hS (fun w0 hw0 => Run.fieldAddr rfl zt rfl zj jd) (Up.g rfl (by first | rfl | exact decide_eq_true hs29 | exact decide_eq_true hs33 | (simp [hs29]; done) | (simp [hs33]; done))) rfl rfl ?_
     refine qZ.take 14 rfl jK jK jK hS (fun w0 hw0 => Run.load rfl zr (hel2 _ hw0)) (Up.g rfl (by first | rfl | exact decide_eq_true hs29 | exact decide_eq_true hs33 | (simp [hs29]; done) | (simp [hs33]; done))) rfl rfl ?_
     refine qZ.take 15 rfl jK jK jK hS (fun w0 hw0 => Run.fieldAddr rfl zt rfl zj jd) (Up.g rfl (by first | rfl | exact decide_eq_true hs29 | exact decide_eq_true hs33 | (simp [hs29]; done) | (simp [hs33]; done))) rfl rfl ?_
     refine qZ.take 16 rfl jK jK jK hS (fun w0 hw0 => Run.load rfl zr ((hb5.frm hw0 jp).cell 0)) (Up.g rfl (by first | rfl | exact decide_eq_true hs29 | exact decide_eq_true hs33 | (simp [hs29]; done) | (simp [hs33]; done))) rfl rfl ?_
     refine qZ.take 17 rfl jK jK jK hS (fun w0 hw0 => Run.geqT rfl rfl) (Up.g rfl (by first | rfl | exact decide_eq_true hs29 | exact decide_eq_true hs33 | (simp [hs29]; done) | (simp [hs33]; done))) rfl rfl ?_
     by_cases hs44 : pv < x.nm
     ·
      refine qZ.take 18 rfl jK jK jK hS (fun w0 hw0 => Run.pickT rfl rfl (by first | rfl | exact decide_eq_true hs29 | exact decide_eq_true hs33 | exact decide_eq_false hs44 | (simp [hs29]; done) | (simp [hs33]; done) | (simp [hs44]; done))) (Up.g rfl (by first | rfl | exact decide_eq_true hs29 | exact decide_eq_true hs33 | exact decide_eq_false hs44 | (simp [hs29]; done) | (simp [hs33]; done) | (simp [hs44]; done))) rfl rfl ?_
      refine jH 19 rfl hS (fun w0 hw0 => Run.pickF rfl rfl (by first | rfl | exact decide_eq_true hs29 | exact decide_eq_true hs33 | exact decide_eq_false hs44 | (simp [hs29]; done) | (simp [hs33]; done) | (simp [hs44]; done))) ?_
      refine jH 20 rfl hS (fun w0 hw0 => Run.mv rfl) ?_
      refine qZ.take 21 rfl jK jK jK hS (fun w0 hw0 => Run.fieldAddr rfl zt rfl zq jd) (Up.g rfl (by first | rfl | exact decide_eq_true hs29 | exact decide_eq_true hs33 | exact decide_eq_false hs44 | (simp [hs29]; done) | (simp [hs33]; done) | (simp [hs44]; done))) rfl rfl ?_
      refine qZ.take 22 rfl jK jK jK hS (fun w0 hw0 => Run.loadA rfl zat zq ((hb5.frm hw0 jp).sub 1 (BVc x.v x.n x.A x.l.length x.c) rfl) (by first | rfl | (simp; done))) (Up.g rfl (by first | rfl | exact decide_eq_true hs29 | exact decide_eq_true hs33 | exact decide_eq_false hs44 | (simp [hs29]; done) | (simp [hs33]; done) | (simp [hs44]; done))) rfl rfl ?_
      refine qZ.cl 23 rfl jK (jE1 Tryz.call78) (oX x.v x.n x.A x.c x.l _ (hxa.rd.frm hS) jo) (Up.g rfl (by first | rfl | exact decide_eq_true hs29 | exact decide_eq_true hs33 | exact decide_eq_false hs44 | (simp [hs29]; done) | (simp [hs33]; done) | (simp [hs44]; done))) rfl rfl ?_
      rintro e wB ⟨rfl, hfwB⟩
      have hSwB := hS.trans hfwB jp
      refine ⟨_, rfl, hSwB, ?_⟩
      have hS := hSwB
      by_cases hs50 : bT ⟨x.v, x.n, Ms x.l⟩
      ·
       refine qZ.take 24 rfl jK jK jK hS (fun w0 hw0 => Run.not rfl) (Up.g rfl (by first | rfl | exact decide_eq_true hs29 | exact decide_eq_true hs33 | exact decide_eq_false hs44 | exact decide_eq_true hs50 | (simp [hs29]; done) | (simp [hs33]; done) | (simp [hs44]; done) | (simp [hs50]; done))) rfl rfl ?_
       refine jH 25 rfl hS (fun w0 hw0 => Run.pickF rfl rfl (by first | rfl | exact decide_eq_true hs29 | exact decide_eq_true hs33 | exact decide_eq_false hs44 | exact decide_eq_true hs50 | (simp [hs29]; done) | (simp [hs33]; done) | (simp [hs44]; done) | (simp [hs50]; done))) ?_
       refine jH 26 rfl hS (fun w0 hw0 => Run.mv rfl) ?_
       refine qZ.take 27 rfl jK jK jK hS (fun w0 hw0 => Run.fieldAddr rfl zt rfl zq jd) (Up.g rfl (by first | rfl | exact decide_eq_true hs29 | exact decide_eq_true hs33 | exact decide_eq_false hs44 | exact decide_eq_true hs50 | (simp [hs29]; done) | (simp [hs33]; done) | (simp [hs44]; done) | (simp [hs50]; done))) rfl rfl ?_
       refine qZ.take 28 rfl jK jK jK hS (fun w0 hw0 => Run.fieldAddr rfl zi rfl zk jd) (Up.g rfl (by first | rfl | exact decide_eq_true hs29 | exact decide_eq_true hs33 | exact decide_eq_false hs44 | exact decide_eq_true hs50 | (simp [hs29]; done) | (simp [hs33]; done) | (simp [hs44]; done) | (simp [hs50]; done))) rfl rfl ?_
       refine qZ.take 29 rfl jK jK jK hS (fun w0 hw0 => Run.load rfl zo ((hb5.frm hw0 jp).cell 1)) (Up.g rfl (by first | rfl | exact decide_eq_true hs29 | exact decide_eq_true hs33 | exact decide_eq_false hs44 | exact decide_eq_true hs50 | (simp [hs29]; done) | (simp [hs33]; done) | (simp [hs44]; done) | (simp [hs50]; done))) rfl rfl ?_
       refine qZ.take 30 rfl jK jK jK hS (fun w0 hw0 => Run.fieldAddr rfl zf rfl zk jd) (Up.g rfl (by first | rfl | exact decide_eq_true hs29 | exact decide_eq_true hs33 | exact decide_eq_false hs44 | exact decide_eq_true hs50 | (simp [hs29]; done) | (simp [hs33]; done) | (simp [hs44]; done) | (simp [hs50]; done))) rfl rfl ?_
       refine qZ.take 31 rfl jK jK jK hS (fun w0 hw0 => Run.load rfl zo ((hb1.frm hw0 jp).cell 2)) (Up.g rfl (by first | rfl | exact decide_eq_true hs29 | exact decide_eq_true hs33 | exact decide_eq_false hs44 | exact decide_eq_true hs50 | (simp [hs29]; done) | (simp [hs33]; done) | (simp [hs44]; done) | (simp [hs50]; done))) rfl rfl ?_
       refine qZ.take 32 rfl jK jK jK hS (fun w0 hw0 => Run.bin rfl rfl (Bin.gtr _ _)) (Up.g rfl (by first | rfl | exact decide_eq_true hs29 | exact decide_eq_true hs33 | exact decide_eq_false hs44 | exact decide_eq_true hs50 | (simp [hs29]; done) | (simp [hs33]; done) | (simp [hs44]; done) | (simp [hs50]; done))) rfl rfl ?_
       by_cases hs59 : m.v < x.v
       ·
        refine jH 33 rfl hS (fun w0 hw0 => Run.pickF rfl rfl (by first | rfl | exact decide_eq_true hs29 | exact decide_eq_true hs33 | exact decide_eq_false hs44 | exact decide_eq_true hs50 | exact decide_eq_true hs59 | (simp [hs29]; done) | (simp [hs33]; done) | (simp [hs44]; done) | (simp [hs50]; done) | (simp [hs59]; done))) ?_
        refine qZ.done jK ?_
        refine jN ⟨(), (js5 rfl rfl rfl rfl (jC (by clear hMi hd hel hm; grind))), ?_⟩
        exact hS
       refine jH 33 rfl hS (fun w0 hw0 => Run.pickF rfl rfl (by first | rfl | exact decide_eq_true hs29 | exact decide_eq_true hs33 | exact decide_eq_false hs44 | exact decide_eq_true hs50 | exact decide_eq_false hs59 | (simp [hs29]; done) | (simp [hs33]; done) | (simp [hs44]; done) | (simp [hs50]; done) | (simp [hs59]; done))) ?_
       refine qZ.done jK ?_
       refine jN ⟨(), (js5 rfl rfl rfl rfl (jC (by clear hMi hd hel hm; grind))), ?_⟩
       exact hS
      refine qZ.take 24 rfl jK jK jK hS (fun w0 hw0 => Run.not rfl) (Up.g rfl (by first | rfl | exact decide_eq_true hs29 | exact decide_eq_true hs33 | exact decide_eq_false hs44 | exact decide_eq_false hs50 | (simp [hs29]; done) | (simp [hs33]; done) | (simp [hs44]; done) | (simp [hs50]; done))) rfl rfl ?_
      refine jH 25 rfl hS (fun w0 hw0 => Run.pickF rfl rfl (by first | rfl | exact decide_eq_true hs29 | exact decide_eq_true hs33 | exact decide_eq_false hs44 | exact decide_eq_false hs50 | (simp [hs29]; done) | (simp [hs33]; done) | (simp [hs44]; done) | (simp [hs50]; done))) ?_
      refine jH 26 rfl hS (fun w0 hw0 => Run.mv rfl) ?_
      refine qZ.skip 27 rfl jK jK jK hS rfl rfl (by first | rfl | exact decide_eq_true hs29 | exact decide_eq_true hs33 | exact decide_eq_false hs44 | exact decide_eq_false hs50 | (simp [hs29]; done) | (simp [hs33]; done) | (simp [hs44]; done) | (simp [hs50]; done)) rfl rfl ?_
      refine qZ.skip 28 rfl jK jK jK hS rfl rfl (by first | rfl | exact decide_eq_true hs29 | exact decide_eq_true hs33 | exact decide_eq_false hs44 | exact decide_eq_false hs50 | (simp [hs29]; done) | (simp [hs33]; done) | (simp [hs44]; done) | (simp [hs50]; done)) rfl rfl ?_
      refine qZ.skip 29 rfl jK jK jK hS rfl rfl (by first | rfl | exact decide_eq_true hs29 | exact decide_eq_true hs33 | exact decide_eq_false hs44 | exact decide_eq_false hs50 | (simp [hs29]; done) | (simp [hs33]; done) | (simp [hs44]; done) | (simp [hs50]; done)) rfl rfl ?_
      refine qZ.skip 30 rfl jK jK jK hS rfl rfl (by first | rfl | exact decide_eq_true hs29 | exact decide_eq_true hs33 | exact decide_eq_false hs44 | exact decide_eq_false hs50 | (simp [hs29]; done) | (simp [hs33]; done) | (simp [hs44]; done) | (simp [hs50]; done)) rfl rfl ?_
      refine qZ.skip 31 rfl jK jK jK hS rfl rfl (by first | rfl | exact decide_eq_true hs29 | exact decide_eq_true hs33 | exact decide_eq_false hs44 | exact decide_eq_false hs50 | (simp [hs29]; done) | (simp [hs33]; done) | (simp [hs44]; done) | (simp [hs50]; done)) rfl rfl ?_
      refine qZ.skip 32 rfl jK jK jK hS rfl rfl (by first | rfl | exact decide_eq_true hs29 | exact decide_eq_true hs33 | exact decide_eq_false hs44 | exact decide_eq_false hs50 | (simp [hs29]; done) | (simp [hs33]; done) | (simp [hs44]; done) | (simp [hs50]; done)) rfl rfl ?_
      refine jH 33 rfl hS (fun w0 hw0 => Run.pickT rfl rfl (by first | rfl | exact decide_eq_true hs29 | exact decide_eq_true hs33 | exact decide_eq_false hs44 | exact decide_eq_false hs50 | (simp [hs29]; done) | (simp [hs33]; done) | (simp [hs44]; done) | (simp [hs50]; done))) ?_
      refine qZ.done jK ?_
      refine jN ⟨(), (js5 rfl rfl rfl rfl (jC (by clear hMi hd hel hm; grind))), ?_⟩
      exact hS
     refine qZ.take 18 rfl jK jK jK hS (fun w0 hw0 => Run.pickT rfl rfl (by first | rfl | exact decide_eq_true hs29 | exact decide_eq_true hs33 | exact decide_eq_true hs44 | (simp [hs29]; done) | (simp [hs33]; done) | (simp [hs44]; done))) (Up.g rfl (by first | rfl | exact decide_eq_true hs29 | exact decide_eq_true hs33 | exact decide_eq_true hs44 | (simp [hs29]; done) | (simp [hs33]; done) | (simp [hs44]; done))) rfl rfl ?_
     refine jH 19 rfl hS (fun w0 hw0 => Run.pickF rfl rfl (by first | rfl | exact decide_eq_true hs29 | exact decide_eq_true hs33 | exact decide_eq_true hs44 | (simp [hs29]; done) | (simp [hs33]; done) | (simp [hs44]; done))) ?_
     refine jH 20 rfl hS (fun w0 hw0 => Run.mv rfl) ?_
     refine qZ.skip 21 rfl jK jK jK hS rfl rfl (by first | rfl | exact decide_eq_true hs29 | exact decide_eq_true hs33 | exact decide_eq_true hs44 | (simp [hs29]; done) | (simp [hs33]; done) | (simp [hs44]; done)) rfl rfl ?_
     refine qZ.skip 22 rfl jK jK jK hS rfl rfl (by first | rfl | exact decide_eq_true hs29 | exact decide_eq_true hs33 | exact decide_eq_true hs44 | (simp [hs29]; done) | (simp [hs33]; done) | (simp [hs44]; done)) rfl rfl ?_
     refine qZ.skip 23 rfl jK jK jK hS rfl rfl (by first | rfl | exact decide_eq_true hs29 | exact decide_eq_true hs33 | exact decide_eq_true hs44 | (simp [hs29]; done) | (simp [hs33]; done) | (simp [hs44]; done)) rfl rfl ?_
     refine qZ.skip 24 rfl jK jK jK hS rfl rfl (by first | rfl | exact decide_eq_true hs29 | exact decide_eq_true hs33 | exact decide_eq_true hs44 | (simp [hs29]; done) | (simp [hs33]; done) | (simp [hs44]; done)) rfl rfl ?_
     refine jH 25 rfl hS (fun w0 hw0 => Run.pickT rfl rfl (by first | rfl | exact decide_eq_true hs29 | exact decide_eq_true hs33 | exact decide_eq_true hs44 | (simp [hs29]; done) | (simp [hs33]; done) | (simp [hs44]; done))) ?_
     refine jH 26 rfl hS (fun w0 hw0 => Run.mv rfl) ?_
     refine qZ.skip 27 rfl jK jK jK hS rfl rfl (by first | rfl | exact decide_eq_true hs29 | exact decide_eq_true hs33 | exact decide_eq_true hs44 | (simp [hs29]; done) | (simp [hs33]; done) | (simp [hs44]; done)) rfl rfl ?_
     refine qZ.skip 28 rfl jK jK jK hS rfl rfl (by first | rfl | exact decide_eq_true hs29 | exact decide_eq_true hs33 | exact decide_eq_true hs44 | (simp [hs29]; done) | (simp [hs33]; done) | (simp [hs44]; done)) rfl rfl ?_
     refine qZ.skip 29 rfl jK jK jK hS rfl rfl (by first | rfl | exact decide_eq_true hs29 | exact decide_eq_true hs33 | exact decide_eq_true hs44 | (simp [hs29]; done) | (simp [hs33]; done) | (simp [hs44]; done)) rfl rfl ?_
     refine qZ.skip 30 rfl jK jK jK hS rfl rfl (by first | rfl | exact decide_eq_true hs29 | exact decide_eq_true hs33 | exact decide_eq_true hs44 | (simp [hs29]; done) | (simp [hs33]; done) | (simp [hs44]; done)) rfl rfl ?_
     refine qZ.skip 31 rfl jK jK jK hS rfl rfl (by first | rfl | exact decide_eq_true hs29 | exact decide_eq_true hs33 | exact decide_eq_true hs44 | (simp [hs29]; done) | (simp [hs33]; done) | (simp [hs44]; done)) rfl rfl ?_
     refine qZ.skip 32 rfl jK jK jK hS rfl rfl (by first | rfl | exact decide_eq_true hs29 | exact decide_eq_true hs33 | exact decide_eq_true hs44 | (simp [hs29]; done) | (simp [hs33]; done) | (simp [hs44]; done)) rfl rfl ?_
     refine jH 33 rfl hS (fun w0 hw0 => Run.pickT rfl rfl (by first | rfl | exact decide_eq_true hs29 | exact decide_eq_true hs33 | exact decide_eq_true hs44 | (simp [hs29]; done) | (simp [hs33]; done) | (simp [hs44]; done))) ?_
     refine qZ.done jK ?_
     refine jN ⟨(), (js5 rfl rfl rfl rfl (jC (by clear hMi hd hel hm; grind))), ?_⟩
     exact hS
    refine qZ.take 7 rfl jK jK jK hS (fun w0 hw0 => Run.mv rfl) (Up.g rfl (by first | rfl | exact decide_eq_true hs29 | exact decide_eq_false hs33 | (simp [hs29]; done) | (simp [hs33]; done))) rfl rfl ?_
    refine qZ.skip 8 rfl jK jK jK hS rfl rfl (by first | rfl | exact decide_eq_true hs29 | exact decide_eq_false hs33 | (simp [hs29]; done) | (simp [hs33]; done)) rfl rfl ?_
    refine qZ.skip 9 rfl jK jK jK hS rfl rfl (by first | rfl | exact decide_eq_true hs29 | exact decide_eq_false hs33 | (simp [hs29]; done) | (simp [hs33]; done)) rfl rfl ?_
    refine qZ.skip 10 rfl jK jK jK hS rfl rfl (by first | rfl | exact decide_eq_true hs29 | exact decide_eq_false hs33 | (simp [hs29]; done) | (simp [hs33]; done)) rfl rfl ?_
    refine qZ.skip 11 rfl jK jK jK hS rfl rfl (by first | rfl | exact decide_eq_true hs29 | exact decide_eq_false hs33 | (simp [hs29]; done) | (simp [hs33]; done)) rfl rfl ?_
    refine qZ.skip 12 rfl jK jK jK hS rfl rfl (by first | rfl | exact decide_eq_true hs29 | exact decide_eq_false hs33 | (simp [hs29]; done) | (simp [hs33]; done)) rfl rfl ?_
    refine qZ.skip 13 rfl jK jK jK hS rfl rfl (by first | rfl | exact decide_eq_true hs29 | exact decide_eq_false hs33 | (simp [hs29]; done) | (simp [hs33]; done)) rfl rfl ?_
    refine qZ.skip 14 rfl jK jK jK hS rfl rfl (by first | rfl | exact decide_eq_true hs29 | exact decide_eq_false hs33 | (simp [hs29]; done) | (simp [hs33]; done)) rfl rfl ?_
    refine qZ.skip 15 rfl jK jK jK hS rfl rfl (by first | rfl | exact decide_eq_true hs29 | exact decide_eq_false hs33 | (simp [hs29]; done) | (simp [hs33]; done)) rfl rfl ?_
    refine qZ.skip 16 rfl jK jK jK hS rfl rfl (by first | rfl | exact decide_eq_true hs29 | exact decide_eq_false hs33 | (simp [hs29]; done) | (simp [hs33]; done)) rfl rfl ?_
    refine qZ.skip 17 rfl jK jK jK hS rfl rfl (by first | rfl | exact decide_eq_true hs29 | exact decide_eq_false hs33 | (simp [hs29]; done) | (simp [hs33]; done)) rfl rfl ?_
    refine qZ.take 18 rfl jK jK jK hS (fun w0 hw0 => Run.pickF rfl rfl (by first | rfl | exact decide_eq_true hs29 | exact decide_eq_false hs33 | (simp [hs29]; done) | (simp [hs33]; done))) (Up.g rfl (by first | rfl | exact decide_eq_true hs29 | exact decide_eq_false hs33 | (simp [hs29]; done) | (simp [hs33]; done))) rfl rfl ?_
    refine jH 19 rfl hS (fun w0 hw0 => Run.pickF rfl rfl (by first | rfl | exact decide_eq_true hs29 | exact decide_eq_false hs33 | (simp [hs29]; done) | (simp [hs33]; done))) ?_
    refine jH 20 rfl hS (fun w0 hw0 => Run.mv rfl) ?_
    refine qZ.take 21 rfl jK jK jK hS (fun w0 hw0 => Run.fieldAddr rfl zt rfl zq jd) (Up.g rfl (by first | rfl | exact decide_eq_true hs29 | exact decide_eq_false hs33 | (simp [hs29]; done) | (simp [hs33]; done))) rfl rfl ?_
    refine qZ.take 22 rfl jK jK jK hS (fun w0 hw0 => Run.loadA rfl zat zq ((hb5.frm hw0 jp).sub 1 (BVc x.v x.n x.A x.l.length x.c) rfl) (by first | rfl | (simp; done))) (Up.g rfl (by first | rfl | exact decide_eq_true hs29 | exact decide_eq_false hs33 | (simp [hs29]; done) | (simp [hs33]; done))) rfl rfl ?_
    refine qZ.cl 23 rfl jK (jE1 Tryz.call78) (oX x.v x.n x.A x.c x.l _ (hxa.rd.frm hS) jo) (Up.g rfl (by first | rfl | exact decide_eq_true hs29 | exact decide_eq_false hs33 | (simp [hs29]; done) | (simp [hs33]; done))) rfl rfl ?_
    rintro e wB ⟨rfl, hfwB⟩
    have hSwB := hS.trans hfwB jp
    refine ⟨_, rfl, hSwB, ?_⟩
    have hS := hSwB
    by_cases hs50 : bT ⟨x.v, x.n, Ms x.l⟩
    ·
     refine qZ.take 24 rfl jK jK jK hS (fun w0 hw0 => Run.not rfl) (Up.g rfl (by first | rfl | exact decide_eq_true hs29 | exact decide_eq_false hs33 | exact decide_eq_true hs50 | (simp [hs29]; done) | (simp [hs33]; done) | (simp [hs50]; done))) rfl rfl ?_
     refine jH 25 rfl hS (fun w0 hw0 => Run.pickF rfl rfl (by first | rfl | exact decide_eq_true hs29 | exact decide_eq_false hs33 | exact decide_eq_true hs50 | (simp [hs29]; done) | (simp [hs33]; done) | (simp [hs50]; done))) ?_
     refine jH 26 rfl hS (fun w0 hw0 => Run.mv rfl) ?_
     refine qZ.take 27 rfl jK jK jK hS (fun w0 hw0 => Run.fieldAddr rfl zt rfl zq jd) (Up.g rfl (by first | rfl | exact decide_eq_true hs29 | exact decide_eq_false hs33 | exact decide_eq_true hs50 | (simp [hs29]; done) | (simp [hs33]; done) | (simp [hs50]; done))) rfl rfl ?_
     refine qZ.take 28 rfl jK jK jK hS (fun w0 hw0 => Run.fieldAddr rfl zi rfl zk jd) (Up.g rfl (by first | rfl | exact decide_eq_true hs29 | exact decide_eq_false hs33 | exact decide_eq_true hs50 | (simp [hs29]; done) | (simp [hs33]; done) | (simp [hs50]; done))) rfl rfl ?_
     refine qZ.take 29 rfl jK jK jK hS (fun w0 hw0 => Run.load rfl zo ((hb5.frm hw0 jp).cell 1)) (Up.g rfl (by first | rfl | exact decide_eq_true hs29 | exact decide_eq_false hs33 | exact decide_eq_true hs50 | (simp [hs29]; done) | (simp [hs33]; done) | (simp [hs50]; done))) rfl rfl ?_
     refine qZ.take 30 rfl jK jK jK hS (fun w0 hw0 => Run.fieldAddr rfl zf rfl zk jd) (Up.g rfl (by first | rfl | exact decide_eq_true hs29 | exact decide_eq_false hs33 | exact decide_eq_true hs50 | (simp [hs29]; done) | (simp [hs33]; done) | (simp [hs50]; done))) rfl rfl ?_
     refine qZ.take 31 rfl jK jK jK hS (fun w0 hw0 => Run.load rfl zo ((hb1.frm hw0 jp).cell 2)) (Up.g rfl (by first | rfl | exact decide_eq_true hs29 | exact decide_eq_false hs33 | exact decide_eq_true hs50 | (simp [hs29]; done) | (simp [hs33]; done) | (simp [hs50]; done))) rfl rfl ?_
     refine qZ.take 32 rfl jK jK jK hS (fun w0 hw0 => Run.bin rfl rfl (Bin.gtr _ _)) (Up.g rfl (by first | rfl | exact decide_eq_true hs29 | exact decide_eq_false hs33 | exact decide_eq_true hs50 | (simp [hs29]; done) | (simp [hs33]; done) | (simp [hs50]; done))) rfl rfl ?_
     by_cases hs59 : m.v < x.v
     ·
      refine jH 33 rfl hS (fun w0 hw0 => Run.pickF rfl rfl (by first | rfl | exact decide_eq_true hs29 | exact decide_eq_false hs33 | exact decide_eq_true hs50 | exact decide_eq_true hs59 | (simp [hs29]; done) | (simp [hs33]; done) | (simp [hs50]; done) | (simp [hs59]; done))) ?_
      refine qZ.done jK ?_
      refine jN ⟨(), (js5 rfl rfl rfl rfl (jC (by clear hMi hd hel hm; grind))), ?_⟩
      exact hS
     refine jH 33 rfl hS (fun w0 hw0 => Run.pickF rfl rfl (by first | rfl | exact decide_eq_true hs29 | exact decide_eq_false hs33 | exact decide_eq_true hs50 | exact decide_eq_false hs59 | (simp [hs29]; done) | (simp [hs33]; done) | (simp [hs50]; done) | (simp [hs59]; done))) ?_
     refine qZ.done jK ?_
     refine jN ⟨(), (js5 rfl rfl rfl rfl (jC (by clear hMi hd hel hm; grind))), ?_⟩
     exact hS
    refine qZ.take 24 rfl jK jK jK hS (fun w0 hw0 => Run.not rfl) (Up.g rfl (by first | rfl | exact decide_eq_true hs29 | exact decide_eq_false hs33 | exact decide_eq_false hs50 | (simp [hs29]; done) | (simp [hs33]; done) | (simp [hs50]; done))) rfl rfl ?_
    refine jH 25 rfl hS (fun w0 hw0 => Run.pickF rfl rfl (by first | rfl | exact decide_eq_true hs29 | exact decide_eq_false hs33 | exact decide_eq_false hs50 | (simp [hs29]; done) | (simp [hs33]; done) | (simp [hs50]; done))) ?_
    refine jH 26 rfl hS (fun w0 hw0 => Run.mv rfl) ?_
    refine qZ.skip 27 rfl jK jK jK hS rfl rfl (by first | rfl | exact decide_eq_true hs29 | exact decide_eq_false hs33 | exact decide_eq_false hs50 | (simp [hs29]; done) | (simp [hs33]; done) | (simp [hs50]; done)) rfl rfl ?_
    refine qZ.skip 28 rfl jK jK jK hS rfl rfl (by first | rfl | exact decide_eq_true hs29 | exact decide_eq_false hs33 | exact decide_eq_false hs50 | (simp [hs29]; done) | (simp [hs33]; done) | (simp [hs50]; done)) rfl rfl ?_
    refine qZ.skip 29 rfl jK jK jK hS rfl rfl (by first | rfl | exact decide_eq_true hs29 | exact decide_eq_false hs33 | exact decide_eq_false hs50 | (simp [hs29]; done) | (simp [hs33]; done) | (simp [hs50]; done)) rfl rfl ?_
    refine qZ.skip 30 rfl jK jK jK hS rfl rfl (by first | rfl | exact decide_eq_true hs29 | exact decide_eq_false hs33 | exact decide_eq_false hs50 | (simp [hs29]; done) | (simp [hs33]; done) | (simp [hs50]; done)) rfl rfl ?_
    refine qZ.skip 31 rfl jK jK jK hS rfl rfl (by first | rfl | exact decide_eq_true hs29 | exact decide_eq_false hs33 | exact decide_eq_false hs50 | (simp [hs29]; done) | (simp [hs33]; done) | (simp [hs50]; done)) rfl rfl ?_
    refine qZ.skip 32 rfl jK jK jK hS rfl rfl (by first | rfl | exact decide_eq_true hs29 | exact decide_eq_false hs33 | exact decide_eq_false hs50 | (simp [hs29]; done) | (simp [hs33]; done) | (simp [hs50]; done)) rfl rfl ?_
    refine jH 33 rfl hS (fun w0 hw0 => Run.pickT rfl rfl (by first | rfl | exact decide_eq_true hs29 | exact decide_eq_false hs33 | exact decide_eq_false hs50 | (simp [hs29]; done) | (simp [hs33]; done) | (simp [hs50]; done))) ?_
    refine qZ.done jK ?_
    refine jN ⟨(), (js5 rfl rfl rfl rfl (jC (by clear hMi hd hel hm; grind))), ?_⟩
    exact hS
   refine jH 3 rfl hS (fun w0 hw0 => Run.not rfl) ?_
   refine jH 4 rfl hS (fun w0 hw0 => Run.mv rfl) ?_
   refine qZ.skip 5 rfl jK jK jK hS rfl rfl (by first | rfl | exact decide_eq_false hs29 | (simp [hs29]; done)) rfl rfl ?_
   refine qZ.skip 6 rfl jK jK jK hS rfl rfl (by first | rfl | exact decide_eq_false hs29 | (simp [hs29]; done)) rfl rfl ?_
   refine qZ.skip 7 rfl jK jK jK hS rfl rfl (by first | rfl | exact decide_eq_false hs29 | (simp [hs29]; done)) rfl rfl ?_
   refine qZ.skU 8 rfl jK jK jK hS rfl rfl rfl rfl ?_
   refine qZ.skU 9 rfl jK jK jK hS rfl rfl rfl rfl ?_
   refine qZ.skU 10 rfl jK jK jK hS rfl rfl rfl rfl ?_
   refine qZ.skU 11 rfl jK jK jK hS rfl rfl rfl rfl ?_
   refine qZ.skU 12 rfl jK jK jK hS rfl rfl rfl rfl ?_
   refine qZ.skU 13 rfl jK jK jK hS rfl rfl rfl rfl ?_
   refine qZ.skU 14 rfl jK jK jK hS rfl rfl rfl rfl ?_
   refine qZ.skU 15 rfl jK jK jK hS rfl rfl rfl rfl ?_
   refine qZ.skU 16 rfl jK jK jK hS rfl rfl rfl rfl ?_
   refine qZ.skU 17 rfl jK jK jK hS rfl rfl rfl rfl ?_
   refine qZ.skip 18 rfl jK jK jK hS rfl rfl (by first | rfl | exact decide_eq_false hs29 | (simp [hs29]; done)) rfl rfl ?_
   refine jH 19 rfl hS (fun w0 hw0 => Run.pickT rfl rfl (by first | rfl | exact decide_eq_false hs29 | (simp [hs29]; done))) ?_
   refine jH 20 rfl hS (fun w0 hw0 => Run.mv rfl) ?_
   refine qZ.skip 21 rfl jK jK jK hS rfl rfl (by first | rfl | exact decide_eq_false hs29 | (simp [hs29]; done)) rfl rfl ?_
   refine qZ.skip 22 rfl jK jK jK hS rfl rfl (by first | rfl | exact decide_eq_false hs29 | (simp [hs29]; done)) rfl rfl ?_
   refine qZ.skip 23 rfl jK jK jK hS rfl rfl (by first | rfl | exact decide_eq_false hs29 | (simp [hs29]; done)) rfl rfl ?_
   refine qZ.skip 24 rfl jK jK jK hS rfl rfl (by first | rfl | exact decide_eq_false hs29 | (simp [hs29]; done)) rfl rfl ?_
   refine jH 25 rfl hS (fun w0 hw0 => Run.pickT rfl rfl (by first | rfl | exact decide_eq_false hs29 | (simp [hs29]; done))) ?_
   refine jH 26 rfl hS (fun w0 hw0 => Run.mv rfl) ?_
   refine qZ.skip 27 rfl jK jK jK hS rfl rfl (by first | rfl | exact decide_eq_false hs29 | (simp [hs29]; done)) rfl rfl ?_
   refine qZ.skip 28 rfl jK jK jK hS rfl rfl (by first | rfl | exact decide_eq_false hs29 | (simp [hs29]; done)) rfl rfl ?_
   refine qZ.skip 29 rfl jK jK jK hS rfl rfl (by first | rfl | exact decide_eq_false hs29 | (simp [hs29]; done)) rfl rfl ?_
   refine qZ.skip 30 rfl jK jK jK hS rfl rfl (by first | rfl | exact decide_eq_false hs29 | (simp [hs29]; done)) rfl rfl ?_
   refine qZ.skip 31 rfl jK jK jK hS rfl rfl (by first | rfl | exact decide_eq_false hs29 | (simp [hs29]; done)) rfl rfl ?_
   refine qZ.skip 32 rfl jK jK jK hS rfl rfl (by first | rfl | exact decide_eq_false hs29 | (simp [hs29]; done)) rfl rfl ?_
   refine jH 33 rfl hS (fun w0 hw0 => Run.pickT rfl rfl (by first | rfl | exact decide_eq_false hs29 | (simp [hs29]; done))) ?_
   refine qZ.done jK ?_
   refine jN ⟨(), (js5 rfl rfl rfl rfl (jC (by clear hMi hd hel hm; grind))), ?_⟩
   exact hS
  rintro _ wz hfz Γ hΓ
  have hb1 := hb1.frm hfz jp
  have hb5 := hb5.frm hfz jp
  have hxa := hxa.frm hfz
  have K := K.trans hfz jp
  refine jN (VC.sub _ hΓ ?_)
  refine jD rfl (fun hc2 => ?_) fun hc2 => ?_
  ·
   have hbad : ¬ bU m.p := fun h => by
    have h2 := ((hMi.1 h).1.1 i hc1).1
    rw [hx] at h2
    exact hc2 (hnm.1 h2)
   refine jS (jR (ja rfl (jO (jN (jv1 2 ?_)))))
   refine jT ?_
   refine qQ (qV (qQ (qQ (qV (qQ (qN rfl ?_))))))
   exact ⟨by rw [decide_eq_false hbad], K⟩
  have hc2 := hnm.2 (Classical.not_not.1 hc2)
  refine jQ (jN (jv4 1 3 4 5 ?_))
  refine jS (jS (jR (jz 0 (jO (jN (jB ?_))))))
  refine VC.loop (σ := Nat) (fun s => [(1, .pointer (some ⟨g1, 0, none⟩)), (3, .bool (decide (qI ∈ (m.l.take i).map Nc.nm ∨ x.nm = qI))), (4, .int .i64 ((i : Nat) : Int)), (5, .pointer (some ⟨g5, 0, none⟩)), (6, .int .i64 ((s : Nat) : Int))]) (fun s wr => s ≤ i ∧ (∀ j (h : j < m.l.length), j < s → (m.l[j]).v ≠ x.v) ∧ Blk wr g1 25 #[.slice m.A m.l.length m.c, .slice m.S m.ss.length m.d, .int .i64 m.v, .int .i64 m.b] ∧ Blk wr g5 45 #[encStr x.nm, .int .i64 x.v, .int .i64 x.n, .slice x.A x.l.length x.c] ∧ x.At wr ∧ Frm [] w wr) (fun s => i - s) 0 (js5 rfl rfl rfl rfl rfl) ⟨zaf _, fun _ _ h => jo, hb1, hb5, hxa, K⟩ ?_
  rintro k wr ⟨hk, hd2, hb1, hb5, hxa, K⟩
  refine jS (jS (jR (jm rfl (jm rfl (jb rfl rfl (Bin.lssN _ _) (jO (jN (jv6 1 3 4 5 6 63 ?_))))))))
  refine jD rfl (fun hc3 => ?_) fun hc3 => ?_
  ·
   have hk1 : k < m.l.length := jo
   obtain ⟨adk, hadk, helk⟩ := (hm.frm K.drew).l.elem hk1
   have hdw := bQ.drew wr
   have hb1 := hb1.drawn hdw
   have hb5 := hb5.drawn hdw
   have hxa := hxa.frm hdw.frm
   have K := K.drawn hdw
   have hvk : (m.l[k]).v ∈ (m.l.take i).map Nc.v := List.mem_map.2 ⟨m.l[k], List.mem_iff_getElem.2 ⟨k, by rw [zl]; omega, zcp⟩, rfl⟩
   refine jQ (jN (jv5 1 3 4 5 6 ?_))
   refine jS (jB (jS ?_))
   refine VC.still jK jK ?_
   refine qE (Run.fieldAddr rfl zf rfl zw jd) ?_
   refine qE (Run.load rfl zak (hb1.cell 0)) ?_
   refine qM ?_
   refine qE (Run.indexS k (show _ = some (Value.slice (some adk) m.l.length m.c) by rw [← hadk]; rfl) rfl ze zm hk1) ?_
   refine qE (Run.fieldAddr rfl zt rfl zq jd) ?_
   refine qE (Run.fieldAddr rfl zi rfl zk jd) ?_
   refine qE (Run.load rfl zo (helk 1 (.int .i64 (m.l[k]).v) rfl)) ?_
   refine qE (Run.fieldAddr rfl zt rfl zq jd) ?_
   refine qE (Run.fieldAddr rfl zi rfl zk jd) ?_
   refine qE (Run.load rfl zo (hb5.cell 1)) ?_
   refine qE (Run.bin rfl rfl (Bin.eql _ _)) ?_
   refine bX.nil ?_
   refine jN (jv6 1 3 4 5 6 76 ?_)
   refine jD rfl (fun hc4 => ?_) fun hc4 => ?_
   ·
    have hbad : ¬ bU m.p := fun h => by
     have h2 := ((hMi.1 h).1.1 i hc1).2.1
     rw [hx, ← hc4] at h2
     exact h2 hvk
    refine jS (jR (ja rfl (jO (jN (jv1 2 ?_)))))
    refine jT ?_
    refine qV (qQ (qQ (qV (qQ (qV (qQ (qQ (qV (qQ (qN rfl ?_))))))))))
    exact ⟨by rw [decide_eq_false hbad], K⟩
   refine jQ ?_
   refine qH (jN ?_)
   refine jv5 1 3 4 5 6 ?_
   refine jR (jm rfl (jb rfl rfl (Bin.add_i64 _ 1 jo) (ja rfl (jO ?_))))
   refine jN ⟨(k + 1), (js5 rfl rfl rfl rfl rfl), ?_, ?_⟩
   ·
    refine ⟨hc3, fun j h1 hj => ?_, hb1, hb5, hxa, K⟩
    by_cases e : j = k
    ·
     subst e
     exact hc4
    exact hd2 j h1 jo
   first | omega | (dsimp only; omega)
  refine jX ?_
  refine qJ (qJ (qT ?_))
  refine jN (jv4 1 3 4 5 ?_)
  refine jS (jR (jz 0 (jO (jN (jB ?_)))))
  have hvn : x.v ∉ (m.l.take i).map Nc.v := fun h => by
   obtain ⟨y, hy, e⟩ := List.mem_map.1 h
   obtain ⟨j, hj, rfl⟩ := zab hy
   rw [zl] at hj
   rw [zcp] at e
   exact hd2 j jo jo e
  refine VC.loop (σ := Nat) (fun s => [(1, .pointer (some ⟨g1, 0, none⟩)), (3, .bool (decide (qI ∈ (m.l.take i).map Nc.nm ∨ x.nm = qI))), (4, .int .i64 ((i : Nat) : Int)), (5, .pointer (some ⟨g5, 0, none⟩)), (7, .int .i64 ((s : Nat) : Int))]) (fun s wr => s ≤ x.l.length ∧ (∀ j (h : j < x.l.length), j < s → ((x.l[j]).m.blob : Int) ≤ m.b) ∧ Blk wr g1 25 #[.slice m.A m.l.length m.c, .slice m.S m.ss.length m.d, .int .i64 m.v, .int .i64 m.b] ∧ Blk wr g5 45 #[encStr x.nm, .int .i64 x.v, .int .i64 x.n, .slice x.A x.l.length x.c] ∧ x.At wr ∧ Frm [] w wr) (fun s => x.l.length - s) 0 (js5 rfl rfl rfl rfl rfl) ⟨zaf _, fun _ _ h => jo, hb1, hb5, hxa, K⟩ ?_
  rintro k3 wr ⟨hk3, hd3, hb1, hb5, hxa, K⟩
  refine jS (jS (jR (jm rfl (jf rfl zt rfl zq (jf rfl zi rfl zad (jl rfl zao (hb5.cell 3) (je (Run.lenS rfl zv) (jb rfl rfl (Bin.lssN _ _) (jO (jN (jv6 1 3 4 5 7 82 ?_)))))))))))
  refine jD rfl (fun hc5 => ?_) fun hc5 => ?_
  ·
   have hdw := bQ.drew wr
   have hb1 := hb1.drawn hdw
   have hb5 := hb5.drawn hdw
   have hxa := hxa.frm hdw.frm
   have K := K.drawn hdw
   obtain ⟨ady, hady, hely⟩ := hxa.rd.elem hc5
   have hym := zu hc5
   generalize hy : x.l[k3] = y at *
   refine jQ (jN (jv5 1 3 4 5 7 ?_))
   refine jS (jB (jS ?_))
   refine VC.splitR [(1, .pointer (some ⟨g1, 0, none⟩)), (3, .bool (decide (qI ∈ (m.l.take i).map Nc.nm ∨ x.nm = qI))), (4, .int .i64 ((i : Nat) : Int)), (5, .pointer (some ⟨g5, 0, none⟩)), (7, .int .i64 ((k3 : Nat) : Int))] (fun wz => Frm [] w wz ∧ Blk wz g1 25 #[.slice m.A m.l.length m.c, .slice m.S m.ss.length m.d, .int .i64 m.v, .int .i64 m.b] ∧ Blk wz g5 45 #[encStr x.nm, .int .i64 x.v, .int .i64 x.n, .slice x.A x.l.length x.c] ∧ x.At wz) 100 (.bool (decide (m.b < 0 ∨ m.b < ((y.m.blob : Nat) : Int)))) ?_ ?_
   ·
    refine VC.still jK jK ?_
    refine qE (Run.fieldAddr rfl zf rfl zk jd) ?_
    refine qE (Run.load rfl zo (hb1.cell 3)) ?_
    refine qE (Run.bin rfl rfl (Bin.lss _ 0)) ?_
    by_cases hs87 : m.b < 0
    ·
     refine qM ?_
     refine qU ?_
     refine qU ?_
     refine qU ?_
     refine qU ?_
     refine qU ?_
     refine qU ?_
     refine qU ?_
     refine qU ?_
     refine qU ?_
     refine qU ?_
     refine qU ?_
     refine qE (Run.pickT rfl rfl au) ?_
     refine bX.nil ?_
     refine jN ⟨(js6 (jC (by first | exact (decide_eq_true (p := m.b < 0 ∨ m.b < ((y.m.blob : Nat) : Int)) (.inl hs87)).symm | exact decide_eq_decide.2 ⟨.inr, fun h => h.resolve_left hs87⟩)) rfl rfl rfl rfl rfl), (⟨K, hb1, hb5, hxa⟩)⟩
    obtain ⟨nb, hnb⟩ : ∃ nb : Nat, m.b = (nb : Int) := ⟨m.b.toNat, jo⟩
    refine qM ?_
    refine qG (Run.fieldAddr rfl zt rfl zq jd) ?_
    refine qG (Run.fieldAddr rfl zi rfl zad jd) ?_
    refine qG (Run.load rfl zao (hb5.cell 3)) ?_
    refine qG (Run.mv rfl) ?_
    refine qG (Run.indexS k3 (show _ = some (Value.slice (some ady) x.l.length x.c) by rw [← hady]; rfl) rfl zv zaj hc5) ?_
    refine qG (Run.fieldAddr rfl zaa rfl zdk jd) ?_
    refine qG (Run.load rfl zdn (hely 4 (.int .u64 ((y.m.blob : Nat) : Int)) rfl)) ?_
    refine qG (Run.fieldAddr rfl zf rfl zk jd) ?_
    refine qG (Run.load rfl zo (hb1.cell 3)) ?_
    refine qG (Run.conv rfl zag zeg m.b (by rw [hnb]; exact eP _ _ (by simp only [bmax]; omega))) ?_
    refine qG (Run.bin rfl rfl (Bin.gtr _ _)) ?_
    refine qE (Run.pickF rfl rfl au) ?_
    refine bX.nil ?_
    refine jN ⟨(js6 (jC (by first | exact (decide_eq_true (p := m.b < 0 ∨ m.b < ((y.m.blob : Nat) : Int)) (.inl hs87)).symm | exact decide_eq_decide.2 ⟨.inr, fun h => h.resolve_left hs87⟩)) rfl rfl rfl rfl rfl), (⟨K, hb1, hb5, hxa⟩)⟩
   intro Γ wz hΓ ⟨K, hb1, hb5, hxa⟩
   refine jN (VC.sub _ hΓ ?_)
   refine jD rfl (fun hc6 => ?_) fun hc6 => ?_
   ·
    have hbad : ¬ bU m.p := fun h => by
     have h2 := ((hMi.1 h).1.1 i hc1).2.2
     rw [hx] at h2
     have h3 := h2 _ hym
     omega
    refine jS (jR (ja rfl (jO (jN (jv1 2 ?_)))))
    refine jT ?_
    refine qV (qQ (qQ (qV (qV (qQ (qQ (qV (qQ (qN rfl ?_)))))))))
    exact ⟨by rw [decide_eq_false hbad], K⟩
   refine jQ ?_
   refine qH (jN ?_)
   refine jv5 1 3 4 5 7 ?_
   refine jR (jm rfl (jb rfl rfl (Bin.add_i64 _ 1 jo) (ja rfl (jO ?_))))
   refine jN ⟨(k3 + 1), (js5 rfl rfl rfl rfl rfl), ?_, ?_⟩
   ·
    refine ⟨hc5, fun j h1 hj => ?_, hb1, hb5, hxa, K⟩
    by_cases e : j = k3
    ·
     subst e
     rw [hy]; omega
    exact hd3 j h1 jo
   first | omega | (dsimp only; omega)
  refine jX ?_
  refine qJ (qJ (qT ?_))
  refine qH (jN ?_)
  refine jv3 1 3 4 ?_
  refine jR (jm rfl (jb rfl rfl (Bin.add_i64 _ 1 jo) (ja rfl (jO ?_))))
  refine jN ⟨(i + 1), (js3 rfl (by rw [hts, show decide (qI ∈ (m.l.take i).map Nc.nm ++ [x.nm]) = decide (qI ∈ (m.l.take i).map Nc.nm ∨ x.nm = qI) from decide_eq_decide.2 (by rw [zdz, za, eq_comm (a := x.nm)])]; rfl) rfl), ?_, ?_⟩
  ·
   refine ⟨hc1, hb1, fun j h1 hj => ?_, K⟩
   by_cases e : j = i
   ·
    subst e
    rw [hx]
    refine ⟨hc2, hvn, fun y hy => ?_⟩
    obtain ⟨q, hq, rfl⟩ := zab hy
    exact hd3 q hq jo
   exact hd j h1 jo
  first | omega | (dsimp only; omega)
 refine jX ?_
 refine qJ (qJ (qT ?_))
 refine jN (jv2 1 3 ?_)
 refine jS (jS (jR (jz 0 (jO (jN (jB ?_))))))
 obtain rfl : i = m.l.length := jo
 refine VC.loop (σ := Nat) (fun s => [(1, .pointer (some ⟨g1, 0, none⟩)), (3, .bool (decide (qI ∈ (m.l.take m.l.length).map Nc.nm))), (8, .int .i64 ((s : Nat) : Int))]) (fun s wr => s ≤ m.ss.length ∧ (∀ j (h : j < m.ss.length), j < s → bJ m.ss j m.ss[j]) ∧ Blk wr g1 25 #[.slice m.A m.l.length m.c, .slice m.S m.ss.length m.d, .int .i64 m.v, .int .i64 m.b] ∧ Frm [] w wr) (fun s => m.ss.length - s) 0 (js3 rfl rfl rfl) ⟨zaf _, fun _ _ h => jo, hb1, K⟩ ?_
 rintro k4 wr ⟨hk4, hd4, hb1, K⟩
 refine jS (jS (jR (jm rfl (jf rfl zf rfl zac (jl rfl zan (hb1.cell 1) (je (Run.lenS rfl zd) (jb rfl rfl (Bin.lssN _ _) (jO (jN (jv4 1 3 8 105 ?_))))))))))
 refine jD rfl (fun hc7 => ?_) fun hc7 => ?_
 ·
  have hSat : ∀ k, k < m.ss.length → ∃ ad, m.S = some ad ∧ ∀ W, Frm [] wr W → W.cell? ((ad.add (k * 1)).add 0) = some (encStr (m.ss[k]?.getD [])) := by
   intro k hk
   obtain ⟨ad, hA, _⟩ := (hm.s.frm K jp).elem hk
   refine ⟨ad, hA, fun W hW => ?_⟩
   obtain ⟨ad', hA', h⟩ := (hm.s.frm (K.trans hW jp) jp).elem hk
   rw [hA] at hA'
   cases hA'
   exact h 0 _ (by simp [SB, zb hk])
  obtain ⟨ad, had, hel⟩ := hSat k4 hc7
  have hqq := hm.sq _ (zu hc7)
  have hnm : bJ m.ss k4 m.ss[k4] ↔ cA m.ss[k4] ∧ (0 < k4 → (m.ss[k4 - 1]?).getD [] < m.ss[k4]) := Iff.rfl
  rw [zb hc7, zdh] at hel
  generalize hx : m.ss[k4] = q at *
  generalize hpvd : (m.ss[k4 - 1]?).getD [] = pv at hnm
  refine jQ (jN (jv3 1 3 8 ?_))
  refine jS (jB (jS ?_))
  refine VC.meet (σ := Unit) (fun s => [(1, .pointer (some ⟨g1, 0, none⟩)), (3, .bool (decide (qI ∈ (m.l.take m.l.length).map Nc.nm))), (8, .int .i64 ((k4 : Nat) : Int)), (132, .bool (decide (¬ (cA q ∧ (0 < k4 → pv < q)))))]) (fun s wz => Frm [] wr wz) ?_ ?_
  ·
   refine VC.held (fun W => Frm [] wr W) jK ?_
   have hS : Frm [] wr wr.drew := (Frm.refl _ _).drew
   refine jH 0 rfl hS (fun w0 hw0 => Run.fieldAddr rfl zf rfl zac jd) ?_
   refine jH 1 rfl hS (fun w0 hw0 => Run.load rfl zan ((hb1.frm hw0 jp).cell 1)) ?_
   refine jH 2 rfl hS (fun w0 hw0 => Run.mv rfl) ?_
   refine jH 3 rfl hS (fun w0 hw0 => Run.indexS k4 (show _ = some (Value.slice (some ad) m.ss.length m.d) by rw [← had]; rfl) rfl zd zj hc7) ?_
   refine jH 4 rfl hS (fun w0 hw0 => Run.load rfl zr (hel _ hw0)) ?_
   refine qZ.cl 5 rfl jK (jE1 Tryz.call77) (kC q _ jo) trivial rfl rfl ?_
   rintro e wC ⟨rfl, hfwC⟩
   have hSwC := hS.trans hfwC jp
   refine ⟨_, rfl, hSwC, ?_⟩
   have hS := hSwC
   by_cases hs113 : cA q
   ·
    refine jH 6 rfl hS (fun w0 hw0 => Run.not rfl) ?_
    refine jH 7 rfl hS (fun w0 hw0 => Run.mv rfl) ?_
    refine qZ.take 8 rfl jK jK jK hS (fun w0 hw0 => Run.mv rfl) (Up.g rfl (by first | rfl | exact decide_eq_true hs113 | (simp [hs113]; done))) rfl rfl ?_
    refine qZ.take 9 rfl jK jK jK hS (fun w0 hw0 => Run.bin rfl rfl (Bin.gtrN _ 0)) (Up.g rfl (by first | rfl | exact decide_eq_true hs113 | (simp [hs113]; done))) rfl rfl ?_
    by_cases hs117 : 0 < k4
    ·
     obtain ⟨ad2, had2, hel2⟩ := hSat (k4 - 1) jo
     rw [hpvd] at hel2
     refine qZ.take 10 rfl jK jK jK hS (fun w0 hw0 => Run.mv rfl) (Up.g rfl (by first | rfl | exact decide_eq_true hs113 | exact decide_eq_true hs117 | (simp [hs113]; done) | (simp [hs117]; done))) rfl rfl ?_
     refine qZ.take 11 rfl jK jK jK hS (fun w0 hw0 => Run.fieldAddr rfl zf rfl zac jd) (Up.g rfl (by first | rfl | exact decide_eq_true hs113 | exact decide_eq_true hs117 | (simp [hs113]; done) | (simp [hs117]; done))) rfl rfl ?_
     refine qZ.take 12 rfl jK jK jK hS (fun w0 hw0 => Run.load rfl zan ((hb1.frm hw0 jp).cell 1)) (Up.g rfl (by first | rfl | exact decide_eq_true hs113 | exact decide_eq_true hs117 | (simp [hs113]; done) | (simp [hs117]; done))) rfl rfl ?_
     refine qZ.take 13 rfl jK jK jK hS (fun w0 hw0 => Run.mv rfl) (Up.g rfl (by first | rfl | exact decide_eq_true hs113 | exact decide_eq_true hs117 | (simp [hs113]; done) | (simp [hs117]; done))) rfl rfl ?_
     refine qZ.take 14 rfl jK jK jK hS (fun w0 hw0 => Run.bin rfl rfl (Bin.sub_i64 _ 1 jo jo)) (Up.g rfl (by first | rfl | exact decide_eq_true hs113 | exact decide_eq_true hs117 | (simp [hs113]; done) | (simp [hs117]; done))) rfl rfl ?_
     refine qZ.take 15 rfl jK jK jK hS (fun w0 hw0 => Run.indexS (k4 - 1) (show _ = some (Value.slice (some ad2) m.ss.length m.d) by rw [← had2]; rfl) rfl zd zj jo) (Up.g rfl (by first | rfl | exact decide_eq_true hs113 | exact decide_eq_true hs117 | (simp [hs113]; done) | (simp [hs117]; done))) rfl rfl ?_
     refine qZ.take 16 rfl jK jK jK hS (fun w0 hw0 => Run.load rfl zr (hel2 _ hw0)) (Up.g rfl (by first | rfl | exact decide_eq_true hs113 | exact decide_eq_true hs117 | (simp [hs113]; done) | (simp [hs117]; done))) rfl rfl ?_
     refine qZ.take 17 rfl jK jK jK hS (fun w0 hw0 => Run.fieldAddr rfl zf rfl zac jd) (Up.g rfl (by first | rfl | exact decide_eq_true hs113 | exact decide_eq_true hs117 | (simp [hs113]; done) | (simp [hs117]; done))) rfl rfl ?_
     refine qZ.take 18 rfl jK jK jK hS (fun w0 hw0 => Run.load rfl zan ((hb1.frm hw0 jp).cell 1)) (Up.g rfl (by first | rfl | exact decide_eq_true hs113 | exact decide_eq_true hs117 | (simp [hs113]; done) | (simp [hs117]; done))) rfl rfl ?_
     refine qZ.take 19 rfl jK jK jK hS (fun w0 hw0 => Run.mv rfl) (Up.g rfl (by first | rfl | exact decide_eq_true hs113 | exact decide_eq_true hs117 | (simp [hs113]; done) | (simp [hs117]; done))) rfl rfl ?_
     refine qZ.take 20 rfl jK jK jK hS (fun w0 hw0 => Run.indexS k4 (show _ = some (Value.slice (some ad) m.ss.length m.d) by rw [← had]; rfl) rfl zd zj hc7) (Up.g rfl (by first | rfl | exact decide_eq_true hs113 | exact decide_eq_true hs117 | (simp [hs113]; done) | (simp [hs117]; done))) rfl rfl ?_
     refine qZ.take 21 rfl jK jK jK hS (fun w0 hw0 => Run.load rfl zr (hel _ hw0)) (Up.g rfl (by first | rfl | exact decide_eq_true hs113 | exact decide_eq_true hs117 | (simp [hs113]; done) | (simp [hs117]; done))) rfl rfl ?_
     refine qZ.take 22 rfl jK jK jK hS (fun w0 hw0 => Run.geqT rfl rfl) (Up.g rfl (by first | rfl | exact decide_eq_true hs113 | exact decide_eq_true hs117 | (simp [hs113]; done) | (simp [hs117]; done))) rfl rfl ?_
     by_cases hs130 : pv < q
     ·
      refine qZ.take 23 rfl jK jK jK hS (fun w0 hw0 => Run.pickT rfl rfl (by first | rfl | exact decide_eq_true hs113 | exact decide_eq_true hs117 | exact decide_eq_false hs130 | (simp [hs113]; done) | (simp [hs117]; done) | (simp [hs130]; done))) (Up.g rfl (by first | rfl | exact decide_eq_true hs113 | exact decide_eq_true hs117 | exact decide_eq_false hs130 | (simp [hs113]; done) | (simp [hs117]; done) | (simp [hs130]; done))) rfl rfl ?_
      refine jH 24 rfl hS (fun w0 hw0 => Run.pickF rfl rfl (by first | rfl | exact decide_eq_true hs113 | exact decide_eq_true hs117 | exact decide_eq_false hs130 | (simp [hs113]; done) | (simp [hs117]; done) | (simp [hs130]; done))) ?_
      refine qZ.done jK ?_
      refine jN ⟨(), (js4 rfl rfl rfl (jC (by clear hMi hd hel hm hd4 hSat; grind))), ?_⟩
      exact hS
     refine qZ.take 23 rfl jK jK jK hS (fun w0 hw0 => Run.pickT rfl rfl (by first | rfl | exact decide_eq_true hs113 | exact decide_eq_true hs117 | exact decide_eq_true hs130 | (simp [hs113]; done) | (simp [hs117]; done) | (simp [hs130]; done))) (Up.g rfl (by first | rfl | exact decide_eq_true hs113 | exact decide_eq_true hs117 | exact decide_eq_true hs130 | (simp [hs113]; done) | (simp [hs117]; done) | (simp [hs130]; done))) rfl rfl ?_
     refine jH 24 rfl hS (fun w0 hw0 => Run.pickF rfl rfl (by first | rfl | exact decide_eq_true hs113 | exact decide_eq_true hs117 | exact decide_eq_true hs130 | (simp [hs113]; done) | (simp [hs117]; done) | (simp [hs130]; done))) ?_
     refine qZ.done jK ?_
     refine jN ⟨(), (js4 rfl rfl rfl (jC (by clear hMi hd hel hm hd4 hSat; grind))), ?_⟩
     exact hS
    refine qZ.take 10 rfl jK jK jK hS (fun w0 hw0 => Run.mv rfl) (Up.g rfl (by first | rfl | exact decide_eq_true hs113 | exact decide_eq_false hs117 | (simp [hs113]; done) | (simp [hs117]; done))) rfl rfl ?_
    refine qZ.skip 11 rfl jK jK jK hS rfl rfl (by first | rfl | exact decide_eq_true hs113 | exact decide_eq_false hs117 | (simp [hs113]; done) | (simp [hs117]; done)) rfl rfl ?_
    refine qZ.skip 12 rfl jK jK jK hS rfl rfl (by first | rfl | exact decide_eq_true hs113 | exact decide_eq_false hs117 | (simp [hs113]; done) | (simp [hs117]; done)) rfl rfl ?_
    refine qZ.skip 13 rfl jK jK jK hS rfl rfl (by first | rfl | exact decide_eq_true hs113 | exact decide_eq_false hs117 | (simp [hs113]; done) | (simp [hs117]; done)) rfl rfl ?_
    refine qZ.skip 14 rfl jK jK jK hS rfl rfl (by first | rfl | exact decide_eq_true hs113 | exact decide_eq_false hs117 | (simp [hs113]; done) | (simp [hs117]; done)) rfl rfl ?_
    refine qZ.skip 15 rfl jK jK jK hS rfl rfl (by first | rfl | exact decide_eq_true hs113 | exact decide_eq_false hs117 | (simp [hs113]; done) | (simp [hs117]; done)) rfl rfl ?_
    refine qZ.skip 16 rfl jK jK jK hS rfl rfl (by first | rfl | exact decide_eq_true hs113 | exact decide_eq_false hs117 | (simp [hs113]; done) | (simp [hs117]; done)) rfl rfl ?_
    refine qZ.skip 17 rfl jK jK jK hS rfl rfl (by first | rfl | exact decide_eq_true hs113 | exact decide_eq_false hs117 | (simp [hs113]; done) | (simp [hs117]; done)) rfl rfl ?_
    refine qZ.skip 18 rfl jK jK jK hS rfl rfl (by first | rfl | exact decide_eq_true hs113 | exact decide_eq_false hs117 | (simp [hs113]; done) | (simp [hs117]; done)) rfl rfl ?_
    refine qZ.skip 19 rfl jK jK jK hS rfl rfl (by first | rfl | exact decide_eq_true hs113 | exact decide_eq_false hs117 | (simp [hs113]; done) | (simp [hs117]; done)) rfl rfl ?_
    refine qZ.skip 20 rfl jK jK jK hS rfl rfl (by first | rfl | exact decide_eq_true hs113 | exact decide_eq_false hs117 | (simp [hs113]; done) | (simp [hs117]; done)) rfl rfl ?_
    refine qZ.skip 21 rfl jK jK jK hS rfl rfl (by first | rfl | exact decide_eq_true hs113 | exact decide_eq_false hs117 | (simp [hs113]; done) | (simp [hs117]; done)) rfl rfl ?_
    refine qZ.skip 22 rfl jK jK jK hS rfl rfl (by first | rfl | exact decide_eq_true hs113 | exact decide_eq_false hs117 | (simp [hs113]; done) | (simp [hs117]; done)) rfl rfl ?_
    refine qZ.take 23 rfl jK jK jK hS (fun w0 hw0 => Run.pickF rfl rfl (by first | rfl | exact decide_eq_true hs113 | exact decide_eq_false hs117 | (simp [hs113]; done) | (simp [hs117]; done))) (Up.g rfl (by first | rfl | exact decide_eq_true hs113 | exact decide_eq_false hs117 | (simp [hs113]; done) | (simp [hs117]; done))) rfl rfl ?_
    refine jH 24 rfl hS (fun w0 hw0 => Run.pickF rfl rfl (by first | rfl | exact decide_eq_true hs113 | exact decide_eq_false hs117 | (simp [hs113]; done) | (simp [hs117]; done))) ?_
    refine qZ.done jK ?_
    refine jN ⟨(), (js4 rfl rfl rfl (jC (by clear hMi hd hel hm hd4 hSat; grind))), ?_⟩
    exact hS
   refine jH 6 rfl hS (fun w0 hw0 => Run.not rfl) ?_
   refine jH 7 rfl hS (fun w0 hw0 => Run.mv rfl) ?_
   refine qZ.skip 8 rfl jK jK jK hS rfl rfl (by first | rfl | exact decide_eq_false hs113 | (simp [hs113]; done)) rfl rfl ?_
   refine qZ.skip 9 rfl jK jK jK hS rfl rfl (by first | rfl | exact decide_eq_false hs113 | (simp [hs113]; done)) rfl rfl ?_
   refine qZ.skip 10 rfl jK jK jK hS rfl rfl (by first | rfl | exact decide_eq_false hs113 | (simp [hs113]; done)) rfl rfl ?_
   refine qZ.skU 11 rfl jK jK jK hS rfl rfl rfl rfl ?_
   refine qZ.skU 12 rfl jK jK jK hS rfl rfl rfl rfl ?_
   refine qZ.skU 13 rfl jK jK jK hS rfl rfl rfl rfl ?_
   refine qZ.skU 14 rfl jK jK jK hS rfl rfl rfl rfl ?_
   refine qZ.skU 15 rfl jK jK jK hS rfl rfl rfl rfl ?_
   refine qZ.skU 16 rfl jK jK jK hS rfl rfl rfl rfl ?_
   refine qZ.skU 17 rfl jK jK jK hS rfl rfl rfl rfl ?_
   refine qZ.skU 18 rfl jK jK jK hS rfl rfl rfl rfl ?_
   refine qZ.skU 19 rfl jK jK jK hS rfl rfl rfl rfl ?_
   refine qZ.skU 20 rfl jK jK jK hS rfl rfl rfl rfl ?_
   refine qZ.skU 21 rfl jK jK jK hS rfl rfl rfl rfl ?_
   refine qZ.skU 22 rfl jK jK jK hS rfl rfl rfl rfl ?_
   refine qZ.skip 23 rfl jK jK jK hS rfl rfl (by first | rfl | exact decide_eq_false hs113 | (simp [hs113]; done)) rfl rfl ?_
   refine jH 24 rfl hS (fun w0 hw0 => Run.pickT rfl rfl (by first | rfl | exact decide_eq_false hs113 | (simp [hs113]; done))) ?_
   refine qZ.done jK ?_
   refine jN ⟨(), (js4 rfl rfl rfl (jC (by clear hMi hd hel hm hd4 hSat; grind))), ?_⟩
   exact hS
  rintro _ wz hfz Γ hΓ
  have hb1 := hb1.frm hfz jp
  have K := K.trans hfz jp
  refine jN (VC.sub _ hΓ ?_)
  refine jD rfl (fun hc8 => ?_) fun hc8 => ?_
  ·
   have hbad : ¬ bU m.p := fun h => by
    have h2 := (hMi.1 h).1.2 k4 hc7
    rw [hx] at h2
    exact hc8 (hnm.1 h2)
   refine jS (jR (ja rfl (jO (jN (jv1 2 ?_)))))
   refine jT ?_
   refine qV (qQ (qQ (qV (qQ (qN rfl ?_)))))
   exact ⟨by rw [decide_eq_false hbad], K⟩
  have hc8 := hnm.2 (Classical.not_not.1 hc8)
  refine jQ ?_
  refine qH (jN ?_)
  refine jv3 1 3 8 ?_
  refine jR (jm rfl (jb rfl rfl (Bin.add_i64 _ 1 jo) (ja rfl (jO ?_))))
  refine jN ⟨(k4 + 1), (js3 rfl rfl rfl), ?_, ?_⟩
  ·
   refine ⟨hc7, fun j h1 hj => ?_, hb1, K⟩
   by_cases e : j = k4
   ·
    subst e
    rw [hx]
    exact hc8
   exact hd4 j h1 jo
  first | omega | (dsimp only; omega)
 obtain rfl : k4 = m.ss.length := jo
 rw [zah]
 refine jX ?_
 refine qJ (qJ (qT ?_))
 refine jN (jv2 1 3 ?_)
 refine jS ?_
 refine VC.split1 [] .nil 2 (.bool (decide (qI ∈ m.l.map Nc.nm ∧ m.l.length ≤ 24 ∧ m.ss.length ≤ 24 ∧ 1 ≤ m.v ∧ m.v ≤ 2147483647 ∧ 0 ≤ m.b ∧ m.b ≤ 2147483647))) ?_ ?_
 ·
  refine jR (jM ?_)
  by_cases hs133 : qI ∈ m.l.map Nc.nm
  ·
   refine jM ?_
   refine jk (Run.fieldAddr rfl zf rfl zw jd) ?_
   refine jk (Run.load rfl zak (hb1.cell 0)) ?_
   refine jk (Run.lenS rfl ze) ?_
   refine jk (Run.bin rfl rfl (Bin.leqN _ 24)) ?_
   by_cases hs138 : m.l.length ≤ 24
   ·
    refine je (Run.pickT rfl rfl au) (jM ?_)
    refine jk (Run.fieldAddr rfl zf rfl zac jd) ?_
    refine jk (Run.load rfl zan (hb1.cell 1)) ?_
    refine jk (Run.lenS rfl zd) ?_
    refine jk (Run.bin rfl rfl (Bin.leqN _ 24)) ?_
    by_cases hs144 : m.ss.length ≤ 24
    ·
     refine je (Run.pickT rfl rfl au) (jM ?_)
     refine jk (Run.fieldAddr rfl zf rfl zk jd) ?_
     refine jk (Run.load rfl zo (hb1.cell 2)) ?_
     refine jk (Run.bin rfl rfl (Bin.leq 1 _)) ?_
     by_cases hs149 : 1 ≤ m.v
     ·
      refine je (Run.pickT rfl rfl au) (jM ?_)
      refine jk (Run.fieldAddr rfl zf rfl zk jd) ?_
      refine jk (Run.load rfl zo (hb1.cell 2)) ?_
      refine jk (Run.bin rfl rfl (Bin.leq _ 2147483647)) ?_
      by_cases hs154 : m.v ≤ 2147483647
      ·
       refine je (Run.pickT rfl rfl au) (jM ?_)
       refine jk (Run.fieldAddr rfl zf rfl zk jd) ?_
       refine jk (Run.load rfl zo (hb1.cell 3)) ?_
       refine jk (Run.bin rfl rfl (Bin.leq 0 _)) ?_
       by_cases hs159 : 0 ≤ m.b
       ·
        refine je (Run.pickT rfl rfl au) (jM ?_)
        refine jk (Run.fieldAddr rfl zf rfl zk jd) ?_
        refine jk (Run.load rfl zo (hb1.cell 3)) ?_
        refine jk (Run.bin rfl rfl (Bin.leq _ 2147483647)) ?_
        refine je (Run.pickT rfl rfl au) (ja rfl (jO ?_))
        refine jN ⟨(js1 (jC (by clear hMi hd hd4 hm; grind))), rfl⟩
       refine je (Run.pickT rfl rfl au) (jM ?_)
       refine jU ?_
       refine jU ?_
       refine jU ?_
       refine je (Run.pickF rfl rfl au) (ja rfl (jO ?_))
       refine jN ⟨(js1 (jC (by clear hMi hd hd4 hm; grind))), rfl⟩
      refine je (Run.pickT rfl rfl au) (jM ?_)
      refine jU ?_
      refine jU ?_
      refine jU ?_
      refine je (Run.pickF rfl rfl au) (jM ?_)
      refine jU ?_
      refine jU ?_
      refine jU ?_
      refine je (Run.pickF rfl rfl au) (ja rfl (jO ?_))
      refine jN ⟨(js1 (jC (by clear hMi hd hd4 hm; grind))), rfl⟩
     refine je (Run.pickT rfl rfl au) (jM ?_)
     refine jU ?_
     refine jU ?_
     refine jU ?_
     refine je (Run.pickF rfl rfl au) (jM ?_)
     refine jU ?_
     refine jU ?_
     refine jU ?_
     refine je (Run.pickF rfl rfl au) (jM ?_)
     refine jU ?_
     refine jU ?_
     refine jU ?_
     refine je (Run.pickF rfl rfl au) (ja rfl (jO ?_))
     refine jN ⟨(js1 (jC (by clear hMi hd hd4 hm; grind))), rfl⟩
    refine je (Run.pickT rfl rfl au) (jM ?_)
    refine jU ?_
    refine jU ?_
    refine jU ?_
    refine je (Run.pickF rfl rfl au) (jM ?_)
    refine jU ?_
    refine jU ?_
    refine jU ?_
    refine je (Run.pickF rfl rfl au) (jM ?_)
    refine jU ?_
    refine jU ?_
    refine jU ?_
    refine je (Run.pickF rfl rfl au) (jM ?_)
    refine jU ?_
    refine jU ?_
    refine jU ?_
    refine je (Run.pickF rfl rfl au) (ja rfl (jO ?_))
    refine jN ⟨(js1 (jC (by clear hMi hd hd4 hm; grind))), rfl⟩
   refine je (Run.pickT rfl rfl au) (jM ?_)
   refine jU ?_
   refine jU ?_
   refine jU ?_
   refine jU ?_
   refine je (Run.pickF rfl rfl au) (jM ?_)
   refine jU ?_
   refine jU ?_
   refine jU ?_
   refine je (Run.pickF rfl rfl au) (jM ?_)
   refine jU ?_
   refine jU ?_
   refine jU ?_
   refine je (Run.pickF rfl rfl au) (jM ?_)
   refine jU ?_
   refine jU ?_
   refine jU ?_
   refine je (Run.pickF rfl rfl au) (jM ?_)
   refine jU ?_
   refine jU ?_
   refine jU ?_
   refine je (Run.pickF rfl rfl au) (ja rfl (jO ?_))
   refine jN ⟨(js1 (jC (by clear hMi hd hd4 hm; grind))), rfl⟩
  refine jM ?_
  refine jU ?_
  refine jU ?_
  refine jU ?_
  refine jU ?_
  refine je (Run.pickF rfl rfl au) (jM ?_)
  refine jU ?_
  refine jU ?_
  refine jU ?_
  refine jU ?_
  refine je (Run.pickF rfl rfl au) (jM ?_)
  refine jU ?_
  refine jU ?_
  refine jU ?_
  refine je (Run.pickF rfl rfl au) (jM ?_)
  refine jU ?_
  refine jU ?_
  refine jU ?_
  refine je (Run.pickF rfl rfl au) (jM ?_)
  refine jU ?_
  refine jU ?_
  refine jU ?_
  refine je (Run.pickF rfl rfl au) (jM ?_)
  refine jU ?_
  refine jU ?_
  refine jU ?_
  refine je (Run.pickF rfl rfl au) (ja rfl (jO ?_))
  refine jN ⟨(js1 (jC (by clear hMi hd hd4 hm; grind))), rfl⟩
 intro Γ hΓ
 refine jN (VC.sub _ hΓ ?_)
 refine jT ?_
 refine qN rfl ?_
 refine ⟨?_, K⟩
 rw [decide_eq_decide.2 (show bU m.p ↔ _ from hMi.trans ⟨fun h => h.2, fun h => ⟨⟨fun j h1 => hd j h1 h1, fun j h1 => hd4 j h1 h1⟩, h⟩⟩)]
end
section
open Go.RowKit Go.Sort
theorem errD {m : MailP} {q : Tx} (h : ¬ bU m) : bE m q = .error 1 := by unfold bE; rw [if_pos h]
theorem zF {w : World} {m : MlC} {A : Option Addr} {c : Nat} {l : List Nc} (hm : RdL w m) (ho : Own w 45 4 A l.length c (NDC l)) (hl : l.length ≤ 1000000) (hx : ∀ y ∈ l, y.At w) : RdL w (m.wl A c l) := ⟨⟨ho.rd, hx⟩, hm.s, ho.le, hm.sc, hl, hm.sn, hm.sq⟩
theorem zA {m : MlC} {x : Nc} (h : x ∈ m.l) : x.nm ∈ qC m.p := List.mem_map.2 ⟨x.p, zbh h, rfl⟩
theorem qQn {m : MlC} {q : Tx} (h : q ∈ qC m.p) : ∃ x ∈ m.l, x.nm = q := by
 obtain ⟨y, hy, rfl⟩ := List.mem_map.1 h
 obtain ⟨x, hx, rfl⟩ := List.mem_map.1 hy
 exact ⟨x, hx, rfl⟩
set_option maxHeartbeats 1000000 in
theorem oV (m : MlC) (q : Tx) (w : World) (hm : RdL w m) (hs : q.length ≤ 900000) (hbb : m.b ≤ 9223372036854775807) :
  Calls Tryz.prog 18 #[m.val, encStr q] w fun e w' => ∃ (m' : MlC) (k : Nat), e = .returned (.tuple #[m'.val, .int .i64 ((k : Nat) : Int)]) ∧ fQ w' (bE m.p q) m' k ∧ Frm [] w w' := by
 have hln := hm.ln
 refine VC.calls (nt := 62) (res := #[.cell 4 25, .tmp 5]) Tryz.func18 rfl Tryz.ntmps18 Tryz.results18 rfl ?_
 refine jS (jR ?_)
 refine Ops.m (qK.box rfl) rfl ?_
 rintro _ w1 ⟨rfl, hF_w1⟩
 have hb1 : Blk w1 w.heap.size 25 #[.slice m.A m.l.length m.c, .slice m.S m.ss.length m.d, .int .i64 m.v, .int .i64 m.b] := hF_w1.blk
 have K := hF_w1.frm
 generalize hg1 : w.heap.size = g1 at hb1 ⊢
 refine Ops.m (qK.alloc bZ) rfl ?_
 rintro _ w2 ⟨rfl, hF2⟩
 have hb4 := hF2.blk
 have hg4 : w.heap.size ≤ w1.heap.size := K.size
 have hb1 := hb1.frm hF2.frm jp
 have hl1 := hb1.lt
 have hl4 := hb4.lt
 have K := K.trans hF2.frm jp
 have hne14 : g1 ≠ w1.heap.size := by have := hF_w1.size; omega
 have hg1s : w.heap.size ≤ g1 := jo
 generalize hg4' : w1.heap.size = g4 at hb4 hg4 hne14 hl4 ⊢
 refine jz 0 (jO (jN (jv3 1 2 4 ?_)))
 refine jS (jS (jR (je (Run.loadA rfl zh zc hb1.cells (by first | rfl | (simp; done))) ?_)))
 refine Ops.cl (jE1 Tryz.call26) (tO m _ (hm.frm K) hbb) rfl ?_
 rintro e w3 ⟨rfl, hf3⟩
 refine ⟨_, rfl, ?_⟩
 have hb1 := hb1.frm hf3 jp
 have hb4 := hb4.frm hf3 jp
 have hKs_hf3 := K.size
 have K := K.trans hf3 jp
 refine je (Run.not rfl) (jO (jN (jv4 1 2 4 10 ?_)))
 refine VC.condB rfl (fun hc1 => ?_) (fun hc1 => ?_)
 ·
  have hc1 : ¬ bU m.p := by simpa using hc1
  refine jS (jR (je (Run.build evs.nil bZ (qB).choose_spec.1 (qB).choose_spec.2 rfl) ?_))
  refine Ops.st (qP.storeA rfl rfl zc hb4 rfl (MlC.cells_one qS)) ?_
  rintro wz ⟨hb4, (hfwz : Frm [g4] _ _), hswz⟩
  have hb4 : Blk wz g4 25 qS.cells.toArray := hb4
  have K := K.own hfwz (fun y hy => by rw [za] at hy; omega)
  refine jz 1 (jO (jN (jv2 4 5 ?_)))
  refine jT ?_
  refine qQ (bY ?_)
  refine qD rfl zh zc (fun j v hj => hb4.cells j v hj) (by first | rfl | (simp; done)) ?_
  refine qL rfl ?_
  refine qO ?_
  exact ⟨qS, 1, rfl, fQ.err jd (errD hc1), K⟩
 have hc1 : bU m.p := by simpa using hc1
 refine jQ (jN (jv3 1 2 4 ?_))
 refine jS (jS (jR (jM ?_)))
 refine Ops.cl (jE1 Tryz.call50) (gX q _ jo) rfl ?_
 rintro e _ ⟨rfl, rfl⟩
 refine ⟨_, rfl, ?_⟩
 refine je (Run.not rfl) (jO (jN (jv4 1 2 4 14 ?_)))
 refine VC.condB rfl (fun hc2 => ?_) (fun hc2 => ?_)
 ·
  have hc2 : ¬ isN q := by simpa using hc2
  refine jS (jR (je (Run.build evs.nil bZ (qB).choose_spec.1 (qB).choose_spec.2 rfl) ?_))
  refine Ops.st (qP.storeA rfl rfl zc hb4 rfl (MlC.cells_one qS)) ?_
  rintro wz ⟨hb4, (hfwz : Frm [g4] _ _), hswz⟩
  have hb4 : Blk wz g4 25 qS.cells.toArray := hb4
  have K := K.own hfwz (fun y hy => by rw [za] at hy; omega)
  refine jz 18 (jO (jN (jv2 4 5 ?_)))
  refine jT ?_
  refine qQ (bY ?_)
  refine qD rfl zh zc (fun j v hj => hb4.cells j v hj) (by first | rfl | (simp; done)) ?_
  refine qL rfl ?_
  refine qO ?_
  exact ⟨qS, 18, rfl, fQ.err jd (by unfold bE; rw [if_neg (fun h => h hc1), if_pos hc2]), K⟩
 have hc2 : isN q := by simpa using hc2
 refine jQ (jN (jv3 1 2 4 ?_))
 refine jS (jS (jR (jf rfl zf rfl zw (jl rfl zak (hb1.cell 0) (jM ?_)))))
 refine Ops.cl (jE2 Tryz.call30) (xB m.A m.c m.l q _ (hm.frm K).l hln jo) rfl ?_
 rintro e w5 ⟨rfl, hf5⟩
 refine ⟨_, rfl, ?_⟩
 have hb1 := hb1.frm hf5 jp
 have hb4 := hb4.frm hf5 jp
 have hKs_hf5 := K.size
 have K := K.trans hf5 jp
 refine jb rfl rfl (Bin.lss _ 0) (jO (jN (jv4 1 2 4 20 ?_)))
 refine jD rfl (fun hc3 => ?_) fun hc3 => ?_
 ·
  have hc3 : qW q ∉ qC m.p := sW.1 (of_decide_eq_true (decide_eq_true hc3))
  refine jS (jR (je (Run.build evs.nil bZ (qB).choose_spec.1 (qB).choose_spec.2 rfl) ?_))
  refine Ops.st (qP.storeA rfl rfl zc hb4 rfl (MlC.cells_one qS)) ?_
  rintro wz ⟨hb4, (hfwz : Frm [g4] _ _), hswz⟩
  have hb4 : Blk wz g4 25 qS.cells.toArray := hb4
  have K := K.own hfwz (fun y hy => by rw [za] at hy; omega)
  refine jz 6 (jO (jN (jv2 4 5 ?_)))
  refine jT ?_
  refine qQ (bY ?_)
  refine qD rfl zh zc (fun j v hj => hb4.cells j v hj) (by first | rfl | (simp; done)) ?_
  refine qL rfl ?_
  refine qO ?_
  exact ⟨qS, 6, rfl, fQ.err jd (by unfold bE; rw [if_neg (fun h => h hc1), if_neg (fun h => h hc2), if_pos hc3]), K⟩
 have hc3 : qW q ∈ qC m.p := Classical.not_not.1 (fun h => hc3 (sW.2 h))
 refine jQ (jN (jv3 1 2 4 ?_))
 refine jS (jS (jR (jM ?_)))
 refine Ops.cl (jE1 Tryz.call60) (dZ q _ jo) rfl ?_
 rintro e w6 ⟨rfl, hf6⟩
 refine ⟨_, rfl, ?_⟩
 have hb1 := hb1.frm hf6 jp
 have hb4 := hb4.frm hf6 jp
 have hKs_hf6 := K.size
 have K := K.trans hf6 jp
 refine je (Run.eqlT rfl rfl) (jO (jN (jv4 1 2 4 24 ?_)))
 refine jD rfl (fun hc4 => ?_) fun hc4 => ?_
 ·
  have hc4 : qW q = qI := hc4
  refine jS (jR (je (Run.build evs.nil bZ (qB).choose_spec.1 (qB).choose_spec.2 rfl) ?_))
  refine Ops.st (qP.storeA rfl rfl zc hb4 rfl (MlC.cells_one qS)) ?_
  rintro wz ⟨hb4, (hfwz : Frm [g4] _ _), hswz⟩
  have hb4 : Blk wz g4 25 qS.cells.toArray := hb4
  have K := K.own hfwz (fun y hy => by rw [za] at hy; omega)
  refine jz 17 (jO (jN (jv2 4 5 ?_)))
  refine jT ?_
  refine qQ (bY ?_)
  refine qD rfl zh zc (fun j v hj => hb4.cells j v hj) (by first | rfl | (simp; done)) ?_
  refine qL rfl ?_
  refine qO ?_
  exact ⟨qS, 17, rfl, fQ.err jd (by unfold bE; rw [if_neg (fun h => h hc1), if_neg (fun h => h hc2), if_neg (fun h => h hc3), if_pos hc4]), K⟩
 have hc4 : qW q ≠ qI := hc4
 refine jQ (jN (jv3 1 2 4 ?_))
 refine jS (jR (ja rfl (jO (jN (jS (jS (jR (jz 0 (jO (jN (jB ?_)))))))))))
 refine VC.loop (σ := Nat × Option Addr × Nat) (fun s => [(1, encStr q), (2, .pointer (some ⟨g1, 0, none⟩)), (4, .pointer (some ⟨g4, 0, none⟩)), (6, .slice s.2.1 ((m.l.take s.1).filter fun x => decide (x.nm ≠ qW q)).length s.2.2), (7, .int .i64 ((s.1 : Nat) : Int))]) (fun s wr => s.1 ≤ m.l.length ∧ Blk wr g1 25 #[.slice m.A m.l.length m.c, .slice m.S m.ss.length m.d, .int .i64 m.v, .int .i64 m.b] ∧ Blk wr g4 25 qS.cells.toArray ∧ Own wr 45 4 s.2.1 ((m.l.take s.1).filter fun x => decide (x.nm ≠ qW q)).length s.2.2 (NDC ((m.l.take s.1).filter fun x => decide (x.nm ≠ qW q))) ∧ (∀ b ∈ ob s.2.1, w.heap.size ≤ b) ∧ (∀ j (h : j < m.l.length), j < s.1 → ¬ underN (m.l[j]).nm q) ∧ Frm [] w wr) (fun s => m.l.length - s.1) (0, none, 0) (js5 rfl rfl rfl rfl rfl) ⟨zaf _, hb1, hb4, Own.nil _ _ _, by simp [ob], fun _ _ h => jo, K⟩ ?_
 rintro ⟨i, B, d⟩ wr ⟨hi, hb1, hb4, ho, hob, hd, K⟩
 dsimp only at *
 refine jS (jS (jR (jm rfl (jf rfl zf rfl zw (jl rfl zak (hb1.cell 0) (je (Run.lenS rfl ze) (jb rfl rfl (Bin.lssN _ _) (jO (jN (jv6 1 2 4 6 7 30 ?_))))))))))
 refine jD rfl (fun hc5 => ?_) fun hc5 => ?_
 ·
  obtain ⟨ad, had, hel⟩ : ∃ ad, m.A = some ad ∧ ∀ W, Frm [] wr W → ∀ j v, (m.l[i]).cells[j]? = some v → W.cell? ((ad.add (i * 4)).add j) = some v := by
   obtain ⟨ad, hA, _⟩ := (hm.frm K).l.elem hc5
   refine ⟨ad, hA, fun W hW => ?_⟩
   obtain ⟨ad', hA', h⟩ := (hm.frm (K.trans hW jp)).l.elem hc5
   rw [hA] at hA'
   cases hA'
   exact h
  have hxq := ((hm.frm K).l.el _ (zu hc5)).q
  have hmem := zu hc5
  have hts : m.l.take (i + 1) = m.l.take i ++ [m.l[i]] := by rw [zam, zb hc5]; rfl
  have hRl : ((m.l.take i).filter fun x => decide (x.nm ≠ qW q)).length ≤ i := zbe (zbt _ _) (zcr _ _)
  generalize hx : m.l[i] = x at *
  refine jQ (jN (jv5 1 2 4 6 7 ?_))
  refine jS (jB (jS (jS (jR (jf rfl zf rfl zw (jl rfl zak (hb1.cell 0) (jm rfl (je (Run.indexS i (show _ = some (Value.slice (some ad) m.l.length m.c) by rw [← had]; rfl) rfl ze zm hc5) (jf rfl zt rfl zj (jl rfl zr (hel _ (Frm.refl _ _) 0 (encStr x.nm) rfl) (jM ?_)))))))))))
  refine Ops.cl (jE2 Tryz.call61) (rM x.nm q _ jo jo) rfl ?_
  rintro e w7 ⟨rfl, hf7⟩
  have hel := fun W (hW : Frm [] w7 W) => hel W (hf7.trans hW jp)
  have ho := ho.frm hf7 jp
  refine ⟨_, rfl, ?_⟩
  have hb1 := hb1.frm hf7 jp
  have hb4 := hb4.frm hf7 jp
  have hKs_hf7 := K.size
  have K := K.trans hf7 jp
  refine jO (jN (jv6 1 2 4 6 7 40 ?_))
  refine VC.condB rfl (fun hc6 => ?_) (fun hc6 => ?_)
  ·
   have hc6 : underN x.nm q := by simpa using hc6
   refine jS (jR (je (Run.build evs.nil bZ (qB).choose_spec.1 (qB).choose_spec.2 rfl) ?_))
   refine Ops.st (qP.storeA rfl rfl zc hb4 rfl (MlC.cells_one qS)) ?_
   rintro wz ⟨hb4, (hfwz : Frm [g4] _ _), hswz⟩
   have hb4 : Blk wz g4 25 qS.cells.toArray := hb4
   have K := K.own hfwz (fun y hy => by rw [za] at hy; omega)
   refine jz 16 (jO (jN (jv2 4 5 ?_)))
   refine jT ?_
   refine qQ (qV (qQ (qQ (qV (qQ (bY ?_))))))
   refine qD rfl zh zc (fun j v hj => hb4.cells j v hj) (by first | rfl | (simp; done)) ?_
   refine qL rfl ?_
   refine qO ?_
   exact ⟨qS, 16, rfl, fQ.err jd (by unfold bE; rw [if_neg (fun h => h hc1), if_neg (fun h => h hc2), if_neg (fun h => h hc3), if_neg hc4, if_pos ⟨x.nm, zA hmem, hc6⟩]), K⟩
  have hc6 : ¬ underN x.nm q := by simpa using hc6
  refine jQ (jN (jv5 1 2 4 6 7 ?_))
  refine jS ?_
  refine VC.held (fun W => Frm [] w7 W) jK ?_
  have hS : Frm [] w7 w7.drew := (Frm.refl _ _).drew
  refine jH 0 rfl hS (fun w0 hw0 => Run.fieldAddr rfl zf rfl zw jd) ?_
  refine jH 1 rfl hS (fun w0 hw0 => Run.load rfl zak ((hb1.frm hw0 jp).cell 0)) ?_
  refine jH 2 rfl hS (fun w0 hw0 => Run.mv rfl) ?_
  refine jH 3 rfl hS (fun w0 hw0 => Run.indexS i (show _ = some (Value.slice (some ad) m.l.length m.c) by rw [← had]; rfl) rfl ze zm hc5) ?_
  refine jH 4 rfl hS (fun w0 hw0 => Run.fieldAddr rfl zt rfl zj jd) ?_
  refine jH 5 rfl hS (fun w0 hw0 => Run.load rfl zr (hel _ hw0 0 (encStr x.nm) rfl)) ?_
  refine jH 6 rfl hS (fun w0 hw0 => Run.mv rfl) ?_
  refine qZ.cl 7 rfl jK (jE1 Tryz.call60) (dZ q _ jo) trivial rfl rfl ?_
  rintro e w8 ⟨rfl, hf8⟩
  have hS8 := hS.trans hf8 jp
  have hb1 := hb1.frm hS8 jp
  have hb4 := hb4.frm hS8 jp
  have ho := ho.frm hS8 jp
  have hel := fun W (hW : Frm [] w8 W) => hel W (hS8.trans hW jp)
  have K := K.trans hS8 jp
  refine ⟨_, rfl, hS8, ?_⟩
  have hS := hS8
  refine jH 8 rfl hS (fun w0 hw0 => Run.neqT rfl rfl) ?_
  refine qZ.done jK ?_
  refine jN (jv6 1 2 4 6 7 50 ?_)
  refine jD rfl (fun hc7 => ?_) fun hc7 => ?_
  ·
   refine jR (jm rfl (jf rfl zf rfl zw (jl rfl zak (hb1.cell 0) (jm rfl (je (Run.indexS i (show _ = some (Value.slice (some ad) m.l.length m.c) by rw [← had]; rfl) rfl ze zm hc5) (je (Run.loadA rfl zcy zm (fun j v hj => hel _ (Frm.refl _ _) j v hj) (by first | rfl | (simp; done))) ?_))))))
   refine Ops.m (qK.buildS1 rfl ze zm cG jd jd rfl rfl) rfl ?_
   rintro _ w9 ⟨rfl, hF9⟩
   have hr9 : Rd w9 4 (some ⟨w8.heap.size, 0, none⟩) 1 (NDC [x]) := oG hF9
   have hF9f := hF9.frm
   have hb1 := hb1.frm hF9f jp
   have hb4 := hb4.frm hF9f jp
   have ho := ho.frm hF9f jp
   have K := K.trans hF9f jp
   have hKs9 := K.size
   refine Ops.m (qK.app rfl rfl ze (fT) rfl jd ho hr9 (eX _) jo jo) rfl ?_
   rintro _ w10 ⟨B6, c6, rfl, ho6, hf6, hob6⟩
   rw [← cN] at ho6
   have hfs : ((m.l.take (i + 1)).filter fun x => decide (x.nm ≠ qW q)) = ((m.l.take i).filter fun x => decide (x.nm ≠ qW q)) ++ [x] := by rw [hts, zbf, zcu, if_pos (by simpa using hc7)]; rfl
   have hfl : ((m.l.take (i + 1)).filter fun x => decide (x.nm ≠ qW q)).length = ((m.l.take i).filter fun x => decide (x.nm ≠ qW q)).length + 1 := by rw [hfs, zn]; rfl
   have hb1 := hb1.frm hf6 (ho.ne_blk hb1 jd)
   have hb4 := hb4.frm hf6 (ho.ne_blk hb4 jd)
   have K := K.own hf6 hob
   have hob6 : ∀ b ∈ ob B6, w.heap.size ≤ b := fun b hb => by
    rcases hob6 with h | h
    · rw [h] at hb; exact hob b hb
    rw [h, za] at hb; omega
   refine ja rfl (jO ?_)
   refine qH (jN ?_)
   refine jv5 1 2 4 6 7 ?_
   refine jR (jm rfl (jb rfl rfl (Bin.add_i64 _ 1 jo) (ja rfl (jO ?_))))
   refine jN ⟨(i + 1, B6, c6), (js5 rfl rfl rfl (by rw [hfl]; rfl) rfl), ?_, ?_⟩
   ·
    refine ⟨hc5, hb1, hb4, by rw [hfl, hfs]; exact ho6, hob6, fun j h1 hj => ?_, K⟩
    by_cases e : j = i
    · subst e; rw [hx]; exact hc6
    exact hd j h1 jo
   first | omega | (dsimp only; omega)
  refine jQ ?_
  refine qH (jN ?_)
  refine jv5 1 2 4 6 7 ?_
  refine jR (jm rfl (jb rfl rfl (Bin.add_i64 _ 1 jo) (ja rfl (jO ?_))))
  have hfs : ((m.l.take (i + 1)).filter fun x => decide (x.nm ≠ qW q)) = ((m.l.take i).filter fun x => decide (x.nm ≠ qW q)) := by rw [hts, zbf, zcu, if_neg (by simpa using hc7)]; simp
  refine jN ⟨(i + 1, B, d), (js5 rfl rfl rfl (by rw [hfs]; rfl) rfl), ?_, ?_⟩
  ·
   refine ⟨hc5, hb1, hb4, by rw [hfs]; exact ho, hob, fun j h1 hj => ?_, K⟩
   by_cases e : j = i
   · subst e; rw [hx]; exact hc6
   exact hd j h1 jo
  first | omega | (dsimp only; omega)
 obtain rfl : i = m.l.length := jo
 rw [zah] at ho ⊢
 generalize hR : (m.l.filter fun x => decide (x.nm ≠ qW q)) = rs at *
 have hrl : rs.length ≤ m.l.length := by rw [← hR]; exact zbt _ _
 have hl14 := hb1.lt
 refine jX ?_
 refine qJ (qJ (qT ?_))
 refine jN (jv3 2 4 6 ?_)
 refine jS (jR (jm rfl (jf rfl zf rfl zw ?_)))
 have ho1 := ho.ne_blk hb1 jd
 refine Ops.st (qP.store rfl rfl zw hb1 rfl rfl) ?_
 rintro w11 ⟨hb11, (hf11 : Frm [g1] _ _), hs11⟩
 have hb1 : Blk w11 g1 25 (m.wl B d rs).cells.toArray := hb11
 have hb4 := hb4.frm hf11 (by simp; omega)
 have ho := ho.frm hf11 (fun y hy h => by rw [za] at h; subst h; exact ho1 hy)
 have K := K.own hf11 (fun y hy => by rw [za] at hy; omega)
 refine jO (jN (jv2 2 4 ?_))
 refine jS (jR (je (Run.loadA rfl zh zc (hb1.cells) (by first | rfl | (simp; done))) ?_))
 have ho4 := ho.ne_blk hb4 jd
 refine Ops.st (qP.storeA rfl rfl zc hb4 rfl (MlC.cells_one _)) ?_
 rintro w12 ⟨hb12, (hf12 : Frm [g4] _ _), hs12⟩
 have hb4 : Blk w12 g4 25 (m.wl B d rs).cells.toArray := hb12
 have ho := ho.frm hf12 (fun y hy h => by rw [za] at h; subst h; exact ho4 hy)
 have K := K.own hf12 (fun y hy => by rw [za] at hy; omega)
 refine jz 0 (jO (jN (jv2 4 5 ?_)))
 refine jT ?_
 refine bY ?_
 refine qD rfl zh zc (fun j v hj => hb4.cells j v hj) (by first | rfl | (simp; done)) ?_
 refine qL rfl ?_
 refine qO ?_
 have hxs : ∀ y ∈ rs, y ∈ m.l := fun y hy => by rw [← hR] at hy; exact (zea.1 hy).1
 refine ⟨m.wl B d rs, 0, rfl, ⟨zF (hm.frm K) ho jo (fun y hy => (hm.frm K).l.el y (hxs y hy)), .inl ⟨rfl, ?_⟩⟩, K⟩
 have hn : ¬ ∃ x ∈ qC m.p, underN x q := by
  rintro ⟨x, hx, hu⟩
  obtain ⟨y, hy, rfl⟩ := qQn hx
  obtain ⟨j, hj, rfl⟩ := zab hy
  exact hd j hj hj hu
 unfold bE
 rw [if_neg (fun h => h hc1), if_neg (fun h => h hc2), if_neg (fun h => h hc3), if_neg hc4, if_neg hn, MlC.wl_p, ← hR]
 congr 2
 exact (List.filter_map (f := Nc.p) (p := fun x => decide (x.1 ≠ qW q)) (l := m.l)).trans rfl
end
section
open Go.RowKit Go.Sort
theorem zI {H : Type} {enc : TypeId × Value → H} {P : Program} {w : World} {base : Nat} {spare : Nat → Bool} {held : Bool} {t e : TypeId} {fuel len cap : Nat} {a : Option Addr} {x : DataW H × List MemPlace} (ht : P.underlying t = some (.slice e)) (he : P.underlying e = some .string) (hc : P.cellsOf e = 1)
  (h : DataW.trod enc P w base spare held fuel t [.slice a len cap] = some x) : ∃ l : List Tx, l.length = len ∧ len ≤ cap ∧ cap ≤ 9223372036854775807 ∧ Rd w 1 a len (SB l) := by
 obtain ⟨ls, h1, h2, h3, h4, _⟩ := rU ht he hc h
 refine ⟨ls.map (·.data.toList), by simpa using h1, h2, h3, ?_⟩
 have : SB (ls.map (·.data.toList)) = ls.map Value.string := by simp only [SB, zca]; rfl
 rw [this]
 exact h4
theorem zL {w : World} {A : Option Addr} {c : Nat} {l : List Tx} (m : Nat) (h : Rd w 1 A l.length (SB l)) (hc : l.length ≤ c) (hm : m ≤ l.length) : Rd w 1 (cL A c 0 1) (l.take m).length (SB (l.take m)) := by
 have e := h.cut (l := 0) (r := m) (cap := c) jo jo hc
 have e1 : (l.take m).length = m := by simp; omega
 have e2 : SB (l.take m) = ((SB l).drop (0 * 1)).take ((m - 0) * 1) := by simp [SB, zdc]
 rw [e1, e2]
 exact e
def cU (l : List Tx) : List Tx := (l.take 24).map fun x => x.take 30
theorem nJ (l : List Tx) : (cU l).length ≤ 24 ∧ ∀ q ∈ cU l, q.length ≤ 30 := by
 unfold cU
 refine ⟨by simp; omega, fun q hq => ?_⟩
 obtain ⟨x, _, rfl⟩ := List.mem_map.1 hq
 simp
 omega
theorem uQ (A : Option Addr) (c0 : Nat) (l : List Tx) (w : World) (hc : l.length ≤ c0) (hr : Rd w 1 A l.length (SB l)) :
  Calls Tryz.prog 34 #[.slice A l.length c0] w fun e w' => Frm [] w w' ∧ ∃ B d, e = .returned (.slice B (cU l).length d) ∧ Own w' 9 1 B (cU l).length d (SB (cU l)) ∧ (∀ x ∈ ob B, w.heap.size ≤ x) := by
 refine VC.calls (nt := 31) (res := #[.tmp 2]) Tryz.func34 rfl Tryz.ntmps34 Tryz.results34 rfl ?_
 refine jS (jR (ja rfl (jO (jN (jv1 0 ?_)))))
 refine jS (jS (jR (jm rfl (je (Run.lenS rfl zd) (jb rfl rfl (Bin.gtrN _ 24) (jO (jN (jv2 0 8 ?_))))))))
 refine VC.meet (σ := Option Addr × Nat) (fun s => [(0, .slice s.1 (l.take 24).length s.2)]) (fun s wm => w = wm ∧ Rd w 1 s.1 (l.take 24).length (SB (l.take 24))) ?_ ?_
 ·
  refine jD rfl (fun hc1 => ?_) fun hc1 => ?_
  ·
   refine jR (jm rfl (je (Run.sliceS 0 24 rfl zd zj evB.none_ (evB.some_ rfl) jo jo) (ja rfl (jO ?_))))
   refine jN ⟨(cL A c0 0 1, c0 - 0), (js1 (by rw [show (l.take 24).length = 24 - 0 by simp; omega]; rfl)), ?_⟩
   exact ⟨rfl, zL 24 hr hc jo⟩
  refine jQ ?_
  refine jN ⟨(A, c0), (js1 (by rw [zp jo]; rfl)), ?_⟩
  rw [zp jo]
  exact ⟨rfl, hr⟩
 rintro ⟨A2, c2⟩ _ ⟨rfl, hr2⟩ Γ hΓ
 have hl24 : (l.take 24).length ≤ 24 := by simp; omega
 generalize hm : l.take 24 = m at *
 refine jN (VC.sub _ hΓ (jS (jR (ja rfl (jO (jN (jS (jS (jR (jz 0 (jO (jN (jB ?_)))))))))))))
 refine VC.loop (σ := Nat × Option Addr × Nat) (fun s => [(0, .slice A2 m.length c2), (3, .slice s.2.1 ((m.take s.1).map fun x => x.take 30).length s.2.2), (4, .int .i64 ((s.1 : Nat) : Int))]) (fun s wr => s.1 ≤ m.length ∧ Own wr 9 1 s.2.1 ((m.take s.1).map fun x => x.take 30).length s.2.2 (SB ((m.take s.1).map fun x => x.take 30)) ∧ (∀ x ∈ ob s.2.1, w.heap.size ≤ x) ∧ Frm [] w wr) (fun s => m.length - s.1) (0, none, 0) (js3 rfl rfl rfl) ⟨jo, Own.nil _ _ _, by simp [ob], Frm.refl _ _⟩ ?_
 rintro ⟨i, B, d⟩ wr ⟨hi, hown, hge, hfr⟩
 dsimp only at hi hown hge ⊢
 have hil : ((m.take i).map fun x : Tx => x.take 30).length = i := by simp; omega
 refine jS (jS (jR (jm rfl (jm rfl (je (Run.lenS rfl zd) (jb rfl rfl (Bin.lssN _ _) (jO (jN (jv4 0 3 4 14 ?_)))))))))
 refine jD rfl (fun hc2 => ?_) fun hc2 => ?_
 ·
  obtain ⟨ad, rfl, hcell⟩ := dH (hr2.frm hfr jp) hc2
  have hts : ((m.take (i + 1)).map fun x : Tx => x.take 30) = ((m.take i).map fun x : Tx => x.take 30) ++ [m[i].take 30] := by rw [cP hc2]; simp only [zax, zbi, zcv]
  generalize m[i] = x at *
  refine jQ (jN (jv3 0 3 4 ?_))
  refine jS (jB (jS (jR (jm rfl (jm rfl (je (Run.index1 i rfl rfl zd zj hc2) (jl rfl zr hcell (ja rfl (jO (jN (jv4 0 3 4 5 ?_)))))))))))
  refine jS (jS (jR (jm rfl (je (Run.lenT rfl zg) (jb rfl rfl (Bin.gtrN _ 30) (jO (jN (jv5 0 3 4 5 23 ?_))))))))
  refine VC.meet (σ := Unit) (fun s => [(0, .slice (some ad) m.length c2), (3, .slice B ((m.take i).map fun x => x.take 30).length d), (4, .int .i64 ((i : Nat) : Int)), (5, encStr (x.take 30))]) (fun s wm => wr = wm) ?_ ?_
  ·
   refine jD rfl (fun hc3 => ?_) fun hc3 => ?_
   ·
    refine jR (jm rfl (je (Run.sliceT 0 30 rfl zg evB.none_ (evB.some_ rfl) jo jo) (ja rfl (jO ?_))))
    refine jN ⟨(), (js4 rfl rfl rfl rfl), ?_⟩
    rfl
   refine jQ ?_
   refine jN ⟨(), (js4 rfl rfl rfl (by rw [zp (l := x) (i := 30) jo]; rfl)), ?_⟩
   rfl
  rintro _ _ rfl Γ hΓ
  refine jN (VC.sub _ hΓ (jR (jm rfl (jM ?_))))
  refine Ops.m (qK.buildS1 rfl zd zj dE jd jd rfl rfl) rfl ?_
  rintro _ w4 ⟨rfl, hF4⟩
  have hfr4 := hfr.trans hF4.frm jp
  refine Ops.m (qK.app rfl rfl zd (fK) rfl jd (hown.frm hF4.frm jp) (oE hF4) (dD _) jo jo) rfl ?_
  rintro _ w5 ⟨A5, c5, rfl, hown5, hfr5, hob5⟩
  rw [← bO] at hown5
  have hge5 := fM hge hob5 hfr4.size
  have hfr5' := hfr4.own hfr5 hge
  refine ja rfl (jO ?_)
  refine qH (jN ?_)
  refine jv3 0 3 4 ?_
  refine jR (jm rfl (jb rfl rfl (Bin.add_i64 _ 1 jo) (ja rfl (jO ?_))))
  refine jN ⟨(i + 1, A5, c5), (js3 rfl (by rw [hts, zn]; rfl) rfl), ?_, ?_⟩
  ·
   rw [hts]
   exact ⟨hc2, by rw [zn]; exact hown5, hge5, hfr5'⟩
  first | omega | (dsimp only; omega)
 refine jX ?_
 refine qJ (qJ (qT ?_))
 refine jN (jv1 3 ?_)
 refine jS (jR (jm rfl (ja rfl (jO (jN (jv1 2 ?_))))))
 refine jT ?_
 refine qN rfl ?_
 have him : i = m.length := jo
 subst him
 rw [zah] at hown ⊢
 have e : (m.map fun x : Tx => x.take 30) = cU l := by rw [← hm]; rfl
 rw [e] at hown ⊢
 exact ⟨hfr, B, d, rfl, hown, hge⟩
end
section
open Go.RowKit Go.Sort
structure RawM (w : World) (A : Option Addr) (l : List Mc) : Prop where
 rd : Rd w 6 A l.length (MC l)
 fl : ∀ x ∈ l, Rd w 1 x.A x.m.flags.length (SB x.m.flags) ∧ x.m.flags.length ≤ x.c
theorem RawM.frm {w w' : World} {A : Option Addr} {l : List Mc} (h : RawM w A l) (k : Frm [] w w') : RawM w' A l :=
 ⟨h.rd.frm k jp, fun x hx => ⟨(h.fl x hx).1.frm k jp, (h.fl x hx).2⟩⟩
theorem OwM.raw {w : World} {A : Option Addr} {d : Nat} {l : List Mc} (h : OwM w A d l) : RawM w A l :=
 ⟨h.own.rd, fun x hx => ⟨(h.fl x hx).rd, (h.fl x hx).le⟩⟩
theorem zJ (l : List Mc) (m : Nat) (hm : m ≤ l.length) : (MC l).take (m * 6) = MC (l.take m) := by
 have e1 : MC l = MC (l.take m) ++ MC (l.drop m) := by rw [← nF, zbc]
 have e2 : (MC (l.take m)).length = m * 6 := by rw [mR, zl]; congr 1; omega
 rw [e1, zas jo, zp jo]
theorem RawM.take {w : World} {A : Option Addr} {l : List Mc} (h : RawM w A l) (m : Nat) : RawM w A (l.take m) := by
 refine ⟨?_, fun x hx => h.fl x (zds hx)⟩
 rcases Nat.le_total m l.length with hm | hm
 ·
  have h1 := h.rd.cut (cap := l.length) (zaf m) hm (zae _)
  rw [eY, zbk, Nat.zero_mul, zbo, zJ l m hm] at h1
  rw [zl, zal hm]
  exact h1
 rw [zp hm]
 exact h.rd
theorem RawM.elem {w : World} {A : Option Addr} {l : List Mc} {k : Nat} (h : RawM w A l) (hk : k < l.length) : ∃ ad, A = some ad ∧ ∀ j v, (l[k]).cells[j]? = some v → w.cell? ((ad.add (k * 6)).add j) = some v := by
 obtain ⟨ad, rfl, hc⟩ := h.rd.elem hk
 refine ⟨ad, rfl, fun j v hj => hc j v ?_⟩
 rw [eR Mc.cells 6 Mc.cells_len l k hk]
 exact hj
def fZ (l : List MsgP) : List MsgP := (l.take 129).map fun m => { m with flags := cU m.flags }
theorem vE {l : List Mc} {i : Nat} (h : i < (l.take 129).length) : (Ms ((l.take 129).take (i + 1))).map (fun m => { m with flags := cU m.flags }) = (Ms ((l.take 129).take i)).map (fun m => { m with flags := cU m.flags }) ++ [{ ((l.take 129)[i]).m with flags := cU ((l.take 129)[i]).m.flags }] := by
 rw [nY h, zax]
 rfl
theorem uX (v n : Int) (A : Option Addr) (c : Nat) (l : List Mc) (w : World) (hl : RawM w A l) (hc : l.length ≤ c) : Calls Tryz.prog 44 #[.agg #[.int .i64 v, .int .i64 n, .slice A l.length c]] w fun e w' => Frm [] w w' ∧ ∃ B d l', e = .returned (.agg #[.int .i64 v, .int .i64 n, .slice B l'.length d]) ∧ OwM w' B d l' ∧ Ms l' = fZ (Ms l) ∧ l'.length ≤ 129 ∧ ∀ b ∈ ob B, w.heap.size ≤ b := by
 refine VC.calls (nt := 37) (res := #[.cell 2 43]) Tryz.func44 rfl Tryz.ntmps44 Tryz.results44 rfl ?_
 refine jS (jR ?_)
 refine Ops.m (qK.box rfl) rfl ?_
 rintro _ w1 ⟨rfl, hF1⟩
 have hb1 := hF1.blk
 have hf1 := hF1.frm
 have hs1 : w.heap.size ≤ w.heap.size := zae _
 generalize hg1 : w.heap.size = g1 at hb1 ⊢
 refine Ops.m (qK.alloc cB) rfl ?_
 rintro _ w2 ⟨rfl, hF2⟩
 have hb2 := hF2.blk
 have hb1 := hb1.frm hF2.frm jp
 have hf2 := hf1.trans hF2.frm jp
 have hs2 : w.heap.size ≤ w1.heap.size := hf1.size
 generalize hg2 : w1.heap.size = g2 at hb2 hs2 ⊢
 have hn12 : g1 < g2 := by rw [← hg2, ← hg1]; have := hF1.size; omega
 refine jO (jN (jv2 1 2 ?_))
 refine jS (jS (jR (jf rfl zi rfl zad (jl rfl zao (hb1.cell 2) (je (Run.lenS rfl zv) (jb rfl rfl (Bin.gtrN _ 129) (jO (jN (jv3 1 2 9 ?_)))))))))
 refine VC.meet (σ := Unit) (fun s => [(1, .pointer (some ⟨g1, 0, none⟩)), (2, .pointer (some ⟨g2, 0, none⟩))]) (fun s wm => Blk wm g1 43 (BVc v n A (l.take 129).length c).toArray ∧ Blk wm g2 43 (BVc 0 0 none 0 0).toArray ∧ Frm [] w wm) ?_ ?_
 ·
  refine jD rfl (fun hc1 => ?_) fun hc1 => ?_
  ·
   refine jR (jf rfl zi rfl zad (jl rfl zao (hb1.cell 2) (je (Run.sliceS 0 129 rfl zv zaj evB.none_ (evB.some_ rfl) jo jo) (jf rfl zi rfl zad ?_))))
   refine Ops.st (qP.store rfl rfl zad hb1 rfl rfl) ?_
   rintro w3 ⟨hb13, hf3, hs3⟩
   have hlt : (l.take 129).length = 129 := by rw [zl]; omega
   have hb13 : Blk w3 g1 43 (BVc v n (cL A c 0 6) (129 - 0) (c - 0)).toArray := hb13
   rw [eY, zbk, zbk] at hb13
   have hb23 := hb2.frm hf3 (by simp; omega)
   have hfr3 := hf2.own hf3 (fun y hy => by simp at hy; omega)
   refine jO ?_
   refine jN ⟨(), (js2 rfl rfl), ?_⟩
   exact ⟨by rw [hlt]; exact hb13, hb23, hfr3⟩
  refine jQ ?_
  refine jN ⟨(), (js2 rfl rfl), ?_⟩
  have hlt : (l.take 129).length = l.length := by rw [zl]; omega
  exact ⟨by rw [hlt]; exact hb1, hb2, hf2⟩
 rintro _ w3 ⟨hb1, hb2, hf3⟩ Γ hΓ
 have hlt := hl.take 129
 have hlt129 : (l.take 129).length ≤ 129 := by rw [zl]; omega
 refine jN (VC.sub _ hΓ (jS (jR (ja rfl (jO (jN (jS (jS (jR (jz 0 (jO (jN (jB ?_)))))))))))))
 refine VC.loop (σ := Nat × Option Addr × Nat × List Mc) (fun s => [(1, .pointer (some ⟨g1, 0, none⟩)), (2, .pointer (some ⟨g2, 0, none⟩)), (3, .slice s.2.1 s.2.2.2.length s.2.2.1), (4, .int .i64 ((s.1 : Nat) : Int))]) (fun s wr => s.1 ≤ (l.take 129).length ∧ OwM wr s.2.1 s.2.2.1 s.2.2.2 ∧ Ms s.2.2.2 = (Ms ((l.take 129).take s.1)).map (fun m => { m with flags := cU m.flags }) ∧ (∀ b ∈ ob s.2.1, w3.heap.size ≤ b) ∧ Frm [] w3 wr) (fun s => (l.take 129).length - s.1) (0, none, 0, []) (js4 rfl rfl rfl rfl) ⟨jo, OwM.nil _, rfl, by simp [ob], Frm.refl _ _⟩ ?_
 rintro ⟨i, B, d, l'⟩ wr ⟨hi, hown, hms, hge, hfr⟩
 dsimp only at hi hown hms hge ⊢
 have hll : l'.length = i := by
  have h := congrArg List.length hms
  simp only [Ms, zaq, zl (i := i)] at h
  omega
 have hb1r := hb1.frm hfr jp
 refine jS (jS (jR (jm rfl (jf rfl zi rfl zad (jl rfl zao (hb1r.cell 2) (je (Run.lenS rfl zv) (jb rfl rfl (Bin.lssN _ _) (jO (jN (jv5 1 2 3 4 18 ?_))))))))))
 refine jD rfl (fun hc2 => ?_) fun hc2 => ?_
 ·
  obtain ⟨ad, rfl, hcell⟩ := (hlt.frm (hf3.trans hfr jp)).elem hc2
  have hxa := (hlt.frm (hf3.trans hfr jp)).fl ((l.take 129)[i]) (zu hc2)
  have hmt := vE hc2
  generalize hx : (l.take 129)[i] = x at *
  refine jQ (jN (jv4 1 2 3 4 ?_))
  refine jS (jB (jS (jR (jf rfl zi rfl zad (jl rfl zao (hb1r.cell 2) (jm rfl (je (Run.indexS i rfl rfl zv zaj hc2) (je (Run.loadA rfl zcx zaj hcell (by first | rfl | (simp; done))) ?_))))))))
  refine Ops.m (qK.alloc fU) rfl ?_
  rintro _ w4 ⟨rfl, hF4⟩
  have hb4 := hF4.blk
  have hf4 := hF4.frm
  have hsz4 : wr.heap.size ≤ wr.heap.size := zae _
  have hfs := hfr.size
  generalize hg4 : wr.heap.size = g4 at hb4 hsz4 hfs ⊢
  refine Ops.st (qP.storeA rfl rfl zaj hb4 rfl x.cells_one) ?_
  rintro w5 ⟨hb5, hf5, hs5⟩
  have hfr5 : Frm [] wr w5 := hf4.own hf5 (fun y hy => by simp at hy; omega)
  refine jO (jN (jv5 1 2 3 4 5 ?_))
  refine jS (jR (jf rfl zaa rfl zac (jl rfl zan (hb5.cell 5) ?_)))
  refine Ops.cl (jE1 Tryz.call34) (uQ x.A x.c x.m.flags _ hxa.2 (hxa.1.frm hfr5 jp)) rfl ?_
  rintro e w6 ⟨hf6, C, dC, rfl, hownC, hgeC⟩
  refine ⟨_, rfl, ?_⟩
  have hfr6 := hfr5.trans hf6 jp
  have hb56 := hb5.frm hf6 jp
  have hff := nJ x.m.flags
  refine jf rfl zaa rfl zac ?_
  refine Ops.st (qP.store rfl rfl zac hb56 rfl rfl) ?_
  rintro w7 ⟨hb7, hf7, hs7⟩
  have hb7 : Blk w7 g4 60 (⟨{ x.m with flags := cU x.m.flags }, C, dC⟩ : Mc).cells.toArray := hb7
  have hownC7 := hownC.frm hf7 (fun y hy => by have := hownC.ne_blk hb56 jd; simp; rintro rfl; exact this hy)
  have hfr7 : Frm [] wr w7 := hfr6.own hf7 (fun y hy => by simp at hy; omega)
  refine jO (jN (jv5 1 2 3 4 5 ?_))
  refine jR (jm rfl (je (Run.loadA rfl zcx zaj (fun j v hj => hb7.cells j v hj) (by first | rfl | (simp; done))) ?_))
  refine Ops.m (qK.buildS1 rfl zv zaj fU jd jd rfl rfl) rfl ?_
  rintro _ w8 ⟨rfl, hF8⟩
  have hfr8 := hfr7.trans hF8.frm jp
  have hown8 := hown.frm hfr8
  have hownC8 := hownC7.frm hF8.frm jp
  refine Ops.m (qK.app rfl rfl zv (uM) rfl jd hown8.own (hrdM (x := ⟨{ x.m with flags := cU x.m.flags }, C, dC⟩) hF8) (lT Mc.cells Mc.cells_one _) jo jo) rfl ?_
  rintro _ w9 ⟨A9, c9, rfl, hown9, hf9, hob9⟩
  rw [← nF] at hown9
  have hge9 := fM hge hob9 (zbe hfr.size hfr8.size)
  have hfr9 := (hfr.trans hfr8 jp).own hf9 hge
  have hM9 := hown8.put (x := ⟨{ x.m with flags := cU x.m.flags }, C, dC⟩) (by simpa using hown9) hf9 hownC8 ⟨by have := hff.1; dsimp only; omega, fun q hq => by have := hff.2 q hq; omega⟩
  refine ja rfl (jO ?_)
  refine qH (jN ?_)
  refine jv4 1 2 3 4 ?_
  refine jR (jm rfl (jb rfl rfl (Bin.add_i64 _ 1 jo) (ja rfl (jO ?_))))
  refine jN ⟨(i + 1, A9, c9, l' ++ [⟨{ x.m with flags := cU x.m.flags }, C, dC⟩]), (js4 rfl rfl (by rw [zn]; rfl) rfl), ?_, ?_⟩
  · exact ⟨hc2, hM9, by rw [hmt, ← hms]; simp [Ms], hge9, hfr9⟩
  first | omega | (dsimp only; omega)
 refine jX ?_
 refine qJ (qJ (qT ?_))
 refine jN (jv3 1 2 3 ?_)
 refine jS (jR (jm rfl (jf rfl zi rfl zad ?_)))
 refine Ops.st (qP.store rfl rfl zad hb1r rfl rfl) ?_
 rintro w10 ⟨hb110, hf10, hs10⟩
 have hb110 : Blk w10 g1 43 (BVc v n B l'.length d).toArray := hb110
 have hb210 := (hb2.frm hfr jp).frm hf10 (by simp; omega)
 have hM10 := hown.blk hf10 hb1r jd jd
 have hfr10 := (hf3.trans hfr jp).own hf10 (fun y hy => by simp at hy; omega)
 refine jO (jN (jv2 1 2 ?_))
 refine jS (jR (je (Run.loadA rfl zat zq (fun j v hj => hb110.cells j v hj) (by first | rfl | (simp; done))) ?_))
 refine Ops.st (qP.storeA rfl rfl zq hb210 rfl (cR _ _ _ _ _)) ?_
 rintro w11 ⟨hb211, hf11, hs11⟩
 have hM11 := hM10.blk hf11 hb210 jd jd
 have hfr11 := hfr10.own hf11 (fun y hy => by simp at hy; omega)
 refine jO (jN (jv1 2 ?_))
 refine jT ?_
 refine bY ?_
 refine qD rfl zat zq (fun j v hj => hb211.cells j v hj) (by first | rfl | (simp; done)) ?_
 refine qO ?_
 have hil : i = (l.take 129).length := jo
 rw [hil, zah] at hms
 refine ⟨hfr11, B, d, l', rfl, hM11, ?_, jo, fun b hb => by have := hge b hb; have := hf3.size; omega⟩
 rw [hms]
 unfold fZ
 simp only [Ms, zdc]
end
section
open Go.RowKit
def m0 (b : Nat) : MsgP := ⟨0, 0, 0, 0, b, []⟩
def m1 (u : Int) (b : Nat) (f : List Tx) : MsgP := ⟨u, 0, 0, 0, b, f⟩
end
section
open Go.RowKit Go.ChangeShapes Go.WideShapes Go.Deep
section
variable {H : Type} {enc : TypeId × Value → H} {w : World} {base : Nat} {spare : Nat → Bool} {held : Bool}
theorem xD {n : Nat} {cs : List Value} {x : DataW H × List MemPlace} (h : DataW.trod enc Tryz.prog w base spare held n 60 cs = some x) :
  ∃ y : Mc, cs = y.cells ∧ Rd w 1 y.A y.m.flags.length (SB y.m.flags) ∧ y.m.flags.length ≤ y.c := by
 obtain ⟨xs, n', _, _, hlen, hxl, hf⟩ := DataW.trod_struct zaa h
 have hl : cs.length = 6 := hlen.trans jK
 obtain ⟨a0, a1, a2, a3, a4, a5, rfl⟩ : ∃ a0 a1 a2 a3 a4 a5, cs = [a0, a1, a2, a3, a4, a5] := by
  match cs, hl with
  | [a0, a1, a2, a3, a4, a5], _ => exact ⟨a0, a1, a2, a3, a4, a5, rfl⟩
 have hget : ∀ i, i < 5 → ∃ y, xs[i]? = some y := fun i hi => ⟨xs[i]'(by rw [hxl]; exact hi), zb _⟩
 have h0 := hf 0 _ rfl
 have h1 := hf 1 _ rfl
 have h2 := hf 2 _ rfl
 have h3 := hf 3 _ rfl
 have h4 := hf 4 _ rfl
 obtain ⟨y0, e0⟩ := hget 0 jd
 obtain ⟨y1, e1⟩ := hget 1 jd
 obtain ⟨y2, e2⟩ := hget 2 jd
 obtain ⟨y3, e3⟩ := hget 3 jd
 obtain ⟨y4, e4⟩ := hget 4 jd
 rw [e0] at h0
 rw [e1] at h1
 rw [e2] at h2
 rw [e3] at h3
 rw [e4] at h4
 have c1 : Tryz.prog.cellsOf 3 = 1 := by kernel_rfl
 have c2 : Tryz.prog.cellsOf 58 = 2 := by kernel_rfl
 have c3 : Tryz.prog.cellsOf 40 = 1 := by kernel_rfl
 have c4 : Tryz.prog.cellsOf 23 = 1 := by kernel_rfl
 have h0 : DataW.trod enc Tryz.prog w base spare held n' 3 ([a0, a1, a2, a3, a4, a5].take (Tryz.prog.cellsOf 3)) = some y0 := h0
 have h1 : DataW.trod enc Tryz.prog w base spare held n' 58 ([a1, a2, a3, a4, a5].take (Tryz.prog.cellsOf 58)) = some y1 := h1
 have h2 : DataW.trod enc Tryz.prog w base spare held n' 3 ([a3, a4, a5].take (Tryz.prog.cellsOf 3)) = some y2 := h2
 have h3 : DataW.trod enc Tryz.prog w base spare held n' 40 ([a4, a5].take (Tryz.prog.cellsOf 40)) = some y3 := h3
 have h4 : DataW.trod enc Tryz.prog w base spare held n' 23 ([a5].take (Tryz.prog.cellsOf 23)) = some y4 := h4
 rw [c1] at h0 h2
 rw [c2] at h1
 rw [c3] at h3
 rw [c4] at h4
 obtain ⟨z0, g0, _⟩ := DataW.trod_int zag h0
 obtain ⟨z2, g2, _⟩ := DataW.trod_int zag h2
 obtain ⟨z3, g3, _, w3⟩ := DataW.trod_int zeg h3
 obtain ⟨xd, nd, _, _, _, hxd, hfd⟩ := DataW.trod_struct zaz h1
 have d0 := hfd 0 _ rfl
 have d1 := hfd 1 _ rfl
 have hgd : ∀ i, i < 2 → ∃ y, xd[i]? = some y := fun i hi => ⟨xd[i]'(by rw [hxd]; exact hi), zb _⟩
 obtain ⟨u0, f0⟩ := hgd 0 jd
 obtain ⟨u1, f1⟩ := hgd 1 jd
 rw [f0] at d0
 rw [f1] at d1
 have c5 : Tryz.prog.cellsOf 2 = 1 := by kernel_rfl
 have d0 : DataW.trod enc Tryz.prog w base spare held nd 2 ([a1, a2].take (Tryz.prog.cellsOf 2)) = some u0 := d0
 have d1 : DataW.trod enc Tryz.prog w base spare held nd 3 ([a2].take (Tryz.prog.cellsOf 3)) = some u1 := d1
 rw [c5] at d0
 rw [c1] at d1
 obtain ⟨zs, gs, _⟩ := DataW.trod_int Tryz.underlying2 d0
 obtain ⟨zz, gz, _⟩ := DataW.trod_int zag d1
 simp only [zcl, zdg, List.cons.injEq, and_true] at g0 g2 g3 gs gz
 subst g0 g2 g3 gs gz
 have h4 : DataW.trod enc Tryz.prog w base spare held n' 23 [a5] = some y4 := h4
 have hv : ∃ A l c, a5 = .slice A l c := by
  rcases open_slice1 zd jK h4 with ⟨hcs, _⟩ | ⟨ad, l, c, _, _, _, _, _, hcs, _⟩
  · exact ⟨_, _, _, by simpa using hcs⟩
  exact ⟨_, _, _, by simpa using hcs⟩
 obtain ⟨A, len, c, rfl⟩ := hv
 obtain ⟨fl, rfl, hlc, _, hrd⟩ := zI zd zg jK h4
 have hz3 := bounds_u64 w3
 refine ⟨⟨⟨z0, zs, zz, z2, z3.toNat, fl⟩, A, c⟩, ?_, hrd, hlc⟩
 simp only [Mc.cells]
 rw [Int.toNat_of_nonneg hz3.1]
theorem zK {fuel len cap : Nat} {a : Option Addr} {x : DataW H × List MemPlace} (h : DataW.trod enc Tryz.prog w base spare held fuel 41 [.slice a len cap] = some x) :
  ∃ l : List Mc, l.length = len ∧ len ≤ cap ∧ cap ≤ 9223372036854775807 ∧ RawM w a l := by
 have hC : Tryz.prog.cellsOf 60 = 6 := by kernel_rfl
 rcases open_slice zv h with ⟨hcs, _⟩ | ⟨ad, l, c, m, n, D, Pl, hcs, _, hl, hm, hmm, _, hi⟩
 ·
  simp only [List.cons.injEq, Value.slice.injEq, and_true] at hcs
  obtain ⟨rfl, rfl, rfl⟩ := hcs
  exact ⟨[], rfl, zae _, jo, Rd.nil _ _ _, jp⟩
 simp only [List.cons.injEq, Value.slice.injEq, and_true] at hcs
 obtain ⟨rfl, rfl, rfl⟩ := hcs
 have hml : len ≤ m := by rw [hmm]; split <;> omega
 rw [hC] at hi
 have key : ∀ i, i < len → ∃ y : Mc, (∀ j, j < 6 → w.cell? ((ad.add (i * 6)).add j) = y.cells[j]?) ∧ Rd w 1 y.A y.m.flags.length (SB y.m.flags) ∧ y.m.flags.length ≤ y.c := by
  intro i hil
  obtain ⟨cs', hc, ht'⟩ := hi i jo
  obtain ⟨_, hcl, hat⟩ := World.cells?_some hc
  obtain ⟨y, rfl, h1, h2⟩ := xD ht'
  exact ⟨y, fun j hj => hat j hj, h1, h2⟩
 obtain ⟨ls, hll, hq⟩ := eC len key
 have hcell : ∀ j u, (MC ls)[j]? = some u → w.cell? (ad.add j) = some u := by
  intro j u hu
  rw [show MC ls = ls.flatMap Mc.cells from rfl, fP Mc.cells 6 jo Mc.cells_len] at hu
  obtain ⟨y, hy, hu'⟩ := Option.bind_eq_some_iff.1 hu
  have := (hq _ y hy).1 (j % 6) (Nat.mod_lt _ jo)
  rw [Go.Proofs.YtgmbmfpfhcekiaaGreat.add_add, Nat.mul_comm, Nat.div_add_mod] at this
  rw [this, hu']
 refine ⟨ls, hll, hl, by simpa [maxLen] using hm, ⟨by rw [mR], fun hn => ⟨ad, rfl, ?_, hcell⟩⟩, fun y hy => ?_⟩
 ·
  have h0 : 0 < (MC ls).length := by rw [mR]; omega
  have := World.block_lt_of_cell? w _ (hcell 0 _ (zb h0))
  rwa [dO] at this
 obtain ⟨i, hi', hli⟩ := zab hy
 exact (hq i y (by rw [zb hi', hli])).2
end
end
section
open Go.RowKit Go.Sort
def nP (l : List MsgP) : List MsgP := fZ (if 20 < l.length ∧ l.length ≤ 128 then l.take 20 else l)
def fJ (x : NmP) : NmP := (x.1.take 70, ⟨x.2.valid, x.2.next, nP x.2.l⟩)
def mX (m : MailP) : MailP := ⟨(m.l.take 25).map fJ, (m.subs.take 25).map (fun s => s.take 70), m.valid, m.blob⟩
theorem rP (l : List Tx) : cU (cU l) = cU l := by
 obtain ⟨h1, h2⟩ := nJ l
 have e : cU (cU l) = ((cU l).take 24).map fun x => x.take 30 := rfl
 rw [e, zp h1]
 exact (zdj (g := id) fun x hx => zp (h2 x hx)).trans (List.map_id _)
theorem jF (l : List MsgP) : (fZ l).length = min 129 l.length := by unfold fZ; simp
theorem lM (l : List MsgP) : fZ (fZ l) = fZ l := by
 have e : fZ (fZ l) = ((fZ l).take 129).map fun m => { m with flags := cU m.flags } := rfl
 rw [e, zp (by rw [jF]; omega)]
 unfold fZ
 rw [zca]
 exact zdj fun m _ => by simp only [Function.comp, rP]
theorem vF (l : List MsgP) : nP (nP l) = nP l := by
 unfold nP
 by_cases h : 20 < l.length ∧ l.length ≤ 128
 · rw [if_pos h, if_neg (by rw [jF, zl]; omega), lM]
 rw [if_neg h, if_neg (by rw [jF]; omega), lM]
theorem vA (m : MailP) : mX (mX m) = mX m := by
 unfold mX
 congr 1
 ·
  rw [zp (by simp; omega), zca]
  refine zdj fun x _ => ?_
  show fJ (fJ x) = fJ x
  unfold fJ
  dsimp only
  rw [vF, zcs, Nat.min_self]
 rw [zp (by simp; omega), zca]
 refine zdj fun x _ => ?_
 show (x.take 70).take 70 = x.take 70
 rw [zcs, Nat.min_self]
structure RawL (w : World) (m : MlC) : Prop where
 l : Rd w 4 m.A m.l.length (NDC m.l)
 el : ∀ x ∈ m.l, RawM w x.A x.l ∧ x.l.length ≤ x.c
 s : Rd w 1 m.S m.ss.length (SB m.ss)
 lc : m.l.length ≤ m.c
 sc : m.ss.length ≤ m.d
theorem RawL.frm {w w' : World} {m : MlC} (h : RawL w m) (k : Frm [] w w') : RawL w' m := ⟨h.l.frm k jp, fun x hx => ⟨(h.el x hx).1.frm k, (h.el x hx).2⟩, h.s.frm k jp, h.lc, h.sc⟩
theorem RawL.takeL {w : World} {m : MlC} (h : RawL w m) (k : Nat) : Rd w 4 m.A (m.l.take k).length (NDC (m.l.take k)) := by
 rcases Nat.le_total k m.l.length with hm | hm
 ·
  have h1 := h.l.cut (cap := m.l.length) (zaf k) hm (zae _)
  rw [eY, zbk, Nat.zero_mul, zbo, fA m.l k hm] at h1
  rw [zl, zal hm]
  exact h1
 rw [zp hm]
 exact h.l
theorem RawL.takeS {w : World} {m : MlC} (h : RawL w m) (k : Nat) : Rd w 1 m.S (m.ss.take k).length (SB (m.ss.take k)) := by
 rcases Nat.le_total k m.ss.length with hm | hm
 ·
  have h1 := h.s.cut (cap := m.ss.length) (zaf k) hm (zae _)
  rw [eY, zbk, Nat.zero_mul, zbo, zbg, show (SB m.ss).take k = SB (m.ss.take k) by simp [SB, zdc]] at h1
  rw [zl, zal hm]
  exact h1
 rw [zp hm]
 exact h.s
theorem zV {w : World} {A : Option Addr} {l : List Nc} {k : Nat} (h : Rd w 4 A l.length (NDC l)) (hk : k < l.length) : ∃ ad, A = some ad ∧ ∀ W, Frm [] w W → ∀ j v, (l[k]).cells[j]? = some v → W.cell? ((ad.add (k * 4)).add j) = some v := by
 obtain ⟨ad, rfl, hc⟩ := h.elem hk
 refine ⟨ad, rfl, fun W hW j v hj => ?_⟩
 obtain ⟨ad', e, hc'⟩ := (h.frm hW jp).elem hk
 cases e
 exact hc' j v (by rw [eR Nc.cells 4 Nc.cells_len l k hk]; exact hj)
theorem OwM.offO {w w' : World} {A B : Option Addr} {d size n c : Nat} {l : List Mc} {e : TypeId} {xs : List Value} (h : OwM w A d l) (k : Frm (ob B) w w') (hB : Own w e size B n c xs) (h1 : 60 ≠ e) (h2 : 9 ≠ e) : OwM w' A d l :=
 ⟨h.own.frm k (fun y hy => h.own.ne_own hB h1 y hy), fun x hx => (h.fl x hx).frm k (fun y hy => (h.fl x hx).ne_own hB h2 y hy), h.fit⟩
theorem OwM.at27 {w : World} {x : Nc} (h : OwM w x.A x.c x.l) (h1 : x.l.length ≤ 129) (h2 : x.nm.length ≤ 70) : x.At w := ⟨h.rdm, jo, jo⟩
structure OwL (w : World) (m : MlC) : Prop where
 l : Own w 45 4 m.A m.l.length m.c (NDC m.l)
 el : ∀ x ∈ m.l, OwM w x.A x.c x.l ∧ x.l.length ≤ 129 ∧ x.nm.length ≤ 70
 s : Own w 9 1 m.S m.ss.length m.d (SB m.ss)
 ln : m.l.length ≤ 25
 sn : m.ss.length ≤ 25
 sq : ∀ q ∈ m.ss, q.length ≤ 70
theorem OwL.frm {w w' : World} {m : MlC} (h : OwL w m) (k : Frm [] w w') : OwL w' m := ⟨h.l.frm k jp, fun x hx => ⟨(h.el x hx).1.frm k, (h.el x hx).2⟩, h.s.frm k jp, h.ln, h.sn, h.sq⟩
theorem OwL.rdl {w : World} {m : MlC} (h : OwL w m) : RdL w m := ⟨⟨h.l.rd, fun x hx => (h.el x hx).1.at27 (h.el x hx).2.1 (h.el x hx).2.2⟩, h.s.rd, h.l.le, h.s.le, by have := h.ln; omega, by have := h.sn; omega, fun q hq => by have := h.sq q hq; omega⟩
theorem OwL.raw {w : World} {m : MlC} (h : OwL w m) : RawL w m := ⟨h.l.rd, fun x hx => ⟨(h.el x hx).1.raw, (h.el x hx).1.own.le⟩, h.s.rd, h.l.le, h.s.le⟩
theorem OwL.blk {w w' : World} {m : MlC} {g : Nat} {t : TypeId} {cs : Array Value} (h : OwL w m) (k : Frm [g] w w') (hb : Blk w g t cs) (h0 : 45 ≠ t) (h1 : 60 ≠ t) (h2 : 9 ≠ t) : OwL w' m :=
 ⟨h.l.frm k (fun y hy h' => by rw [za] at h'; subst h'; exact h.l.ne_blk hb h0 hy), fun x hx => ⟨(h.el x hx).1.blk k hb h1 h2, (h.el x hx).2⟩, h.s.frm k (fun y hy h' => by rw [za] at h'; subst h'; exact h.s.ne_blk hb h2 hy), h.ln, h.sn, h.sq⟩
theorem zO {w : World} {A : Option Addr} {l : List Tx} {k : Nat} (h : Rd w 1 A l.length (SB l)) (hk : k < l.length) : ∃ ad, A = some ad ∧ w.cell? ((ad.add (k * 1)).add 0) = some (encStr l[k]) := by
 obtain ⟨ad, hA, hc⟩ := h.elem hk
 exact ⟨ad, hA, hc 0 _ (by simp [SB, zb hk])⟩
theorem kQ {α β : Type} (f : α → β) {l : List α} {i : Nat} (h : i < l.length) : (l.take (i + 1)).map f = (l.take i).map f ++ [f l[i]] := by rw [zam, zb h, zax]; rfl
set_option maxHeartbeats 1000000 in
theorem nK (m : MlC) (w : World) (hm : RawL w m) : Calls Tryz.prog 11 #[m.val] w fun e w' => ∃ m' : MlC, e = .returned m'.val ∧ m'.p = mX m.p ∧ OwL w' m' ∧ m'.b = m.b ∧ Frm [] w w' := by
 have hlc := hm.lc
 have hsc := hm.sc
 refine VC.calls (nt := 85) (res := #[.cell 2 25]) Tryz.func11 rfl Tryz.ntmps11 Tryz.results11 rfl ?_
 refine jS (jR ?_)
 refine Ops.m (qK.box rfl) rfl ?_
 rintro _ w1 ⟨rfl, hF_w1⟩
 have hb1 : Blk w1 w.heap.size 25 #[.slice m.A m.l.length m.c, .slice m.S m.ss.length m.d, .int .i64 m.v, .int .i64 m.b] := hF_w1.blk
 have K := hF_w1.frm
 generalize hg1 : w.heap.size = g1 at hb1 ⊢
 refine Ops.m (qK.alloc bZ) rfl ?_
 rintro _ w2 ⟨rfl, hF2⟩
 have hb4 := hF2.blk
 have hg4 : w.heap.size ≤ w1.heap.size := K.size
 have hb1 := hb1.frm hF2.frm jp
 have hl1 := hb1.lt
 have hl4 := hb4.lt
 have K := K.trans hF2.frm jp
 have hne14 : g1 ≠ w1.heap.size := by have := hF_w1.size; omega
 have hg1s : w.heap.size ≤ g1 := jo
 generalize hg4' : w1.heap.size = g4 at hb4 hg4 hne14 hl4 ⊢
 refine jO (jN (jv2 1 2 ?_))
 refine jS (jS (jR (jf rfl zf rfl zw (jl rfl zak (hb1.cell 0) (je (Run.lenS rfl ze) (jb rfl rfl (Bin.gtrN _ 25) (jO (jN (jv3 1 2 11 ?_)))))))))
 refine VC.meet (σ := Unit) (fun s => [(1, .pointer (some ⟨g1, 0, none⟩)), (2, .pointer (some ⟨g4, 0, none⟩))]) (fun s wm => Blk wm g1 25 #[.slice m.A (m.l.take 25).length m.c, .slice m.S m.ss.length m.d, .int .i64 m.v, .int .i64 m.b] ∧ Blk wm g4 25 qS.cells.toArray ∧ Frm [] w wm) ?_ ?_
 ·
  refine jD rfl (fun hc1 => ?_) fun hc1 => ?_
  ·
   refine jR (jf rfl zf rfl zw (jl rfl zak (hb1.cell 0) (je (Run.sliceS 0 25 rfl ze zm evB.none_ (evB.some_ rfl) jo jo) (jf rfl zf rfl zw ?_))))
   refine Ops.st (qP.store rfl rfl zw hb1 rfl rfl) ?_
   rintro w3 ⟨hbn, (hfw3 : Frm [g1] _ _), hsw3⟩
   have hlt : (m.l.take 25).length = 25 := by rw [zl]; omega
   have hbn : Blk w3 g1 25 #[.slice (cL m.A m.c 0 4) (25 - 0) (m.c - 0), .slice m.S m.ss.length m.d, .int .i64 m.v, .int .i64 m.b] := hbn
   rw [eY, zbk, zbk] at hbn
   have hb1 : Blk w3 g1 25 #[.slice m.A (m.l.take 25).length m.c, .slice m.S m.ss.length m.d, .int .i64 m.v, .int .i64 m.b] := by rw [hlt]; exact hbn
   have hb4 := hb4.frm hfw3 (by simp; omega)
   have K := K.own hfw3 (fun y hy => by rw [za] at hy; omega)
   refine jO ?_
   refine jN ⟨(), (js2 rfl rfl), ?_⟩
   exact ⟨hb1, hb4, K⟩
  refine jQ ?_
  refine jN ⟨(), (js2 rfl rfl), ?_⟩
  have hlt : (m.l.take 25).length = m.l.length := by rw [zl]; omega
  exact ⟨by rw [hlt]; exact hb1, hb4, K⟩
 rintro _ w3 ⟨hb1, hb4, K⟩ Γ hΓ
 refine jN (VC.sub _ hΓ (jS (jS (jR (jf rfl zf rfl zac (jl rfl zan (hb1.cell 1) (je (Run.lenS rfl zd) (jb rfl rfl (Bin.gtrN _ 25) (jO (jN (jv3 1 2 19 ?_)))))))))))
 refine VC.meet (σ := Unit) (fun s => [(1, .pointer (some ⟨g1, 0, none⟩)), (2, .pointer (some ⟨g4, 0, none⟩))]) (fun s wm => Blk wm g1 25 #[.slice m.A (m.l.take 25).length m.c, .slice m.S (m.ss.take 25).length m.d, .int .i64 m.v, .int .i64 m.b] ∧ Blk wm g4 25 qS.cells.toArray ∧ Frm [] w wm) ?_ ?_
 ·
  refine jD rfl (fun hc2 => ?_) fun hc2 => ?_
  ·
   refine jR (jf rfl zf rfl zac (jl rfl zan (hb1.cell 1) (je (Run.sliceS 0 25 rfl zd zj evB.none_ (evB.some_ rfl) jo jo) (jf rfl zf rfl zac ?_))))
   refine Ops.st (qP.store rfl rfl zac hb1 rfl rfl) ?_
   rintro w4 ⟨hbn, (hfw4 : Frm [g1] _ _), hsw4⟩
   have hst : (m.ss.take 25).length = 25 := by rw [zl]; omega
   have hbn : Blk w4 g1 25 #[.slice m.A (m.l.take 25).length m.c, .slice (cL m.S m.d 0 1) (25 - 0) (m.d - 0), .int .i64 m.v, .int .i64 m.b] := hbn
   rw [eY, zbk, zbk] at hbn
   have hb1 : Blk w4 g1 25 #[.slice m.A (m.l.take 25).length m.c, .slice m.S (m.ss.take 25).length m.d, .int .i64 m.v, .int .i64 m.b] := by rw [hst]; exact hbn
   have hb4 := hb4.frm hfw4 (by simp; omega)
   have K := K.own hfw4 (fun y hy => by rw [za] at hy; omega)
   refine jO ?_
   refine jN ⟨(), (js2 rfl rfl), ?_⟩
   exact ⟨hb1, hb4, K⟩
  refine jQ ?_
  refine jN ⟨(), (js2 rfl rfl), ?_⟩
  have hst : (m.ss.take 25).length = m.ss.length := by rw [zl]; omega
  exact ⟨by rw [hst]; exact hb1, hb4, K⟩
 rintro _ w4 ⟨hb1, hb4, K⟩ Γ hΓ
 have hRl := hm.takeL 25
 have hRs := hm.takeS 25
 have hRe : ∀ x ∈ m.l.take 25, RawM w x.A x.l ∧ x.l.length ≤ x.c := fun x hx => hm.el x (zds hx)
 have hRn : (m.l.take 25).length ≤ 25 := zcr _ _
 have hRm : (m.ss.take 25).length ≤ 25 := zcr _ _
 obtain ⟨l, hl⟩ : ∃ l, l = m.l.take 25 := ⟨_, rfl⟩
 obtain ⟨ss, hss⟩ : ∃ ss, ss = m.ss.take 25 := ⟨_, rfl⟩
 rw [← hl] at hRl hRe hRn hb1
 rw [← hss] at hRs hRm hb1
 refine jN (VC.sub _ hΓ (jS (jR (ja rfl (jO (jN (jS (jS (jR (jz 0 (jO (jN (jB ?_)))))))))))))
 refine VC.loop (σ := Nat × Option Addr × Nat × List Nc) (fun s => [(1, .pointer (some ⟨g1, 0, none⟩)), (2, .pointer (some ⟨g4, 0, none⟩)), (3, .slice s.2.1 s.2.2.2.length s.2.2.1), (4, .int .i64 ((s.1 : Nat) : Int))]) (fun s wr => s.1 ≤ l.length ∧ Blk wr g1 25 #[.slice m.A l.length m.c, .slice m.S ss.length m.d, .int .i64 m.v, .int .i64 m.b] ∧ Blk wr g4 25 qS.cells.toArray ∧ Own wr 45 4 s.2.1 s.2.2.2.length s.2.2.1 (NDC s.2.2.2) ∧ (∀ x ∈ s.2.2.2, OwM wr x.A x.c x.l ∧ x.l.length ≤ 129 ∧ x.nm.length ≤ 70) ∧ Ns s.2.2.2 = ((l.take s.1).map Nc.p).map fJ ∧ (∀ b ∈ ob s.2.1, w.heap.size ≤ b) ∧ Frm [] w wr) (fun s => l.length - s.1) (0, none, 0, []) (js4 rfl rfl rfl rfl) ⟨zaf _, hb1, hb4, Own.nil _ _ _, jp, rfl, by simp [ob], K⟩ ?_
 rintro ⟨i, B, d, l'⟩ wr ⟨hi, hb1, hb4, ho, hel', hns, hob, K⟩
 dsimp only at *
 have hll : l'.length = i := by
  have h := congrArg List.length hns
  rw [bM, zaq, zaq, zl] at h
  omega
 refine jS (jS (jR (jm rfl (jf rfl zf rfl zw (jl rfl zak (hb1.cell 0) (je (Run.lenS rfl ze) (jb rfl rfl (Bin.lssN _ _) (jO (jN (jv5 1 2 3 4 28 ?_))))))))))
 refine jD rfl (fun hc3 => ?_) fun hc3 => ?_
 ·
  obtain ⟨ad, had, hel⟩ := zV hRl hc3
  have hxr := hRe _ (zu hc3)
  have hts := kQ (fun x : Nc => fJ x.p) hc3
  generalize hx : l[i] = x at *
  refine jQ (jN (jv4 1 2 3 4 ?_))
  refine jS (jB (jS (jR (jf rfl zf rfl zw (jl rfl zak (hb1.cell 0) (jm rfl (je (Run.indexS i (show _ = some (Value.slice (some ad) l.length m.c) by rw [← had]; rfl) rfl ze zm hc3) (jf rfl zt rfl zq (je (Run.loadA rfl zat zq (cs := BVc x.v x.n x.A x.l.length x.c) (fun j v hj => by rw [Go.Proofs.YtgmbmfpfhcekiaaGreat.add_add]; exact hel _ K (1 + j) v (by rw [Nat.add_comm]; exact hj)) (by first | rfl | (simp; done))) ?_)))))))))
  refine Ops.m (qK.alloc cB) rfl ?_
  rintro _ w5 ⟨rfl, hF5⟩
  have hb1 := hb1.frm hF5.frm jp
  have hb4 := hb4.frm hF5.frm jp
  have ho := ho.frm hF5.frm jp
  have hel' := fun x hx => show OwM w5 x.A x.c x.l ∧ x.l.length ≤ 129 ∧ x.nm.length ≤ 70 from ⟨(hel' x hx).1.frm hF5.frm, (hel' x hx).2⟩
  have hb5 := hF5.blk
  have hK5 := K.size
  have hl1 := hb1.lt
  have hl4 := hb4.lt
  have hne15 : g1 ≠ wr.heap.size := fun e => by have := hb1.ne hb5 jd; omega
  have hne45 : g4 ≠ wr.heap.size := fun e => by have := hb4.ne hb5 jd; omega
  have K := K.trans hF5.frm jp
  generalize hgg5 : wr.heap.size = g5 at hb5 hK5 hne15 hne45 ⊢
  have ho5 := ho.ne_blk hb5 jd
  have hb50 := hb5
  refine Ops.st (qP.storeA rfl rfl zq hb5 rfl (cR x.v x.n x.A x.l.length x.c)) ?_
  rintro w6 ⟨hb5, (hf6 : Frm [g5] _ _), hs6⟩
  have hb5 : Blk w6 g5 43 (BVc x.v x.n x.A x.l.length x.c).toArray := hb5
  have hb1 := hb1.frm hf6 (by simp; omega)
  have hb4 := hb4.frm hf6 (by simp; omega)
  have ho := ho.frm hf6 (fun y hy h => by rw [za] at h; subst h; exact ho5 hy)
  have hel' := fun x hx => show OwM w6 x.A x.c x.l ∧ x.l.length ≤ 129 ∧ x.nm.length ≤ 70 from ⟨(hel' x hx).1.blk hf6 hb50 jd jd, (hel' x hx).2⟩
  have K := K.own hf6 (fun y hy => by rw [za] at hy; omega)
  refine jO (jN (jv5 1 2 3 4 5 ?_))
  refine jS (jS ?_)
  refine VC.split1 [(1, _), (2, _), (3, _), (4, _), (5, _)] (js5 rfl rfl rfl rfl rfl) 46 (.bool (decide ((20 < x.l.length) ∧ (x.l.length ≤ 128)))) ?_ ?_
  ·
   by_cases hs0 : 20 < x.l.length
   ·
    refine jR (jf rfl zi rfl zad (jl rfl zao (hb5.cell 2) (je (Run.lenS rfl zv) (jb rfl rfl (Bin.gtrN _ 20) (jM ?_)))))
    refine jk (Run.fieldAddr rfl zi rfl zad jd) ?_
    refine jk (Run.load rfl zao (hb5.cell 2)) ?_
    refine jk (Run.lenS rfl zv) ?_
    refine jk (Run.bin rfl rfl (Bin.leqN _ 128)) ?_
    refine je (Run.pickT rfl rfl au) (jO ?_)
    refine jN ⟨(js6 (by rw [mJ hs0]; rfl) rfl rfl rfl rfl rfl), rfl⟩
   refine jR (jf rfl zi rfl zad (jl rfl zao (hb5.cell 2) (je (Run.lenS rfl zv) (jb rfl rfl (Bin.gtrN _ 20) (jM ?_)))))
   refine jU ?_
   refine jU ?_
   refine jU ?_
   refine jU ?_
   refine je (Run.pickF rfl rfl au) (jO ?_)
   refine jN ⟨(js6 (by rw [mK hs0]; rfl) rfl rfl rfl rfl rfl), rfl⟩
  intro Γ hΓ
  refine jN (VC.sub _ hΓ ?_)
  refine VC.meet (σ := List Mc) (fun s => [(1, .pointer (some ⟨g1, 0, none⟩)), (2, .pointer (some ⟨g4, 0, none⟩)), (3, .slice B l'.length d), (4, .int .i64 ((i : Nat) : Int)), (5, .pointer (some ⟨g5, 0, none⟩))]) (fun s wm => s = (if 20 < x.l.length ∧ x.l.length ≤ 128 then x.l.take 20 else x.l) ∧ s.length ≤ x.c ∧ Blk wm g5 43 (BVc x.v x.n x.A s.length x.c).toArray ∧ Blk wm g1 25 #[.slice m.A l.length m.c, .slice m.S ss.length m.d, .int .i64 m.v, .int .i64 m.b] ∧ Blk wm g4 25 qS.cells.toArray ∧ Own wm 45 4 B l'.length d (NDC l') ∧ (∀ x ∈ l', OwM wm x.A x.c x.l ∧ x.l.length ≤ 129 ∧ x.nm.length ≤ 70) ∧ Frm [] w wm) ?_ ?_
  ·
   refine jD rfl (fun hc4 => ?_) fun hc4 => ?_
   ·
    refine jR (jf rfl zi rfl zad (jl rfl zao (hb5.cell 2) (je (Run.sliceS 0 20 rfl zv zaj evB.none_ (evB.some_ rfl) jo jo) (jf rfl zi rfl zad ?_))))
    have ho5 := ho.ne_blk hb5 jd
    have hb50 := hb5
    refine Ops.st (qP.store rfl rfl zad hb5 rfl rfl) ?_
    rintro w7 ⟨hbn, (hf7 : Frm [g5] _ _), hs7⟩
    have hlt : (x.l.take 20).length = 20 := by rw [zl]; omega
    have hbn : Blk w7 g5 43 (BVc x.v x.n (cL x.A x.c 0 6) (20 - 0) (x.c - 0)).toArray := hbn
    rw [eY, zbk, zbk] at hbn
    have hb5 : Blk w7 g5 43 (BVc x.v x.n x.A (x.l.take 20).length x.c).toArray := by rw [hlt]; exact hbn
    have hb1 := hb1.frm hf7 (by simp; omega)
    have hb4 := hb4.frm hf7 (by simp; omega)
    have ho := ho.frm hf7 (fun y hy h => by rw [za] at h; subst h; exact ho5 hy)
    have hel' := fun x hx => show OwM w7 x.A x.c x.l ∧ x.l.length ≤ 129 ∧ x.nm.length ≤ 70 from ⟨(hel' x hx).1.blk hf7 hb50 jd jd, (hel' x hx).2⟩
    have K7 := K.own hf7 (fun y hy => by rw [za] at hy; omega)
    refine jO ?_
    refine jN ⟨(x.l.take 20), (js5 rfl rfl rfl rfl rfl), ?_⟩
    exact ⟨by rw [if_pos (by first | exact hc4 | exact of_decide_eq_true hc4)], by rw [zl]; omega, hb5, hb1, hb4, ho, hel', K7⟩
   refine jQ ?_
   refine jN ⟨x.l, (js5 rfl rfl rfl rfl rfl), ?_⟩
   exact ⟨by rw [if_neg (by first | exact hc4 | exact of_decide_eq_false hc4)], hxr.2, hb5, hb1, hb4, ho, hel', K⟩
  rintro lx w8 ⟨hlx, hlc, hb5, hb1, hb4, ho, hel', K⟩ Γ hΓ
  have hxl : RawM w8.drew x.A lx := by
   have h := (hRe x (by rw [← hx]; exact zu hc3)).1.frm K.drew
   rw [hlx]
   split
   · exact h.take 20
   exact h
  have hnB1 := ho.ne_blk hb1 jd
  have hnB4 := ho.ne_blk hb4 jd
  have hnB5 := ho.ne_blk hb5 jd
  refine jN (VC.sub _ hΓ ?_)
  refine VC.held (fun W => Frm (ob B) w8 W) jK ?_
  have hS : Frm (ob B) w8 w8.drew := (Frm.refl _ _).drew
  have hS0 : Frm [] w8 w8.drew := (Frm.refl _ _).drew
  refine jH 0 rfl hS (fun w0 hw0 => Run.mv rfl) ?_
  refine jH 1 rfl hS (fun w0 hw0 => Run.fieldAddr rfl zf rfl zw jd) ?_
  refine jH 2 rfl hS (fun w0 hw0 => Run.load rfl zak ((hb1.frm hw0 hnB1).cell 0)) ?_
  refine jH 3 rfl hS (fun w0 hw0 => Run.mv rfl) ?_
  refine jH 4 rfl hS (fun w0 hw0 => Run.indexS i (show _ = some (Value.slice (some ad) l.length m.c) by rw [← had]; rfl) rfl ze zm hc3) ?_
  refine jH 5 rfl hS (fun w0 hw0 => Run.fieldAddr rfl zt rfl zj jd) ?_
  refine jH 6 rfl hS (fun w0 hw0 => Run.load rfl zr (hel _ (K.own hw0 hob) 0 (encStr x.nm) rfl)) ?_
  refine jH 8 rfl hS (fun w0 hw0 => Run.loadA rfl zat zq (fun j v hj => (hb5.frm hw0 hnB5).cells j v hj) (by first | rfl | (simp; done))) ?_
  refine qZ.cl 7 rfl jK (jE1 Tryz.call12) (gM x.nm _) trivial rfl rfl ?_
  rintro e _ ⟨rfl, rfl⟩
  refine ⟨_, rfl, hS, ?_⟩
  refine qZ.cl 9 rfl jK (jE1 Tryz.call44) (uX x.v x.n x.A x.c lx _ hxl hlc) trivial rfl rfl ?_
  rintro e w9 ⟨hf9, C, dC, lC, rfl, hoC, hMC, hCl, hCb⟩
  have hS9 := hS.trans hf9 jp
  have hS09 := hS0.trans hf9 jp
  refine ⟨_, rfl, hS9, ?_⟩
  have hS := hS9
  have ho9 := ho.frm hS09 jp
  have hel9 := fun x hx => show OwM w9 x.A x.c x.l ∧ x.l.length ≤ 129 ∧ x.nm.length ≤ 70 from ⟨(hel' x hx).1.frm hS09, (hel' x hx).2⟩
  refine jH 10 rfl hS (fun w0 hw0 => Run.build (evs.cons rfl (evs.cons rfl evs.nil)) cG (eS).choose_spec.1 (eS).choose_spec.2 rfl) ?_
  refine qZ.m 11 rfl jK (qK.buildS1 rfl ze zm cG jd jd rfl rfl) trivial rfl rfl ?_
  rintro _ w10 ⟨rfl, hF10⟩
  have hr10 : Rd w10 4 (some ⟨w9.heap.size, 0, none⟩) 1 (NDC [⟨x.nm.take 70, x.v, x.n, C, dC, lC⟩]) := oG (x := ⟨x.nm.take 70, x.v, x.n, C, dC, lC⟩) hF10
  have hS010 := hS09.trans hF10.frm jp
  have hS10 := hS.trans hF10.frm jp
  refine ⟨hS10, ?_⟩
  have hS := hS10
  have ho10 := ho9.frm hF10.frm jp
  have hel10 := fun x hx => show OwM w10 x.A x.c x.l ∧ x.l.length ≤ 129 ∧ x.nm.length ≤ 70 from ⟨(hel9 x hx).1.frm hF10.frm, (hel9 x hx).2⟩
  have hoC10 := hoC.frm hF10.frm
  have K10 := K.trans hS010 jp
  have hK10 := K10.size
  have hS90 := hS09.size
  have hK8 := K.size
  refine qZ.m 12 rfl jK (qK.app rfl rfl ze (fT) rfl jd ho10 hr10 (eX _) jo jo) trivial rfl rfl ?_
  rintro _ w11 ⟨B6, c6, rfl, ho6, hf6, hob6⟩
  rw [← cN] at ho6
  have hS11 := hS10.trans hf6 (fun y hy => .inl hy)
  refine ⟨hS11, ?_⟩
  have hS := hS11
  have hel11 : ∀ y ∈ l' ++ [⟨x.nm.take 70, x.v, x.n, C, dC, lC⟩], OwM w11 y.A y.c y.l ∧ y.l.length ≤ 129 ∧ y.nm.length ≤ 70 := fun y hy => by
   rcases zdz.1 hy with h | h
   · exact ⟨(hel10 y h).1.offO hf6 ho10 jd jd, (hel10 y h).2⟩
   rw [za] at h
   subst h
   exact ⟨hoC10.offO hf6 ho10 jd jd, hCl, zcr _ _⟩
  have hob6 : ∀ b ∈ ob B6, w.heap.size ≤ b := fun b hb => by
   rcases hob6 with h | h
   · rw [h] at hb; exact hob b hb
   rw [h, za] at hb; omega
  have K11 := K10.own hf6 hob
  have hb1 := hb1.frm hS11 hnB1
  have hb4 := hb4.frm hS11 hnB4
  refine jH 13 rfl hS (fun w0 hw0 => Run.asg rfl) ?_
  refine qZ.done jK ?_
  refine qH (jN ?_)
  refine jv4 1 2 3 4 ?_
  refine jR (jm rfl (jb rfl rfl (Bin.add_i64 _ 1 jo) (ja rfl (jO ?_))))
  refine jN ⟨(i + 1, B6, c6, l' ++ [⟨x.nm.take 70, x.v, x.n, C, dC, lC⟩]), (js4 rfl rfl (by rw [zn]; rfl) rfl), ?_, ?_⟩
  ·
   refine ⟨hc3, hb1, hb4, by rw [zn]; exact ho6, hel11, ?_, hob6, K11⟩
   rw [zca] at hns
   rw [zca]
   show Ns (l' ++ _) = List.map (fun x => fJ (Nc.p x)) (l.take (i + 1))
   rw [hts]
   show (l' ++ _).map Nc.p = _
   rw [zax]
   have hns' : l'.map Nc.p = List.map (fun x => fJ (Nc.p x)) (l.take i) := hns
   rw [hns']
   congr 1
   show [Nc.p _] = [fJ x.p]
   unfold Nc.p fJ nP
   dsimp only
   rw [hMC, hlx]
   congr 4
   have hml : (Ms x.l).length = x.l.length := by simp [Ms]
   rw [hml]
   split <;> simp [Ms]
  first | omega | (dsimp only; omega)
 obtain rfl : i = l.length := jo
 rw [zah] at hns
 refine jX ?_
 refine qJ (qJ (qT ?_))
 refine jN (jv3 1 2 3 ?_)
 refine jS (jR (jm rfl (jf rfl zf rfl zw ?_)))
 have ho1 := ho.ne_blk hb1 jd
 have hb10 := hb1
 refine Ops.st (qP.store rfl rfl zw hb1 rfl rfl) ?_
 rintro w13 ⟨hb1, (hf13 : Frm [g1] _ _), hs13⟩
 have hb1 : Blk w13 g1 25 #[.slice B l'.length d, .slice m.S ss.length m.d, .int .i64 m.v, .int .i64 m.b] := hb1
 have hb4 := hb4.frm hf13 (by simp; omega)
 have ho := ho.frm hf13 (fun y hy h => by rw [za] at h; subst h; exact ho1 hy)
 have hel' := fun x hx => show OwM w13 x.A x.c x.l ∧ x.l.length ≤ 129 ∧ x.nm.length ≤ 70 from ⟨(hel' x hx).1.blk hf13 hb10 jd jd, (hel' x hx).2⟩
 have K := K.own hf13 (fun y hy => by rw [za] at hy; omega)
 refine jO (jN (jv2 1 2 ?_))
 refine jS (jR (ja rfl (jO (jN (jS (jS (jR (jz 0 (jO (jN (jB ?_)))))))))))
 refine VC.loop (σ := Nat × Option Addr × Nat × List Tx) (fun s => [(1, .pointer (some ⟨g1, 0, none⟩)), (2, .pointer (some ⟨g4, 0, none⟩)), (6, .slice s.2.1 s.2.2.2.length s.2.2.1), (7, .int .i64 ((s.1 : Nat) : Int))]) (fun s wr => s.1 ≤ ss.length ∧ Own wr 9 1 s.2.1 s.2.2.2.length s.2.2.1 (SB s.2.2.2) ∧ s.2.2.2 = (ss.take s.1).map (fun s => s.take 70) ∧ (∀ b ∈ ob s.2.1, w13.heap.size ≤ b) ∧ Frm [] w13 wr) (fun s => ss.length - s.1) (0, none, 0, []) (js4 rfl rfl rfl rfl) ⟨zaf _, Own.nil _ _ _, rfl, by simp [ob], Frm.refl _ _⟩ ?_
 rintro ⟨k, C, e, s'⟩ wr ⟨hk, hos, hse, hoc, F⟩
 dsimp only at *
 have hsl : s'.length = k := by rw [hse, zaq, zl]; omega
 have hb1r := hb1.frm F jp
 have Kr := K.trans F jp
 refine jS (jS (jR (jm rfl (jf rfl zf rfl zac (jl rfl zan (hb1r.cell 1) (je (Run.lenS rfl zd) (jb rfl rfl (Bin.lssN _ _) (jO (jN (jv5 1 2 6 7 70 ?_))))))))))
 refine jD rfl (fun hc5 => ?_) fun hc5 => ?_
 ·
  obtain ⟨ad2, had2, hcs⟩ := zO (hRs.frm Kr jp) hc5
  have hts2 := kQ (fun s : Tx => s.take 70) hc5
  generalize hq : ss[k] = q at *
  refine jQ (jN (jv4 1 2 6 7 ?_))
  refine jS (jB (jR (jm rfl (jf rfl zf rfl zac (jl rfl zan (hb1r.cell 1) (jm rfl (je (Run.indexS k (show _ = some (Value.slice (some ad2) ss.length m.d) by rw [← had2]; rfl) rfl zd zj hc5) (jl rfl zr hcs ?_))))))))
  refine Ops.cl (jE1 Tryz.call12) (gM q _) rfl ?_
  rintro e _ ⟨rfl, rfl⟩
  refine ⟨_, rfl, ?_⟩
  refine Ops.m (qK.buildS1 rfl zd zj dE jd jd rfl rfl) rfl ?_
  rintro _ w14 ⟨rfl, hF14⟩
  have hr14 : Rd w14 1 (some ⟨wr.heap.size, 0, none⟩) 1 (SB [q.take 70]) := Rd.of_blk (n := 1) (size := 1) hF14.blk rfl
  have ho14 := hos.frm hF14.frm jp
  have F14 := F.trans hF14.frm jp
  have hFs := F14.size
  refine Ops.m (qK.app rfl rfl zd (fK) rfl jd ho14 hr14 (dD _) jo jo) rfl ?_
  rintro _ w15 ⟨C6, e6, rfl, ho6, hf6, hob6⟩
  rw [← bO] at ho6
  have hob6 : ∀ b ∈ ob C6, w13.heap.size ≤ b := fun b hb => by
   rcases hob6 with h | h
   · rw [h] at hb; exact hoc b hb
   rw [h, za] at hb; omega
  have F15 := F14.own hf6 hoc
  refine ja rfl (jO ?_)
  refine qH (jN ?_)
  refine jv4 1 2 6 7 ?_
  refine jR (jm rfl (jb rfl rfl (Bin.add_i64 _ 1 jo) (ja rfl (jO ?_))))
  refine jN ⟨(k + 1, C6, e6, s' ++ [q.take 70]), (js4 rfl rfl (by rw [zn]; rfl) rfl), ?_, ?_⟩
  · exact ⟨hc5, by rw [zn]; exact ho6, by rw [hts2, hse], hob6, F15⟩
  first | omega | (dsimp only; omega)
 obtain rfl : k = ss.length := jo
 rw [zah] at hse
 refine jX ?_
 refine qJ (qJ (qT ?_))
 refine jN (jv3 1 2 6 ?_)
 refine jS (jR (jm rfl (jf rfl zf rfl zac ?_)))
 have ho := ho.frm F jp
 have hb4 := hb4.frm F jp
 have hel' := fun x hx => show OwM wr x.A x.c x.l ∧ x.l.length ≤ 129 ∧ x.nm.length ≤ 70 from ⟨(hel' x hx).1.frm F, (hel' x hx).2⟩
 have ho1 := ho.ne_blk hb1r jd
 have hs1 := hos.ne_blk hb1r jd
 refine Ops.st (qP.store rfl rfl zac hb1r rfl rfl) ?_
 rintro w16 ⟨hb1, (hf16 : Frm [g1] _ _), hs16⟩
 have hb1 : Blk w16 g1 25 (⟨B, d, l', C, e, s', m.v, m.b⟩ : MlC).cells.toArray := hb1
 have hb4 := hb4.frm hf16 (by simp; omega)
 have ho := ho.frm hf16 (fun y hy h => by rw [za] at h; subst h; exact ho1 hy)
 have hos := hos.frm hf16 (fun y hy h => by rw [za] at h; subst h; exact hs1 hy)
 have hel' := fun x hx => show OwM w16 x.A x.c x.l ∧ x.l.length ≤ 129 ∧ x.nm.length ≤ 70 from ⟨(hel' x hx).1.blk hf16 hb1r jd jd, (hel' x hx).2⟩
 have K := Kr.own hf16 (fun y hy => by rw [za] at hy; omega)
 refine jO (jN (jv2 1 2 ?_))
 refine jS (jR (je (Run.loadA rfl zh zc (hb1.cells) (by first | rfl | (simp; done))) ?_))
 have ho4 := ho.ne_blk hb4 jd
 have hs4 := hos.ne_blk hb4 jd
 have hb40 := hb4
 refine Ops.st (qP.storeA rfl rfl zc hb4 rfl (MlC.cells_one _)) ?_
 rintro w17 ⟨hb17, (hf17 : Frm [g4] _ _), hs17⟩
 have ho := ho.frm hf17 (fun y hy h => by rw [za] at h; subst h; exact ho4 hy)
 have hos := hos.frm hf17 (fun y hy h => by rw [za] at h; subst h; exact hs4 hy)
 have hel' := fun x hx => show OwM w17 x.A x.c x.l ∧ x.l.length ≤ 129 ∧ x.nm.length ≤ 70 from ⟨(hel' x hx).1.blk hf17 hb40 jd jd, (hel' x hx).2⟩
 have K := K.own hf17 (fun y hy => by rw [za] at hy; omega)
 refine jO (jN (jv1 2 ?_))
 refine jT ?_
 refine bY ?_
 refine qD rfl zh zc (fun j v hj => hb17.cells j v hj) (by first | rfl | (simp; done)) ?_
 refine qO ?_
 refine ⟨⟨B, d, l', C, e, s', m.v, m.b⟩, rfl, ?_, ⟨ho, hel', hos, by dsimp only; omega, by dsimp only; omega, fun q hq => ?_⟩, rfl, K⟩
 ·
  show MailP.mk (Ns l') s' m.v m.b = mX m.p
  unfold mX
  congr 1
  ·
   rw [hns, hl]
   show _ = ((m.l.map Nc.p).take 25).map fJ
   rw [zdc]
  rw [hse, hss]
  rfl
 dsimp only at hq
 rw [hse] at hq
 obtain ⟨y, hy, rfl⟩ := List.mem_map.1 hq
 rw [zl]
 omega
end
section
open Go.RowKit Go.Sort
section
variable {H : Type} {enc : TypeId × Value → H} {w : World} {base : Nat} {spare : Nat → Bool} {held : Bool} {n : Nat} {cs : List Value} {x : DataW H × List MemPlace}
theorem vI (h : DataW.trod enc Tryz.prog w base spare held n 41 cs = some x) : ∃ (A : Option Addr) (c : Nat) (l : List Mc), cs = [.slice A l.length c] ∧ l.length ≤ c ∧ RawM w A l := by
 obtain ⟨A, len, c, rfl⟩ := gI zv h
 obtain ⟨l, rfl, h1, _, h3⟩ := zK h
 exact ⟨A, c, l, rfl, h1, h3⟩
end
theorem xE {H : Type} {enc : TypeId × Value → H} {w : World} {base : Nat} {spare : Nat → Bool} {held : Bool} {n : Nat} {cs : List Value} {x : DataW H × List MemPlace} (h : DataW.trod enc Tryz.prog w base spare held n 43 cs = some x) :
  ∃ (va : Int) (na : Int) (A : Option Addr) (c : Nat) (l : List Mc), cs = ([.int .i64 va] ++ ([.int .i64 na] ++ ([.slice A l.length c] ++ [] : List Value) : List Value) : List Value) ∧ ((Lit.int .i64 va).wf = true) ∧ ((Lit.int .i64 na).wf = true) ∧ (l.length ≤ c ∧ RawM w A l) := by
 obtain ⟨hlen, n', hf⟩ := gF zi h
 have hl : cs.length = 3 := hlen.trans jK
 obtain ⟨a0, a1, a2, rfl⟩ : ∃ a0 a1 a2, cs = [a0, a1, a2] := by
  match cs, hl with
  | [a0, a1, a2], _ => exact ⟨a0, a1, a2, rfl⟩
 clear h hlen hl
 obtain ⟨y0, h0⟩ := hf 0 _ rfl
 have h0 : DataW.trod enc Tryz.prog w base spare held n' 3 ([a0, a1, a2].take (Tryz.prog.cellsOf 3)) = some y0 := h0
 rw [show Tryz.prog.cellsOf 3 = 1 by kernel_rfl] at h0
 have h0 : DataW.trod enc Tryz.prog w base spare held n' 3 [a0] = some y0 := h0
 obtain ⟨va, e0, q0⟩ := gA zag h0
 obtain ⟨y1, h1⟩ := hf 1 _ rfl
 have h1 : DataW.trod enc Tryz.prog w base spare held n' 3 ([a1, a2].take (Tryz.prog.cellsOf 3)) = some y1 := h1
 rw [show Tryz.prog.cellsOf 3 = 1 by kernel_rfl] at h1
 have h1 : DataW.trod enc Tryz.prog w base spare held n' 3 [a1] = some y1 := h1
 obtain ⟨na, e1, q1⟩ := gA zag h1
 obtain ⟨y2, h2⟩ := hf 2 _ rfl
 have h2 : DataW.trod enc Tryz.prog w base spare held n' 41 ([a2].take (Tryz.prog.cellsOf 41)) = some y2 := h2
 rw [show Tryz.prog.cellsOf 41 = 1 by kernel_rfl] at h2
 have h2 : DataW.trod enc Tryz.prog w base spare held n' 41 [a2] = some y2 := h2
 obtain ⟨A, c, l, e2, q2⟩ := vI h2
 refine ⟨va, na, A, c, l, ?_, q0, q1, q2⟩
 show ([a0] ++ ([a1] ++ ([a2] ++ [] : List Value) : List Value) : List Value) = _
 rw [e0, e1, e2]
 try rfl
end
section
open Go.RowKit Go.ChangeShapes Go.WideShapes Go.Deep
theorem uZ {H : Type} {enc : TypeId × Value → H} {w : World} {base : Nat} {spare : Nat → Bool} {held : Bool} {n : Nat} {cs : List Value} {x : DataW H × List MemPlace} (h : DataW.trod enc Tryz.prog w base spare held n 45 cs = some x) :
  ∃ (q : Tx) (va na : Int) (A : Option Addr) (c : Nat) (l : List Mc), cs = ([encStr q] ++ (BVc va na A l.length c ++ [] : List Value) : List Value) ∧ (q.length ≤ 9223372036854775807) ∧ ((Lit.int .i64 va).wf = true ∧ (Lit.int .i64 na).wf = true ∧ l.length ≤ c ∧ RawM w A l) := by
 obtain ⟨hlen, n', hf⟩ := gF zt h
 have hl : cs.length = 4 := hlen.trans jK
 obtain ⟨a0, a1, a2, a3, rfl⟩ : ∃ a0 a1 a2 a3, cs = [a0, a1, a2, a3] := by
  match cs, hl with
  | [a0, a1, a2, a3], _ => exact ⟨a0, a1, a2, a3, rfl⟩
 clear h hlen hl
 obtain ⟨y0, h0⟩ := hf 0 _ rfl
 have h0 : DataW.trod enc Tryz.prog w base spare held n' 9 ([a0, a1, a2, a3].take (Tryz.prog.cellsOf 9)) = some y0 := h0
 rw [show Tryz.prog.cellsOf 9 = 1 by kernel_rfl] at h0
 have h0 : DataW.trod enc Tryz.prog w base spare held n' 9 [a0] = some y0 := h0
 obtain ⟨q, e0, q0⟩ := wZ zg h0
 obtain ⟨y1, h1⟩ := hf 1 _ rfl
 have h1 : DataW.trod enc Tryz.prog w base spare held n' 43 ([a1, a2, a3].take (Tryz.prog.cellsOf 43)) = some y1 := h1
 rw [show Tryz.prog.cellsOf 43 = 3 by kernel_rfl] at h1
 have h1 : DataW.trod enc Tryz.prog w base spare held n' 43 [a1, a2, a3] = some y1 := h1
 obtain ⟨va, na, A, c, l, e1, q1⟩ := xE h1
 refine ⟨q, va, na, A, c, l, ?_, q0, q1⟩
 show ([a0] ++ ([a1, a2, a3] ++ [] : List Value) : List Value) = _
 rw [e0, e1]
 try rfl
section
variable {H : Type} {enc : TypeId × Value → H} {w : World} {base : Nat} {spare : Nat → Bool} {held : Bool}
theorem uJ {n : Nat} {cs : List Value} {x : DataW H × List MemPlace} (h : DataW.trod enc Tryz.prog w base spare held n 45 cs = some x) : ∃ y : Nc, cs = y.cells ∧ RawM w y.A y.l ∧ y.l.length ≤ y.c := by
 obtain ⟨q, va, na, A, c, l, e, _, ⟨_, _, h1, h2⟩⟩ := uZ h
 exact ⟨⟨q, va, na, A, c, l⟩, e, h2, h1⟩
theorem xF {fuel len cap : Nat} {a : Option Addr} {x : DataW H × List MemPlace} (h : DataW.trod enc Tryz.prog w base spare held fuel 22 [.slice a len cap] = some x) :
  ∃ l : List Nc, l.length = len ∧ len ≤ cap ∧ Rd w 4 a l.length (NDC l) ∧ ∀ y ∈ l, RawM w y.A y.l ∧ y.l.length ≤ y.c := by
 have hC : Tryz.prog.cellsOf 45 = 4 := by kernel_rfl
 rcases open_slice ze h with ⟨hcs, _⟩ | ⟨ad, l, c, m, n, D, Pl, hcs, _, hl, hm, hmm, _, hi⟩
 ·
  simp only [List.cons.injEq, Value.slice.injEq, and_true] at hcs
  obtain ⟨rfl, rfl, rfl⟩ := hcs
  exact ⟨[], rfl, zae _, Rd.nil _ _ _, jp⟩
 simp only [List.cons.injEq, Value.slice.injEq, and_true] at hcs
 obtain ⟨rfl, rfl, rfl⟩ := hcs
 have hml : len ≤ m := by rw [hmm]; split <;> omega
 rw [hC] at hi
 have key : ∀ i, i < len → ∃ y : Nc, (∀ j, j < 4 → w.cell? ((ad.add (i * 4)).add j) = y.cells[j]?) ∧ RawM w y.A y.l ∧ y.l.length ≤ y.c := by
  intro i hil
  obtain ⟨cs', hc, ht'⟩ := hi i jo
  obtain ⟨_, hcl, hat⟩ := World.cells?_some hc
  obtain ⟨y, rfl, h1, h2⟩ := uJ ht'
  exact ⟨y, fun j hj => hat j hj, h1, h2⟩
 obtain ⟨ls, hll, hq⟩ := eC len key
 have hcell : ∀ j u, (NDC ls)[j]? = some u → w.cell? (ad.add j) = some u := by
  intro j u hu
  rw [show NDC ls = ls.flatMap Nc.cells from rfl, fP Nc.cells 4 jo Nc.cells_len] at hu
  obtain ⟨y, hy, hu'⟩ := Option.bind_eq_some_iff.1 hu
  have := (hq _ y hy).1 (j % 4) (Nat.mod_lt _ jo)
  rw [Go.Proofs.YtgmbmfpfhcekiaaGreat.add_add, Nat.mul_comm, Nat.div_add_mod] at this
  rw [this, hu']
 refine ⟨ls, hll, hl, ⟨by rw [dP], fun hn => ⟨ad, rfl, ?_, hcell⟩⟩, fun y hy => ?_⟩
 ·
  have h0 : 0 < (NDC ls).length := by rw [dP]; omega
  have := World.block_lt_of_cell? w _ (hcell 0 _ (zb h0))
  rwa [dO] at this
 obtain ⟨i, hi', hli⟩ := zab hy
 exact (hq i y (by rw [zb hi', hli])).2
theorem rR {n : Nat} {cs : List Value} {x : DataW H × List MemPlace} (h : DataW.trod enc Tryz.prog w base spare held n 22 cs = some x) : ∃ (A : Option Addr) (c : Nat) (l : List Nc), cs = [.slice A l.length c] ∧ l.length ≤ c ∧ Rd w 4 A l.length (NDC l) ∧ ∀ y ∈ l, RawM w y.A y.l ∧ y.l.length ≤ y.c := by
 obtain ⟨A, len, c, rfl⟩ := gI ze h
 obtain ⟨l, rfl, h1, h2, h3⟩ := xF h
 exact ⟨A, c, l, rfl, h1, h2, h3⟩
theorem uK {n : Nat} {cs : List Value} {x : DataW H × List MemPlace} (h : DataW.trod enc Tryz.prog w base spare held n 23 cs = some x) : ∃ (A : Option Addr) (c : Nat) (l : List Tx), cs = [.slice A l.length c] ∧ l.length ≤ c ∧ c ≤ 9223372036854775807 ∧ Rd w 1 A l.length (SB l) := wJ zd zg jK h
end
theorem vL {H : Type} {enc : TypeId × Value → H} {w : World} {base : Nat} {spare : Nat → Bool} {held : Bool} {n : Nat} {cs : List Value} {x : DataW H × List MemPlace} (h : DataW.trod enc Tryz.prog w base spare held n 25 cs = some x) :
  ∃ (A : Option Addr) (c : Nat) (l : List Nc) (S : Option Addr) (d : Nat) (ss : List Tx) (va : Int) (bl : Int), cs = ([.slice A l.length c] ++ ([.slice S ss.length d] ++ ([.int .i64 va] ++ ([.int .i64 bl] ++ [] : List Value) : List Value) : List Value) : List Value) ∧ (l.length ≤ c ∧ Rd w 4 A l.length (NDC l) ∧ ∀ y ∈ l, RawM w y.A y.l ∧ y.l.length ≤ y.c) ∧ (ss.length ≤ d ∧ d ≤ 9223372036854775807 ∧ Rd w 1 S ss.length (SB ss)) ∧ ((Lit.int .i64 va).wf = true) ∧ ((Lit.int .i64 bl).wf = true) := by
 obtain ⟨hlen, n', hf⟩ := gF zf h
 have hl : cs.length = 4 := hlen.trans jK
 obtain ⟨a0, a1, a2, a3, rfl⟩ : ∃ a0 a1 a2 a3, cs = [a0, a1, a2, a3] := by
  match cs, hl with
  | [a0, a1, a2, a3], _ => exact ⟨a0, a1, a2, a3, rfl⟩
 clear h hlen hl
 obtain ⟨y0, h0⟩ := hf 0 _ rfl
 have h0 : DataW.trod enc Tryz.prog w base spare held n' 22 ([a0, a1, a2, a3].take (Tryz.prog.cellsOf 22)) = some y0 := h0
 rw [show Tryz.prog.cellsOf 22 = 1 by kernel_rfl] at h0
 have h0 : DataW.trod enc Tryz.prog w base spare held n' 22 [a0] = some y0 := h0
 obtain ⟨A, c, l, e0, q0⟩ := rR h0
 obtain ⟨y1, h1⟩ := hf 1 _ rfl
 have h1 : DataW.trod enc Tryz.prog w base spare held n' 23 ([a1, a2, a3].take (Tryz.prog.cellsOf 23)) = some y1 := h1
 rw [show Tryz.prog.cellsOf 23 = 1 by kernel_rfl] at h1
 have h1 : DataW.trod enc Tryz.prog w base spare held n' 23 [a1] = some y1 := h1
 obtain ⟨S, d, ss, e1, q1⟩ := uK h1
 obtain ⟨y2, h2⟩ := hf 2 _ rfl
 have h2 : DataW.trod enc Tryz.prog w base spare held n' 3 ([a2, a3].take (Tryz.prog.cellsOf 3)) = some y2 := h2
 rw [show Tryz.prog.cellsOf 3 = 1 by kernel_rfl] at h2
 have h2 : DataW.trod enc Tryz.prog w base spare held n' 3 [a2] = some y2 := h2
 obtain ⟨va, e2, q2⟩ := gA zag h2
 obtain ⟨y3, h3⟩ := hf 3 _ rfl
 have h3 : DataW.trod enc Tryz.prog w base spare held n' 3 ([a3].take (Tryz.prog.cellsOf 3)) = some y3 := h3
 rw [show Tryz.prog.cellsOf 3 = 1 by kernel_rfl] at h3
 have h3 : DataW.trod enc Tryz.prog w base spare held n' 3 [a3] = some y3 := h3
 obtain ⟨bl, e3, q3⟩ := gA zag h3
 refine ⟨A, c, l, S, d, ss, va, bl, ?_, q0, q1, q2, q3⟩
 show ([a0] ++ ([a1] ++ ([a2] ++ ([a3] ++ [] : List Value) : List Value) : List Value) : List Value) = _
 rw [e0, e1, e2, e3]
 try rfl
theorem vO {H : Type} {enc : TypeId × Value → H} {w : World} {base : Nat} {spare : Nat → Bool} {held : Bool} {n : Nat} {cs : List Value} {x : DataW H × List MemPlace} (h : DataW.trod enc Tryz.prog w base spare held n 25 cs = some x) :
  ∃ m : MlC, cs = m.cells ∧ RawL w m ∧ m.b ≤ 9223372036854775807 := by
 obtain ⟨A, c, l, S, d, ss, va, bl, e, ⟨h1, h2, h3⟩, ⟨h4, _, h6⟩, _, hb⟩ := vL h
 exact ⟨⟨A, c, l, S, d, ss, va, bl⟩, e, ⟨h2, h3, h6, h1, h4⟩, by simp [Lit.wf, IntKind.min, IntKind.max, IntKind.signed, IntKind.bits] at hb; dsimp only; omega⟩
theorem cJ.same {w w' w2 : World} {m a b : MlC} {F : Except Nat MailP} {k k' : Nat} (h : cJ w w' m F a k) (h' : fQ w2 F b k') : k = k' ∧ a.p = b.p := by
 obtain ⟨_, h | h⟩ := h <;> obtain ⟨_, h' | h'⟩ := h'
 ·
  obtain ⟨h1, h2⟩ := h
  obtain ⟨h3, h4⟩ := h'
  rw [h2] at h4
  injection h4 with h4
  exact ⟨by rw [h1, h3], h4⟩
 · rw [h.2] at h'; cases h'.2.1
 · rw [h.2.1] at h'; cases h'.2
 obtain ⟨_, h2, rfl⟩ := h
 obtain ⟨_, h4, rfl⟩ := h'
 rw [h2] at h4
 injection h4 with h4
 exact ⟨h4, rfl⟩
theorem cJ.rdl {w w' w2 : World} {m a : MlC} {F : Except Nat MailP} {k : Nat} (h : cJ w w' m F a k) (f : Frm [] w' w2) (hm : RdL w' m) : RdL w2 a := by
 obtain ⟨⟨S, hS⟩, _⟩ := h
 exact (hS.now hm).frm f
end
end Go.Proofs.YtgmbmfpfhcekiaaGreat
