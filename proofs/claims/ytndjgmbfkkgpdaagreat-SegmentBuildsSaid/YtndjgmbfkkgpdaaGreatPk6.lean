/-
  Lemmas on the way, joined: SegD, SegV, SegO, SegR, SegX, SegY, SegLB, SegLO.
-/
import Derived.Test.YtndjgmbfkkgpdaaGreatPk5
set_option maxRecDepth 100000
namespace Go.Proofs.YtndjgmbfkkgpdaaGreat
section
open Go.RowKit
structure RdSt (W : World) (g : Nat) (bA : Option Addr) (bn bc : Nat) (dA : Option Addr) (dc : Nat) (l : List Er) : Prop where
 bS : Blk W g 62 #[.slice bA bn bc, .slice dA l.length dc, .int .i64 ((0 : Nat) : Int)]
 dO : Own W 66 4 dA l.length dc (EC l)
 bg : ∀ x ∈ l, Own W 3 1 x.A x.e.begins.length x.c (ZB x.e.begins)
theorem RdSt.oc {W W' : World} {g g1 bn bc dc : Nat} {bA dA : Option Addr} {l : List Er} {cs : Array Value} (h : RdSt W g bA bn bc dA dc l) (hr : Blk W g1 144 cs) (k : Frm [g1] W W') : RdSt W' g bA bn bc dA dc l :=
 ⟨h.bS.frm k (by simp; exact h.bS.ne hr jd), h.dO.frm k (fun x hx hx2 => by rw [zh] at hx2; subst hx2; exact h.dO.ne_blk hr jd hx), fun y hy => (h.bg y hy).frm k (fun x hx hx2 => by rw [zh] at hx2; subst hx2; exact (h.bg y hy).ne_blk hr jd hx)⟩
theorem qHs {l : List Er} {L : List Bb} (h : kE l L) {i : Nat} (hi : i < L.length) (hm : ∀ j, j < i → (l.getD j er0).e.begins = []) (hne : (l.getD i er0).e.begins ≠ []) : (l.getD i er0).e.begins.getD 0 0 = 0 := by
 have h2 := oW (i := 0) h i jo (fun m _ h4 => hm m jo)
 rw [zap] at h2
 rw [h.get hi] at hne ⊢
 dsimp only at hne ⊢
 have h3 : 0 < (chunkL (L.getD i b0).2).length := by
  rw [← dP _ (outM (L.take i)).length]
  exact List.length_pos_iff.2 hne
 rw [kG _ _ _ h3, h2]
 simp [outM]
theorem qHt {l : List Er} {L : List Bb} (h : kE l L) (hm : ∀ j, j < L.length → (l.getD j er0).e.begins = []) : (outM L).length = 0 := by
 have h2 := oW (i := 0) h L.length jo (fun m _ h4 => hm m jo)
 rw [zap, zas] at h2
 rw [h2]
 simp [outM]
set_option maxHeartbeats 8000000 in
theorem qHu (g bn bc c : Nat) (bA A : Option Addr) (L : List Bb) (w : World) (hM : wW L) (hb : Blk w g 62 #[.slice bA bn bc, .slice none 0 0, .int .i64 ((0 : Nat) : Int)]) (hr : Rd w 1 A (cV L).length (NB (cV L))) :
  Calls Tryz.prog 25 #[.pointer (some ⟨g, 0, none⟩), .slice A (cV L).length c, .int .i64 (((outM L).length : Nat) : Int)] w fun e w' => e = .returned (.bool true) ∧ (∃ dA dc l, kE l L ∧ Blk w' g 62 #[.slice bA bn bc, .slice dA l.length dc, .int .i64 (((outM L).length : Nat) : Int)] ∧ RdE w' dA l.length l ∧ l.length ≤ dc) ∧ Frm [g] w w' := by
 obtain ⟨hL, hpw, h1n, h64⟩ := hM
 have hdb := qU2 L
 have hdl := qS6 hL h64
 have hgl := hb.lt
 have hop0 : (cV L).drop 0 = qF L.length 2 ++ ((cE 0 L).flatMap gK ++ qF (nK 0 L) 4) := by
  rw [zby]
  unfold cV
  rw [zj]
 obtain ⟨hq0, hop1, hle1⟩ := xX (wh := 0) hop0 (jo : L.length < 256 ^ 2) jo
 have hpe := qS7 (L := L)
 have hoe := qV2 hL h64
 refine VC.calls (nt := 149) (res := #[.tmp 6]) Tryz.func25 rfl Tryz.ntmps25 Tryz.results25 rfl ?_
 refine jS (jR (ja rfl (jO (jN (jv3 0 1 2 ?_)))))
 refine jS (jR (jM ?_))
 refine Ops.cl (jE1 Tryz.call40) (qG0 A c _ (cV L) w rfl jo hr) rfl ?_
 rintro e w1 ⟨g1, B1, d1, rfl, hO, K, hu1⟩
 refine ⟨_, rfl, ?_⟩
 have hg1 : w.heap.size ≤ g1 := hu1 g1 jp
 have hb1 := hb.frm K jp
 refine ja rfl (jO (jN (jv3 0 2 7 ?_)))
 refine jS (jR (jM ?_))
 refine Ops.cl (jE2 Tryz.call41) (kU g1 B1 d1 (cV L) 0 0 0 2 _ jo jo jo jo hdb hO) rfl ?_
 rintro e w2 ⟨rfl, hO', hfw2⟩
 rw [hq0] at hO' ⊢
 dsimp only at hO'
 refine ⟨_, rfl, ?_⟩
 have hOb := hO.1
 have hO := hO'
 have hb2 := hb1.frm hfw2 (by simp; omega)
 have K := K.own hfw2 (by simp; omega)
 refine je (Run.convN _ rfl zv zaa (by simp only [bmax]; omega)) (ja rfl (jO (jN (jv4 0 2 7 8 ?_))))
 refine jS (jR (jz 0 (jO (jN (jS (jS (jR (jm rfl (je (Run.minN L.length 64 L.length rfl rfl jo) ?_)))))))))
 refine jx .i64 0 ?_
 refine jO (jN (jv7 0 2 7 8 9 21 22 ?_))
 refine jB ?_
 refine VC.loop (σ := Nat × Nat × Option Addr × Nat × List Er) (fun s => [(0, .pointer (some ⟨g, 0, none⟩)), (2, .int .i64 (((outM L).length : Nat) : Int)), (7, .pointer (some ⟨g1, 0, none⟩)), (8, .int .i64 ((L.length : Nat) : Int)), (9, .int .i64 ((s.2.1 : Nat) : Int)), (21, .int .i64 ((L.length : Nat) : Int)), (22, .int .i64 ((s.1 : Nat) : Int))]) (fun s wr => s.1 ≤ L.length ∧ s.2.2.2.2.map Er.e = cE 0 (L.take s.1) ∧ s.2.1 ≤ (outM (L.take s.1)).length ∧ RdSt wr g bA bn bc s.2.2.1 s.2.2.2.1 s.2.2.2.2 ∧ kL wr g1 B1 d1 (cV L) (fU L s.1) 0 0 ∧ Frm [g] w wr ∧ ∀ x ∈ ob s.2.2.1, w.heap.size ≤ x) (fun s => L.length - s.1) (0, 0, none, 0, []) (js7 rfl rfl rfl rfl rfl rfl rfl) ⟨zak _, rfl, zak _, ⟨hb2, Own.nil _ _ _, jp⟩, hO, K.mono jp, by simp [ob]⟩ ?_
 rintro ⟨i, la, dA, dc, l⟩ wr ⟨hi, hl, hla, hR, hO, K, hdf⟩
 dsimp only at *
 have hll : l.length = i := by
  have := congrArg List.length hl
  rw [zl, lE, zi] at this
  omega
 have hoi : (outM (L.take i)).length ≤ 600000 := by
  have h5 := mN (L.take i) (fun x hx => hL x (zaf hx))
  have h6 : (L.take i).length ≤ 64 := by rw [zi]; omega
  omega
 refine jS (jR (jb rfl rfl (Bin.lssN _ _) (jO (jN (jS ?_)))))
 refine jD rfl (fun hc1 => ?_) fun hc1 => ?_
 ·
  have hEA := qBz hc1
  obtain ⟨hy40, hyid, hyb⟩ := hL _ (sB hc1)
  have hcrc := mZ (L.getD i b0).2
  obtain ⟨hq1, hop2, hle2⟩ := xX (wh := 0) hEA (zbb hyid jd) jo
  obtain ⟨hq2, hop3, hle3⟩ := xX (wh := 0) hop2 (jo : (L.getD i b0).2.length < 256 ^ 2) jo
  obtain ⟨hq3, hop4, hle4⟩ := xX (wh := 0) hop3 (jo : crcM (L.getD i b0).2 < 256 ^ 4) jo
  have hsw := qPs hc1
  have hes := qPt hc1
  have hca := qS5 hc1
  have hcc := gZ (L.getD i b0).2
  have hbz : fB L i 0 = (outM (L.take i)).length := by unfold fB; simp
  have hprev : 0 < i → (L.getD (i - 1) b0).1 < (L.getD i b0).1 := fun h0 => qPq hpw (i - 1) i jo hc1
  refine jQ (jN (jv7 0 2 7 8 9 21 22 ?_))
  refine jS (jB (jS (jR (jm rfl (ja rfl (jO (jN (jv8 0 2 7 8 9 10 21 22 ?_))))))))
  refine jS (jR (jM ?_))
  refine Ops.cl (jE2 Tryz.call41) (kU g1 B1 d1 (cV L) (fU L i) 0 0 8 _ jo jo jo jo hdb hO) rfl ?_
  rintro e w4 ⟨rfl, hO', hfw4⟩
  rw [hq1] at hO' ⊢
  dsimp only at hO'
  refine ⟨_, rfl, ?_⟩
  have hOb := hO.1
  have hO := hO'
  have hR := hR.oc hOb hfw4
  have K := K.trans hfw4 (by simp; omega)
  refine jM ?_
  refine Ops.cl (jE2 Tryz.call41) (kU g1 B1 d1 (cV L) (fU L i + 8) 0 0 2 _ jo jo jo jo hdb hO) rfl ?_
  rintro e w5 ⟨rfl, hO', hfw5⟩
  rw [hq2] at hO' ⊢
  dsimp only at hO'
  refine ⟨_, rfl, ?_⟩
  have hOb := hO.1
  have hO := hO'
  have hR := hR.oc hOb hfw5
  have K := K.trans hfw5 (by simp; omega)
  refine je (Run.convN _ rfl zv zaa (by simp only [bmax]; omega)) (jM ?_)
  refine Ops.cl (jE2 Tryz.call41) (kU g1 B1 d1 (cV L) (fU L i + 8 + 2) 0 0 4 _ jo jo jo jo hdb hO) rfl ?_
  rintro e w6 ⟨rfl, hO', hfw6⟩
  rw [hq3] at hO' ⊢
  dsimp only at hO'
  refine ⟨_, rfl, ?_⟩
  have hOb := hO.1
  have hO := hO'
  have hR := hR.oc hOb hfw6
  have K := K.trans hfw6 (by simp; omega)
  have hOb := hO.1
  refine je (Run.convN _ rfl zv zen (by simp only [bmax]; omega)) (je (Run.build (evs.cons rfl (evs.cons rfl (evs.cons rfl evs.nil))) pZ (qJ0).choose_spec.1 (qJ0).choose_spec.2 rfl) ?_)
  refine Ops.m (qV.alloc pZ) rfl ?_
  rintro _ w7 ⟨rfl, hF7⟩
  refine Ops.st (qR.storeA rfl rfl zbw hF7.blk rfl (by intro v hv; exact EC_one [⟨⟨(L.getD i b0).1, (L.getD i b0).2.length, crcM (L.getD i b0).2, []⟩, none, 0⟩] v hv)) ?_
  rintro w8 ⟨hbx, hf8, hs8⟩
  have hbx : Blk w8 w6.heap.size 66 #[.int .u64 (((L.getD i b0).1 : Nat) : Int), .int .i64 (((L.getD i b0).2.length : Nat) : Int), .int .u32 ((crcM (L.getD i b0).2 : Nat) : Int), .slice none 0 0] := hbx
  have K2 : Frm [g1] w6 w8 := (hF7.frm.trans hf8 jp).mono jp
  have hO := (hO.frm hF7.frm jp).frm hf8 (fun x hx hx2 => by
   have h1 := hO.1.lt
   have h2 := hO.2.lt
   simp only [zh] at hx2
   rcases zbv.1 hx with h | h
   · omega
   have := h2 x h
   omega)
  have hR8 := hR.oc hOb K2
  have hRd := hR8.oc hO.1 ((qQ.drew w8).frm.mono (S := []) (T := [g1]) jp)
  have hbxd := hbx.drawn (qQ.drew w8)
  have hel2 : 0 < i → ∃ ad, dA = some ad ∧ w8.drew.cell? ((ad.add ((i - 1) * 4)).add 0) = some (.int .u64 (((L.getD (i - 1) b0).1 : Nat) : Int)) := fun h0 => by
   have hE : RdE w8.drew dA l.length l := ⟨rfl, hRd.dO.rd, fun x hx => (hRd.bg x hx).rd⟩
   obtain ⟨ad, h1, h2⟩ := hE.cell (jo : i - 1 < l.length)
   have h3 := h2 0 (.int .u64 (((l.getD (i - 1) er0).e.id : Nat) : Int)) rfl
   have h4 : (l.getD (i - 1) er0).e.id = (L.getD (i - 1) b0).1 := by
    have h5 := nC L 0 (i - 1) jo
    have h6 : (cE 0 L).getD (i - 1) en0 = (l.getD (i - 1) er0).e := by
     have h7 : (l.map Er.e)[i - 1]? = (cE 0 L)[i - 1]? := by
      rw [hl, rF, zaq jo]
     rw [ze, ← h7, zbd, ze, zb jo]
     rfl
    rw [← h6, h5]
   rw [h4] at h3
   exact ⟨ad, h1, h3⟩
  have hidp := fun h0 : 0 < i => (hL _ (sB (L := L) (i := i - 1) jo)).2.1
  generalize hyE : L.getD i b0 = y at *
  refine jO (jN (jv9 0 2 7 8 9 10 11 21 22 ?_))
  refine jS (jS ?_)
  refine VC.splitR [(0, .pointer (some ⟨g, 0, none⟩)), (2, .int .i64 (((outM L).length : Nat) : Int)), (7, .pointer (some ⟨g1, 0, none⟩)), (8, .int .i64 ((L.length : Nat) : Int)), (9, .int .i64 ((la : Nat) : Int)), (11, .pointer (some ⟨w6.heap.size, 0, none⟩)), (21, .int .i64 ((L.length : Nat) : Int)), (22, .int .i64 ((i : Nat) : Int))] (qQ w8) 54 (.bool (decide (4032 < y.2.length ∨ (0 < i ∧ y.1 ≤ (L.getD (i - 1) b0).1)))) ?_ ?_
  ·
   refine VC.still jK jK ?_
   refine qE (Run.fieldAddr rfl zbj rfl zc jd) ?_
   refine qE (Run.load rfl zg (hbxd.cell 1)) ?_
   refine qE (Run.bin rfl rfl (Bin.gtrN _ 4032)) ?_
   by_cases hs36 : 4032 < y.2.length
   ·
    refine qM ?_
    refine qU ?_
    refine qU ?_
    refine qU ?_
    refine qH.skU rfl rfl ?_
    refine qH.skU rfl rfl ?_
    refine qH.skU rfl rfl ?_
    refine qH.skU rfl rfl ?_
    refine qH.skU rfl rfl ?_
    refine qH.skU rfl rfl ?_
    refine qH.skU rfl rfl ?_
    refine qH.skU rfl rfl ?_
    refine qH.skU rfl rfl ?_
    refine qH.skU rfl rfl ?_
    refine qH.skU rfl rfl ?_
    refine qH.skU rfl rfl ?_
    refine qU ?_
    refine qE (Run.pickT rfl rfl au) ?_
    refine qH.nil ?_
    refine jN ⟨(js9 (jC (by first | (simp [*]; done) | (simp; omega))) rfl rfl rfl rfl rfl rfl rfl rfl), (qQ.drew _)⟩
   refine qM ?_
   refine qG (Run.mv rfl) ?_
   refine qG (Run.bin rfl rfl (Bin.gtrN _ 0)) ?_
   by_cases hs39 : 0 < i
   ·
    refine qG (Run.mv rfl) ?_
    refine qG (Run.fieldAddr rfl zbj rfl zbl jd) ?_
    refine qG (Run.load rfl zcj (hbxd.cell 0)) ?_
    refine qG (Run.mv rfl) ?_
    refine qG (Run.nilck rfl) ?_
    refine qG (Run.fieldAddr rfl zay rfl zct jd) ?_
    obtain ⟨ad, hdA, hc51⟩ := hel2 jo
    subst hdA
    refine qG (Run.load rfl zdv (hRd.bS.cell 1)) ?_
    refine qG (Run.mv rfl) ?_
    refine qG (Run.bin rfl rfl (Bin.sub_i64 _ 1 jo jo)) ?_
    refine qG (Run.indexS _ rfl rfl zbk zbw jo) ?_
    refine qG (Run.fieldAddr rfl zbj rfl zbl jd) ?_
    refine qG (Run.load rfl zcj hc51) ?_
    refine qG (Run.bin rfl rfl (Bin.leqN _ _)) ?_
    by_cases hs52 : y.1 ≤ (L.getD (i - 1) b0).1
    ·
     refine qG (Run.pickT rfl rfl au) ?_
     refine qE (Run.pickF rfl rfl au) ?_
     refine qH.nil ?_
     refine jN ⟨(js9 (jC (by first | (simp [*]; done) | (simp; omega))) rfl rfl rfl rfl rfl rfl rfl rfl), (qQ.drew _)⟩
    refine qG (Run.pickT rfl rfl au) ?_
    refine qE (Run.pickF rfl rfl au) ?_
    refine qH.nil ?_
    refine jN ⟨(js9 (jC (by first | (simp [*]; done) | (simp; omega))) rfl rfl rfl rfl rfl rfl rfl rfl), (qQ.drew _)⟩
   refine qG (Run.mv rfl) ?_
   refine qU ?_
   refine qU ?_
   refine qU ?_
   refine qU ?_
   refine qU ?_
   refine qU ?_
   refine qU ?_
   refine qU ?_
   refine qU ?_
   refine qU ?_
   refine qU ?_
   refine qU ?_
   refine qG (Run.pickF rfl rfl au) ?_
   refine qE (Run.pickF rfl rfl au) ?_
   refine qH.nil ?_
   refine jN ⟨(js9 (jC (by first | (simp [*]; done) | (simp; omega))) rfl rfl rfl rfl rfl rfl rfl rfl), (qQ.drew _)⟩
  intro Γ w9 hΓ hd9
  refine jN (VC.sub _ hΓ ?_)
  refine VC.condF rfl (decide_eq_false (fun h => by rcases h with h | ⟨h, h2⟩; exact absurd hy40 jo; have := hprev h; omega)) ?_
  refine jQ (jN (jv8 0 2 7 8 9 11 21 22 ?_))
  refine jS (jS (jR (jf rfl zbj rfl zc ?_)))
  have hO := hO.frm (S := []) hd9.frm jp
  have hbx := hbx.drawn hd9
  have K2 := K2.drawn hd9
  have hR6 := hR
  have hOb6 := hOb
  have hbz0 : i = 0 → fB L i 0 = 0 := fun h => by subst h; unfold fB; simp [outM]
  have hdr0 : (cV L).drop (fU L i + 14 + 4 * 0) = ((eV (outM (L.take i)).length (chunkL y.2)).drop 0).flatMap (fun b => qF b 4) ++ (((cE 0 L).drop (i + 1)).flatMap gK ++ qF (nK 0 L) 4) := hop4
  have hBl : (eV (outM (L.take i)).length (chunkL y.2)).length = (chunkL y.2).length := dP _ _
  generalize hBG : eV (outM (L.take i)).length (chunkL y.2) = BG at *
  generalize hRR : ((cE 0 L).drop (i + 1)).flatMap gK ++ qF (nK 0 L) 4 = RR at *
  refine jl rfl zg (hbx.cell 1) ?_
  refine Ops.cl (jE1 Tryz.call42) (qWy y.2.length _ jo) rfl ?_
  rintro e _ ⟨rfl, rfl⟩
  refine ⟨_, rfl, ?_⟩
  rw [← hcc]
  refine jx .i64 0 ?_
  refine jO (jN (jv10 0 2 7 8 9 11 21 22 57 58 ?_))
  refine jB ?_
  refine VC.loop (σ := Nat × Nat × Option Addr × Nat) (fun s => [(0, .pointer (some ⟨g, 0, none⟩)), (2, .int .i64 (((outM L).length : Nat) : Int)), (7, .pointer (some ⟨g1, 0, none⟩)), (8, .int .i64 ((L.length : Nat) : Int)), (9, .int .i64 ((s.2.1 : Nat) : Int)), (11, .pointer (some ⟨w6.heap.size, 0, none⟩)), (21, .int .i64 ((L.length : Nat) : Int)), (22, .int .i64 ((i : Nat) : Int)), (57, .int .i64 (((chunkL y.2).length : Nat) : Int)), (58, .int .i64 ((s.1 : Nat) : Int))]) (fun s wr => s.1 ≤ (chunkL y.2).length ∧ s.2.1 ≤ fB L i s.1 ∧ Blk wr w6.heap.size 66 #[.int .u64 ((y.1 : Nat) : Int), .int .i64 ((y.2.length : Nat) : Int), .int .u32 ((crcM y.2 : Nat) : Int), .slice s.2.2.1 s.1 s.2.2.2] ∧ Own wr 3 1 s.2.2.1 s.1 s.2.2.2 (ZB (BG.take s.1)) ∧ kL wr g1 B1 d1 (cV L) (fU L i + 14 + 4 * s.1) 0 0 ∧ Frm [g1] w6 wr ∧ (∀ x ∈ ob s.2.2.1, w6.heap.size ≤ x) ∧ (cV L).drop (fU L i + 14 + 4 * s.1) = (BG.drop s.1).flatMap (fun b => qF b 4) ++ RR) (fun s => (chunkL y.2).length - s.1) (0, la, none, 0) (js10 rfl rfl rfl rfl rfl rfl rfl rfl rfl rfl) ⟨zak _, by rw [hbz]; exact hla, hbx, Own.nil _ _ _, hO, K2, by simp [ob], hdr0⟩ ?_
  rintro ⟨k, la2, xA, xc⟩ wr2 ⟨hk, hla2, hbx, hxO, hO, K2, hxf, hdr⟩
  dsimp only at *
  refine jS (jR (jb rfl rfl (Bin.lssN _ _) (jO (jN (jS ?_)))))
  refine jD rfl (fun hc3 => ?_) fun hc3 => ?_
  ·
   have hk3 : k < (chunkL (L.getD i b0).2).length := by rw [hyE]; exact hc3
   have hbs := qS3 (L := L) (i := i) (k := k) hk3 RR
   have hbt := qS4 (L := L) (i := i) (k := k) hk3
   rw [hyE, hBG] at hbs hbt
   rw [hbs] at hdr
   have hb6 := qU1 hL h64 hc1 k
   obtain ⟨hqk, hopk, hlek⟩ := xX (wh := 0) hdr (jo : fB L i k < 256 ^ 4) jo
   have hbsu := qPu (L := L) (i := i) (k := k) hk3
   refine jQ (jN (jv10 0 2 7 8 9 11 21 22 57 58 ?_))
   refine jS (jB (jS (jR (jM ?_))))
   refine Ops.cl (jE2 Tryz.call41) (kU g1 B1 d1 (cV L) (fU L i + 14 + 4 * k) 0 0 4 _ jo jo jo jo hdb hO) rfl ?_
   rintro e w10 ⟨rfl, hO', hfw10⟩
   rw [hqk] at hO' ⊢
   dsimp only at hO'
   refine ⟨_, rfl, ?_⟩
   have hOb := hO.1
   have hO := hO'
   have hbx := hbx.frm hfw10 (by simp; exact hbx.ne hOb jd)
   have hxO := hxO.frm hfw10 (fun x hx hx2 => by rw [zh] at hx2; subst hx2; exact hxO.ne_blk hOb jd hx)
   have K2 := K2.trans hfw10 jp
   have hR3 := hR6.oc hOb6 K2
   refine je (Run.convN _ rfl zv zaa (by simp only [bmax]; omega)) (ja rfl (jO (jN (jv11 0 2 7 8 9 11 12 21 22 57 58 ?_))))
   refine jS (jS ?_)
   refine VC.split1 [(0, _), (2, _), (7, _), (8, _), (11, _), (12, _), (21, _), (22, _), (57, _), (58, _)] (js10 rfl rfl rfl rfl rfl rfl rfl rfl rfl rfl) 83 (.bool (decide (fB L i k < la2 ∨ ((k = 0 ∧ l.length = 0) ∧ fB L i k ≠ 0)))) ?_ ?_
   ·
    refine jR ?_
    refine jm rfl (jm rfl (jb rfl rfl (Bin.lssN _ _) ?_))
    by_cases hs65 : fB L i k < la2
    ·
     refine jM ?_
     refine jU ?_
     refine jU ?_
     refine jU ?_
     refine jU ?_
     refine jU ?_
     refine Ops.skU rfl rfl ?_
     refine Ops.skU rfl rfl ?_
     refine Ops.skU rfl rfl ?_
     refine Ops.skU rfl rfl ?_
     refine Ops.skU rfl rfl ?_
     refine Ops.skU rfl rfl ?_
     refine jU ?_
     refine jU ?_
     refine Ops.skU rfl rfl ?_
     refine Ops.skU rfl rfl ?_
     refine jU ?_
     refine je (Run.pickT rfl rfl au) (jO ?_)
     refine jN ⟨(js11 (jC (by first | exact (decide_eq_true jo).symm | exact (decide_eq_false jo).symm | exact decide_eq_decide.2 jo | exact decide_eq_decide.2 ⟨fun h => jo, fun h => jo⟩ | (simp [*]; done))) rfl rfl rfl rfl rfl rfl rfl rfl rfl rfl), rfl⟩
    refine jM ?_
    refine jk (Run.fieldAddr rfl zbj rfl zar jd) ?_
    refine jk (Run.load rfl zbq (hbx.cell 3)) ?_
    refine jk (Run.lenS rfl zd) ?_
    refine jk (Run.bin rfl rfl (Bin.eqlN _ 0)) ?_
    by_cases hs70 : k = 0
    ·
     refine jG ?_
     refine jG ?_
     refine jk (Run.nilck rfl) ?_
     refine jk (Run.fieldAddr rfl zay rfl zct jd) ?_
     refine jk (Run.load rfl zdv (hR3.bS.cell 1)) ?_
     refine jk (Run.lenS rfl zbk) ?_
     refine jk (Run.bin rfl rfl (Bin.eqlN _ 0)) ?_
     by_cases hs77 : l.length = 0
     ·
      refine jk (Run.pickT rfl rfl au) ?_
      refine jG ?_
      refine jG ?_
      refine jk (Run.bin rfl rfl (Bin.neqN _ 0)) ?_
      by_cases hs81 : fB L i k ≠ 0
      ·
       refine jk (Run.pickT rfl rfl au) ?_
       refine je (Run.pickF rfl rfl au) (jO ?_)
       refine jN ⟨(js11 (jC (by first | exact (decide_eq_true jo).symm | exact (decide_eq_false jo).symm | exact decide_eq_decide.2 jo | exact decide_eq_decide.2 ⟨fun h => jo, fun h => jo⟩ | (simp [*]; done))) rfl rfl rfl rfl rfl rfl rfl rfl rfl rfl), rfl⟩
      refine jk (Run.pickT rfl rfl au) ?_
      refine je (Run.pickF rfl rfl au) (jO ?_)
      refine jN ⟨(js11 (jC (by first | exact (decide_eq_true jo).symm | exact (decide_eq_false jo).symm | exact decide_eq_decide.2 jo | exact decide_eq_decide.2 ⟨fun h => jo, fun h => jo⟩ | (simp [*]; done))) rfl rfl rfl rfl rfl rfl rfl rfl rfl rfl), rfl⟩
     refine jk (Run.pickT rfl rfl au) ?_
     refine jG ?_
     refine jU ?_
     refine jU ?_
     refine jk (Run.pickF rfl rfl au) ?_
     refine je (Run.pickF rfl rfl au) (jO ?_)
     refine jN ⟨(js11 (jC (by first | exact (decide_eq_true jo).symm | exact (decide_eq_false jo).symm | exact decide_eq_decide.2 jo | exact decide_eq_decide.2 ⟨fun h => jo, fun h => jo⟩ | (simp [*]; done))) rfl rfl rfl rfl rfl rfl rfl rfl rfl rfl), rfl⟩
    refine jG ?_
    refine jU ?_
    refine jU ?_
    refine jU ?_
    refine jU ?_
    refine jU ?_
    refine jU ?_
    refine jk (Run.pickF rfl rfl au) ?_
    refine jG ?_
    refine jU ?_
    refine jU ?_
    refine jk (Run.pickF rfl rfl au) ?_
    refine je (Run.pickF rfl rfl au) (jO ?_)
    refine jN ⟨(js11 (jC (by first | exact (decide_eq_true jo).symm | exact (decide_eq_false jo).symm | exact decide_eq_decide.2 jo | exact decide_eq_decide.2 ⟨fun h => jo, fun h => jo⟩ | (simp [*]; done))) rfl rfl rfl rfl rfl rfl rfl rfl rfl rfl), rfl⟩
   intro Γ hΓ
   refine jN (VC.sub _ hΓ ?_)
   refine VC.condF rfl (decide_eq_false (fun h => by rcases h with h | ⟨⟨h1, h2⟩, h3⟩; exact absurd hla2 jo; exact h3 (by rw [h1]; exact hbz0 jo))) ?_
   refine jQ (jN (jv10 0 2 7 8 11 12 21 22 57 58 ?_))
   refine jS (jR (jm rfl (ja rfl (jO (jN (jv11 0 2 7 8 9 11 12 21 22 57 58 ?_))))))
   refine jR (jf rfl zbj rfl zar (jl rfl zbq (hbx.cell 3) (jM ?_)))
   refine Ops.m (qV.buildS1 rfl zd zc fS jd jd rfl rfl) rfl ?_
   rintro _ w11 ⟨rfl, hF11⟩
   have hrd11 : Rd w11 1 (some ⟨w10.heap.size, 0, none⟩) 1 (ZB [fB L i k]) := Rd.of_blk (n := 1) (size := 1) hF11.blk rfl
   have hxO := hxO.frm hF11.frm jp
   have hbx := hbx.frm hF11.frm jp
   have hO := hO.frm hF11.frm jp
   have K2 := K2.trans hF11.frm jp
   refine Ops.m (qV.app rfl rfl zd (dX) rfl jd hxO hrd11 (qBw _) jo jo) rfl ?_
   rintro _ w12 ⟨xA2, xc2, rfl, hxO2, hf12, hob12⟩
   rw [show ZB (BG.take k) ++ ZB [fB L i k] = ZB (BG.take (k + 1)) by rw [hbt, qUx]; rfl] at hxO2
   have hbx := hbx.frm hf12 (hxO.ne_blk hbx jd)
   have hO := hO.frm hf12 (fun x hx hx2 => by
    rcases zbv.1 hx with h | h
    · subst h; exact hxO.ne_blk hO.1 jd hx2
    exact hxO.ne_own hO.2 jd x hx2 h)
   have hks := K2.size
   have K2 := K2.trans hf12 (fun x hx => .inr (hxf x hx))
   have hxf2 : ∀ x ∈ ob xA2, w6.heap.size ≤ x := fun x hx => by
    rcases hob12 with h | h
    · rw [h] at hx; exact hxf x hx
    rw [h, zh] at hx; omega
   refine jf rfl zbj rfl zar ?_
   refine Ops.st (qR.store rfl rfl zar hbx rfl rfl) ?_
   rintro w13 ⟨hbx2, hf13, hs13⟩
   have hxO2 := hxO2.frm hf13 (fun x hx hx2 => by rw [zh] at hx2; subst hx2; exact hxO2.ne_blk hbx jd hx)
   have hO := hO.frm hf13 (fun x hx hx2 => by
    rw [zh] at hx2
    subst hx2
    rcases zbv.1 hx with h | h
    · exact hbx.ne hO.1 jd h
    exact hO.2.ne_blk hbx jd h)
   have K2 := K2.trans hf13 jp
   have hO : kL w13 g1 B1 d1 (cV L) (fU L i + 14 + 4 * (k + 1)) 0 0 := hO
   have hopk : (cV L).drop (fU L i + 14 + 4 * (k + 1)) = (BG.drop (k + 1)).flatMap (fun b => qF b 4) ++ RR := hopk
   refine jO ?_
   refine qJ (jN ?_)
   refine jv10 0 2 7 8 9 11 21 22 57 58 ?_
   refine jR (jb rfl rfl (Bin.add_i64 _ 1 jo) (jm rfl (jO ?_)))
   refine jN ⟨(k + 1, fB L i k, xA2, xc2), (js10 rfl rfl rfl rfl rfl rfl rfl rfl rfl rfl), ?_, ?_⟩
   · exact ⟨hc3, hbsu, hbx2, hxO2, hO, K2, hxf2, hopk⟩
   first | omega | (dsimp only; omega)
  have hkl : k = (chunkL y.2).length := jo
  subst hkl
  have hBt : BG.take (chunkL y.2).length = BG := zm jo
  rw [hBt] at hxO
  rw [← hBl] at hxO hbx
  have hR9 := hR6.oc hOb6 K2
  have K := K.trans K2 (by simp; omega)
  refine jX ?_
  refine qZ (qZ (qW ?_))
  refine jN (jv8 0 2 7 8 9 11 21 22 ?_)
  refine VC.heldL 10 (fun v => Blk v g 62 #[.slice bA bn bc, .slice dA l.length dc, .int .i64 ((0 : Nat) : Int)] ∧ Blk v w6.heap.size 66 #[.int .u64 ((y.1 : Nat) : Int), .int .i64 ((y.2.length : Nat) : Int), .int .u32 ((crcM y.2 : Nat) : Int), .slice xA BG.length xc]) jK ?_
  have hRd2 := hR9.oc hO.1 ((qQ.drew wr2).frm.mono (S := []) (T := [g1]) jp)
  have hbxd2 := hbx.drawn (qQ.drew wr2)
  have hO := hO.frm (S := []) (qQ.drew wr2).frm jp
  have K := K.drawn (qQ.drew wr2)
  have hxO := hxO.drawn (qQ.drew wr2)
  have hS : (fun v => Blk v g 62 #[.slice bA bn bc, .slice dA l.length dc, .int .i64 ((0 : Nat) : Int)] ∧ Blk v w6.heap.size 66 #[.int .u64 ((y.1 : Nat) : Int), .int .i64 ((y.2.length : Nat) : Int), .int .u32 ((crcM y.2 : Nat) : Int), .slice xA BG.length xc]) wr2.drew := ⟨hRd2.bS, hbxd2⟩
  refine jH 0 rfl hS (fun w0 hw0 => Run.mv rfl) ?_
  refine jH 1 rfl hS (fun w0 hw0 => Run.mv rfl) ?_
  refine jH 2 rfl hS (fun w0 hw0 => Run.nilck rfl) ?_
  refine jH 3 rfl hS (fun w0 hw0 => Run.fieldAddr rfl zay rfl zct jd) ?_
  refine jH 4 rfl hS (fun w0 hw0 => Run.load rfl zdv (hw0.1.cell 1)) ?_
  refine qK.r1 5 rfl jK hS (Run.loadA rfl Tryz.isAgg66 zbw hS.2.cells (by first | rfl | (simp; done))) trivial rfl rfl ?_
  refine qK.m 6 rfl jK (qV.buildS1 rfl zbk zbw pZ jd jd rfl rfl) trivial rfl rfl ?_
  rintro _ w20 ⟨rfl, hF20⟩
  have hrd20 : Rd w20 4 (some ⟨wr2.drew.heap.size, 0, none⟩) 1 (EC [Er.mk ⟨y.1, y.2.length, crcM y.2, BG⟩ xA xc]) := Rd.of_blk (n := 1) (size := 4) hF20.blk rfl
  have hR20 := hRd2.oc hO.1 (hF20.frm.mono (S := []) (T := [g1]) jp)
  have hO := hO.frm hF20.frm jp
  have K := K.trans hF20.frm jp
  have hxO := hxO.frm hF20.frm jp
  have hbx20 := hbxd2.frm hF20.frm jp
  have hS := And.intro hR20.bS hbx20
  refine ⟨hS, ?_⟩
  refine qK.m 7 rfl jK (qV.app rfl rfl zbk (qBc) rfl jd hR20.dO hrd20 (EC_one _) jo jo) trivial rfl rfl ?_
  rintro _ w21 ⟨dA2, dc2, rfl, hd21, hf21, hob21⟩
  rw [← qPk] at hd21
  have hbS21 := hR20.bS.frm hf21 (hR20.dO.ne_blk hR20.bS jd)
  have hbg21 : ∀ x ∈ l, Own w21 3 1 x.A x.e.begins.length x.c (ZB x.e.begins) := fun x hx => (hR20.bg x hx).frm hf21 (fun z hz hz2 => hR20.dO.ne_own (hR20.bg x hx) jd z hz2 hz)
  have hxO21 := hxO.frm hf21 (fun z hz hz2 => hR20.dO.ne_own hxO jd z hz2 hz)
  have hO := hO.frm hf21 (fun x hx hx2 => by
   rcases zbv.1 hx with h | h
   · subst h; exact hR20.dO.ne_blk hO.1 jd hx2
   exact hR20.dO.ne_own hO.2 jd x hx2 h)
  have hks := K.size
  have K := K.trans hf21 (fun x hx => .inr (hdf x hx))
  have hdf2 : ∀ x ∈ ob dA2, w.heap.size ≤ x := fun x hx => by
   rcases hob21 with h | h
   · rw [h] at hx; exact hdf x hx
   rw [h, zh] at hx; omega
  have hS := And.intro hbS21 (hbx20.frm hf21 (fun h => by have := hR6.dO.lt _ h; omega))
  refine ⟨hS, ?_⟩
  refine qK.r1 8 rfl jK hS (Run.nilck rfl) trivial rfl rfl ?_
  refine qK.r1 9 rfl jK hS (Run.fieldAddr rfl zay rfl zct jd) trivial rfl rfl ?_
  refine qK.stL rfl jK (qR.store rfl rfl zct hS.1 rfl rfl) trivial rfl ?_
  rintro w22 ⟨hbS22, hf22, hs22⟩
  have hd22 := hd21.frm hf22 (fun x hx hx2 => by rw [zh] at hx2; subst hx2; exact hd21.ne_blk hbS21 jd hx)
  have hbg22 : ∀ x ∈ l, Own w22 3 1 x.A x.e.begins.length x.c (ZB x.e.begins) := fun x hx => (hbg21 x hx).frm hf22 (fun z hz hz2 => by rw [zh] at hz2; subst hz2; exact (hbg21 x hx).ne_blk hbS21 jd hz)
  have hxO22 := hxO21.frm hf22 (fun z hz hz2 => by rw [zh] at hz2; subst hz2; exact hxO21.ne_blk hbS21 jd hz)
  have hO := hO.frm hf22 (fun x hx hx2 => by
   rw [zh] at hx2
   subst hx2
   rcases zbv.1 hx with h | h
   · exact hbS21.ne hO.1 jd h
   exact hO.2.ne_blk hbS21 jd h)
  have K := K.trans hf22 jp
  rw [← hsw] at hO
  have hlN : (l ++ [Er.mk ⟨y.1, y.2.length, crcM y.2, BG⟩ xA xc]).length = l.length + 1 := jp
  have hR22 : RdSt w22 g bA bn bc dA2 dc2 (l ++ [Er.mk ⟨y.1, y.2.length, crcM y.2, BG⟩ xA xc]) := ⟨by rw [hlN]; exact hbS22, by rw [hlN]; exact hd22, fun x hx => by
   rcases List.mem_append.1 hx with h | h
   · exact hbg22 x h
   rw [zh] at h
   subst h
   exact hxO22⟩
  have hmp : (l ++ [Er.mk ⟨y.1, y.2.length, crcM y.2, BG⟩ xA xc]).map Er.e = cE 0 (L.take (i + 1)) := by rw [hes, zbt, hl]; rfl
  refine qK.done jK ?_
  refine qJ (jN ?_)
  refine jv7 0 2 7 8 9 21 22 ?_
  refine jR (jb rfl rfl (Bin.add_i64 _ 1 jo) (jm rfl (jO ?_)))
  refine jN ⟨(i + 1, la2, dA2, dc2, l ++ [Er.mk ⟨y.1, y.2.length, crcM y.2, BG⟩ xA xc]), (js7 rfl rfl rfl rfl rfl rfl rfl), ?_, ?_⟩
  · exact ⟨hc1, hmp, by rw [← hca]; exact hla2, hR22, hO, K, hdf2⟩
  first | omega | (dsimp only; omega)
 obtain rfl : i = L.length := jo
 rw [zas] at hl hla
 have htl : kE l L := hl
 obtain ⟨hpe1, hpe2⟩ := hpe
 obtain ⟨hqE, hopE, hleE⟩ := xX (wh := 0) hpe1 (jo : (outM L).length < 256 ^ 4) jo
 refine jX ?_
 refine qZ (qZ (qW ?_))
 refine jN (jv5 0 2 7 8 9 ?_)
 refine jS (jR (jm rfl (jM ?_)))
 refine Ops.cl (jE2 Tryz.call41) (kU g1 B1 d1 (cV L) (fU L L.length) 0 0 4 _ jo jo jo jo hdb hO) rfl ?_
 rintro e w30 ⟨rfl, hO', hfw30⟩
 rw [hqE] at hO' ⊢
 dsimp only at hO'
 refine ⟨_, rfl, ?_⟩
 have hOb := hO.1
 have hO := hO'
 have hR := hR.oc hOb hfw30
 have K := K.trans hfw30 (by simp; omega)
 refine je (Run.convN _ rfl zv zaa (by simp only [bmax]; omega)) (je (Run.nilck rfl) (jf rfl zay rfl zc ?_))
 refine Ops.st (qR.store rfl rfl zc hR.bS rfl rfl) ?_
 rintro w31 ⟨hbS31, hf31, hs31⟩
 have hd31 := hR.dO.frm hf31 (fun x hx hx2 => by rw [zh] at hx2; subst hx2; exact hR.dO.ne_blk hR.bS jd hx)
 have hbg31 : ∀ x ∈ l, Own w31 3 1 x.A x.e.begins.length x.c (ZB x.e.begins) := fun x hx => (hR.bg x hx).frm hf31 (fun z hz hz2 => by rw [zh] at hz2; subst hz2; exact (hR.bg x hx).ne_blk hR.bS jd hz)
 have hO := hO.frm hf31 (fun x hx hx2 => by
  rw [zh] at hx2
  subst hx2
  rcases zbv.1 hx with h | h
  · exact hR.bS.ne hO.1 jd h
  exact hO.2.ne_blk hR.bS jd h)
 have K := K.trans hf31 jp
 have hno : ¬ ((0 : Nat) = 0 ∧ fU L L.length + 4 < (cV L).length) := by rw [hpe2]; omega
 refine jO (jN (jv5 0 2 7 8 9 ?_))
 refine jS (jR (jM ?_))
 refine Ops.cl (jE1 Tryz.call43) (qM9 g1 B1 d1 (cV L) (fU L L.length + 4) 0 0 _ jo jo hO) rfl ?_
 rintro e w32 ⟨rfl, hd32⟩
 rw [if_neg hno, if_neg hno]
 refine ⟨_, rfl, ?_⟩
 have K := K.drawn hd32
 have hbS32 := hbS31.drawn hd32
 have hE32 : RdE w32 dA l.length l := ⟨rfl, (hd31.drawn hd32).rd, fun x hx => ((hbg31 x hx).drawn hd32).rd⟩
 have hqa : L.length = l.length := hll.symm
 have hqb : 0 < L.length := h1n
 refine jm rfl (je (Run.extract rfl rfl) (je (Run.extract rfl rfl) (ja rfl (ja rfl (jO (jN (jv5 0 2 8 9 13 ?_)))))))
 refine jS (jR (jm rfl (jb rfl rfl (Bin.eqlN _ 0) (jM ?_))))
 refine jG ?_
 refine jG ?_
 refine jk (Run.nilck rfl) ?_
 refine jk (Run.fieldAddr rfl zay rfl zct jd) ?_
 refine jk (Run.load rfl zdv (hbS32.cell 1)) ?_
 refine jk (Run.lenS rfl zbk) ?_
 refine jk (Run.bin rfl rfl (Bin.eqlN _ _)) ?_
 refine je (Run.pickT rfl rfl au) (jM ?_)
 refine jG ?_
 refine jk (Run.bin rfl rfl (Bin.gtrN _ 0)) ?_
 refine je (Run.pickT rfl rfl au) (jM ?_)
 refine jG ?_
 refine jk (Run.nilck rfl) ?_
 refine jk (Run.fieldAddr rfl zay rfl zc jd) ?_
 refine jk (Run.load rfl zg (hbS32.cell 2)) ?_
 refine jG ?_
 refine jk (Run.bin rfl rfl (Bin.geqN _ _)) ?_
 refine je (Run.pickT rfl rfl au) (jM ?_)
 refine jG ?_
 refine jk (Run.nilck rfl) ?_
 refine jk (Run.fieldAddr rfl zay rfl zc jd) ?_
 refine jk (Run.load rfl zg (hbS32.cell 2)) ?_
 refine jG ?_
 refine jk (Run.bin rfl rfl (Bin.eqlN _ _)) ?_
 refine je (Run.pickT rfl rfl au) (jM ?_)
 refine jG ?_
 refine Ops.clg rfl au (jE1 Tryz.call44) (qHr g bn bc dc _ bA dA l _ hbS32 hE32 jo (fun i hi hm hne => qHs htl jo hm hne) (fun hm => qHt htl (fun j hj => hm j jo))) rfl ?_
 rintro e w33 ⟨rfl, hf33⟩
 refine ⟨_, rfl, ?_⟩
 refine je (Run.pickT rfl rfl au) (ja rfl (jO (jN (jv1 6 ?_))))
 refine jT ?_
 refine qT rfl ?_
 exact ⟨rfl, ⟨dA, dc, l, htl, hbS32.frm hf33 jp, hE32.frm hf33, hR.dO.le⟩, K.trans hf33 jp⟩
end
section
open Go.RowKit
def kF : List Nat := [115, 101, 97, 108]
theorem qV3 {X p s : List Nat} {a v n : Nat} (h : X = p ++ (qF v n ++ s)) (ha : p.length = a) (hv : v < 256 ^ n) : numAt X a n = v := by
 subst ha
 unfold numAt
 rw [h, zfm, zcg (by rw [bV]; omega), zm (by rw [bV]; omega)]
 exact yS n v hv
theorem qY0 {X : List Nat} {L a n : Nat} (hL : X.length = L) (h : a + n ≤ L) : numV X a n = numAt X a n ∧ numE L a n = 0 := by
 subst hL
 have h1 : numE X.length a n = 0 := by
  unfold numE
  rw [if_neg jo, if_neg jo]
 refine ⟨?_, h1⟩
 unfold numV
 rw [if_pos h1]
theorem uG (L : List Bb) : (bD L).length = (cV L).length + 4 := by unfold bD; rw [za, bV]
theorem xC (L : List Bb) : (segM L).length = (outM L).length + (bD L).length + 8 := by
 unfold segM
 simp only [za, bV, zp, zbx]
theorem qQ2 {L : List Bb} (hL : ∀ x ∈ L, x.2.length ≤ 4032 ∧ x.1 < 18446744073709551616 ∧ ∀ b ∈ x.2, b < 256) (hn : L.length ≤ 64) :
  (segM L).drop ((segM L).length - 4) = kF ∧ numAt (segM L) ((segM L).length - 12) 4 = (outM L).length ∧ numAt (segM L) ((segM L).length - 8) 4 = crcM (bD L) ∧ ((segM L).drop (outM L).length).take ((segM L).length - 8 - (outM L).length) = bD L := by
 have hl := xC L
 have hd := uG L
 have ho := qV2 hL hn
 have hc := mZ (bD L)
 refine ⟨?_, ?_, ?_, ?_⟩
 ·
  have h1 : segM L = (outM L ++ bD L ++ qF (crcM (bD L)) 4) ++ kF := rfl
  have h2 : (outM L ++ bD L ++ qF (crcM (bD L)) 4).length = (segM L).length - 4 := by
   simp only [za, bV]
   omega
  rw [← h2, h1, zfm]
 ·
  have h1 : segM L = (outM L ++ cV L) ++ (qF (outM L).length 4 ++ (qF (crcM (bD L)) 4 ++ kF)) := by
   show outM L ++ bD L ++ qF (crcM (bD L)) 4 ++ kF = _
   unfold bD
   rw [kY]
   simp only [zj]
  exact qV3 h1 (by rw [za]; omega) jo
 ·
  have h1 : segM L = (outM L ++ bD L) ++ (qF (crcM (bD L)) 4 ++ kF) := by
   show outM L ++ bD L ++ qF (crcM (bD L)) 4 ++ kF = _
   simp only [zj]
  exact qV3 h1 (by rw [za]; omega) jo
 have h1 : segM L = outM L ++ (bD L ++ (qF (crcM (bD L)) 4 ++ kF)) := by
  show outM L ++ bD L ++ qF (crcM (bD L)) 4 ++ kF = _
  simp only [zj]
 rw [show (segM L).length - 8 - (outM L).length = (bD L).length by omega, h1, zfm, zhf]
theorem qPv (L : List Bb) : (bD L).take ((bD L).length - 4) = cV L := by
 rw [uG]
 unfold bD
 rw [show (cV L).length + 4 - 4 = (cV L).length by omega, zhf]
theorem qS8 {l : List Nat} (h : ∀ b ∈ l, b < 256) : l.map UInt8.ofNat = [115, 101, 97, 108] ↔ l = kF := by
 constructor
 ·
  intro h3
  have h4 : (l.map UInt8.ofNat).map UInt8.toNat = l := by
   rw [zeh]
   conv => rhs; rw [← List.map_id l]
   apply zde
   intro b hb
   have := h b hb
   show (UInt8.ofNat b).toNat = b
   rw [UInt8.toNat_ofNat']
   exact zdz this
  rw [← h4, h3]
  rfl
 intro h1
 subst h1
 rfl
end
section
open Go.RowKit
theorem qWz (B : Option Addr) (m c a : Nat) (X : List Nat) (L : List Bb) (w : World) (hX : X.length = m + 12) (hn : m ≤ 1000000) (hB : ∀ b ∈ X, b < 256) (hc : m + 12 ≤ c) (hr : Rd w 1 B (m + 12) (NB X)) (hM : wW L)
  (ha : numAt X m 4 = a) (han : a ≤ m) (hX2 : X.drop (m + 8) = kF → numAt X (m + 4) 4 = crcM ((X.drop a).take (m + 4 - a)) → X = segM L) :
  Calls Tryz.prog 11 #[.slice B (m + 12) c] w fun e w' => ∃ p k, e = .returned (.tuple #[.pointer p, .int .i64 ((k : Nat) : Int)]) ∧ Frm [] w w' ∧ ((X.drop (m + 8) = kF ∧ numAt X (m + 4) 4 = crcM ((X.drop a).take (m + 4 - a))) → ∃ g, p = some ⟨g, 0, none⟩ ∧ k = 0 ∧ zV w' g L) ∧ (¬ (X.drop (m + 8) = kF ∧ numAt X (m + 4) 4 = crcM ((X.drop a).take (m + 4 - a))) → p = none ∧ (k = 3 ∨ k = 9)) := by
 have K := Frm.refl [] w
 have hs4 : ∀ b ∈ X.drop (m + 8), b < 256 := fun b hb => hB b (zch hb)
 have hsl : (X.drop (m + 8)).length = 4 := by rw [zr]; omega
 have hrs : Rd w 1 (cC B c (m + 8) 1) 4 (U8 ((X.drop (m + 8)).map UInt8.ofNat)) := by
  have h1 := hr.cut (l := m + 8) (r := m + 12) (cap := c) jo jo hc
  have h2 : ((NB X).drop ((m + 8) * 1)).take ((m + 12 - (m + 8)) * 1) = NB (X.drop (m + 8)) := by
   rw [zdq, zdq, show m + 12 - (m + 8) = 4 by omega, show (NB X).drop (m + 8) = NB (X.drop (m + 8)) by simp [NB, zgk], zm (by simp [NB]; omega)]
  rw [h2, show m + 12 - (m + 8) = 4 by omega] at h1
  rw [← qJt _ hs4]
  exact h1
 have hsi := qS8 hs4
 have hv1 := qY0 (a := m) (n := 4) hX jo
 have hv2 := qY0 (a := m + 4) (n := 4) hX jo
 rw [ha] at hv1
 have ho1 := fun W hW => vH B c (m + 12) m 4 X W hX jo jo jo jo hB hW
 have ho2 := fun W hW => vH B c (m + 12) (m + 4) 4 X W hX jo jo jo jo hB hW
 rw [hv1.1, hv1.2] at ho1
 rw [hv2.1, hv2.2] at ho2
 have hlt2 := yB X hB (m + 4) 4
 have hdl : ((X.drop a).take (m + 4 - a)).length = m + 4 - a := by rw [zi, zr]; omega
 have hdb : ∀ b ∈ (X.drop a).take (m + 4 - a), b < 256 := fun b hb => hB b (zch (zaf hb))
 have hcr := mZ ((X.drop a).take (m + 4 - a))
 generalize hsm : numAt X (m + 4) 4 = sm at *
 have hrd : Rd w 1 (cC B c a 1) (m + 4 - a) (NB ((X.drop a).take (m + 4 - a))) := by
  have h1 := oX X a (m + 4 - a) jo (by rw [hX]; exact hr) (by rw [hX]; exact hc)
  rw [hdl] at h1
  exact h1
 refine VC.calls (nt := 66) (res := #[.tmp 2, .tmp 3]) Tryz.func11 rfl Tryz.ntmps11 Tryz.results11 rfl ?_
 refine jS (jR (ja rfl (jz 0 (jO (jN (jv1 0 ?_))))))
 refine jS (jR (jm rfl (je (Run.lenS rfl zf) (jb rfl rfl (Bin.sub_i64 _ 12 jo jo) ?_))))
 rw [show m + 12 - 12 = m by omega]
 refine ja rfl (jO (jN (jv2 0 4 ?_)))
 refine jS (jS ?_)
 refine VC.split1 [(0, _), (4, _)] (js2 rfl rfl) 23 (.bool (decide (X.drop (m + 8) ≠ kF))) ?_ ?_
 ·
  refine jR ?_
  refine jm rfl (jb rfl rfl (Bin.lssN _ 0) ?_)
  by_cases hs15 : m < 0
  ·
   refine jM ?_
   refine jU ?_
   refine jU ?_
   refine jU ?_
   refine jU ?_
   refine jU ?_
   refine jU ?_
   refine je (Run.pickT rfl rfl au) (jO ?_)
   refine jN ⟨(js3 (jC (by first | exact decide_eq_decide.2 (not_congr hsi) | (simp; omega))) rfl rfl), rfl⟩
  refine jM ?_
  refine jG ?_
  refine jG ?_
  refine jk (Run.bin rfl rfl (Bin.add_i64 _ 8 jo)) ?_
  refine jk (Run.sliceS _ _ rfl zf zad (evB.some_ rfl) evB.none_ jo jo) ?_
  rw [show m + 12 - (m + 8) = 4 by omega]
  refine jk (Run.strOf rfl zf zat zci hrs) ?_
  refine jk (Run.neqStr rfl rfl) ?_
  refine je (Run.pickF rfl rfl au) (jO ?_)
  refine jN ⟨(js3 (jC (by first | exact decide_eq_decide.2 (not_congr hsi) | (simp; omega))) rfl rfl), rfl⟩
 intro Γ hΓ
 refine jN (VC.sub _ hΓ ?_)
 refine jD rfl (fun hc1 => ?_) fun hc1 => ?_
 ·
  refine jS (jR (ja rfl (jz 3 (jO (jN (jv2 2 3 ?_))))))
  refine jT ?_
  refine qP (cY rfl rfl ?_)
  exact ⟨none, 3, rfl, K, fun h => absurd h.1 hc1, fun _ => ⟨rfl, .inl rfl⟩⟩
 refine jQ (jN (jv2 0 4 ?_))
 refine jS (jR (jm rfl (jM ?_)))
 refine Ops.cl (jE3 Tryz.call23) (ho1 _ hr) rfl ?_
 rintro e _ ⟨rfl, rfl⟩
 refine ⟨_, rfl, ?_⟩
 refine jm rfl (je (Run.extract rfl rfl) (je (Run.extract rfl rfl) (ja rfl (ja rfl (jO (jN (jv3 0 4 5 ?_)))))))
 refine jS (jS (jR (jm rfl (jm rfl (je (Run.convN _ rfl zaa zv (by simp only [bmax]; omega)) (jb rfl rfl (Bin.gtrN _ _) (jO (jN (jv4 0 4 5 33 ?_)))))))))
 refine VC.condF rfl (decide_eq_false jo) ?_
 refine jQ (jN (jv3 0 4 5 ?_))
 refine jS (jR (jm rfl (jm rfl (jm rfl (jb rfl rfl (Bin.add_i64 _ 4 jo) (je (Run.sliceS _ _ rfl zf zad (evB.some_ rfl) (evB.some_ rfl) jo jo) (ja rfl (jO (jN (jv4 0 4 5 7 ?_))))))))))
 refine jS (jS (jR (jm rfl (jm rfl (jb rfl rfl (Bin.add_i64 _ 4 jo) ?_)))))
 refine Ops.cl (jE3 Tryz.call23) (ho2 _ hr) rfl ?_
 rintro e _ ⟨rfl, rfl⟩
 refine ⟨_, rfl, ?_⟩
 refine jm rfl (je (Run.extract rfl rfl) (je (Run.extract rfl rfl) (ja rfl (ja rfl (jO (jN (jv4 0 5 7 8 ?_)))))))
 refine jS (jR (jm rfl (je (Run.convN _ rfl zv zen (by simp only [bmax]; omega)) (jM ?_))))
 refine Ops.cl (jE1 Tryz.call16) (vK (cC B c a 1) _ (m + 4 - a) ((X.drop a).take (m + 4 - a)) _ hdl jo hdb hrd) rfl ?_
 rintro e w1 ⟨rfl, K⟩
 refine ⟨_, rfl, ?_⟩
 refine jb rfl rfl (Bin.neqN _ _) (jO (jN (jv4 0 5 7 50 ?_)))
 refine jD rfl (fun hc3 => ?_) fun hc3 => ?_
 ·
  refine jS (jR (ja rfl (jz 9 (jO (jN (jv2 2 3 ?_))))))
  refine jT ?_
  refine qP (cY rfl rfl ?_)
  exact ⟨none, 9, rfl, K, fun h => absurd h.2 hc3, fun _ => ⟨rfl, .inr rfl⟩⟩
 refine jQ (jN (jv3 0 5 7 ?_))
 refine jS (jR (jM ?_))
 refine Ops.cl (jE1 Tryz.call24) (qWk B c (m + 12) X _ hX jo (hr.frm K jp)) rfl ?_
 rintro e w2 ⟨B2, c2, rfl, hb2, hf2, hob2⟩
 refine ⟨_, rfl, ?_⟩
 have K := K.trans hf2 jp
 have K2s := K.size
 refine je (Run.build (evs.cons rfl evs.nil) qBb (qJz).choose_spec.1 (qJz).choose_spec.2 rfl) ?_
 refine Ops.m (qV.box rfl) rfl ?_
 rintro _ w3 ⟨rfl, hF3⟩
 have K := K.trans hF3.frm jp
 have hXe := hX2 (Classical.not_not.1 hc1) jo
 obtain ⟨hL, _, _, h64⟩ := id hM
 obtain ⟨_, hp2, _, hp4⟩ := qQ2 hL h64
 have hpl : (segM L).length = m + 12 := by rw [← hXe]; exact hX
 have hae : a = (outM L).length := by rw [← hp2, ← hXe, hX, show m + 12 - 12 = m by omega, ha]
 have hde : (X.drop a).take (m + 4 - a) = bD L := by rw [← hp4, ← hae, ← hXe, hX, show m + 12 - 8 = m + 4 by omega]
 have hdl2 := uG L
 have hks2 : w.heap.size ≤ w2.heap.size := K2s
 have hlq : m + 4 - a - 4 - 0 = (cV L).length := by rw [hde] at hdl; omega
 have hrq : Rd w3 1 (cC (cC B c a 1) (c - a) 0 1) (cV L).length (NB (cV L)) := by
  have h1 := (hrd.frm K jp).cut (l := 0) (r := m + 4 - a - 4) (cap := c - a) jo jo jo
  rw [hde] at hdl h1
  have h2 : ((NB (bD L)).drop (0 * 1)).take ((m + 4 - a - 4 - 0) * 1) = NB (cV L) := by
   rw [zfo, zby, zdq, show m + 4 - a - 4 - 0 = (bD L).length - 4 by omega, show (NB (bD L)).take ((bD L).length - 4) = NB ((bD L).take ((bD L).length - 4)) by simp [NB, zdf], qPv]
  rw [h2, hlq] at h1
  exact h1
 refine ja rfl (jO (jN (jv3 5 7 10 ?_)))
 refine jS (jS (jR (jm rfl (jm rfl (jm rfl (je (Run.lenS rfl zf) (jb rfl rfl (Bin.sub_i64 _ 4 jo jo) (je (Run.sliceS 0 _ rfl zf zad evB.none_ (evB.some_ rfl) jo jo) ?_))))))))
 rw [hlq]
 refine jm rfl (je (Run.convN _ rfl zv zaa (by simp only [bmax]; omega)) ?_)
 have hrdd := qHu w2.heap.size (m + 12) c2 (c - a - 0) B2 (cC (cC B c a 1) (c - a) 0 1) L w3 hM hF3.blk hrq
 rw [← hae] at hrdd
 refine Ops.cl (jE3 Tryz.call25) (hrdd) rfl ?_
 rintro e w4 ⟨rfl, ⟨dA, dc, l, htl, hbS, hE, hdc⟩, hf4⟩
 refine ⟨_, rfl, ?_⟩
 have K := K.own hf4 (by simp; exact hks2)
 refine je (Run.not rfl) (jO (jN (jv2 10 64 ?_)))
 refine VC.condF rfl (rfl) ?_
 refine jQ (jN (jv1 10 ?_))
 refine jS (jR (jm rfl (ja rfl (jz 0 (jO (jN (jv2 2 3 ?_)))))))
 refine jT ?_
 refine cY rfl rfl ?_
 refine ⟨some ⟨w2.heap.size, 0, none⟩, 0, rfl, K, fun _ => ⟨_, rfl, rfl, B2, c2, dA, dc, l, ⟨?_, ?_, ?_, hE, hdc⟩, htl⟩, fun h => absurd ⟨Classical.not_not.1 hc1, Classical.not_not.1 hc3⟩ h⟩
 · rw [hpl, ← hae]; exact hbS
 · rw [hpl, ← hXe]; exact ((hb2.frm hF3.frm jp).frm hf4 (fun x hx hx2 => by rw [zh] at hx2; subst hx2; have := hb2.lt _ hx; omega)).rd
 rw [hpl]; exact hb2.le
end
section
open Go.RowKit
theorem qPw {w : World} {g e n : Nat} {cs : Array Value} {xs : List Value} (h : Fro w g e cs) (ht : cs.toList.take n = xs) (hl : xs.length = n) : Rd w 1 (some ⟨g, 0, none⟩) n xs := by
 refine ⟨jo, fun _ => ⟨_, rfl, h.lt, fun j u hu => ?_⟩⟩
 rw [fY, h.cell]
 rw [← ht] at hu
 have hj : j < n := by
  have := (List.getElem?_eq_some_iff.1 hu).1
  rw [zi] at this
  omega
 rw [zaq hj] at hu
 rw [← hu, zhh]
theorem qHv (v n : Nat) (w : World) (hn1 : 1 ≤ n) (hn8 : n ≤ 8) (hv : v < 256 ^ n) :
  Calls Tryz.prog 35 #[.int .u64 ((v : Nat) : Int), .int .i64 ((n : Nat) : Int)] w fun e w' => e = .returned (.tuple #[.string (eT (qF v n)), .int .i64 ((0 : Nat) : Int)]) ∧ Frm [] w w' := by
 have hv64 : v < 18446744073709551616 := zbb hv (by
  have : (256 : Nat) ^ n ≤ 256 ^ 8 := zz jo hn8
  exact this)
 refine VC.calls (nt := 31) (res := #[.tmp 4, .tmp 5]) Tryz.func35 rfl Tryz.ntmps35 Tryz.results35 rfl ?_
 refine jS (jR (ja rfl (jz 0 (jO (jN (jv2 0 1 ?_))))))
 refine jS (jS ?_)
 refine VC.split1 [(0, _), (1, _)] (js2 rfl rfl) 13 (.bool (decide (n < 1 ∨ 8 < n))) ?_ ?_
 ·
  refine jR ?_
  refine jm rfl (jb rfl rfl (Bin.lssN _ 1) ?_)
  by_cases hs9 : n < 1
  ·
   refine jM ?_
   refine jU ?_
   refine jU ?_
   refine je (Run.pickT rfl rfl au) (jO ?_)
   refine jN ⟨(js3 (jC (by first | (simp [*]; done) | (simp; omega))) rfl rfl), rfl⟩
  refine jM ?_
  refine jG ?_
  refine jk (Run.bin rfl rfl (Bin.gtrN _ 8)) ?_
  by_cases hs12 : 8 < n
  ·
   refine je (Run.pickF rfl rfl au) (jO ?_)
   refine jN ⟨(js3 (jC (by first | (simp [*]; done) | (simp; omega))) rfl rfl), rfl⟩
  refine je (Run.pickF rfl rfl au) (jO ?_)
  refine jN ⟨(js3 (jC (by first | (simp [*]; done) | (simp; omega))) rfl rfl), rfl⟩
 intro Γ hΓ
 refine jN (VC.sub _ hΓ ?_)
 refine VC.condF rfl (decide_eq_false jo) ?_
 refine jQ (jN (jv2 0 1 ?_))
 refine jS (jR (ja rfl (jO (jN (jS (jS (jR (jz 0 (jO (jN (jB ?_)))))))))))
 refine VC.loop (σ := Nat) (fun s => [(0, .int .u64 ((v / 256 ^ s : Nat) : Int)), (1, .int .i64 ((n : Nat) : Int)), (6, .string (eT (qF v s))), (7, .int .i64 ((s : Nat) : Int))]) (fun s wr => s ≤ n ∧ Frm [] w wr) (fun s => n - s) 0 (js4 (by rw [zhw, Nat.div_one]; rfl) rfl rfl rfl) ⟨jo, Frm.refl _ _⟩ ?_
 rintro i wr ⟨hi, K⟩
 have hvl : v / 256 ^ i ≤ v := zcq _ _
 have hsz : (eT (qF v i)).size ≤ 8 := by rw [cZ, bV]; omega
 refine jS (jS (jR (jm rfl (jm rfl (jb rfl rfl (Bin.lssN _ _) (jO (jN (jv5 0 1 6 7 16 ?_))))))))
 refine jD rfl (fun hc2 => ?_) fun hc2 => ?_
 ·
  refine jQ (jN (jv4 0 1 6 7 ?_))
  refine jS (jB (jS (jR (jm rfl (jm rfl (jb rfl rfl (Bin.remN _ 256 jo) (je (Run.conv8 _ rfl zv zat) ?_)))))))
  rw [zdz (by omega : v / 256 ^ i % 256 < 256)]
  refine Ops.m (qV.buildS1 rfl zf zad pO jd jd rfl rfl) rfl ?_
  rintro _ w2 ⟨rfl, hF2⟩
  have hrd2 : Rd w2 1 (some ⟨wr.heap.size, 0, none⟩) 1 (U8 ([v / 256 ^ i % 256].map UInt8.ofNat)) := by
   rw [← qJt [v / 256 ^ i % 256] (by intro b hb; simp at hb; omega)]
   exact Rd.of_blk (n := 1) (size := 1) hF2.blk rfl
  refine je (Run.strOf rfl zf zat zci hrd2) (je (Run.addStr rfl rfl (by show (eT (qF v i)).size + 1 ≤ 9223372036854775807; omega)) (ja rfl (jO (jN (jv4 0 1 6 7 ?_)))))
  refine jR (jm rfl (jb rfl rfl (Bin.quo_u64 _ 256 jo jo) ?_))
  rw [zfa, show (256 : Nat) ^ i * 256 = 256 ^ (i + 1) from (zbo ..).symm]
  refine ja rfl (jO ?_)
  refine qJ (jN ?_)
  refine jv4 0 1 6 7 ?_
  refine jR (jm rfl (jb rfl rfl (Bin.add_i64 _ 1 jo) (ja rfl (jO ?_))))
  refine jN ⟨i + 1, (js4 rfl rfl (by rw [vV, ← dY]; rfl) rfl), ?_, ?_⟩
  · exact ⟨jo, K.trans hF2.frm jp⟩
  first | omega | (dsimp only; omega)
 refine jX ?_
 refine qZ (qZ (qW ?_))
 refine jN (jv2 0 6 ?_)
 refine jS (jS (jR (jm rfl (jb rfl rfl (Bin.gtrN _ 0) (jO (jN (jv2 6 29 ?_)))))))
 refine VC.condF rfl (decide_eq_false (by rw [show i = n by omega, zfd hv]; simp)) ?_
 refine jQ (jN (jv1 6 ?_))
 refine jS (jR (jm rfl (ja rfl (jz 0 (jO (jN (jv2 4 5 ?_)))))))
 refine jT ?_
 refine cY rfl rfl ?_
 obtain rfl : i = n := jo
 exact ⟨rfl, K⟩
theorem kH (v n : Nat) (w : World) (hn1 : 1 ≤ n) (hn8 : n ≤ 8) (hv : v < 256 ^ n) :
  Calls Tryz.prog 20 #[.int .u64 ((v : Nat) : Int), .int .i64 ((n : Nat) : Int)] w fun e w' => e = .returned (.string (eT (qF v n))) ∧ Frm [] w w' := by
 refine VC.calls (nt := 14) (res := #[.tmp 4]) Tryz.func20 rfl Tryz.ntmps20 Tryz.results20 rfl ?_
 refine jS (jR (ja rfl (jO (jN (jv2 0 1 ?_)))))
 refine jS (jR (jm rfl (jM ?_)))
 refine Ops.cl (jE2 Tryz.call35) (qHv v n w hn1 hn8 hv) rfl ?_
 rintro e w1 ⟨rfl, K⟩
 refine ⟨_, rfl, ?_⟩
 refine jm rfl (je (Run.extract rfl rfl) (je (Run.extract rfl rfl) (ja rfl (ja rfl (jO (jN (jv1 5 ?_)))))))
 refine jS (jR (jm rfl (ja rfl (jO (jN (jv1 4 ?_))))))
 refine jT ?_
 refine qT rfl ?_
 exact ⟨rfl, K⟩
theorem qW0 (A : Option Addr) (n c : Nat) (l : List Bl) (w : World) (hn : n ≤ 1000000) (hr : RdB w A n l) (hmay : fT l) :
  Calls Tryz.prog 10 #[.slice A n c] w fun e w' => e = .returned (.string (eT (segM (l.map Bl.b)))) ∧ Frm [] w w' := by
 have hnl := hr.len
 have h64 : n ≤ 64 := by have := hmay.2.2; omega
 have K := Frm.refl [] w
 refine VC.calls (nt := 92) (res := #[.tmp 2]) Tryz.func10 rfl Tryz.ntmps10 Tryz.results10 rfl ?_
 refine jS (jR (ja rfl (jO (jN (jv1 0 ?_)))))
 refine jS (jR (ja rfl (jO (jN (jS (jR (jm rfl (je (Run.lenS rfl zam) (je (Run.convN _ rfl zaa zv (by simp only [bmax]; omega)) ?_)))))))))
 refine Ops.cl (jE2 zgu) (kH (n) 2 _ jo jo jo) rfl ?_
 rintro e w1 ⟨rfl, hfw1⟩
 refine ⟨_, rfl, ?_⟩
 have K := K.trans hfw1 jp
 have hd0 : fQ n ((l.map Bl.b).take 0) = qF n 2 := by simp [fQ, cE]
 refine ja rfl (jO (jN (jv3 0 3 4 ?_)))
 refine jS (jS (jR (jz 0 (jO (jN (jB ?_))))))
 refine VC.loop (σ := Nat) (fun s => [(0, .slice A n c), (3, .string (eT (outM ((l.map Bl.b).take s)))), (4, .string (eT (fQ n ((l.map Bl.b).take s)))), (5, .int .i64 ((s : Nat) : Int))]) (fun s wr => s ≤ n ∧ Frm [] w wr) (fun s => n - s) 0 (js4 rfl (by simp [outM]; rfl) (by rw [hd0]; rfl) rfl) ⟨jo, K⟩ ?_
 rintro i wr ⟨hi, K⟩
 have hoL : (outM ((l.map Bl.b).take i)).length ≤ 8272 * i := by
  have h1 := mN ((l.map Bl.b).take i) (fun x hx => by
   obtain ⟨y, hy, rfl⟩ := List.mem_map.1 (zaf hx)
   obtain ⟨q1, q2, q3, q4, _⟩ := hr.el y hy
   obtain ⟨k, hk, rfl⟩ := zbe hy
   have := lF hmay hk
   rw [ze, zb hk] at this
   exact ⟨this, q3, q4⟩)
  have h2 : ((l.map Bl.b).take i).length ≤ i := by rw [zi]; omega
  have h3 : 8272 * ((l.map Bl.b).take i).length ≤ 8272 * i := zge _ h2
  omega
 have hdL : (fQ n ((l.map Bl.b).take i)).length ≤ 2 + 78 * i := by
  have h1 := qQ1 n ((l.map Bl.b).take i) (fun x hx => by
   obtain ⟨y, hy, rfl⟩ := List.mem_map.1 (zaf hx)
   obtain ⟨k, hk, rfl⟩ := zbe hy
   have := lF hmay hk
   rw [ze, zb hk] at this
   exact this)
  have h2 : ((l.map Bl.b).take i).length ≤ i := by rw [zi]; omega
  have h3 : 78 * ((l.map Bl.b).take i).length ≤ 78 * i := zge _ h2
  omega
 refine jS (jS (jR (jm rfl (jm rfl (je (Run.lenS rfl zam) (jb rfl rfl (Bin.lssN _ _) (jO (jN (jv5 0 3 4 5 17 ?_)))))))))
 refine jD rfl (fun hc1 => ?_) fun hc1 => ?_
 ·
  have hrw := hr.frm K
  obtain ⟨ad, rfl, hel⟩ := hrw.cell hc1
  have hym := jJ (jo : i < l.length)
  obtain ⟨hyc, _, hyid, hyb, hyr⟩ := hr.el _ hym
  have hy40 := lF hmay (jo : i < l.length)
  have hts : (l.map Bl.b).take (i + 1) = (l.map Bl.b).take i ++ [(l.getD i bl0).b] := by
   rw [zah, zbd, zb (jo : i < l.length), ze, zb (jo : i < l.length)]
   rfl
  generalize l.getD i bl0 = y at hel hym hyc hyid hyb hyr hy40 hts
  have hbl := sU (x := y.b) hy40 hyb
  have hcrc := mZ y.d
  have e1 : outM ((l.map Bl.b).take (i + 1)) = chO (outM ((l.map Bl.b).take i)) (chunkL y.d) := by rw [hts, ← qYy]; rfl
  have e2 : fQ n ((l.map Bl.b).take (i + 1)) = chD (outM ((l.map Bl.b).take i)) (fQ n ((l.map Bl.b).take i) ++ qF y.id 8 ++ qF y.d.length 2 ++ qF (crcM y.d) 4) (chunkL y.d) := by rw [hts, qJg]; rfl
  generalize outM ((l.map Bl.b).take i) = o0 at *
  generalize fQ n ((l.map Bl.b).take i) = d0 at *
  have hel0 := hel
  refine jQ (jN (jv4 0 3 4 5 ?_))
  refine jS (jB (jS (jR (jm rfl (jm rfl (je (Run.indexS _ rfl rfl zam zbz jo) (jf rfl zax rfl zo (jl rfl zx (hel 1 _ rfl) (ja rfl (jO (jN (jv5 0 3 4 5 6 ?_))))))))))))
  refine jS (jR (jm rfl (jm rfl (jm rfl (je (Run.indexS _ rfl rfl zam zbz jo) (jf rfl zax rfl zbl (jl rfl zcj (hel 0 _ rfl) ?_)))))))
  refine Ops.cl (jE2 zgu) (kH (y.id) 8 _ jo jo (zbb hyid jd)) rfl ?_
  rintro e w2 ⟨rfl, hfw2⟩
  refine ⟨_, rfl, ?_⟩
  have K := K.trans hfw2 jp
  refine jm rfl (je (Run.lenS rfl zf) (je (Run.convN _ rfl zaa zv (by simp only [bmax]; omega)) ?_))
  refine Ops.cl (jE2 zgu) (kH (y.d.length) 2 _ jo jo jo) rfl ?_
  rintro e w3 ⟨rfl, hfw3⟩
  refine ⟨_, rfl, ?_⟩
  have K := K.trans hfw3 jp
  refine je (Run.addStr rfl rfl (by simp only [cZ, za, bV]; omega)) ?_
  rw [dY]
  refine jM ?_
  refine Ops.cl (jE1 Tryz.call21) (qZd y.A y.c y.d.length y.d _ rfl jo hyb (hyr.frm K jp)) rfl ?_
  rintro e _ ⟨rfl, rfl⟩
  refine ⟨_, rfl, ?_⟩
  refine je (Run.convN _ rfl zen zv (by simp only [bmax]; omega)) ?_
  refine Ops.cl (jE2 zgu) (kH (crcM y.d) 4 _ jo jo jo) rfl ?_
  rintro e w4 ⟨rfl, hfw4⟩
  refine ⟨_, rfl, ?_⟩
  have K := K.trans hfw4 jp
  refine je (Run.addStr rfl rfl (by simp only [cZ, za, bV]; omega)) ?_
  rw [dY]
  refine je (Run.addStr rfl rfl (by simp only [cZ, za, bV]; omega)) ?_
  rw [dY, show d0 ++ (qF y.id 8 ++ qF y.d.length 2 ++ qF (crcM y.d) 4) = d0 ++ qF y.id 8 ++ qF y.d.length 2 ++ qF (crcM y.d) 4 by simp only [zj]]
  refine ja rfl (jO (jN (jv5 0 3 4 5 6 ?_)))
  refine jS (jR (jz 0 (jO (jN (jB ?_)))))
  generalize hdv : d0 ++ qF y.id 8 ++ qF y.d.length 2 ++ qF (crcM y.d) 4 = d1 at *
  have hd1l : d1.length = d0.length + 14 := by rw [← hdv]; simp only [za, bV]
  have hcl := gZ y.d
  have hcf : (chunkL y.d).length ≤ 16 := nV hy40
  refine VC.loop (σ := Nat) (fun s => [(0, .slice (some ad) n c), (3, .string (eT (chO o0 ((chunkL y.d).take s)))), (4, .string (eT (chD o0 d1 ((chunkL y.d).take s)))), (5, .int .i64 ((i : Nat) : Int)), (6, .slice y.A y.d.length y.c), (7, .int .i64 ((256 * s : Nat) : Int))]) (fun s wr => s ≤ (chunkL y.d).length ∧ Frm [] w wr) (fun s => (chunkL y.d).length - s) 0 (js6 rfl (by simp [chO]; rfl) (by simp [chD, eV]; rfl) rfl rfl rfl) ⟨jo, K⟩ ?_
  rintro k wr2 ⟨hk, K⟩
  have hco : (chO o0 ((chunkL y.d).take k)).length ≤ 600000 := by
   have h2 : (((chunkL y.d).take k).flatMap qI).length ≤ ((chunkL y.d).flatMap qI).length := by
    have h3 : (chunkL y.d).flatMap qI = ((chunkL y.d).take k).flatMap qI ++ ((chunkL y.d).drop k).flatMap qI := by rw [← zw, zcm]
    rw [h3, za]
    omega
   have h3 : ((chunkL y.d).flatMap qI).length ≤ 8272 := hbl
   unfold chO
   rw [za]
   omega
  have hcd : (chD o0 d1 ((chunkL y.d).take k)).length ≤ 100000 := by
   unfold chD
   rw [za, rD, dP, zi]
   omega
  have hsn1 := fun ch => qVv o0 ((chunkL y.d).take k) ch
  have hsn2 := fun ch => qVw o0 d1 ((chunkL y.d).take k) ch
  refine jS (jS (jR (jm rfl (jm rfl (je (Run.lenS rfl zf) (jb rfl rfl (Bin.lssN _ _) (jO (jN (jv7 0 3 4 5 6 7 46 ?_)))))))))
  refine jD rfl (fun hc2 => ?_) fun hc2 => ?_
  ·
   have hkl : k < (chunkL y.d).length := jo
   have hch := nJ (d := y.d) (k := k) jo
   have htk : (chunkL y.d).take (k + 1) = (chunkL y.d).take k ++ [(y.d.drop (256 * k)).take 256] := by
    rw [zah, zb hkl, ← hch, ze, zb hkl]
    rfl
   have hcm : (y.d.drop (256 * k)).take 256 ∈ chunkL y.d := by rw [← hch, ze, zb hkl]; exact zt hkl
   obtain ⟨hx256, hxin⟩ := nU hcm
   have hxb : ∀ b ∈ (y.d.drop (256 * k)).take 256, b < 256 := fun b hb => hyb b (hxin b hb)
   have hsl := uK hx256 hxb
   have hcl2 : ((y.d.drop (256 * k)).take 256).length = min 256 (y.d.length - 256 * k) := by rw [zi, zr]
   refine jQ (jN (jv6 0 3 4 5 6 7 ?_))
   refine jS (jB (jS (jR (jm rfl (jb rfl rfl (Bin.add_i64 _ 256 jo) (ja rfl (jO (jN (jv7 0 3 4 5 6 7 8 ?_)))))))))
   refine jS (jS (jR (jm rfl (jm rfl (je (Run.lenS rfl zf) (jb rfl rfl (Bin.gtrN _ _) (jO (jN (jv8 0 3 4 5 6 7 8 54 ?_)))))))))
   refine VC.meet (σ := Unit) (fun s => [(0, .slice (some ad) n c), (3, .string (eT (chO o0 ((chunkL y.d).take k)))), (4, .string (eT (chD o0 d1 ((chunkL y.d).take k)))), (5, .int .i64 ((i : Nat) : Int)), (6, .slice y.A y.d.length y.c), (7, .int .i64 ((256 * k : Nat) : Int)), (8, .int .i64 ((256 * k + ((y.d.drop (256 * k)).take 256).length : Nat) : Int))]) (fun s wz => wr2 = wz) ?_ ?_
   ·
    refine jD rfl (fun hc3 => ?_) fun hc3 => ?_
    ·
     refine jR (jm rfl (je (Run.lenS rfl zf) (ja rfl (jO ?_))))
     refine jN ⟨(), (js7 rfl rfl rfl rfl rfl rfl (by rw [show 256 * k + ((y.d.drop (256 * k)).take 256).length = y.d.length by omega]; rfl)), ?_⟩
     rfl
    refine jQ ?_
    refine jN ⟨(), (js7 rfl rfl rfl rfl rfl rfl (by rw [show 256 * k + ((y.d.drop (256 * k)).take 256).length = 256 * k + 256 by omega]; rfl)), ?_⟩
    rfl
   rintro s _ rfl Γ hΓ
   refine jN (VC.sub _ hΓ (jS (jR (jm rfl (jm rfl (je (Run.lenStr rfl zci) ?_))))))
   rw [cZ]
   refine je (Run.convN _ rfl zaa zv (by simp only [bmax]; omega)) ?_
   refine Ops.cl (jE2 zgu) (kH ((chO o0 ((chunkL y.d).take k)).length) 4 _ jo jo jo) rfl ?_
   rintro e w5 ⟨rfl, hfw5⟩
   refine ⟨_, rfl, ?_⟩
   have K := K.trans hfw5 jp
   refine je (Run.addStr rfl rfl (by simp only [cZ, za, bV]; omega)) ?_
   rw [dY, ← hsn2 ((y.d.drop (256 * k)).take 256)]
   have hrdc : Rd w5 1 (cC y.A y.c (256 * k) 1) ((y.d.drop (256 * k)).take 256).length (NB ((y.d.drop (256 * k)).take 256)) := by
    have h3 := oX y.d (256 * k) ((y.d.drop (256 * k)).take 256).length jo (hyr.frm K jp) hyc
    have h4 : (y.d.drop (256 * k)).take ((y.d.drop (256 * k)).take 256).length = (y.d.drop (256 * k)).take 256 := by
     rw [hcl2]
     by_cases h5 : 256 ≤ y.d.length - 256 * k
     · rw [zal h5]
     rw [Nat.min_eq_right jo, zm (by rw [zr]; omega), zm (by rw [zr]; omega)]
    rw [h4] at h3
    exact h3
   refine ja rfl (jO (jN (jv7 0 3 4 5 6 7 8 ?_)))
   refine jR (jm rfl (jm rfl (jm rfl (jm rfl (je (Run.sliceS _ _ rfl zf zad (evB.some_ rfl) (evB.some_ rfl) jo jo) ?_)))))
   rw [show 256 * k + ((y.d.drop (256 * k)).take 256).length - 256 * k = ((y.d.drop (256 * k)).take 256).length by omega]
   refine Ops.cl (jE1 Tryz.call22) (qHn (cC y.A y.c (256 * k) 1) (y.c - 256 * k) ((y.d.drop (256 * k)).take 256) _ jo jo hxb hrdc) rfl ?_
   rintro e w6 ⟨rfl, hf6⟩
   refine ⟨_, rfl, ?_⟩
   have K := K.trans hf6 jp
   have es : cO ((y.d.drop (256 * k)).take 256) 2 = qI ((y.d.drop (256 * k)).take 256) := rfl
   rw [es]
   refine je (Run.addStr rfl rfl (by simp only [cZ]; omega)) ?_
   rw [dY, ← hsn1]
   refine ja rfl (jO ?_)
   refine qJ (jN ?_)
   refine jv6 0 3 4 5 6 7 ?_
   refine jR (jm rfl (jb rfl rfl (Bin.add_i64 _ 256 jo) (ja rfl (jO ?_))))
   refine jN ⟨k + 1, (js6 rfl (by rw [htk]; rfl) (by rw [htk]; rfl) rfl rfl (by rw [show 256 * (k + 1) = 256 * k + 256 by omega]; rfl)), ?_, ?_⟩
   · exact ⟨jo, K⟩
   first | omega | (dsimp only; omega)
  refine jX ?_
  refine qZ (qZ (qW ?_))
  refine qJ (jN ?_)
  refine jv4 0 3 4 5 ?_
  refine jR (jm rfl (jb rfl rfl (Bin.add_i64 _ 1 jo) (ja rfl (jO ?_))))
  have hke : (chunkL y.d).take k = chunkL y.d := zm jo
  rw [← hdv] at e2
  refine jN ⟨i + 1, (js4 rfl (by rw [e1, hke]; rfl) (by rw [e2, hdv, hke]; rfl) rfl), ?_, ?_⟩
  · exact ⟨jo, K⟩
  first | omega | (dsimp only; omega)
 have ei : i = n := jo
 subst ei
 rw [zm (by rw [zl]; omega)] at hoL hdL ⊢
 have hoE := kY (l.map Bl.b)
 have hdA : fQ i (l.map Bl.b) ++ qF (outM (l.map Bl.b)).length 4 ++ qF (outM (l.map Bl.b)).length 4 = bD (l.map Bl.b) := by
  unfold bD cV
  rw [kY]
  unfold fQ
  rw [zl, hnl]
 have hdb := xQ (l.map Bl.b)
 have hdl : (bD (l.map Bl.b)).length = (fQ i (l.map Bl.b)).length + 4 + 4 := by rw [← hdA]; simp only [za, bV]
 have hseg : outM (l.map Bl.b) ++ bD (l.map Bl.b) ++ qF (crcM (bD (l.map Bl.b))) 4 ++ [115, 101, 97, 108] = segM (l.map Bl.b) := rfl
 have hcrc := mZ (bD (l.map Bl.b))
 generalize outM (l.map Bl.b) = out at *
 generalize fQ i (l.map Bl.b) = dir at *
 refine jX ?_
 refine qZ (qZ (qW ?_))
 refine jN (jv2 3 4 ?_)
 refine jS (jR (jm rfl (jm rfl (je (Run.lenStr rfl zci) ?_))))
 rw [cZ]
 refine je (Run.convN _ rfl zaa zv (by simp only [bmax]; omega)) ?_
 refine Ops.cl (jE2 zgu) (kH (out.length) 4 _ jo jo jo) rfl ?_
 rintro e w7 ⟨rfl, hfw7⟩
 refine ⟨_, rfl, ?_⟩
 have K := K.trans hfw7 jp
 refine je (Run.addStr rfl rfl (by simp only [cZ, za, bV]; omega)) ?_
 rw [dY]
 refine ja rfl (jO (jN (jv2 3 4 ?_)))
 refine jS (jR (jm rfl (jm rfl (je (Run.lenStr rfl zci) ?_))))
 rw [cZ]
 refine je (Run.convN _ rfl zaa zv (by simp only [bmax]; omega)) ?_
 refine Ops.cl (jE2 zgu) (kH (out.length) 4 _ jo jo jo) rfl ?_
 rintro e w8 ⟨rfl, hfw8⟩
 refine ⟨_, rfl, ?_⟩
 have K := K.trans hfw8 jp
 refine je (Run.addStr rfl rfl (by simp only [cZ, za, bV]; omega)) ?_
 rw [dY, hdA]
 refine ja rfl (jO (jN (jv2 3 9 ?_)))
 refine jS (jR (jm rfl (jm rfl (je (Run.addStr rfl rfl (by simp only [cZ]; omega)) ?_))))
 rw [dY]
 refine jM ?_
 refine Ops.m (qV.bytesOfC (s := (bD (l.map Bl.b)).map UInt8.ofNat) rfl zci zf zat) rfl ?_
 rintro _ w9 ⟨c9, cs9, rfl, hc9, hfr9, htk9, hf9⟩
 have K := K.trans hf9 jp
 rw [zl] at hc9 htk9 ⊢
 have hr9 : Rd w9 1 (some ⟨w8.heap.size, 0, none⟩) (bD (l.map Bl.b)).length (NB (bD (l.map Bl.b))) := by
  rw [qJt _ hdb]
  exact qPw hfr9 htk9 (by simp [U8])
 refine Ops.cl (jE1 Tryz.call21) (qZd (some ⟨w8.heap.size, 0, none⟩) c9 _ (bD (l.map Bl.b)) _ rfl jo hdb hr9) rfl ?_
 rintro e _ ⟨rfl, rfl⟩
 refine ⟨_, rfl, ?_⟩
 refine je (Run.convN _ rfl zen zv (by simp only [bmax]; omega)) ?_
 refine Ops.cl (jE2 zgu) (kH (crcM (bD (l.map Bl.b))) 4 _ jo jo jo) rfl ?_
 rintro e w10 ⟨rfl, hfw10⟩
 refine ⟨_, rfl, ?_⟩
 have K := K.trans hfw10 jp
 refine je (Run.addStr rfl rfl (by simp only [cZ, za, bV]; omega)) ?_
 rw [dY]
 refine je (Run.addStr rfl rfl (by simp only [cZ, za, bV]; simp [ByteArray.size]; omega)) ?_
 have hs4 : (⟨#[115, 101, 97, 108]⟩ : ByteArray) = eT [115, 101, 97, 108] := rfl
 rw [hs4, dY, hseg]
 refine ja rfl (jO (jN (jv1 2 ?_)))
 refine jT ?_
 refine qT rfl ?_
 exact ⟨rfl, K⟩
end
section
open Go.RowKit
theorem qY1 {l : List Bl} (h : fT l) : ∀ j i, i < j → j < l.length → (l.getD i bl0).id < (l.getD j bl0).id
 | 0, i, h1, _ => jo
 | j + 1, i, h1, h2 => by
  have h3 := (h.1 (j + 1) h2).2 jo
  rw [zgp] at h3
  by_cases h4 : i = j
  · subst h4; exact h3
  have := qY1 h j i jo jo
  omega
theorem qHw {w : World} {A : Option Addr} {n : Nat} {l : List Bl} (hr : RdB w A n l) (h : fT l) : wW (l.map Bl.b) := by
 refine ⟨fun x hx => ?_, ?_, by rw [zl]; exact h.2.1, by rw [zl]; exact h.2.2⟩
 ·
  obtain ⟨y, hy, rfl⟩ := List.mem_map.1 hx
  obtain ⟨_, _, h3, h4, _⟩ := hr.el y hy
  obtain ⟨k, hk, rfl⟩ := zbe hy
  have := lF h hk
  rw [ze, zb hk] at this
  exact ⟨this, h3, h4⟩
 rw [List.pairwise_iff_getElem]
 intro i j hi hj hij
 rw [zl] at hi hj
 have := qY1 h j i hij hj
 rw [ze, ze, zb hi, zb hj] at this
 rw [zer, zer]
 exact this
theorem qCd (L : List Bb) : (segM L).length = ((outM L).length + (cV L).length) + 12 := by
 rw [xC, uG]
 omega
theorem qV4 (B : Option Addr) (c : Nat) (L : List Bb) (w : World) (hM : wW L) (hc : (segM L).length ≤ c) (hr : Rd w 1 B (segM L).length (NB (segM L))) :
  Calls Tryz.prog 11 #[.slice B (segM L).length c] w fun e w' => ∃ g, e = .returned (.tuple #[.pointer (some ⟨g, 0, none⟩), .int .i64 ((0 : Nat) : Int)]) ∧ zV w' g L ∧ Frm [] w w' := by
 obtain ⟨hL, _, _, h64⟩ := id hM
 obtain ⟨h1, h2, h3, h4⟩ := qQ2 hL h64
 have hl := qCd L
 have hle := qV1 hL h64
 rw [hl, show (outM L).length + (cV L).length + 12 - 4 = (outM L).length + (cV L).length + 8 by omega] at h1
 rw [hl, show (outM L).length + (cV L).length + 12 - 12 = (outM L).length + (cV L).length by omega] at h2
 rw [hl, show (outM L).length + (cV L).length + 12 - 8 = (outM L).length + (cV L).length + 4 by omega] at h3 h4
 rw [hl] at hr hc ⊢
 rw [← h4] at h3
 refine (qWz B ((outM L).length + (cV L).length) c (outM L).length (segM L) L w hl jo (qXy hL) hc hr hM h2 jo (fun _ _ => rfl)).mono ?_
 rintro e w' ⟨p, k, rfl, hf, hy, _⟩
 obtain ⟨g, rfl, rfl, hg⟩ := hy ⟨h1, h3⟩
 exact ⟨g, rfl, hg, hf⟩
theorem qPx (g : Nat) (L : List Bb) (w : World) (hS : zV w g L) (hM : wW L) :
  Calls Tryz.prog 19 #[.pointer (some ⟨g, 0, none⟩)] w fun e w' => ∃ B d, e = .returned (.slice B L.length d) ∧ Rd w' 1 B L.length (UB (L.map fun x => x.1)) ∧ Frm [] w w' := by
 obtain ⟨bA, bc, dA, dc, l, hS, ht⟩ := hS
 obtain ⟨hL, _, _, h64⟩ := hM
 have hok := qTi ht hL h64
 have hm : l.map (fun x => x.e.id) = L.map (fun x => x.1) := by
  apply List.ext_getElem
  · rw [zl, zl]; exact ht.len
  intro i h1 h2
  rw [zl] at h1 h2
  have := ht.get h2
  rw [ze, ze, zb h1, zb h2] at this
  simp only [zba] at this
  rw [zer, zer, this]
 refine (qSv g bc dc _ bA dA (segM L) l w hS hok).mono ?_
 rintro e w' ⟨B, d, rfl, ho, hf, _⟩
 rw [hm] at ho
 rw [ht.len] at ho ⊢
 exact ⟨B, d, rfl, ho.rd, hf⟩
theorem xD (A : Option Addr) (n c : Nat) (l : List Bl) (w : World) (hn : n ≤ 1000000) (hr : RdB w A n l) (hmay : ¬ fT l) :
  Calls Tryz.prog 7 #[.slice A n c] w fun e w' => e = .returned (.tuple #[.slice none 0 0, .int .i64 ((1 : Nat) : Int)]) ∧ Frm [] w w' := by
 refine DV.calls (nt := 73) (res := #[.tmp 2, .tmp 3]) Tryz.func7 rfl Tryz.ntmps7 Tryz.results7 rfl ?_
 refine DV.seq ?_
 refine DV.vc ?_
 refine jR (ja rfl (jz 0 (jO ?_)))
 refine cH ?_
 refine DV.seq ?_
 refine DV.seq ?_
 refine DV.vc ?_
 refine jR (jM ?_)
 refine Ops.cl (jE1 Tryz.call14) (qQ0 A n c l _ hn hr) rfl ?_
 rintro e w1 ⟨rfl, K⟩
 refine ⟨_, rfl, ?_⟩
 refine je (Run.not rfl) (jO ?_)
 refine cH ?_
 refine DV.sub [(0, _), (2, _), (3, _), (13, _)] (js4 rfl rfl rfl rfl) ?_
 refine DV.vc ?_
 refine VC.condT rfl (by simp [hmay]) ?_
 refine jS (jR (ja rfl (jz 1 (jO (jN (jv2 2 3 ?_))))))
 refine jT ?_
 refine qYd (vX jp jp (fun wz hsh => ?_))
 refine cY rfl rfl ?_
 exact ⟨rfl, K.trans hsh jp⟩
def la1 (A : Option Addr) (c : Nat) : List Bl := [⟨5, A, c, [97, 98, 99]⟩]
def la2 (A : Option Addr) (c : Nat) : List Bl := [⟨1, A, c, List.replicate 600 0⟩]
def la3 : List Bl := [⟨5, none, 0, []⟩, ⟨5, none, 0, []⟩]
theorem qU3 (A : Option Addr) (c : Nat) : fT (la1 A c) := ⟨fun i hi => by
 obtain rfl : i = 0 := Nat.lt_one_iff.1 hi
 exact ⟨show 3 ≤ 4032 by omega, fun h => absurd h jo⟩, zk 1, show 1 ≤ 64 by omega⟩
theorem qU4 (A : Option Addr) (c : Nat) : fT (la2 A c) := ⟨fun i hi => by
 obtain rfl : i = 0 := Nat.lt_one_iff.1 hi
 refine ⟨?_, fun h => absurd h jo⟩
 show (List.replicate 600 0).length ≤ 4032
 rw [zbn]
 omega, zk 1, show 1 ≤ 64 by omega⟩
theorem qU5 : ¬ fT la3 := fun h => by
 have : 5 < 5 := (h.1 1 (jo : 1 < 2)).2 jo
 omega
theorem wM (w : World) :
  Calls Tryz.prog 9 #[] w fun e w' => e = .returned (.bool true) ∧ Frm [] w w' := by
 have K := Frm.refl [] w
 refine VC.calls (nt := 151) (res := #[.tmp 0]) Tryz.func9 rfl Tryz.ntmps9 Tryz.results9 rfl ?_
 refine jS (jR (ja rfl (jO (jN ?_))))
 refine VC.sub [] .nil ?_
 refine jS (jR ?_)
 refine Ops.m (qV.buildN (cells := #[.int .u8 97, .int .u8 98, .int .u8 99]) (evs.cons rfl (evs.cons rfl (evs.cons rfl evs.nil))) zf zad pO rfl rfl jK) rfl ?_
 rintro _ w1 ⟨rfl, hF1⟩
 have K := K.trans hF1.frm jp
 have hblk1 := hF1.blk
 refine Ops.m (qV.mark rfl zf zat hblk1) rfl ?_
 rintro _ w2 ⟨rfl, hfro2, hf2⟩
 have K := K.own hf2 jp
 refine je (Run.build (evs.cons rfl (evs.cons rfl evs.nil)) jI (jL).choose_spec.1 (jL).choose_spec.2 rfl) ?_
 refine Ops.m (qV.buildS1 rfl zam zbz jI jd jd rfl rfl) rfl ?_
 rintro _ w3 ⟨rfl, hF3⟩
 have K := K.trans hF3.frm jp
 have hr3 : RdB w3 (some ⟨w2.heap.size, 0, none⟩) 1 (la1 (some ⟨w.heap.size, 0, none⟩) 3) := ⟨rfl, Rd.of_blk (n := 1) (size := 2) hF3.blk rfl, fun x hx => by
  obtain rfl : x = ⟨5, some ⟨w.heap.size, 0, none⟩, 3, [97, 98, 99]⟩ := zh.1 hx
  exact ⟨zk _, show 3 ≤ 1000000 by omega, show 5 < 18446744073709551616 by omega, show ∀ b ∈ [97, 98, 99], b < 256 by simp, qPw (hfro2.frm hF3.frm jp) rfl rfl⟩⟩
 have hm1 := qU3 (some ⟨w.heap.size, 0, none⟩) 3
 have hM1 : wW [(5, [97, 98, 99])] := qHw hr3 hm1
 refine Ops.cl (jE1 Tryz.call7) (uW _ 1 1 (la1 (some ⟨w.heap.size, 0, none⟩) 3) _ jo hr3 hm1) rfl ?_
 rintro e w4 ⟨B1, e1, rfl, ho4, hf4, _⟩
 refine ⟨_, rfl, ?_⟩
 have K := K.trans hf4 jp
 refine jm rfl (je (Run.extract rfl rfl) (je (Run.extract rfl rfl) (ja rfl (ja rfl (jO (jN (jv2 1 2 ?_)))))))
 refine jS (jR (jM ?_))
 refine Ops.cl (jE1 Tryz.call11) (qV4 B1 e1 [(5, [97, 98, 99])] _ hM1 ho4.le ho4.rd) rfl ?_
 rintro e w5 ⟨g1, rfl, hs1, hf5⟩
 refine ⟨_, rfl, ?_⟩
 have K := K.trans hf5 jp
 refine jm rfl (je (Run.extract rfl rfl) (je (Run.extract rfl rfl) (ja rfl (ja rfl (jO (jN (jv3 2 3 4 ?_)))))))
 refine jS (jR ?_)
 refine Ops.m (qV.makeS (n := 600) rfl rfl zf (eA) rfl jo jo) rfl ?_
 rintro _ w6 ⟨rfl, ho6, hf6, _⟩
 have K := K.trans hf6 jp
 have hs1 := hs1.frm hf6
 have hz6 : Rd w6 1 (some ⟨w5.heap.size, 0, none⟩) 600 (NB (List.replicate 600 0)) := by
  have h1 := ho6.rd
  have h2 : NB (List.replicate 600 0) = List.replicate 600 (.int .u8 0) := by simp [NB, List.map_replicate]
  rw [h2]
  exact h1
 refine je (Run.build (evs.cons rfl (evs.cons rfl evs.nil)) jI (jL).choose_spec.1 (jL).choose_spec.2 rfl) ?_
 refine Ops.m (qV.buildS1 rfl zam zbz jI jd jd rfl rfl) rfl ?_
 rintro _ w7 ⟨rfl, hF7⟩
 have K := K.trans hF7.frm jp
 have hs1 := hs1.frm hF7.frm
 have hr7 : RdB w7 (some ⟨w6.heap.size, 0, none⟩) 1 (la2 (some ⟨w5.heap.size, 0, none⟩) 600) := ⟨rfl, Rd.of_blk (n := 1) (size := 2) hF7.blk rfl, fun x hx => by
  obtain rfl : x = ⟨1, some ⟨w5.heap.size, 0, none⟩, 600, List.replicate 600 0⟩ := zh.1 hx
  refine ⟨?_, ?_, show 1 < 18446744073709551616 by omega, fun b hb => ?_, ?_⟩
  · show (List.replicate 600 0).length ≤ 600; rw [zbn]; omega
  · show (List.replicate 600 0).length ≤ 1000000; rw [zbn]; omega
  · have := zgc hb; omega
  show Rd w7 1 _ (List.replicate 600 0).length _
  rw [zbn]
  exact hz6.frm hF7.frm jp⟩
 have hm2 := qU4 (some ⟨w5.heap.size, 0, none⟩) 600
 have hM2 : wW [(1, List.replicate 600 0)] := qHw hr7 hm2
 refine Ops.cl (jE1 Tryz.call7) (uW _ 1 1 (la2 (some ⟨w5.heap.size, 0, none⟩) 600) _ jo hr7 hm2) rfl ?_
 rintro e w8 ⟨B2, e2, rfl, ho8, hf8, _⟩
 refine ⟨_, rfl, ?_⟩
 have K := K.trans hf8 jp
 have hs1 := hs1.frm hf8
 refine jm rfl (je (Run.extract rfl rfl) (je (Run.extract rfl rfl) (ja rfl (ja rfl (jO (jN (jv5 2 3 4 5 6 ?_)))))))
 refine jS (jR (jM ?_))
 refine Ops.cl (jE1 Tryz.call11) (qV4 B2 e2 [(1, List.replicate 600 0)] _ hM2 ho8.le ho8.rd) rfl ?_
 rintro e w9 ⟨g2, rfl, hs2, hf9⟩
 refine ⟨_, rfl, ?_⟩
 have K := K.trans hf9 jp
 have hs1 := hs1.frm hf9
 refine jm rfl (je (Run.extract rfl rfl) (je (Run.extract rfl rfl) (ja rfl (ja rfl (jO (jN (jv6 2 3 4 6 7 8 ?_)))))))
 refine jS (jS (jR (jm rfl (je (Run.eqlNilP rfl rfl Tryz.underlying32) (jM ?_)))))
 refine jG ?_
 refine jk (Run.eqlNilP rfl rfl Tryz.underlying32) ?_
 refine je (Run.pick rfl rfl rfl) (jO (jN (jv7 2 3 4 6 7 8 51 ?_)))
 refine VC.condF rfl (rfl) ?_
 refine jQ (jN (jv6 2 3 4 6 7 8 ?_))
 refine jS (jR (jM ?_))
 refine Ops.cl (jE1 Tryz.call19) (qPx g1 _ _ hs1 hM1) rfl ?_
 rintro e w10 ⟨B3, e3, he, hr10, hf10⟩
 have he : e = .returned (.slice B3 1 e3) := he
 subst he
 refine ⟨_, rfl, ?_⟩
 have K := K.trans hf10 jp
 have hs1 := hs1.frm hf10
 have hs2 := hs2.frm hf10
 refine ja rfl (jO (jN (jv7 2 3 4 6 7 8 9 ?_)))
 refine jS (jR (jM ?_))
 have hsp := uY g1 0 1 9 [(5, [97, 98, 99])] w10 hs1 hM1 jd jo jo
 rw [show ((([(5, [97, 98, 99])] : List Bb).getD 0 b0).2.drop 1).take 9 = [98, 99] from rfl, show wH (([(5, [97, 98, 99])] : List Bb).getD 0 b0).2 1 9 = 1 from rfl] at hsp
 refine Ops.cl (jE4 Tryz.call13) (hsp) rfl ?_
 rintro e w11 ⟨B4, e4, he, hr11, hf11⟩
 have he : e = .returned (.tuple #[.slice B4 2 e4, .int .i64 ((1 : Nat) : Int), .int .i64 ((0 : Nat) : Int)]) := he
 subst he
 have hr11 : Rd w11 1 B4 2 (U8 [98, 99]) := hr11
 refine ⟨_, rfl, ?_⟩
 have K := K.trans hf11 jp
 have hs2 := hs2.frm hf11
 have hr10 := hr10.frm hf11 jp
 refine jm rfl (je (Run.extract rfl rfl) (je (Run.extract rfl rfl) (je (Run.extract rfl rfl) (ja rfl (ja rfl (ja rfl (jO (jN (jv9 2 4 6 7 8 9 10 11 12 ?_)))))))))
 refine jS (jR (jM ?_))
 have hsp := uY g2 0 250 10 [(1, List.replicate 600 0)] w11 hs2 hM2 jd jo jo
 rw [show (([(1, List.replicate 600 0)] : List Bb).getD 0 b0).2 = List.replicate 600 0 from rfl, show ((List.replicate 600 0).drop 250).take 10 = List.replicate 10 0 by rw [List.drop_replicate, List.take_replicate]; rfl, show wH (List.replicate 600 0) 250 10 = 2 by unfold wH; rw [zbn]; rfl] at hsp
 refine Ops.cl (jE4 Tryz.call13) (hsp) rfl ?_
 rintro e w12 ⟨B5, e5, he, hr12, hf12⟩
 have he : e = .returned (.tuple #[.slice B5 10 e5, .int .i64 ((2 : Nat) : Int), .int .i64 ((0 : Nat) : Int)]) := he
 subst he
 refine ⟨_, rfl, ?_⟩
 have K := K.trans hf12 jp
 have hs2 := hs2.frm hf12
 have hr10 := hr10.frm hf12 jp
 have hr11 := hr11.frm hf12 jp
 refine jm rfl (je (Run.extract rfl rfl) (je (Run.extract rfl rfl) (je (Run.extract rfl rfl) (ja rfl (ja rfl (ja rfl (jO (jN (jv12 2 4 6 7 8 9 10 11 12 13 14 15 ?_)))))))))
 refine jS (jR (jM ?_))
 have hsp := uY g2 0 600 5 [(1, List.replicate 600 0)] w12 hs2 hM2 jd jo jo
 rw [show (([(1, List.replicate 600 0)] : List Bb).getD 0 b0).2 = List.replicate 600 0 from rfl, show ((List.replicate 600 0).drop 600).take 5 = [] by rw [List.drop_replicate, List.take_replicate]; rfl, show wH (List.replicate 600 0) 600 5 = 0 by unfold wH; rw [zbn]; rfl] at hsp
 refine Ops.cl (jE4 Tryz.call13) (hsp) rfl ?_
 rintro e w13 ⟨B6, e6, he, hr13, hf13⟩
 have he : e = .returned (.tuple #[.slice B6 0 e6, .int .i64 ((0 : Nat) : Int), .int .i64 ((0 : Nat) : Int)]) := he
 subst he
 refine ⟨_, rfl, ?_⟩
 have K := K.trans hf13 jp
 have hr10 := hr10.frm hf13 jp
 have hr11 := hr11.frm hf13 jp
 refine jm rfl (je (Run.extract rfl rfl) (je (Run.extract rfl rfl) (je (Run.extract rfl rfl) (ja rfl (ja rfl (ja rfl (jO (jN (jv14 2 4 6 8 9 10 11 12 13 14 15 16 17 18 ?_)))))))))
 refine jS (jR (je (Run.build (evs.cons rfl evs.nil) jI (jL).choose_spec.1 (jL).choose_spec.2 rfl) (je (Run.build (evs.cons rfl evs.nil) jI (jL).choose_spec.1 (jL).choose_spec.2 rfl) ?_)))
 refine Ops.m (qV.buildN (cells := #[.int .u64 5, .slice none 0 0, .int .u64 5, .slice none 0 0]) (evs.cons rfl (evs.cons rfl evs.nil)) zam zbz jI rfl rfl jK) rfl ?_
 rintro _ w14 ⟨rfl, hF14⟩
 have K := K.trans hF14.frm jp
 have hr14 : RdB w14 (some ⟨w13.heap.size, 0, none⟩) 2 la3 := ⟨rfl, Rd.of_blk (n := 2) (size := 2) hF14.blk rfl, fun x hx => by
  obtain rfl : x = ⟨5, none, 0, []⟩ := by
   rcases zbv.1 hx with h | h
   · exact h
   exact zh.1 h
  exact ⟨zk _, show 0 ≤ 1000000 by omega, show 5 < 18446744073709551616 by omega, show ∀ b ∈ [], b < 256 by simp, Rd.nil _ _ _⟩⟩
 have hr10 := hr10.frm hF14.frm jp
 have hr11 := hr11.frm hF14.frm jp
 refine Ops.cl (jE1 Tryz.call7) (xD _ 2 2 la3 _ jo hr14 qU5) rfl ?_
 rintro e w15 ⟨rfl, hf15⟩
 refine ⟨_, rfl, ?_⟩
 have K := K.trans hf15 jp
 have hr10 := hr10.frm hf15 jp
 have hr11 := hr11.frm hf15 jp
 refine jm rfl (je (Run.extract rfl rfl) (je (Run.extract rfl rfl) (ja rfl (ja rfl (jO (jN (jv15 2 4 6 8 9 10 11 12 13 14 15 16 17 18 20 ?_)))))))
 refine jS (jR (jm rfl (jb rfl rfl (Bin.eqlN _ 0) (jM ?_))))
 refine jG ?_
 refine jk (Run.bin rfl rfl (Bin.eqlN _ 0)) ?_
 refine je (Run.pickT rfl rfl au) (jM ?_)
 refine jG ?_
 refine jk (Run.bin rfl rfl (Bin.eqlN _ 0)) ?_
 refine je (Run.pickT rfl rfl au) (jM ?_)
 refine jG ?_
 refine jk (Run.bin rfl rfl (Bin.eqlN _ 0)) ?_
 refine je (Run.pickT rfl rfl au) (jM ?_)
 refine jG ?_
 refine jk (Run.lenS rfl zia) ?_
 refine jk (Run.bin rfl rfl (Bin.eqlN _ 1)) ?_
 refine je (Run.pickT rfl rfl au) (jM ?_)
 refine jG ?_
 obtain ⟨ad, u, hA, hu, hce⟩ := hr10.at1 (jo : 0 < 1)
 have hu : u = .int .u64 ((5 : Nat) : Int) := (Option.some.inj hu).symm
 subst hA hu
 refine jk (Run.index1 0 rfl rfl zia zbl jo) ?_
 refine jk (Run.load rfl zcj hce) ?_
 refine jk (Run.bin rfl rfl (Bin.eqlN _ 5)) ?_
 refine je (Run.pickT rfl rfl au) (jM ?_)
 refine jG ?_
 refine jk (Run.strOf rfl zf zat zci hr11) ?_
 refine jk (Run.eqlStr rfl rfl) ?_
 refine je (Run.pickT rfl rfl au) (jM ?_)
 refine jG ?_
 refine jk (Run.bin rfl rfl (Bin.eqlN _ 1)) ?_
 refine je (Run.pickT rfl rfl au) (jM ?_)
 refine jG ?_
 refine jk (Run.bin rfl rfl (Bin.eqlN _ 0)) ?_
 refine je (Run.pickT rfl rfl au) (jM ?_)
 refine jG ?_
 refine jk (Run.lenS rfl zf) ?_
 refine jk (Run.bin rfl rfl (Bin.eqlN _ 10)) ?_
 refine je (Run.pickT rfl rfl au) (jM ?_)
 refine jG ?_
 refine jk (Run.bin rfl rfl (Bin.eqlN _ 2)) ?_
 refine je (Run.pickT rfl rfl au) (jM ?_)
 refine jG ?_
 refine jk (Run.bin rfl rfl (Bin.eqlN _ 0)) ?_
 refine je (Run.pickT rfl rfl au) (jM ?_)
 refine jG ?_
 refine jk (Run.lenS rfl zf) ?_
 refine jk (Run.bin rfl rfl (Bin.eqlN _ 0)) ?_
 refine je (Run.pickT rfl rfl au) (jM ?_)
 refine jG ?_
 refine jk (Run.bin rfl rfl (Bin.eqlN _ 0)) ?_
 refine je (Run.pickT rfl rfl au) (jM ?_)
 refine jG ?_
 refine jk (Run.bin rfl rfl (Bin.eqlN _ 0)) ?_
 refine je (Run.pickT rfl rfl au) (jM ?_)
 refine jG ?_
 refine jk (Run.bin rfl rfl (Bin.eqlN _ 1)) ?_
 refine je (Run.pickT rfl rfl au) (jm rfl (je (Run.pickT rfl rfl au) (jm rfl (je (Run.pickT rfl rfl au) (ja rfl (jO (jN (jv1 0 ?_))))))))
 refine jT ?_
 refine qT rfl ?_
 exact ⟨rfl, K⟩
end
section
open Go.RowKit
structure RdB0 (w : World) (A : Option Addr) (n c : Nat) (l : List Bl) : Prop where
 len : l.length = n
 le : n ≤ c
 rd : Rd w 2 A n (BC l)
 el : ∀ x ∈ l, x.d.length ≤ x.c ∧ x.d.length ≤ 9223372036854775807 ∧ x.id < 18446744073709551616 ∧ (∀ b ∈ x.d, b < 256) ∧ Rd w 1 x.A x.d.length (NB x.d)
theorem RdB0.frm {w w' : World} {A : Option Addr} {n c : Nat} {l : List Bl} (h : RdB0 w A n c l) (k : Frm [] w w') : RdB0 w' A n c l := ⟨h.len, h.le, h.rd.frm k jp, fun x hx => by
 obtain ⟨h1, h2, h3, h4, h5⟩ := h.el x hx
 exact ⟨h1, h2, h3, h4, h5.frm k jp⟩⟩
theorem RdB0.cell {w : World} {A : Option Addr} {n c : Nat} {l : List Bl} (h : RdB0 w A n c l) {i : Nat} (hi : i < n) : ∃ ad, A = some ad ∧ ∀ j v, (blC (l.getD i bl0))[j]? = some v → w.cell? ((ad.add (i * 2)).add j) = some v := by
 obtain ⟨ad, h1, hel⟩ := h.rd.elem hi
 rw [qVt l i (by rw [h.len]; exact hi)] at hel
 exact ⟨ad, h1, hel⟩
theorem qY2 : ∀ (l : List Bl) (k : Nat), (BC l).take (k * 2) = BC (l.take k)
 | l, 0 => by simp [BC]
 | [], k + 1 => by simp [BC]
 | x :: l, k + 1 => by
  rw [show BC (x :: l) = blC x ++ BC l from rfl, show (k + 1) * 2 = (blC x).length + k * 2 by rw [qYw]; omega, zhi, qY2 l k]
  rfl
theorem RdB0.cut {w : World} {A : Option Addr} {n c k : Nat} {l : List Bl} (h : RdB0 w A n c l) (hk : k ≤ n) : RdB0 w (cC A c 0 2) (k - 0) (c - 0) (l.take k) := by
 refine ⟨by rw [zi, h.len]; omega, by have := h.le; omega, ?_, fun x hx => h.el x (zaf hx)⟩
 have h1 := h.rd.cut (l := 0) (r := k) (cap := c) jo hk h.le
 rw [zfo, zby, zcf, qY2] at h1
 exact h1
def qV5 (w : World) (x : Bl) : Prop := x.d.length ≤ 4033 ∧ x.d.length ≤ x.c ∧ x.id < 18446744073709551616 ∧ (∀ b ∈ x.d, b < 256) ∧ Rd w 1 x.A x.d.length (NB x.d)
theorem qV5.frm {w w' : World} {x : Bl} (h : qV5 w x) (k : Frm [] w w') : qV5 w' x := by
 obtain ⟨h1, h2, h3, h4, h5⟩ := h
 exact ⟨h1, h2, h3, h4, h5.frm k jp⟩
def qXz (w : World) (x : Bl) : Prop := x.d.length ≤ 4033 ∧ x.id < 18446744073709551616 ∧ (∀ b ∈ x.d, b < 256) ∧ Own w 5 1 x.A x.d.length x.c (NB x.d)
theorem qXz.frm {w w' : World} {S : List Nat} {x : Bl} (h : qXz w x) (k : Frm S w w') (hS : ∀ y ∈ ob x.A, y ∉ S) : qXz w' x := by
 obtain ⟨h1, h2, h3, h4⟩ := h
 exact ⟨h1, h2, h3, h4.frm k hS⟩
theorem qS9 {w : World} {A : Option Addr} {c : Nat} {d : List Nat} (h : Rd w 1 A d.length (NB d)) (hc : d.length ≤ c) (k : Nat) (hk : k ≤ d.length) : Rd w 1 (cC A c 0 1) (d.take k).length (NB (d.take k)) := by
 have h1 := oX d 0 k jo h hc
 rw [zby] at h1
 exact h1
theorem qHx (A : Option Addr) (n c : Nat) (l : List Bl) (w : World) (hn : n ≤ 9223372036854775807) (hr : RdB0 w A n c l) :
  Calls Tryz.prog 6 #[.slice A n c] w fun e w' => ∃ A' n' c' l', e = .returned (.slice A' n' c') ∧ n' ≤ 66 ∧ RdB w' A' n' l' ∧ Frm [] w w' := by
 have K := Frm.refl [] w
 have hnc := hr.le
 refine VC.calls (nt := 58) (res := #[.tmp 2]) Tryz.func6 rfl Tryz.ntmps6 Tryz.results6 rfl ?_
 refine jS (jR (ja rfl (jO (jN (jv1 0 ?_)))))
 refine jS (jS (jR (jm rfl (je (Run.lenS rfl zam) (jb rfl rfl (Bin.gtrN _ 66) (jO (jN (jv2 0 9 ?_))))))))
 refine VC.meet (σ := Option Addr × Nat × Nat × List Bl) (fun s => [(0, .slice s.1 s.2.1 s.2.2.1)]) (fun s wz => s.2.1 ≤ 66 ∧ RdB0 w s.1 s.2.1 s.2.2.1 s.2.2.2 ∧ w = wz) ?_ ?_
 ·
  refine jD rfl (fun hc1 => ?_) fun hc1 => ?_
  ·
   refine jR (jm rfl (je (Run.sliceS 0 66 rfl zam zbz evB.none_ (evB.some_ rfl) jo jo) (ja rfl (jO ?_))))
   refine jN ⟨(cC A c 0 2, 66 - 0, c - 0, l.take 66), (js1 rfl), ?_⟩
   exact ⟨by dsimp only; omega, hr.cut jo, rfl⟩
  refine jQ ?_
  refine jN ⟨(A, n, c, l), (js1 rfl), ?_⟩
  exact ⟨by dsimp only; omega, hr, rfl⟩
 rintro ⟨A1, n1, c1, l1⟩ _ ⟨hn1, hr1, rfl⟩ Γ hΓ
 dsimp only at *
 have hle1 := hr.le
 refine jN (VC.sub _ hΓ (jS (jR (ja rfl (jO (jN (jS (jR (jz 0 (jO (jN (jS (jS (jR (jz 0 (jO (jN (jB ?_))))))))))))))))))
 refine VC.loop (σ := Nat × Nat × Option Addr × Nat × List Bl) (fun s => [(0, .slice A1 n1 c1), (3, .slice s.2.2.1 s.1 s.2.2.2.1), (4, .int .i64 ((s.2.1 : Nat) : Int)), (5, .int .i64 ((s.1 : Nat) : Int))]) (fun s wr => s.1 ≤ n1 ∧ s.2.1 ≤ 4033 * s.1 ∧ s.2.2.2.2.length = s.1 ∧ Own wr 41 2 s.2.2.1 s.1 s.2.2.2.1 (BC s.2.2.2.2) ∧ (∀ x ∈ s.2.2.2.2, qXz wr x) ∧ Frm [] w wr ∧ ∀ x ∈ ob s.2.2.1, w.heap.size ≤ x) (fun s => n1 - s.1) (0, 0, none, 0, []) (js4 rfl rfl rfl rfl) ⟨zak _, zk _, rfl, Own.nil _ _ _, jp, K, by simp [ob]⟩ ?_
 rintro ⟨i, all, B, m, lo⟩ wr ⟨hi, hall, hlo, ho, hfe, K, hob⟩
 dsimp only at *
 refine jS (jS (jR (jm rfl (jm rfl (je (Run.lenS rfl zam) (jb rfl rfl (Bin.lssN _ _) (jO (jN (jv5 0 3 4 5 15 ?_)))))))))
 refine jD rfl (fun hc2 => ?_) fun hc2 => ?_
 ·
  have hrw := hr1.frm K
  have hle66 : i < l1.length := by rw [hr1.len]; exact hc2
  obtain ⟨h1e, h2e, h3e, h4e, h5e⟩ := hrw.el _ (jJ hle66)
  obtain ⟨ad, hA, hel⟩ := hrw.cell hc2
  subst hA
  generalize l1.getD i bl0 = x at h1e h2e h3e h4e h5e hel
  refine jQ (jN (jv4 0 3 4 5 ?_))
  refine jS (jB (jS (jR (jm rfl (jm rfl (je (Run.indexS _ rfl rfl zam zbz jo) (je (Run.loadA rfl Tryz.isAgg41 zbz hel (by first | rfl | (simp; done))) ?_)))))))
  refine Ops.m (qV.alloc jI) rfl ?_
  rintro _ w1 ⟨rfl, hF1⟩
  refine Ops.st (qR.storeA rfl rfl zbz hF1.blk rfl (by intro v hv; exact BC_one [x] v (by simpa [BC] using hv))) ?_
  rintro w2 ⟨hb2, hf2, hs2⟩
  have hb2 : Blk w2 wr.heap.size 41 #[.int .u64 ((x.id : Nat) : Int), .slice x.A x.d.length x.c] := hb2
  have KZ : Frm [] wr w2 := hF1.frm.trans hf2 jp
  refine jO (jN (jv5 0 3 4 5 6 ?_))
  refine jS (jS (jR (jf rfl zax rfl zo (jl rfl zx (hb2.cell 1) (je (Run.lenS rfl zf) (jb rfl rfl (Bin.gtrN _ 4033) (jO (jN (jv6 0 3 4 5 6 25 ?_)))))))))
  refine VC.meet (σ := Bl) (fun s => [(0, .slice (some ad) n1 c1), (3, .slice B i m), (4, .int .i64 ((all : Nat) : Int)), (5, .int .i64 ((i : Nat) : Int)), (6, .pointer (some ⟨wr.heap.size, 0, none⟩))]) (fun s wz => Blk wz wr.heap.size 41 #[.int .u64 ((s.id : Nat) : Int), .slice s.A s.d.length s.c] ∧ qV5 wz s ∧ Frm [] wr wz) ?_ ?_
  ·
   refine jD rfl (fun hc3 => ?_) fun hc3 => ?_
   ·
    refine jR (jf rfl zax rfl zo (jl rfl zx (hb2.cell 1) (je (Run.sliceS 0 4033 rfl zf zad evB.none_ (evB.some_ rfl) jo jo) (jf rfl zax rfl zo ?_))))
    refine Ops.st (qR.store rfl rfl zo hb2 rfl rfl) ?_
    rintro w3 ⟨hb3, hf3, hs3⟩
    have KZ3 := KZ.own hf3 jp
    have ht4 : (x.d.take 4033).length = 4033 := by rw [zi]; omega
    refine jO ?_
    refine jN ⟨⟨x.id, cC x.A x.c 0 1, x.c - 0, x.d.take 4033⟩, (js5 rfl rfl rfl rfl rfl), ?_⟩
    refine ⟨by dsimp only; rw [ht4]; exact hb3, ⟨by show (x.d.take 4033).length ≤ 4033; omega, by show (x.d.take 4033).length ≤ x.c - 0; omega, h3e, fun b hb => h4e b (zaf hb), ?_⟩, KZ3⟩
    exact (qS9 h5e h1e 4033 jo).frm KZ3 jp
   refine jQ ?_
   refine jN ⟨x, (js5 rfl rfl rfl rfl rfl), ?_⟩
   exact ⟨hb2, ⟨jo, h1e, h3e, h4e, h5e.frm KZ jp⟩, KZ⟩
  rintro y wz3 ⟨hb6, hfy, hKz⟩ Γ hΓ
  have hyl := hfy.1
  have hyc := hfy.2.1
  refine jN (VC.sub _ hΓ (jS (jS ?_)))
  refine VC.split1 [(0, _), (3, _), (4, _), (5, _), (6, _)] (js5 rfl rfl rfl rfl rfl) 41 (.bool (decide (1500 < all + y.d.length ∧ y.d.length ≤ 4032))) ?_ ?_
  ·
   refine jR ?_
   refine jm rfl (jf rfl zax rfl zo (jl rfl zx (hb6.cell 1) (je (Run.lenS rfl zf) (jb rfl rfl (Bin.add_i64 _ _ jo) (jb rfl rfl (Bin.gtrN _ 1500) ?_)))))
   by_cases hs35 : 1500 < all + y.d.length
   ·
    refine jM ?_
    refine jk (Run.fieldAddr rfl zax rfl zo jd) ?_
    refine jk (Run.load rfl zx (hb6.cell 1)) ?_
    refine jk (Run.lenS rfl zf) ?_
    refine jk (Run.bin rfl rfl (Bin.leqN _ 4032)) ?_
    by_cases hs40 : y.d.length ≤ 4032
    ·
     refine je (Run.pickT rfl rfl au) (jO ?_)
     refine jN ⟨(js6 (jC (by first | (simp [*]; done) | (simp; omega))) rfl rfl rfl rfl rfl), rfl⟩
    refine je (Run.pickT rfl rfl au) (jO ?_)
    refine jN ⟨(js6 (jC (by first | (simp [*]; done) | (simp; omega))) rfl rfl rfl rfl rfl), rfl⟩
   refine jM ?_
   refine jU ?_
   refine jU ?_
   refine jU ?_
   refine jU ?_
   refine je (Run.pickF rfl rfl au) (jO ?_)
   refine jN ⟨(js6 (jC (by first | (simp [*]; done) | (simp; omega))) rfl rfl rfl rfl rfl), rfl⟩
  intro Γ hΓ
  refine jN (VC.sub _ hΓ ?_)
  refine VC.meet (σ := Bl) (fun s => [(0, .slice (some ad) n1 c1), (3, .slice B i m), (4, .int .i64 ((all : Nat) : Int)), (5, .int .i64 ((i : Nat) : Int)), (6, .pointer (some ⟨wr.heap.size, 0, none⟩))]) (fun s wz => Blk wz wr.heap.size 41 #[.int .u64 ((s.id : Nat) : Int), .slice s.A s.d.length s.c] ∧ qV5 wz s ∧ Frm [] wr wz) ?_ ?_
  ·
   refine jD rfl (fun hc4 => ?_) fun hc4 => ?_
   ·
    refine jR (jf rfl zax rfl zo ?_)
    refine Ops.st (qR.store rfl rfl zo hb6 rfl rfl) ?_
    rintro w4 ⟨hb4, hf4, hs4⟩
    have KZ4 := hKz.own hf4 jp
    refine jO ?_
    refine jN ⟨⟨y.id, none, 0, []⟩, (js5 rfl rfl rfl rfl rfl), ?_⟩
    exact ⟨hb4, ⟨zak _, zk _, hfy.2.2.1, jp, Rd.nil _ _ _⟩, KZ4⟩
   refine jQ ?_
   refine jN ⟨y, (js5 rfl rfl rfl rfl rfl), ?_⟩
   exact ⟨hb6, hfy, hKz⟩
  rintro z wz4 ⟨hb7, hfz, hKz4⟩ Γ hΓ
  have hzl := hfz.1
  have hzb := hfz.2.1
  refine jN (VC.sub _ hΓ (jS (jR (jm rfl (jf rfl zax rfl zo (jl rfl zx (hb7.cell 1) (je (Run.lenS rfl zf) (jb rfl rfl (Bin.add_i64 _ _ jo) (ja rfl (jO (jN (jv5 0 3 4 5 6 ?_))))))))))))
  refine jS (jR ?_)
  refine Ops.m (qV.buildS0 zf zad) rfl ?_
  rintro _ w5 ⟨rfl, hF5⟩
  have hq5 : Own w5 5 1 (some ⟨wz4.heap.size, 0, none⟩) 0 0 (NB []) := Own.of_blk (n := 0) hF5.blk rfl jd
  have hb7' := hb7.frm hF5.frm jp
  have hKz5 := hKz4.trans hF5.frm jp
  have hzr5 := hfz.2.2.2.2.frm hF5.frm jp
  refine jf rfl zax rfl zo (jl rfl zx (hb7'.cell 1) ?_)
  refine Ops.m (qV.app rfl rfl zf (eA) rfl jd hq5 hzr5 (eP _) jo jo) rfl ?_
  rintro _ w6 ⟨B6, c6, rfl, ho6, hf6, hob6⟩
  rw [← fD, zbf, zap] at ho6
  rw [zap]
  have hks4 := hKz4.size
  have hb8 := hb7'.frm hf6 (by
   simp only [ob, zh]
   have := hb7.lt
   omega)
  have hKz6 := hKz5.own hf6 (by simp [ob]; exact hks4)
  refine jf rfl zax rfl zo ?_
  refine Ops.st (qR.store rfl rfl zo hb8 rfl rfl) ?_
  rintro w7 ⟨hb9, hf7, hs7⟩
  have hb9 : Blk w7 wr.heap.size 41 #[.int .u64 ((z.id : Nat) : Int), .slice B6 z.d.length c6] := hb9
  have hu6 : ∀ x ∈ ob B6, wr.heap.size < x := fun x hx => by
   have h1 := hb7.lt
   rcases hob6 with h | h
   · rw [h] at hx; simp only [ob, zh] at hx; omega
   rw [h, zh] at hx
   have := hKz5.size
   have := hF5.frm.size
   omega
  have ho7 := ho6.frm hf7 (fun x hx hx2 => by have hx3 : x = wr.heap.size := zh.1 hx2; have := hu6 x hx; omega)
  have hKz7 := hKz6.own hf7 jp
  have hnew : qXz w7 ⟨z.id, B6, c6, z.d⟩ := ⟨hfz.1, hfz.2.2.1, hfz.2.2.2.1, ho7⟩
  refine jO (jN (jv5 0 3 4 5 6 ?_))
  refine jR (jm rfl (je (Run.loadA rfl Tryz.isAgg41 zbz hb9.cells (by first | rfl | (simp; done))) ?_))
  refine Ops.m (qV.buildS1 rfl zam zbz jI jd jd rfl rfl) rfl ?_
  rintro _ w8 ⟨rfl, hF8⟩
  have hr8 : Rd w8 2 (some ⟨w7.heap.size, 0, none⟩) 1 (BC [Bl.mk z.id B6 c6 z.d]) := Rd.of_blk (n := 1) (size := 2) hF8.blk rfl
  have hKz8 := hKz7.trans hF8.frm jp
  have ho8 := ho.frm hKz8 jp
  refine Ops.m (qV.app rfl rfl zam (qBa) rfl jd ho8 hr8 (BC_one _) jo jo) rfl ?_
  rintro _ w9 ⟨B9, c9, rfl, ho9, hf9, hob9⟩
  rw [← qPh] at ho9
  have K8 := K.trans hKz8 jp
  have hks8 := K8.size
  have K9 := K8.own hf9 hob
  have hob9' : ∀ x ∈ ob B9, w.heap.size ≤ x := fun x hx => by
   rcases hob9 with h | h
   · rw [h] at hx; exact hob x hx
   rw [h, zh] at hx; omega
  refine ja rfl (jO ?_)
  refine qJ (jN ?_)
  refine jv4 0 3 4 5 ?_
  refine jR (jm rfl (jb rfl rfl (Bin.add_i64 _ 1 jo) (ja rfl (jO ?_))))
  refine jN ⟨(i + 1, all + z.d.length, B9, c9, lo ++ [Bl.mk z.id B6 c6 z.d]), (js4 rfl rfl rfl rfl), ?_, ?_⟩
  ·
   refine ⟨hc2, by dsimp only; omega, by simp [hlo], ho9, fun q hq => ?_, K9, hob9'⟩
   have hq8 : qXz w8 q := by
    rcases List.mem_append.1 hq with h | h
    · exact (hfe q h).frm hKz8 jp
    rw [zh] at h
    subst h
    exact hnew.frm hF8.frm jp
   exact hq8.frm hf9 (fun y hy hy2 => ho8.ne_own hq8.2.2.2 jd y hy2 hy)
  first | omega | (dsimp only; omega)
 refine jX ?_
 refine qZ (qZ (qW ?_))
 refine jN (jv1 3 ?_)
 refine jS (jR (jm rfl (ja rfl (jO (jN (jv1 2 ?_))))))
 refine jT ?_
 refine qT rfl ?_
 exact ⟨B, i, m, lo, rfl, jo, ⟨hlo, ho.rd, fun x hx => by
  obtain ⟨h1, h2, h3, h4⟩ := hfe x hx
  exact ⟨h4.le, jo, h2, h3, h4.rd⟩⟩, K⟩
end
section
open Go.RowKit
theorem qW1 (A : Option Addr) (n c : Nat) (l : List Bl) (w : World) (hn : n ≤ 1000000) (hr : RdB w A n l) :
  Calls Tryz.prog 7 #[.slice A n c] w fun e w' => ∃ B d k X, e = .returned (.tuple #[.slice B X.length d, .int .i64 ((k : Nat) : Int)]) ∧ Own w' 5 1 B X.length d (NB X) ∧ Frm [] w w' ∧ (∀ x ∈ ob B, w.heap.size ≤ x) ∧ (fT l → X = segM (l.map Bl.b) ∧ k = 0) ∧ (¬ fT l → X = [] ∧ k = 1) := by
 by_cases h : fT l
 ·
  refine (uW A n c l w hn hr h).mono ?_
  rintro e w' ⟨B, d, rfl, ho, hf, hu⟩
  exact ⟨B, d, 0, _, rfl, ho, hf, hu, fun _ => ⟨rfl, rfl⟩, fun h2 => absurd h h2⟩
 refine (xD A n c l w hn hr h).mono ?_
 rintro e w' ⟨rfl, hf⟩
 exact ⟨none, 0, 1, [], rfl, Own.nil _ _ _, hf, by simp [ob], fun h2 => absurd h2 h, fun _ => ⟨rfl, rfl⟩⟩
theorem qB0 {w : World} {A : Option Addr} {n : Nat} {l : List Bl} (hr : RdB w A n l) (h : fT l) : ∀ b ∈ segM (l.map Bl.b), b < 256 := qXy (qHw hr h).1
theorem qJr (A : Option Addr) (n c : Nat) (l : List Bl) (w : World) (hn : n ≤ 9223372036854775807) (hr : RdB0 w A n c l) :
  Calls Tryz.prog 3 #[.slice A n c] w fun e w' => e = .returned (.bool true) ∧ Frm [] w w' := by
 refine VC.calls (nt := 37) (res := #[.tmp 2]) Tryz.func3 rfl Tryz.ntmps3 Tryz.results3 rfl ?_
 refine jS (jR (ja rfl (jO (jN (jv1 0 ?_)))))
 refine jS (jR (jM ?_))
 refine Ops.cl (jE1 Tryz.call6) (qHx A n c l _ hn hr) rfl ?_
 rintro e w1 ⟨A1, n1, c1, l1, rfl, hn1, hr1, K⟩
 refine ⟨_, rfl, ?_⟩
 refine ja rfl (jO (jN (jv1 0 ?_)))
 refine jS (jR (jM ?_))
 refine Ops.cl (jE1 Tryz.call7) (qW1 A1 n1 c1 l1 _ jo hr1) rfl ?_
 rintro e w2 ⟨B, d, k, X, rfl, ho2, hf2, hu2, hy1, hy2⟩
 refine ⟨_, rfl, ?_⟩
 have K := K.trans hf2 jp
 have hr2 := hr1.frm hf2
 refine jm rfl (je (Run.extract rfl rfl) (je (Run.extract rfl rfl) (ja rfl (ja rfl (jO (jN (jv3 0 3 4 ?_)))))))
 refine jS (jS (jR (jM ?_)))
 refine Ops.cl (jE1 Tryz.call8) (qPi A1 n1 c1 l1 _ jo hr2) rfl ?_
 rintro e w3 ⟨rfl, hd3⟩
 refine ⟨_, rfl, ?_⟩
 have K := K.drawn hd3
 have hr3 := hr2.frm hd3.frm
 have ho3 := ho2.drawn hd3
 refine je (Run.not rfl) (jO (jN (jv4 0 3 4 14 ?_)))
 refine VC.condB rfl (fun hc1 => ?_) (fun hc1 => ?_)
 ·
  have hnm : ¬ fT l1 := by simpa using hc1
  obtain ⟨rfl, rfl⟩ := hy2 hnm
  refine jS (jR (jm rfl (je (Run.lenS rfl zf) (jb rfl rfl (Bin.eqlN _ 0) (jM ?_)))))
  refine jG ?_
  refine jk (Run.bin rfl rfl (Bin.eqlN _ 1)) ?_
  refine je (Run.pickT rfl rfl au) (jM ?_)
  refine Ops.clg rfl au (jE0 Tryz.call9) (wM _) rfl ?_
  rintro e w9 ⟨rfl, hf9⟩
  refine ⟨_, rfl, ?_⟩
  refine je (Run.pickT rfl rfl au) (ja rfl (jO (jN (jv1 2 ?_))))
  refine jT ?_
  refine qP (qT rfl ?_)
  exact ⟨rfl, K.trans hf9 jp⟩
 have hm : fT l1 := by simpa using hc1
 obtain ⟨rfl, rfl⟩ := hy1 hm
 have hXb := qB0 hr3 hm
 have hrU : Rd w3 1 B (segM (l1.map Bl.b)).length (U8 ((segM (l1.map Bl.b)).map UInt8.ofNat)) := by
  rw [← qJt _ hXb]
  exact ho3.rd
 refine jQ (jN (jv3 0 3 4 ?_))
 refine jS ?_
 refine VC.held (fun v => Frm [] w3 v) jK ?_
 have hS : (fun v => Frm [] w3 v) w3.drew := (qQ.drew w3).frm
 refine jH 0 rfl hS (fun w0 hw0 => Run.mv rfl) ?_
 refine jH 1 rfl hS (fun w0 hw0 => Run.strOf rfl zf zat zci (hrU.frm hw0 jp)) ?_
 refine jH 2 rfl hS (fun w0 hw0 => Run.mv rfl) ?_
 refine qK.cl 3 rfl jK (jE1 Tryz.call10) (qW0 A1 n1 c1 l1 _ jo (hr3.frm hS) hm) trivial rfl rfl ?_
 rintro e w5 ⟨rfl, hf5⟩
 have hS := hS.trans hf5 jp
 refine ⟨_, rfl, hS, ?_⟩
 refine jH 4 rfl hS (fun w0 hw0 => Run.eqlStr rfl rfl) ?_
 refine jH 5 rfl hS (fun w0 hw0 => Run.mv rfl) ?_
 refine qK.take 6 rfl jK jK jK hS (fun w0 hw0 => Run.mv rfl) (Up.g rfl (decide_eq_true rfl)) rfl rfl ?_
 refine qK.take 7 rfl jK jK jK hS (fun w0 hw0 => Run.bin rfl rfl (Bin.eqlN _ 0)) (Up.g rfl (decide_eq_true rfl)) rfl rfl ?_
 refine jH 8 rfl hS (fun w0 hw0 => Run.pickT rfl rfl (decide_eq_true rfl)) ?_
 refine jH 9 rfl hS (fun w0 hw0 => Run.mv rfl) ?_
 refine qK.cl 10 rfl jK (jE0 Tryz.call9) (wM _) (Up.g rfl (decide_eq_true rfl)) rfl rfl ?_
 rintro e w9 ⟨rfl, hf9⟩
 have hS := hS.trans hf9 jp
 refine ⟨_, rfl, hS, ?_⟩
 refine jH 11 rfl hS (fun w0 hw0 => Run.pickT rfl rfl (decide_eq_true rfl)) ?_
 refine jH 12 rfl hS (fun w0 hw0 => Run.asg rfl) ?_
 refine qK.done jK ?_
 refine jN (jv1 2 ?_)
 refine jT ?_
 refine qT rfl ?_
 exact ⟨rfl, K.trans hS jp⟩
end
section
open Go.RowKit
open Go.ChangeShapes Go.WideShapes Go.Deep
theorem qU6 {z : Int} (h : (Lit.int .u64 z).wf = true) : ∃ n : Nat, z = (n : Int) ∧ n < 18446744073709551616 := by
 have h1 : 0 ≤ z ∧ z < 18446744073709551616 := by
  simp [Lit.wf, IntKind.min, IntKind.max, IntKind.signed, IntKind.bits] at h
  omega
 exact ⟨z.toNat, jo, jo⟩
theorem qHy {H : Type} {enc : TypeId × Value → H} {w : World} {base : Nat} {spare : Nat → Bool} {held : Bool} {fuel len cap : Nat} {a : Option Addr} {x : DataW H × List MemPlace}
  (h : DataW.trod enc Tryz.prog w base spare held fuel 22 [.slice a len cap] = some x) : ∃ l, RdB0 w a len cap l ∧ len ≤ 9223372036854775807 := by
 obtain ⟨ls, hll, hlc, hcm, hrd, hels⟩ := qY8 zam zax jK jK jd h
 have key : ∀ i, i < len → ∃ s : Bl, ls[i]? = some (blC s) ∧ s.d.length ≤ s.c ∧ s.d.length ≤ 9223372036854775807 ∧ s.id < 18446744073709551616 ∧ (∀ b ∈ s.d, b < 256) ∧ Rd w 1 s.A s.d.length (NB s.d) := by
  intro i hi
  obtain ⟨hl4, hf⟩ := hels _ (zt (jo : i < ls.length))
  have hli : ls[i]? = some ls[i] := zb jo
  generalize ls[i] = l at *
  match l, hl4 with
  | [c0, c1], _ =>
   obtain ⟨v0, y0, m0, e0, t0⟩ := hf 0 _ rfl
   obtain ⟨v1, y1, m1, e1, t1⟩ := hf 1 _ rfl
   simp only [List.getElem?_cons_zero, List.getElem?_cons_succ, Option.some.injEq] at e0 e1
   subst e0 e1
   obtain ⟨z, h0, hw⟩ := qRn zv t0
   obtain ⟨A, k, c, h1⟩ := qGt zf t1
   simp only [List.cons.injEq, and_true] at h0 h1
   subst h0 h1
   obtain ⟨n, rfl, hn⟩ := qU6 hw
   obtain ⟨bs, hbl, hbc, hbm, hb, hr⟩ := qP1 zf zat jK t1
   subst hbl
   exact ⟨⟨n, A, c, bs⟩, hli, hbc, by simp only; omega, hn, hb, hr⟩
 obtain ⟨ss, hsl, hq⟩ := rA len key
 have e : ls.flatMap id = BC ss := by
  have : ls = ss.map blC := by
   apply zao
   intro i
   rw [zbd]
   by_cases hi : i < len
   ·
    have := (hq i _ (zb (jo : i < ss.length))).1
    rw [this, zb (jo : i < ss.length)]
    rfl
   rw [zu jo, zu jo]
   rfl
  rw [this, zhl]
  rfl
 refine ⟨ss, ⟨hsl, hlc, ?_, fun y hy => ?_⟩, jo⟩
 ·
  rw [← e]
  exact hrd
 obtain ⟨i, hi, rfl⟩ := zbe hy
 exact (hq i _ (zb hi)).2
end
end Go.Proofs.YtndjgmbfkkgpdaaGreat
