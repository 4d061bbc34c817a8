/-
  Lemmas on the way, joined: HotM, HotT, HotN, HotS, HotR, HotG, HotO, HotD, HotB, HotF, HotI, HotL, HotK, HotH, HotE, HotX, HotY, HotJ, HotAp, HotAw, HotWb, HotQ0.
-/
import Derived.Test.YtoniopdkbeogjaaGreatPk2
set_option maxRecDepth 100000
set_option linter.unusedVariables false
set_option linter.unusedSimpArgs false
set_option maxHeartbeats 8000000
namespace Go.Proofs.YtoniopdkbeogjaaGreat
section
open Go.RowKit
theorem Blk.sub {w : World} {g : Nat} {t : TypeId} {cs : Array Value} (h : Blk w g t cs) (i : Nat) (l : List Value) (hl : (cs.toList.drop i).take l.length = l) : ∀ j v, l[j]? = some v → w.cell? ((⟨g, i, none⟩ : Addr).add j) = some v := by
 intro j v hj
 have hlt : j < l.length := (List.getElem?_eq_some_iff.1 hj).1
 rw [show ((⟨g, i, none⟩ : Addr).add j) = ⟨g, i + j, none⟩ by unfold Addr.add; split <;> simp_all, h.cell]
 rw [← hl, zcf hlt, zdp] at hj
 simpa using hj
structure Hm where
 dk : Dk
 pairs : List Pr
 dir : List Nat
 lies : Nat → List Nat
 used : Nat → Bool
def Hm.N (H : Hm) : Nat := H.dk.has.length - 42
def cN (x : Pr) : Nat := x.2 / 65536 % 65536
structure Hm.ok (H : Hm) : Prop where
 srt : Srt H.pairs
 okp : OkP H.pairs
 n600 : H.pairs.length ≤ 600
 sz : 44 ≤ H.dk.has.length
 big : H.dk.has.length ≤ 2048
 wts : H.dk.wts.length ≤ 100000
 d59 : H.dir.length ≤ 600
 dirp : ∀ p ∈ H.dir, p < H.N
 pg : ∀ x ∈ H.pairs, (∀ p ∈ H.lies x.1, p < H.N) ∧ (H.lies x.1).length ≤ 600 ∧ cN x ≤ 126 * (H.lies x.1).length
abbrev Lq := Option Addr × Nat × List Nat
def lqV (x : Lq) : Value := .slice x.1 x.2.2.length x.2.1
structure HtQ where
 pA : Option Addr
 pc : Nat
 dA : Option Addr
 dc : Nat
 l : Nat
 sB : Option Addr
 sc : Nat
 ly : Nat → Option Lq
def lyV (f : Nat → Option Lq) : Nat → Option Value := fun id => (f id).map lqV
abbrev MpU (w : World) (l : Nat) (f : Nat → Option Lq) : Prop := MpF Tryz.prog 54 fO w l (lyV f)
structure IsHt (w : World) (h g : Nat) (F : List Nat) (H : Hm) (q : HtQ) : Prop where
 ok : H.ok
 dk : IsDk w g F H.dk
 hF : h ∉ F
 blk : Blk w h 91 #[jI0 g, .slice q.pA H.pairs.length q.pc, .slice q.dA H.dir.length q.dc, .map (some q.l), jI1 H.N, .slice q.sB ((H.N + 7) / 8) q.sc]
 pr : RdX w (h :: F) 2 q.pA H.pairs.length (PC2 H.pairs)
 pcap : H.pairs.length ≤ q.pc
 dr : RdX w (h :: F) 1 q.dA H.dir.length (ZN H.dir)
 mp : MpU w q.l q.ly
 ml : q.l ∉ h :: F
 ly : ∀ id x, q.ly id = some x → RdX w (h :: F) 1 x.1 x.2.2.length (ZN x.2.2) ∧ id < 18446744073709551616
 lyH : ∀ x ∈ H.pairs, ∃ r, q.ly x.1 = some r ∧ r.2.2 = H.lies x.1
 us : RdX w (h :: F) 1 q.sB ((H.N + 7) / 8) (NB (cL H.N H.used))
theorem IsHt.frm {w w' : World} {h g : Nat} {F : List Nat} {H : Hm} {q : HtQ} (a : IsHt w h g F H q) (k : Frm [] w w') : IsHt w' h g F H q :=
 ⟨a.ok, a.dk.frm k jp, a.hF, a.blk.frm k jp, a.pr.frm k, a.pcap, a.dr.frm k, a.mp.frm k jp, a.ml, fun id x hx => ⟨(a.ly id x hx).1.frm k, (a.ly id x hx).2⟩, a.lyH, a.us.frm k⟩
theorem oF {l : List Pr} (hs : Srt l) {id : Nat} (h : id ∈ l.map (·.1)) : cD l id < l.length ∧ l.getD (cD l id) (0, 0) ∈ l ∧ (l.getD (cD l id) (0, 0)).1 = id := by
 obtain ⟨h1, h2⟩ := (qKb hs id).1 h
 exact ⟨h1, fN h1, h2⟩
def fJ (H : Hm) (pg : List Nat) : List Nat := pg.flatMap fun p => (H.dk.sec (42 + p)).drop 2
def gN (H : Hm) (id : Nat) : Nat × List Nat :=
 if id ∉ H.pairs.map (·.1) then (6, [])
 else if H.dk.off then (10, [])
 else
  let x := H.pairs.getD (cD H.pairs id) (0, 0)
  let out := (fJ H (H.lies id)).take (cN x)
  if crcM out = x.2 / 4294967296 then (0, out) else (9, [])
theorem kC (h g : Nat) (F : List Nat) (H : Hm) (q : HtQ) (w : World) (hH : IsHt w h g F H q) : Calls Tryz.prog 39 #[jI0 h] w fun e w' => e = .returned (jI1 H.N) ∧ w = w' := by
 have hsz := hH.ok.sz
 have hbg := hH.ok.big
 refine jV Tryz.func39 Tryz.ntmps39 Tryz.results39 ?_
 refine jS (jR (jz 0 (jO (jN (jv1 0 ?_)))))
 refine jS (jR (jm rfl (jZ rfl (jf rfl zaj rfl zeu (jl rfl zfh (hH.blk.cell 0) ?_)))))
 refine jc0 (jE1 zfe) (dU g F _ w hH.dk) ?_
 refine jb rfl rfl (Bin.sub_i64 _ 42 jo jo) (ja rfl (jO (jN (jv1 2 ?_))))
 refine jT ?_
 refine qS rfl ?_
 exact ⟨rfl, rfl⟩
theorem qVg (p : Nat) (h g : Nat) (F : List Nat) (H : Hm) (q : HtQ) (w : World) (hH : IsHt w h g F H q) (hp : p < H.N) : Calls Tryz.prog 71 #[jI0 h, jI1 p] w fun e w' => ∃ B n, e = .returned (.tuple #[.slice B n n, .bool (! H.dk.off)]) ∧ n = (H.dk.read (42 + p)).2.length ∧ Rd w' 1 B n (NB (H.dk.read (42 + p)).2) ∧ Frm [] w w' ∧ ∀ x ∈ ob B, w.heap.size ≤ x := by
 have hsz := hH.ok.sz
 have hbg := hH.ok.big
 have hwt := hH.ok.wts
 have hpN : p < H.dk.has.length - 42 := hp
 refine jV Tryz.func71 Tryz.ntmps71 Tryz.results71 ?_
 refine jS (jR (ja rfl (ja rfl (jO (jN (jv2 0 1 ?_))))))
 refine jS (jS (jR (jm rfl (jb rfl rfl (Bin.lssN _ 0) (jM ?_)))))
 refine Ops.rg rfl jdf (Run.mv rfl) rfl ?_
 refine Ops.rg rfl jdf (Run.mv rfl) rfl ?_
 refine Ops.clg rfl jdf (jE1 zgl) (kC h g F H q w hH) rfl ?_
 rintro e _ ⟨rfl, rfl⟩
 refine ⟨_, rfl, ?_⟩
 refine Ops.rg rfl jdf (Run.bin rfl rfl (Bin.geqN _ _)) rfl ?_
 refine jF rfl rfl jdf (jO (jN (jv3 0 1 15 ?_)))
 refine VC.condF rfl jdf ?_
 refine jQ (jN (jv2 0 1 ?_))
 refine jS (jR (jm rfl (jZ rfl (jf rfl zaj rfl zeu (jl rfl zfh (hH.blk.cell 0) (jm rfl (jb rfl rfl (Bin.add_i64 42 _ jo) ?_)))))))
 refine jc (jE2 Tryz.call28) (kH g (42 + p) F H.dk w hH.dk jo) ?_
 rintro e w1 ⟨B, rfl, hr, hf, hup, _⟩
 refine ⟨_, rfl, ?_⟩
 have e2 : decide ((H.dk.read (42 + p)).1 = 0) = ! H.dk.off := by
  unfold Dk.read
  rw [if_neg jo]
  cases H.dk.off <;> simp
 refine jm rfl (jY rfl rfl (jY rfl rfl (ja rfl (ja rfl (jO (jN (jv2 6 7 ?_)))))))
 refine jS (jR (jm rfl (jm rfl (jb rfl rfl (Bin.eqlN _ 0) (ja rfl (ja rfl (jO (jN (jv2 4 5 ?_)))))))))
 refine jT ?_
 refine bX rfl rfl ?_
 rw [e2]
 exact ⟨B, _, rfl, rfl, hr, hf, hup⟩
theorem yZ (id : Nat) (h g : Nat) (F : List Nat) (H : Hm) (q : HtQ) (w : World) (hH : IsHt w h g F H q) (hid : id < 18446744073709551616) : Calls Tryz.prog 24 #[jI0 h, jI2 id] w fun e w' => e = .returned (.tuple #[.int .i64 (((if id ∈ H.pairs.map (·.1) then cN (H.pairs.getD (cD H.pairs id) (0, 0)) else 0 : Nat)) : Int), .int .i64 (((if id ∈ H.pairs.map (·.1) then 0 else 6 : Nat)) : Int)]) ∧ Frm [] w w' := by
 have h600 := hH.ok.n600
 refine jV Tryz.func24 Tryz.ntmps24 Tryz.results24 ?_
 refine jS (jR (jz 0 (jz 0 (jO (jN (jv2 0 1 ?_))))))
 refine jS (jR (jm rfl (jZ rfl (jf rfl zaj rfl zbk (jl rfl zci (hH.blk.cell 1) (jM ?_))))))
 refine jc (jE2 Tryz.call42) (mX _ _ id _ H.pairs w rfl jo hH.pr.1 hH.ok.okp hH.ok.srt hid) ?_
 rintro e w1 ⟨rfl, K⟩
 refine ⟨_, rfl, ?_⟩
 have hH1 := hH.frm K
 refine jm rfl (jY rfl rfl (jY rfl rfl (ja rfl (ja rfl (jO (jN (jv3 0 6 7 ?_)))))))
 refine jS (jS (jR (jm rfl (je (Run.not rfl) (jO (jN (jv3 0 6 18 ?_)))))))
 refine VC.condB rfl (fun hc1 => ?_) (fun hc1 => ?_)
 ·
  have hn : id ∉ H.pairs.map (·.1) := by simpa using hc1
  rw [if_neg hn, if_neg hn]
  refine jS (jR (jz 0 (jz 6 (jO (jN (jv2 4 5 ?_))))))
  refine jT ?_
  refine qQ (bX rfl rfl ?_)
  exact ⟨rfl, K⟩
 have hn : id ∈ H.pairs.map (·.1) := by simpa using hc1
 rw [if_pos hn, if_pos hn]
 obtain ⟨hlt, hmem, hke⟩ := oF hH.ok.srt hn
 have hokx := hH.ok.okp _ hmem
 obtain ⟨ad, hA, hel⟩ := gM hH1.pr.1 rfl hlt
 generalize hx : H.pairs.getD (cD H.pairs id) (0, 0) = x at hel hokx hke ⊢
 refine jQ (jN (jv2 0 6 ?_))
 refine jS (jR (jm rfl (jZ rfl (jf rfl zaj rfl zbk (jl rfl zci (hH1.blk.cell 1) ?_)))))
 rw [hA]
 refine jm rfl (je (Run.indexS _ rfl rfl zl zu jo) (je (Run.loadA rfl zea zu hel (by first | rfl | (simp; done))) ?_))
 refine jc (jE1 Tryz.call73) (mQ x w1 hokx.2) ?_
 rintro e w2 ⟨rfl, K2⟩
 refine ⟨_, rfl, ?_⟩
 refine ja rfl (jz 0 (jO (jN (jv2 4 5 ?_))))
 refine jT ?_
 refine bX rfl rfl ?_
 exact ⟨rfl, K.trans K2 jp⟩
theorem qWw (h g : Nat) (F : List Nat) (H : Hm) (q : HtQ) (w : World) (hH : IsHt w h g F H q) : Calls Tryz.prog 50 #[jI0 h] w fun e w' => ∃ B d, e = .returned (.slice B H.pairs.length d) ∧ Own w' 54 1 B H.pairs.length d (ZU (H.pairs.map (·.1))) ∧ Frm [] w w' ∧ ∀ x ∈ ob B, w.heap.size ≤ x := by
 have h600 := hH.ok.n600
 have K0 := Frm.refl [] w
 have hsnZ : ∀ (a : List Nat) (b : Nat), ZU (a ++ [b]) = ZU a ++ [jI2 b] := fun a b => by simp [ZU]
 refine jV Tryz.func50 Tryz.ntmps50 Tryz.results50 ?_
 refine jS (jR (ja rfl (jO (jN (jv1 0 ?_)))))
 refine jS (jR (ja rfl (jO (jN (jS (jS (jR (jm rfl (jZ rfl (jf rfl zaj rfl zbk (jl rfl zci (hH.blk.cell 1) (jL rfl zl ?_))))))))))))
 refine jx .i64 0 ?_
 refine jO (jN (jv4 3 9 10 11 ?_))
 refine jB ?_
 refine VC.loop (σ := Nat × Option Addr × Nat) (fun s => [(3, .slice s.2.1 s.1 s.2.2), (9, .slice q.pA H.pairs.length q.pc), (10, jI1 H.pairs.length), (11, jI1 s.1)]) (fun s wr => s.1 ≤ H.pairs.length ∧ Own wr 54 1 s.2.1 s.1 s.2.2 (ZU ((H.pairs.take s.1).map (·.1))) ∧ Frm [] w wr ∧ ∀ x ∈ ob s.2.1, w.heap.size ≤ x) (fun s => H.pairs.length - s.1) (0, none, 0) (js4 rfl rfl rfl rfl) ⟨zj _, Own.nil _ _ _, K0, by simp [ob]⟩ ?_
 rintro ⟨i, B, d⟩ wr ⟨hi, ho, K, hup⟩
 dsimp only at hi ho hup ⊢
 refine jS (jR (jb rfl rfl (Bin.lssN _ _) (jO (jN (jS ?_)))))
 refine jD rfl (fun hc1 => ?_) fun hc1 => ?_
 ·
  obtain ⟨ad, hA, hel⟩ := gM (hH.pr.1.frm K jp) rfl hc1
  rw [hA]
  have hsn : (H.pairs.take (i + 1)).map (·.1) = (H.pairs.take i).map (·.1) ++ [(H.pairs.getD i (0, 0)).1] := by
   rw [sX hc1, zv]
   rfl
  have hokx := (hH.ok.okp _ (fN hc1)).1
  generalize H.pairs.getD i (0, 0) = x at hel hsn hokx
  obtain ⟨xk, xv⟩ := x
  dsimp only at hsn hokx
  refine jQ (jN (jv4 3 9 10 11 ?_))
  refine jS (jB (jS (jR (je (Run.indexS _ rfl rfl zl zu jo) (je (Run.loadA rfl zea zu hel (by first | rfl | (simp; done))) ?_)))))
  refine Ops.m (qV.alloc dL) rfl ?_
  rintro _ w2 ⟨rfl, hF2⟩
  refine Ops.st (qT.storeA rfl rfl zu hF2.blk rfl (eH (xk, xv))) ?_
  rintro w3 ⟨hb3, hf3, hs3⟩
  have hb3 : Blk w3 wr.heap.size 128 #[jI2 xk, jI2 xv] := hb3
  have K3 : Frm [] wr w3 := hF2.frm.own hf3 jp
  have K := K.trans K3 jp
  refine jO (jN (jv5 3 5 9 10 11 ?_))
  refine jR (jm rfl (jf rfl zbj rfl zy (jl rfl zai (hb3.cell 0) ?_)))
  refine Ops.m (qV.buildS1 rfl zbv zy lU jd jd rfl rfl) rfl ?_
  rintro _ w5 ⟨rfl, hF5⟩
  have hr5 : Rd w5 1 (some ⟨w3.heap.size, 0, none⟩) 1 [jI2 xk] := Rd.of_blk (n := 1) (size := 1) hF5.blk rfl
  have ho := (ho.frm K3 jp).frm hF5.frm jp
  have K := K.trans hF5.frm jp
  have ks := K.size
  refine Ops.m (qV.app rfl rfl zbv (qXc) rfl jd ho hr5 (by simp; rfl) jo jo) rfl ?_
  rintro _ w6 ⟨B6, d6, rfl, ho6, hf6, hob6⟩
  rw [← hsnZ, ← hsn] at ho6
  refine ja rfl (jO ?_)
  refine qH (jN ?_)
  refine jv4 3 9 10 11 ?_
  refine jR (jb rfl rfl (Bin.add_i64 _ 1 jo) (jm rfl (jO ?_)))
  refine jN ⟨(i + 1, B6, d6), (js4 rfl rfl rfl rfl), ?_, ?_⟩
  · exact ⟨hc1, ho6, K.own hf6 hup, (Fk.of_app hf6 hob6).up hup ks⟩
  exact jq
 refine jX ?_
 refine qZ (qZ (qN ?_))
 refine jN (jv1 3 ?_)
 refine jS (jR (jm rfl (ja rfl (jO (jN (jv1 2 ?_))))))
 refine jT ?_
 refine qS rfl ?_
 obtain rfl : i = H.pairs.length := jo
 rw [zbw] at ho
 exact ⟨B, d, rfl, ho, K, hup⟩
theorem sL (h g : Nat) (F : List Nat) (H : Hm) (q : HtQ) (w : World) (hH : IsHt w h g F H q) : Calls Tryz.prog 51 #[jI0 h] w fun e w' => e = .returned (jI1 (H.N - dW H.N H.used)) ∧ Frm [] w w' := by
 have hbg := hH.ok.big
 have hcl := oW H.N H.used
 have hNe : H.N = H.dk.has.length - 42 := rfl
 refine jV Tryz.func51 Tryz.ntmps51 Tryz.results51 ?_
 refine jS (jR (jz 0 (jO (jN (jv1 0 ?_)))))
 refine jS ?_
 refine VC.held (fun V => Frm [] w V) jK ?_
 have hS : Frm [] w w.drew := (Frm.refl _ _).drew
 refine jh 0 hS ?_
 refine jh 2 hS ?_
 refine jH 3 rfl hS (fun w0 hw0 => Run.nilck rfl) ?_
 refine jH 4 rfl hS (fun w0 hw0 => Run.fieldAddr rfl zaj rfl zw jd) ?_
 refine jH 5 rfl hS (fun w0 hw0 => Run.loadA rfl zbb zw ((hH.frm hw0).blk.sub 4 (spV H.N q.sB q.sc).toList rfl) (by first | rfl | (simp; done))) ?_
 refine qJ.cl 1 rfl jK (jE1 zgl) (kC h g F H q w.drew (hH.frm hS)) trivial rfl rfl ?_
 rintro e _ ⟨rfl, rfl⟩
 refine ⟨_, rfl, hS, ?_⟩
 refine qJ.cl 6 rfl jK (jE1 Tryz.call99) (vC H.N q.sc q.sB H.used w.drew jo (hH.frm hS).us.1) trivial rfl rfl ?_
 rintro e w2 ⟨rfl, hf2⟩
 have hS := hS.trans hf2 jp
 refine ⟨_, rfl, hS, ?_⟩
 refine jH 7 rfl hS (fun w0 hw0 => Run.bin rfl rfl (Bin.sub_i64 _ _ jo jo)) ?_
 refine jH 8 rfl hS (fun w0 hw0 => Run.asg rfl) ?_
 refine qJ.done jK ?_
 refine jN (jv1 2 ?_)
 refine jT ?_
 refine qS rfl ?_
 exact ⟨rfl, hS⟩
theorem sO (h g : Nat) (F : List Nat) (H : Hm) (q : HtQ) (w : World) (hH : IsHt w h g F H q) : Calls Tryz.prog 9 #[jI0 h] w fun e w' => ∃ B d, e = .returned (.slice B ((List.range H.N).filter H.used).length d) ∧ Own w' 3 1 B ((List.range H.N).filter H.used).length d (ZN ((List.range H.N).filter H.used)) ∧ Frm [] w w' ∧ ∀ x ∈ ob B, w.heap.size ≤ x := by
 have hbg := hH.ok.big
 have hNe : H.N = H.dk.has.length - 42 := rfl
 have K0 := Frm.refl [] w
 refine jV Tryz.func9 Tryz.ntmps9 Tryz.results9 ?_
 refine jS (jR (ja rfl (jO (jN (jv1 0 ?_)))))
 refine jS (jR (ja rfl (jO (jN (jS (jS (jR (jM ?_))))))))
 refine jc0 (jE1 zgl) (kC h g F H q w hH) ?_
 refine jx .i64 0 ?_
 refine jO (jN (jv4 0 3 6 7 ?_))
 refine jB ?_
 refine VC.loop (σ := Nat × Option Addr × Nat) (fun s => [(0, jI0 h), (3, .slice s.2.1 ((List.range s.1).filter H.used).length s.2.2), (6, jI1 H.N), (7, jI1 s.1)]) (fun s wr => s.1 ≤ H.N ∧ Own wr 3 1 s.2.1 ((List.range s.1).filter H.used).length s.2.2 (ZN ((List.range s.1).filter H.used)) ∧ Frm [] w wr ∧ ∀ x ∈ ob s.2.1, w.heap.size ≤ x) (fun s => H.N - s.1) (0, none, 0) (js4 rfl rfl rfl rfl) ⟨zj _, Own.nil _ _ _, K0, by simp [ob]⟩ ?_
 rintro ⟨i, B, d⟩ wr ⟨hi, ho, K, hup⟩
 dsimp only at hi ho hup ⊢
 have hHr := hH.frm K
 have hfl : ((List.range i).filter H.used).length ≤ i := by have := zcu H.used (List.range i); rwa [zdd] at this
 refine jS (jR (jb rfl rfl (Bin.lssN _ _) (jO (jN (jS ?_)))))
 refine jD rfl (fun hc1 => ?_) fun hc1 => ?_
 ·
  refine jQ (jN (jv4 0 3 6 7 ?_))
  refine jS (jB (jS (jR (jm rfl (ja rfl (jO (jN (jv5 0 3 4 6 7 ?_))))))))
  refine jS (jR (jm rfl (jZ rfl (jf rfl zaj rfl zw (je (Run.loadA rfl zbb zw (hHr.blk.sub 4 (spV H.N q.sB q.sc).toList rfl) (by first | rfl | (simp; done))) (jM ?_))))))
  refine jc (jE2 Tryz.call40) (qVa H.N q.sc i q.sB H.used wr jo hHr.us.1 hc1) ?_
  rintro e w2 ⟨rfl, hf2⟩
  refine ⟨_, rfl, ?_⟩
  have ho := ho.frm hf2 jp
  have K := K.trans hf2 jp
  have hsn : (List.range (i + 1)).filter H.used = (List.range i).filter H.used ++ (if H.used i then [i] else []) := by
   rw [zda, zcy]
   congr 1
   by_cases h : H.used i <;> simp [h]
  refine jO (jN (jv6 0 3 4 6 7 15 ?_))
  refine VC.condB rfl (fun hc2 => ?_) (fun hc2 => ?_)
  ·
   rw [if_pos hc2] at hsn
   refine jR (jm rfl (jM ?_))
   refine Ops.m (qV.buildS1 rfl zn zm pG jd jd rfl rfl) rfl ?_
   rintro _ w5 ⟨rfl, hF5⟩
   have hr5 : Rd w5 1 (some ⟨w2.heap.size, 0, none⟩) 1 [jI1 i] := Rd.of_blk (n := 1) (size := 1) hF5.blk rfl
   have ho := ho.frm hF5.frm jp
   have K := K.trans hF5.frm jp
   have ks := K.size
   refine Ops.m (qV.app rfl rfl zn (pH) rfl jd ho hr5 (by simp; rfl) jo jo) rfl ?_
   rintro _ w6 ⟨B6, d6, rfl, ho6, hf6, hob6⟩
   rw [← qJ3, ← hsn] at ho6
   have hln : ((List.range i).filter H.used).length + 1 = ((List.range (i + 1)).filter H.used).length := by rw [hsn, zf]; rfl
   rw [hln] at ho6
   refine ja rfl (jO ?_)
   refine qH (jN ?_)
   refine jv4 0 3 6 7 ?_
   refine jR (jb rfl rfl (Bin.add_i64 _ 1 jo) (jm rfl (jO ?_)))
   refine jN ⟨(i + 1, B6, d6), (js4 rfl (by rw [← hln]; rfl) rfl rfl), ?_, ?_⟩
   · exact ⟨hc1, ho6, K.own hf6 hup, (Fk.of_app hf6 hob6).up hup ks⟩
   exact jq
  rw [if_neg (by simp [hc2]), zav] at hsn
  refine jQ ?_
  refine qH (jN ?_)
  refine jv4 0 3 6 7 ?_
  refine jR (jb rfl rfl (Bin.add_i64 _ 1 jo) (jm rfl (jO ?_)))
  refine jN ⟨(i + 1, B, d), (js4 rfl (by rw [hsn]; rfl) rfl rfl), ?_, ?_⟩
  · exact ⟨hc1, by dsimp only; rw [hsn]; exact ho, K, hup⟩
  exact jq
 refine jX ?_
 refine qZ (qZ (qN ?_))
 refine jN (jv1 3 ?_)
 refine jS (jR (jm rfl (ja rfl (jO (jN (jv1 2 ?_))))))
 refine jT ?_
 refine qS rfl ?_
 obtain rfl : i = H.N := jo
 exact ⟨B, d, rfl, ho, K, hup⟩
theorem mZ (N : Nat) : ∀ (a b : List Nat) (U : Nat → Bool), bN N U (a ++ b) = (bN N U a).bind fun V => bN N V b
 | [], b, U => rfl
 | p :: r, b, U => by
  rw [zcx, bN, bN]
  split
  · exact mZ N r b _
  rfl
structure Dw where
 puts : List Pu
 pairs : List Pr
 free : List Nat
 lies : Nat → List Nat
def bV (x : Dw) (c : Ch) : Dw :=
 if c.2.2 then { x with pairs := cX x.pairs c.1 ++ bU x.pairs c.1 }
 else { puts := x.puts ++ dN c.2.1 (x.free.take (qI c.2.1.length)), pairs := cX x.pairs c.1 ++ cE c.1 c.2.1 (x.free.take (qI c.2.1.length)) :: bU x.pairs c.1, free := x.free.drop (qI c.2.1.length), lies := fun y => if y = c.1 then x.free.take (qI c.2.1.length) else x.lies y }
def qO (H : Hm) (l : List Ch) (fr : List Nat) : Dw := l.foldl bV ⟨[], H.pairs, fr, H.lies⟩
theorem uR (H : Hm) (l : List Ch) (c : Ch) (fr : List Nat) : qO H (l ++ [c]) fr = bV (qO H l fr) c := by unfold qO; rw [zfx]; rfl
def sumN (l : List Ch) : Nat := (l.map fun c => qI c.2.1.length).sum
theorem pF (l : List Ch) (c : Ch) : sumN (l ++ [c]) = sumN l + qI c.2.1.length := by simp [sumN]
theorem qKe {l : List Pr} (h : Srt l) (id : Nat) : Srt (cX l id ++ bU l id) := List.pairwise_append.2 ⟨h.sublist zer, h.sublist zer, fun a ha b hb => by
 have h1 := (List.mem_filter.1 ha).2
 have h2 := (List.mem_filter.1 hb).2
 simp at h1 h2
 omega⟩
theorem qKf {l : List Pr} (h : Srt l) (id v : Nat) : Srt (cX l id ++ (id, v) :: bU l id) := List.pairwise_append.2 ⟨h.sublist zer, List.pairwise_cons.2 ⟨fun b hb => by
 have h2 := (List.mem_filter.1 hb).2
 simpa using h2, h.sublist zer⟩, fun a ha b hb => by
 have h1 := (List.mem_filter.1 ha).2
 simp at h1
 rcases zaq.1 hb with rfl | hb
 · exact h1
 have h2 := (List.mem_filter.1 hb).2
 simp at h2
 omega⟩
theorem tQ {x : Dw} (h : Srt x.pairs) (c : Ch) : Srt (bV x c).pairs := by
 unfold bV
 split
 · exact qKe h _
 exact qKf h _ _
theorem zJ {H : Hm} (h : Srt H.pairs) (l : List Ch) (fr : List Nat) : Srt (qO H l fr).pairs := by
 unfold qO
 generalize hx : (⟨[], H.pairs, fr, H.lies⟩ : Dw) = x
 have h1 : Srt x.pairs := by rw [← hx]; exact h
 clear hx
 induction l generalizing x with
 | nil => exact h1
 | cons c r ih => exact ih _ (tQ h1 c)
theorem qGp (x : Dw) (c : Ch) (y : Nat) : y ∈ (bV x c).pairs.map (·.1) ↔ (y ≠ c.1 ∧ y ∈ x.pairs.map (·.1)) ∨ (y = c.1 ∧ c.2.2 = false) := by
 have hl : ∀ (f : Pr → Bool), y ∈ (x.pairs.filter f).map (·.1) ↔ ∃ v, (y, v) ∈ x.pairs ∧ f (y, v) = true := fun f => by
  simp only [List.mem_map, List.mem_filter]
  constructor
  ·
   rintro ⟨⟨a, b⟩, h1, rfl⟩
   exact ⟨b, h1⟩
  rintro ⟨v, h1⟩
  exact ⟨(y, v), h1, rfl⟩
 have hx : y ∈ x.pairs.map (·.1) ↔ ∃ v, (y, v) ∈ x.pairs := by
  simp only [List.mem_map]
  constructor
  ·
   rintro ⟨⟨a, b⟩, h1, rfl⟩
   exact ⟨b, h1⟩
  rintro ⟨v, h1⟩
  exact ⟨(y, v), h1, rfl⟩
 unfold bV cX bU
 split
 ·
  next hg =>
  rw [zv, zcp, hl, hl, hx]
  simp only [decide_eq_true_eq, hg]
  constructor
  ·
   rintro (⟨v, h1, h2⟩ | ⟨v, h1, h2⟩)
   · exact .inl ⟨jo, v, h1⟩
   exact .inl ⟨jo, v, h1⟩
  rintro (⟨h1, v, h2⟩ | ⟨_, h⟩)
  ·
   rcases zfs h1 with h | h
   · exact .inl ⟨v, h2, h⟩
   exact .inr ⟨v, h2, h⟩
  cases h
 next hg =>
 dsimp only
 rw [zv, zbo, zcp, zaq, hl, hl, hx]
 simp only [decide_eq_true_eq, cE]
 constructor
 ·
  rintro (⟨v, h1, h2⟩ | h | ⟨v, h1, h2⟩)
  · exact .inl ⟨jo, v, h1⟩
  · exact .inr ⟨h, by simpa using hg⟩
  exact .inl ⟨jo, v, h1⟩
 rintro (⟨h1, v, h2⟩ | ⟨h, _⟩)
 ·
  rcases zfs h1 with h | h
  · exact .inl ⟨v, h2, h⟩
  exact .inr (.inr ⟨v, h2, h⟩)
 exact .inr (.inl h)
theorem qH0 (H : Hm) (l : List Ch) (fr : List Nat) {y : Nat} (h : y ∉ l.map (·.1)) : y ∈ (qO H l fr).pairs.map (·.1) ↔ y ∈ H.pairs.map (·.1) := by
 unfold qO
 generalize hx : (⟨[], H.pairs, fr, H.lies⟩ : Dw) = x
 have h1 : y ∈ x.pairs.map (·.1) ↔ y ∈ H.pairs.map (·.1) := by rw [← hx]
 clear hx
 induction l generalizing x with
 | nil => exact h1
 | cons c r ih =>
  simp only [zbo, zaq, not_or] at h
  refine ih h.2 _ ?_
  rw [qGp, ← h1]
  constructor
  ·
   rintro (⟨_, h2⟩ | ⟨h2, _⟩)
   · exact h2
   exact absurd h2 h.1
  exact fun h2 => .inl ⟨h.1, h2⟩
theorem qZc {x : Dw} (h : Srt x.pairs) (c : Ch) : (bV x c).pairs.length + (if c.1 ∈ x.pairs.map (·.1) then 1 else 0) = x.pairs.length + (if c.2.2 = true then 0 else 1) := by
 have hs := congrArg List.length (jJ h c.1)
 rw [zf, zf] at hs
 have he := qWq h c.1
 have hi := zQ (l := x.pairs) c.1
 have hq : (eqP x.pairs c.1).length = if c.1 ∈ x.pairs.map (·.1) then 1 else 0 := by
  split
  ·
   next h1 =>
   have := List.length_pos_iff.2 (hi.1 h1)
   omega
  next h1 =>
  have : eqP x.pairs c.1 = [] := Classical.not_not.1 fun h => h1 (hi.2 h)
  rw [this]; rfl
 unfold bV
 split <;> simp only [zf, zad] <;> omega
theorem zK (H : Hm) (hs : Srt H.pairs) (l : List Ch) (c : Ch) (fr : List Nat) (h : c.1 ∉ l.map (·.1)) :
  (c.1 ∈ H.pairs.map (·.1) → c.2.2 = true → (qO H (l ++ [c]) fr).pairs.length + 1 = (qO H l fr).pairs.length) ∧ (c.1 ∈ H.pairs.map (·.1) → c.2.2 = false → (qO H (l ++ [c]) fr).pairs.length = (qO H l fr).pairs.length) ∧
   (c.1 ∉ H.pairs.map (·.1) → c.2.2 = false → (qO H (l ++ [c]) fr).pairs.length = (qO H l fr).pairs.length + 1) ∧ (qO H (l ++ [c]) fr).pairs.length ≤ (qO H l fr).pairs.length + 1 := by
 have h1 := qZc (zJ hs l fr) c
 have h2 := qH0 H l fr h
 rw [← uR] at h1
 refine ⟨fun a b => ?_, fun a b => ?_, fun a b => ?_, ?_⟩
 · rw [if_pos (h2.2 a), if_pos b] at h1; omega
 · rw [if_pos (h2.2 a), if_neg (by simp [b])] at h1; omega
 · rw [if_neg (fun e => a (h2.1 e)), if_neg (by simp [b])] at h1; omega
 split at h1 <;> split at h1 <;> omega
theorem qZd (n : Nat) (w : World) (hn : 600 < n) (hb : n ≤ 1000000) : Calls Tryz.prog 98 #[jI1 n] w fun e w' => e = .returned (jI1 0) ∧ w = w' := by
 refine jV Tryz.func98 Tryz.ntmps98 Tryz.results98 ?_
 refine jS (jR (jz 0 (jO (jN (jv1 0 ?_)))))
 refine jS (jS ?_)
 refine VC.split1 [(0, _)] (js1 rfl) 10 (.bool (decide (True))) ?_ ?_
 ·
  refine jR ?_
  refine jm rfl (jb rfl rfl (Bin.lssN _ 0) ?_)
  by_cases hs6 : n < 0
  ·
   refine jM ?_
   refine jU ?_
   refine jU ?_
   refine jW rfl rfl au (jO ?_)
   refine jN ⟨(js2 (jC (by first | (simp; done) | (simp; omega))) rfl), rfl⟩
  refine jM ?_
  refine jG ?_
  refine jk (Run.bin rfl rfl (Bin.gtrN _ 600)) ?_
  by_cases hs9 : 600 < n
  ·
   refine jF rfl rfl au (jO ?_)
   refine jN ⟨(js2 (jC (by first | (simp; done) | (simp; omega))) rfl), rfl⟩
  refine jF rfl rfl au (jO ?_)
  refine jN ⟨(js2 (jC (by first | (simp; done) | (simp; omega))) rfl), rfl⟩
 intro Γ hΓ
 refine jN (VC.sub _ hΓ ?_)
 refine VC.condT rfl jp ?_
 refine jS (jR (jz 0 (jO (jN (jv1 2 ?_)))))
 refine jT ?_
 refine qQ (qS rfl ?_)
 exact ⟨rfl, rfl⟩
def eJ (n : Nat) : Nat := if n ≤ 600 then cK n else 0
theorem qZe (n : Nat) (w : World) (hb : n ≤ 1000000) : Calls Tryz.prog 98 #[jI1 n] w fun e w' => e = .returned (jI1 (eJ n)) ∧ w = w' := by
 unfold eJ
 split
 · next h => exact qJf n w h
 next h => exact qZd n w jo hb
theorem vV : ∀ n, ∀ lv, lv ≤ n → lF lv ≤ 2 * lv
 | 0, lv, h => by
  obtain rfl : lv = 0 := jo
  rw [lF, dif_pos jo]; omega
 | n + 1, lv, h => by
  rw [lF]
  split
  · omega
  next h1 =>
  have := vV n (bI lv 12) (by unfold bI; omega)
  have h2 : 2 * bI lv 12 ≤ lv := by unfold bI; omega
  omega
theorem pI (n : Nat) : eJ n ≤ 172 := by
 unfold eJ
 split
 ·
  next h =>
  have := vV _ (bI n 7) (zag _)
  have h2 : bI n 7 ≤ 86 := by unfold bI; omega
  unfold cK
  omega
 omega
theorem sJ (l : List Cq) (h : ∀ x ∈ l, x.2.1.2.2.length ≤ 1000000) : sumN (chL l) ≤ 10000 * l.length := by
 induction l with
 | nil => simp [sumN, chL]
 | cons a r ih =>
  have h1 := ih fun x hx => h x (zdg _ hx)
  have h2 := h a jp
  simp only [sumN, chL, zbo, List.sum_cons, zad, chO] at h1 ⊢
  have : qI a.2.1.2.2.length ≤ 10000 := by unfold qI; omega
  omega
theorem oA (l : List Cq) (i : Nat) : chL (l.take i) = (chL l).take i := by rw [chL, zdn]; rfl
theorem qVh {l : List Cq} {i : Nat} (h : i < l.length) (hm : cV (chL l)) : (l.getD i cq0).1 ∉ (chL (l.take i)).map (·.1) := by
 have h1 := uM hm (i + 1)
 rw [← oA, gH h] at h1
 exact ((uH _ _).1 h1).2.1
theorem qJl (S : Option Addr) (n c : Nat) (l : List Cq) (fr : List Nat) (h g : Nat) (F : List Nat) (H : Hm) (q : HtQ) (w : World) (hH : IsHt w h g F H q) (hn : n ≤ 1000) (hr : RdC w S n l) (hm : cV (chL l)) (hg : ∀ x ∈ chL l, x.2.2 = true → x.1 ∈ H.pairs.map (·.1)) :
  Calls Tryz.prog 43 #[jI0 h, .slice S n c] w fun e w' => e = .returned (.tuple #[jI1 (sumN (chL l) + eJ (qO H (chL l) fr).pairs.length), jI1 ((qO H (chL l) fr).pairs.length)]) ∧ Frm [] w w' := by
 have h600 := hH.ok.n600
 have hln := hr.len
 have K0 := Frm.refl [] w
 have hd := qP.drew w
 refine jV Tryz.func43 Tryz.ntmps43 Tryz.results43 ?_
 refine jS (jR (jz 0 (jz 0 (jO (jN (jv2 0 1 ?_))))))
 refine jS ?_
 refine VC.held (fun V => Frm [] w V) jK ?_
 have hS : Frm [] w w.drew := (Frm.refl _ _).drew
 refine jh 0 hS ?_
 refine jH 1 rfl hS (fun w0 hw0 => Run.nilck rfl) ?_
 refine jH 2 rfl hS (fun w0 hw0 => Run.fieldAddr rfl zaj rfl zbk jd) ?_
 refine jH 3 rfl hS (fun w0 hw0 => Run.load rfl zci ((hH.frm hw0).blk.cell 1)) ?_
 refine jH 4 rfl hS (fun w0 hw0 => Run.lenS rfl zl) ?_
 refine qJ.take (v := jI1 0) 5 rfl jK jK jK hS (fun w0 hw0 => Run.asg rfl) trivial rfl rfl ?_
 refine jH 6 rfl hS (fun w0 hw0 => Run.asg rfl) ?_
 refine qJ.done jK ?_
 refine jN (jv4 0 1 6 7 ?_)
 refine jS (jS (jR (jm rfl (jL rfl zap ?_))))
 refine jx .i64 0 ?_
 refine jO (jN (jv6 0 6 7 17 18 19 ?_))
 refine jB ?_
 refine VC.loop (σ := Nat) (fun s => [(0, jI0 h), (6, jI1 (sumN (chL (l.take s)))), (7, jI1 ((qO H (chL (l.take s)) fr).pairs.length)), (17, .slice S n c), (18, jI1 n), (19, jI1 s)]) (fun s wr => s ≤ n ∧ Frm [] w wr ∧ (qO H (chL (l.take s)) fr).pairs.length ≤ 600 + s) (fun s => n - s) 0 (js6 rfl rfl rfl rfl rfl rfl) ⟨zj _, hd.frm, h600⟩ ?_
 rintro i wr ⟨hi, K, hpl⟩
 refine jS (jR (jb rfl rfl (Bin.lssN _ _) (jO (jN (jS ?_)))))
 refine jD rfl (fun hc1 => ?_) fun hc1 => ?_
 ·
  obtain ⟨ad, hS, hel⟩ := (hr.frm K).cell hc1
  subst hS
  have hmem := nN (jo : i < l.length)
  have hxn := hr.num _ hmem
  have hsnc := gH (jo : i < l.length)
  have hsn := pF (chL (l.take i)) (chO (l.getD i cq0))
  rw [← hsnc] at hsn
  have hsl := zK H hH.ok.srt (chL (l.take i)) (chO (l.getD i cq0)) fr (qVh (jo : i < l.length) hm)
  rw [← hsnc] at hsl
  have hgx := hg _ (List.mem_map.2 ⟨_, hmem, rfl⟩)
  have hsb := sJ (l.take i) (fun x hx => (hr.num x (zo hx)).2)
  rw [zk] at hsb
  have hmi := zhb i l.length
  generalize l.getD i cq0 = x at hel hxn hsn hsl hgx hsnc
  obtain ⟨xa, ⟨xA, xc, xb⟩, xg⟩ := x
  dsimp only [chO] at hsn hxn hsl hgx
  obtain ⟨hl1, hl2, hl3, hl4⟩ := hsl
  refine jQ (jN (jv6 0 6 7 17 18 19 ?_))
  refine jS (jB (jS (jR (je (Run.indexS _ rfl rfl zap zbi jo) (je (Run.loadA rfl zhi zbi hel (by first | rfl | (simp; done))) ?_)))))
  refine Ops.m (qV.alloc gC) rfl ?_
  rintro _ w2 ⟨rfl, hF2⟩
  refine Ops.st (qT.storeA rfl rfl zbi hF2.blk rfl (oG (xa, (xA, xc, xb), xg))) ?_
  rintro w3 ⟨hb3, hf3, hs3⟩
  have hb3 : Blk w3 wr.heap.size 93 #[jI2 xa, .slice xA xb.length xc, .bool xg] := hb3
  have K3 : Frm [] wr w3 := hF2.frm.own hf3 jp
  have K := K.trans K3 jp
  have hH3 := hH.frm K
  refine jO (jN (jv7 0 6 7 9 17 18 19 ?_))
  refine jS ?_
  refine VC.held (fun V => Frm [] w3 V) jK ?_
  have hS : Frm [] w3 w3.drew := (Frm.refl _ _).drew
  refine jh 0 hS ?_
  refine jH 1 rfl hS (fun w0 hw0 => Run.nilck rfl) ?_
  refine jH 2 rfl hS (fun w0 hw0 => Run.fieldAddr rfl zaj rfl zbk jd) ?_
  refine jH 3 rfl hS (fun w0 hw0 => Run.load rfl zci ((hH3.frm hw0).blk.cell 1)) ?_
  refine jH 4 rfl hS (fun w0 hw0 => Run.fieldAddr rfl zak rfl zy jd) ?_
  refine jH 5 rfl hS (fun w0 hw0 => Run.load rfl zai ((hb3.frm hw0 jp).cell 0)) ?_
  refine qJ.cl 6 rfl jK (jE2 Tryz.call42) (mX _ _ xa _ H.pairs _ rfl jo (hH3.frm hS).pr.1 hH.ok.okp hH.ok.srt hxn.1) trivial rfl rfl ?_
  rintro e w4 ⟨rfl, hf4⟩
  have hS := hS.trans hf4 jp
  refine ⟨_, rfl, hS, ?_⟩
  have hb4 := hb3.frm hS jp
  have K := K.trans hS jp
  refine jh 7 hS ?_
  refine jH 8 rfl hS (fun w0 hw0 => Run.extract rfl rfl) ?_
  refine jH 9 rfl hS (fun w0 hw0 => Run.extract rfl rfl) ?_
  refine jH 10 rfl hS (fun w0 hw0 => Run.asg rfl) ?_
  refine jH 11 rfl hS (fun w0 hw0 => Run.asg rfl) ?_
  refine qJ.done jK ?_
  refine jN (jv8 0 6 7 9 11 17 18 19 ?_)
  refine jS (jB (jS (jR (jf rfl zak rfl zat (jl rfl zcr (hb4.cell 2) (ja rfl (jO (jN (jv9 0 6 7 9 11 17 18 19 33 ?_)))))))))
  refine VC.meet (σ := Unit) (fun s => [(0, jI0 h), (6, jI1 (sumN (chL (l.take i)))), (7, jI1 ((qO H (chL (l.take (i + 1))) fr).pairs.length)), (9, jI0 wr.heap.size), (17, .slice (some ad) n c), (18, jI1 n), (19, jI1 i)]) (fun s wz => w4 = wz) ?_ ?_
  ·
   refine VC.condB rfl (fun hc2 => ?_) (fun hc2 => ?_)
   ·
    have hsl := hl1 (hgx hc2) hc2
    refine jR (jm rfl (jb rfl rfl (Bin.sub_i64 _ 1 jo jo) (ja rfl (jO ?_))))
    refine jN ⟨(), (js7 rfl rfl (by rw [show (qO H (chL (l.take (i + 1))) fr).pairs.length = (qO H (chL (l.take i)) fr).pairs.length - 1 by omega]; rfl) rfl rfl rfl rfl), ?_⟩
    rfl
   refine jS (jR (jm rfl (je (Run.not rfl) (ja rfl (jO (jN (jv8 0 6 7 9 17 18 19 38 ?_)))))))
   refine VC.meet (σ := Unit) (fun s => [(0, jI0 h), (6, jI1 (sumN (chL (l.take i)))), (7, jI1 ((qO H (chL (l.take (i + 1))) fr).pairs.length)), (9, jI0 wr.heap.size), (17, .slice (some ad) n c), (18, jI1 n), (19, jI1 i)]) (fun s wz => w4 = wz) ?_ ?_
   ·
    refine VC.condB rfl (fun hc3 => ?_) (fun hc3 => ?_)
    ·
     have hc3 : xa ∉ H.pairs.map (·.1) := fun h => by rw [decide_eq_true h] at hc3; cases hc3
     have hsl := hl3 hc3 hc2
     refine jR (jm rfl (jb rfl rfl (Bin.add_i64 _ 1 jo) (ja rfl (jO ?_))))
     refine jN ⟨(), (js7 rfl rfl (by rw [show (qO H (chL (l.take (i + 1))) fr).pairs.length = (qO H (chL (l.take i)) fr).pairs.length + 1 by omega]; rfl) rfl rfl rfl rfl), ?_⟩
     rfl
    have hc3 : xa ∈ H.pairs.map (·.1) := Classical.byContradiction fun h => by rw [decide_eq_false h] at hc3; cases hc3
    have hsl := hl2 hc3 hc2
    refine jQ ?_
    refine jN ⟨(), (js7 rfl rfl (by rw [show (qO H (chL (l.take (i + 1))) fr).pairs.length = (qO H (chL (l.take i)) fr).pairs.length by omega]; rfl) rfl rfl rfl rfl), ?_⟩
    rfl
   rintro _ _ rfl Γ hΓ
   refine jN ⟨(), (js7 (hΓ.get _ _ rfl) (hΓ.get _ _ rfl) (hΓ.get _ _ rfl) (hΓ.get _ _ rfl) (hΓ.get _ _ rfl) (hΓ.get _ _ rfl) (hΓ.get _ _ rfl)), ?_⟩
   rfl
  rintro _ _ rfl Γ hΓ
  refine qH (jN (VC.sub _ hΓ ?_))
  refine jR (jm rfl (jf rfl zak rfl zah (jl rfl zba (hb4.cell 1) (jL rfl zg ?_))))
  refine jc0 (jE1 Tryz.call97) (rH xb.length _ jo) ?_
  have hnd : qI xb.length ≤ 10000 := by unfold qI; omega
  refine jb rfl rfl (Bin.add_i64 _ _ jo) (ja rfl (jO ?_))
  refine qH (jN ?_)
  refine jv6 0 6 7 17 18 19 ?_
  refine jR (jb rfl rfl (Bin.add_i64 _ 1 jo) (jm rfl (jO ?_)))
  refine jN ⟨i + 1, (js6 rfl (by rw [hsn]; rfl) rfl rfl rfl rfl), ?_, ?_⟩
  · exact ⟨hc1, K, jo⟩
  exact jq
 refine jX ?_
 refine qZ (qZ (qN ?_))
 refine jN (jv2 6 7 ?_)
 refine jS (jR (jm rfl (jM ?_)))
 refine jc0 (jE1 Tryz.call98) (qZe _ _ jo) ?_
 obtain rfl : i = n := jo
 rw [show l.take i = l from zh jo]
 have hsb := sJ l (fun x hx => (hr.num x hx).2)
 have hpt := pI (qO H (chL l) fr).pairs.length
 refine jb rfl rfl (Bin.add_i64 _ _ jo) (jm rfl (ja rfl (ja rfl (jO (jN (jv2 4 5 ?_))))))
 refine jT ?_
 refine bX rfl rfl ?_
 exact ⟨rfl, K⟩
structure IsHc (w : World) (h g : Nat) (F : List Nat) (H : Hm) (q : HtQ) (u1 u2 : Value) : Prop where
 ok : H.ok
 dk : IsDk w g F H.dk
 hF : h ∉ F
 blk : Blk w h 91 #[jI0 g, .slice q.pA H.pairs.length q.pc, .slice q.dA H.dir.length q.dc, .map (some q.l), u1, u2]
 pr : RdX w (h :: F) 2 q.pA H.pairs.length (PC2 H.pairs)
 pcap : H.pairs.length ≤ q.pc
 dr : RdX w (h :: F) 1 q.dA H.dir.length (ZN H.dir)
 mp : MpU w q.l q.ly
 ml : q.l ∉ h :: F
 ly : ∀ id x, q.ly id = some x → RdX w (h :: F) 1 x.1 x.2.2.length (ZN x.2.2) ∧ id < 18446744073709551616
 lyH : ∀ x ∈ H.pairs, ∃ r, q.ly x.1 = some r ∧ r.2.2 = H.lies x.1
theorem IsHc.frm {w w' : World} {h g : Nat} {F : List Nat} {H : Hm} {q : HtQ} {u1 u2 : Value} (a : IsHc w h g F H q u1 u2) (k : Frm [] w w') : IsHc w' h g F H q u1 u2 :=
 ⟨a.ok, a.dk.frm k jp, a.hF, a.blk.frm k jp, a.pr.frm k, a.pcap, a.dr.frm k, a.mp.frm k jp, a.ml, fun id x hx => ⟨(a.ly id x hx).1.frm k, (a.ly id x hx).2⟩, a.lyH⟩
theorem IsHt.hc {w : World} {h g : Nat} {F : List Nat} {H : Hm} {q : HtQ} (a : IsHt w h g F H q) : IsHc w h g F H q (jI1 H.N) (.slice q.sB ((H.N + 7) / 8) q.sc) := ⟨a.ok, a.dk, a.hF, a.blk, a.pr, a.pcap, a.dr, a.mp, a.ml, a.ly, a.lyH⟩
def cF (H : Hm) (l : List Pr) : List Nat := l.flatMap fun x => H.lies x.1
def bH (H : Hm) : List Nat := H.dir ++ cF H H.pairs
theorem qZf {N : Nat} {a b : List Nat} {U V : Nat → Bool} (h : bN N U (a ++ b) = some V) : ∃ W, bN N U a = some W := by
 rw [mZ] at h
 cases hm : bN N U a with
 | none => rw [hm] at h; cases h
 | some W => exact ⟨W, rfl⟩
theorem yJ (H : Hm) {l : List Pr} {i : Nat} (h : i < l.length) : cF H (l.take (i + 1)) = cF H (l.take i) ++ H.lies (l.getD i (0, 0)).1 := by
 rw [sX h, cF, zan]
 simp [cF]
theorem qWx (H : Hm) (l : List Pr) (i : Nat) : ∃ r, cF H l = cF H (l.take i) ++ r := ⟨cF H (l.drop i), by rw [cF, cF, cF, ← zan, zbq]⟩
theorem uS (U : Nat → Bool) (u1 u2 : Value) (h g : Nat) (F : List Nat) (H : Hm) (q : HtQ) (w : World) (hH : IsHc w h g F H q u1 u2) (hm : bN H.N (fun _ => false) (bH H) = some U) : Calls Tryz.prog 47 #[jI0 h] w fun e w' => ∃ B c, e = .returned (.tuple #[.agg (spV H.N B c), .bool true]) ∧ RdS w' B H.N U ∧ Frm [] w w' ∧ ∀ x ∈ ob B, w.heap.size ≤ x := by
 have h600 := hH.ok.n600
 have hd59 := hH.ok.d59
 have hbg := hH.ok.big
 have hsz := hH.ok.sz
 have hNe : H.N = H.dk.has.length - 42 := rfl
 refine jV Tryz.func47 Tryz.ntmps47 Tryz.results47 ?_
 refine jS (jR ?_)
 refine Ops.m (qV.alloc fX) rfl ?_
 rintro _ w1 ⟨rfl, hF1⟩
 have hb2 := hF1.blk
 have K := hF1.frm
 generalize hg2 : w.heap.size = g2 at *
 refine ja rfl (jO (jN (jv2 0 2 ?_)))
 refine jS (jR (jm rfl (jZ rfl (jf rfl zaj rfl zeu (jl rfl zfh ((hH.frm K).blk.cell 0) ?_)))))
 refine jc0 (jE1 zfe) (dU g F _ w1 (hH.frm K).dk) ?_
 refine jb rfl rfl (Bin.sub_i64 _ 42 jo jo) ?_
 refine jc (jE1 Tryz.call37) (pU H.N w1 jo) ?_
 rintro e w2 ⟨B1, c1, rfl, hr1, hf2, hup2⟩
 refine ⟨_, rfl, ?_⟩
 have ks1 := hF1.size
 have hb2 := hb2.frm hf2 jp
 have K := K.trans hf2 jp
 refine jm rfl (jY rfl rfl (jY rfl rfl ?_))
 refine Ops.m (qV.alloc fX) rfl ?_
 rintro _ w3 ⟨rfl, hF3⟩
 have ks3 := K.size
 have hr10 := hr1
 have hr1 := hr1.frm hF3.frm jp
 have hb2 := hb2.frm hF3.frm jp
 have K := K.trans hF3.frm jp
 have hlt2 := hb2.lt
 refine Ops.st (qT.storeA rfl rfl zw hF3.blk rfl (dO H.N B1 c1)) ?_
 rintro w4 ⟨hb4, hf4, hs4⟩
 have ks := hf2.size
 have hne : g2 ≠ w2.heap.size := by have h2 := hF1.size; have h3 := hF1.blk.lt; omega
 generalize hg4 : w2.heap.size = g4 at *
 have hb4 : Blk w4 g4 85 (spV H.N B1 c1) := hb4
 have hb40 := hb4
 have K0 : Frm [] w4 w4 := Frm.refl _ _
 have hb2 := hb2.frm hf4 (by simpa using hne)
 have K := K.own hf4 (by simp; omega)
 have hr1l := hr1.lt (jo : 0 < (H.N + 7) / 8)
 have hB14 : ∀ x ∈ ob B1, x < g4 := fun x hx => by have := hr10.lt (jo : 0 < (H.N + 7) / 8) x hx; omega
 have hr1 : RdS w4 B1 H.N (fun _ => false) := hr1.frm hf4 (fun x hx h => by rw [za] at h; have := hB14 x hx; omega)
 have hH4 := hH.frm K
 obtain ⟨V0, hm0⟩ := qZf hm
 refine ja rfl (jO (jN (jv3 0 2 4 ?_)))
 refine jS ?_
 refine VC.held (fun _ => True) jK ?_
 refine jH 1 rfl trivial (fun w0 hw0 => Run.mv rfl) ?_
 refine jH 2 rfl trivial (fun w0 hw0 => Run.nilck rfl) ?_
 refine jH 3 rfl trivial (fun w0 hw0 => Run.fieldAddr rfl zaj rfl zax jd) ?_
 refine qJ.r2 0 4 rfl rfl jK jK jK jK trivial rfl rfl (Run.loadA rfl zbb zw ((hb4.drawn (qP.drew _)).cells) (by first | rfl | (simp; done))) (Run.load rfl zbx ((hH4.frm (qP.drew _).frm).blk.cell 2)) (Run.load rfl zbx ((hH4.frm (qP.drew _).frm).blk.cell 2)) (Run.loadA rfl zbb zw ((hb4.drawn (qP.drew _)).cells) (by first | rfl | (simp; done))) rfl rfl rfl rfl rfl ?_
 refine qJ.cl 5 rfl jK (jE2 zhe) (kN H.N c1 _ _ B1 _ (fun _ => false) H.dir _ jo (hr1.frm (qP.drew _).frm jp) rfl jo (hH4.frm (qP.drew _).frm).dr.1) trivial rfl rfl ?_
 rintro e w5 ⟨hf5, ho5⟩
 obtain ⟨V1, B2, c2, hmV, rfl, hr2, hup5⟩ := ho5.resolve_right (fun h => by rw [h.1] at hm0; cases hm0)
 rw [hm0] at hmV
 cases hmV
 refine ⟨_, rfl, trivial, ?_⟩
 have k5 : Frm [] w4 w5 := (qP.drew w4).frm.trans hf5 jp
 have hb4 := hb4.frm k5 jp
 have hb2 := hb2.frm k5 jp
 have hl4 := hb4.lt
 have h4w : w.heap.size ≤ g4 := jo
 have hg4l : g4 < w4.heap.size := (Array.getElem?_eq_some_iff.1 (show w4.heap[g4]? = _ from hb40)).1
 have K := K.trans k5 jp
 have kk5 := K.size
 refine jH 6 rfl trivial (fun w0 hw0 => Run.mv rfl) ?_
 refine jH 7 rfl trivial (fun w0 hw0 => Run.extract rfl rfl) ?_
 refine jH 8 rfl trivial (fun w0 hw0 => Run.extract rfl rfl) ?_
 refine qJ.st 9 rfl jK (qT.storeA rfl rfl zw hb4 rfl (dO H.N B2 c2)) trivial rfl ?_
 rintro w6 ⟨hb4, hf6, hs6⟩
 refine ⟨trivial, ?_⟩
 have hB24 : ∀ x ∈ ob B2, g4 < x := fun x hx => by have h := hup5 x hx; rw [show w4.drew.heap.size = w4.heap.size from rfl] at h; omega
 have hr2 : RdS w6 B2 H.N V0 := hr2.frm hf6 (fun x hx h => by rw [za] at h; have := hB24 x hx; omega)
 have hb2 := hb2.frm hf6 (by simpa using hne)
 have K := K.own hf6 (by simp; omega)
 have hH6 := hH.frm K
 have hb4 : Blk w6 g4 85 (spV H.N B2 c2) := hb4
 refine jH 10 rfl trivial (fun w0 hw0 => Run.asg rfl) ?_
 refine qJ.done jK ?_
 refine jN (jv4 0 2 4 6 ?_)
 refine jS (jS (jR (jm rfl (jZ rfl (jf rfl zaj rfl zbk (jl rfl zci (hH6.blk.cell 1) (jL rfl zl ?_)))))))
 refine jx .i64 0 ?_
 refine jO (jN (jv7 0 2 4 6 31 32 33 ?_))
 refine jB ?_
 refine VC.loop (σ := Nat × Option Addr × Nat × (Nat → Bool)) (fun s => [(0, jI0 h), (2, jI0 g2), (4, jI0 g4), (6, .int .i64 0), (31, .slice q.pA H.pairs.length q.pc), (32, jI1 H.pairs.length), (33, jI1 s.1)]) (fun s wr => s.1 ≤ H.pairs.length ∧ Blk wr g4 85 (spV H.N s.2.1 s.2.2.1) ∧ RdS wr s.2.1 H.N s.2.2.2 ∧ bN H.N (fun _ => false) (H.dir ++ cF H (H.pairs.take s.1)) = some s.2.2.2 ∧ Frm [] w wr ∧ (∃ z, Blk wr g2 85 z ∧ z.size = 2) ∧ ∀ x ∈ ob s.2.1, g4 < x) (fun s => H.pairs.length - s.1) (0, B2, c2, V0) (js7 rfl rfl rfl rfl rfl rfl rfl) ⟨zj _, hb4, hr2, by simpa [cF] using hm0, K, ⟨_, hb2, rfl⟩, hB24⟩ ?_
 rintro ⟨i, B, c, V⟩ wr ⟨hi, hb4, hr, hmi, K, ⟨z, hb2, hz⟩, hup⟩
 dsimp only at hi hb4 hr hmi hup ⊢
 refine jS (jR (jb rfl rfl (Bin.lssN _ _) (jO (jN (jS ?_)))))
 refine jD rfl (fun hc1 => ?_) fun hc1 => ?_
 ·
  have g4lt := hb4.lt
  obtain ⟨ad, hA, hel⟩ := gM (hH.pr.1.frm K jp) rfl hc1
  rw [hA]
  have hmem := fN hc1
  have hsn := yJ H hc1
  obtain ⟨rr, hrr⟩ := qWx H H.pairs (i + 1)
  have hokx := (hH.ok.okp _ hmem).1
  have hpg := (hH.ok.pg _ hmem).2.1
  obtain ⟨row, hrow, hrl⟩ := hH.lyH _ hmem
  generalize H.pairs.getD i (0, 0) = x at hel hsn hokx hpg hrow hrl
  obtain ⟨xk, xv⟩ := x
  obtain ⟨rA, rc, rp⟩ := row
  dsimp only at hsn hokx hpg hrow hrl
  subst hrl
  obtain ⟨Vn, hmn⟩ : ∃ Vn, bN H.N (fun _ => false) (H.dir ++ cF H (H.pairs.take (i + 1))) = some Vn := qZf (b := rr) (V := U) (by rw [zab, ← hrr]; exact hm)
  have hmm : bN H.N V (H.lies xk) = some Vn := by
   rw [hsn, ← zab, mZ, hmi] at hmn
   exact hmn
  refine jQ (jN (jv7 0 2 4 6 31 32 33 ?_))
  refine jS (jB (jS (jR (je (Run.indexS _ rfl rfl zl zu jo) (je (Run.loadA rfl zea zu hel (by first | rfl | (simp; done))) ?_)))))
  refine Ops.m (qV.alloc dL) rfl ?_
  rintro _ w2 ⟨rfl, hF2⟩
  refine Ops.st (qT.storeA rfl rfl zu hF2.blk rfl (eH (xk, xv))) ?_
  rintro w3 ⟨hb3, hf3, hs3⟩
  have hb3 : Blk w3 wr.heap.size 128 #[jI2 xk, jI2 xv] := hb3
  have K3 : Frm [] wr w3 := hF2.frm.own hf3 jp
  have K := K.trans K3 jp
  have hb4 := hb4.frm K3 jp
  have hb2 := hb2.frm K3 jp
  have hr := hr.frm K3 jp
  have hHr := hH.frm K
  have hg4w : w.heap.size ≤ g4 := h4w
  refine jO (jN (jv8 0 2 4 6 8 31 32 33 ?_))
  refine jS (jR (jm rfl (jb rfl rfl (Bin.eqlN _ 0) (jO (jN (jv9 0 2 4 6 8 31 32 33 38 ?_))))))
  refine VC.condT rfl (rfl) ?_
  refine VC.held (fun V => Frm [g4] w3 V) jK ?_
  have hS : Frm [g4] w3 w3.drew := (Frm.refl _ _).drew
  have n3 : wr.heap.size ≠ g4 := jo
  have nm : q.l ≠ g4 := by have := hH.mp.lt; omega
  have nh : h ≠ g4 := by have := hH.blk.lt; omega
  refine jh 1 hS ?_
  refine jH 2 rfl hS (fun w0 hw0 => Run.nilck rfl) ?_
  refine jH 3 rfl hS (fun w0 hw0 => Run.fieldAddr rfl zaj rfl zdu jd) ?_
  refine jH 4 rfl hS (fun w0 hw0 => Run.load rfl zfr ((hHr.blk.frm hw0 (by simpa using nh)).cell 3)) ?_
  refine jH 5 rfl hS (fun w0 hw0 => Run.fieldAddr rfl zbj rfl zy jd) ?_
  refine jH 6 rfl hS (fun w0 hw0 => Run.load rfl zai ((hb3.frm hw0 (by simpa using n3)).cell 0)) ?_
  refine jH 7 rfl hS (fun w0 hw0 => Run.lookup (enc := fO) (x := xk) rfl rfl (hHr.mp.frm hw0 (by simpa using nm)) (Go.Maps.int_keyed zr) zeq xP (kP _ hokx)) ?_
  rw [show (lyV q.ly xk).getD _ = .slice rA (H.lies xk).length rc by rw [lyV, hrow]; rfl]
  refine qJ.r1 0 rfl jK hS (Run.loadA rfl zbb zw ((hb4.drawn (qP.drew _)).cells) (by first | rfl | (simp; done))) trivial rfl rfl ?_
  refine qJ.cl 8 rfl jK (jE2 zhe) (kN H.N c _ _ B _ V (H.lies xk) _ jo (hr.frm (qP.drew _).frm jp) rfl jo ((hHr.ly _ _ hrow).1.1.frm (qP.drew _).frm jp)) trivial rfl rfl ?_
  rintro e w5 ⟨hf5, ho5⟩
  obtain ⟨V1, B5, c5, hmV, rfl, hr5, hup5⟩ := ho5.resolve_right (fun h => by rw [h.1] at hmm; cases hmm)
  rw [hmm] at hmV
  cases hmV
  have hS := hS.trans hf5 jp
  refine ⟨_, rfl, hS, ?_⟩
  have k5 : Frm [] w3 w5 := (qP.drew w3).frm.trans hf5 jp
  have hl4 := hb4.lt
  have hb4 := hb4.frm k5 jp
  have hb2 := hb2.frm k5 jp
  have K := K.trans k5 jp
  refine jh 9 hS ?_
  refine jH 10 rfl hS (fun w0 hw0 => Run.extract rfl rfl) ?_
  refine jH 11 rfl hS (fun w0 hw0 => Run.extract rfl rfl) ?_
  refine qJ.st 12 rfl jK (qT.storeA rfl rfl zw hb4 rfl (dO H.N B5 c5)) trivial rfl ?_
  rintro w6 ⟨hb4, hf6, hs6⟩
  have hS := hS.trans hf6 (fun x hx => .inl hx)
  refine ⟨hS, ?_⟩
  have hB24 : ∀ x ∈ ob B5, g4 < x := fun x hx => by have h := hup5 x hx; rw [show w3.drew.heap.size = w3.heap.size from rfl] at h; omega
  have hr5 : RdS w6 B5 H.N Vn := hr5.frm hf6 (fun x hx h => by rw [za] at h; have := hB24 x hx; omega)
  have hb2 := hb2.frm hf6 (by simpa using hne)
  have K := K.own hf6 (by simp; omega)
  have hb4 : Blk w6 g4 85 (spV H.N B5 c5) := hb4
  refine jH 13 rfl hS (fun w0 hw0 => Run.asg rfl) ?_
  refine qJ.done jK ?_
  refine qH (jN ?_)
  refine jv7 0 2 4 6 31 32 33 ?_
  refine jR (jb rfl rfl (Bin.add_i64 _ 1 jo) (jm rfl (jO ?_)))
  refine jN ⟨(i + 1, B5, c5, Vn), (js7 rfl rfl rfl rfl rfl rfl rfl), ?_, ?_⟩
  · exact ⟨hc1, hb4, hr5, hmn, K, ⟨_, hb2, hz⟩, hB24⟩
  exact jq
 refine jX ?_
 refine qZ (qZ (qN ?_))
 refine jN (jv3 2 4 6 ?_)
 refine jS (jR (je (Run.loadA rfl zbb zw hb4.cells (by first | rfl | (simp; done))) (jm rfl (jb rfl rfl (Bin.eqlN _ 0) ?_))))
 refine Ops.st (qT.storeA rfl rfl zw hb2 (by rw [hz]; rfl) (dO H.N B c)) ?_
 rintro w7 ⟨hb2, hf7, hs7⟩
 refine ja rfl (jO (jN (jv2 2 3 ?_)))
 refine jT ?_
 refine eO ?_
 refine cW rfl zbb zw (hb2.cells) (by first | rfl | (simp; done) | (simp [*]; done)) ?_
 refine dH rfl ?_
 refine cY ?_
 obtain rfl : i = H.pairs.length := jo
 rw [zbw, show H.dir ++ cF H H.pairs = bH H from rfl, hm] at hmi
 cases hmi
 exact ⟨B, c, rfl, hr.frm hf7 (fun x hx h => by rw [za] at h; have := hup x hx; omega), K.own hf7 (by simp; omega), fun x hx => by have := hup x hx; omega⟩
theorem qJm (U : Nat → Bool) (h g : Nat) (F : List Nat) (H : Hm) (q : HtQ) (w : World) (hH : IsHt w h g F H q) (hm : bN H.N (fun _ => false) (bH H) = some U) : Calls Tryz.prog 47 #[jI0 h] w fun e w' => ∃ B c, e = .returned (.tuple #[.agg (spV H.N B c), .bool true]) ∧ RdS w' B H.N U ∧ Frm [] w w' ∧ ∀ x ∈ ob B, w.heap.size ≤ x :=
 uS U _ _ h g F H q w hH.hc hm
theorem qQh (H : Hm) (hk : H.dk.ok) : ∀ l : List Nat, (∀ p ∈ l, p < H.N) → (fJ H l).length = 126 * l.length
 | [], _ => rfl
 | p :: r, h => by
  have h1 := qQh H hk r (fun x hx => h x (zdg _ hx))
  have h2 := (hk.secAt (show 42 + p < H.dk.has.length by have := h p jp; unfold Hm.N at this; omega)).1
  rw [fJ, zaw, zf, zq, h2]
  rw [fJ] at h1
  rw [h1, zad]
  omega
theorem qZg (H : Hm) (hk : H.dk.ok) (l : List Nat) (h : ∀ p ∈ l, p < H.N) : ∀ b ∈ fJ H l, b < 256 := fun b hb => by
 obtain ⟨p, hp, hb⟩ := List.mem_flatMap.1 hb
 exact (hk.secAt (show 42 + p < H.dk.has.length by have := h p hp; unfold Hm.N at this; omega)).2 b (zau hb)
theorem qVi (H : Hm) {l : List Nat} {i : Nat} (h : i < l.length) : fJ H (l.take (i + 1)) = fJ H (l.take i) ++ (H.dk.sec (42 + l.getD i 0)).drop 2 := by
 rw [zcq, ze h, zb, ze h, fJ, zan]
 simp [fJ]
theorem qQi (id : Nat) (h g : Nat) (F : List Nat) (H : Hm) (q : HtQ) (w : World) (hH : IsHt w h g F H q) (hid : id < 18446744073709551616) : Calls Tryz.prog 22 #[jI0 h, jI2 id] w fun e w' => ∃ B d, e = .returned (.tuple #[.slice B (gN H id).2.length d, jI1 ((gN H id).1)]) ∧ Rd w' 1 B (gN H id).2.length (NB (gN H id).2) ∧ Frm [] w w' ∧ ∀ x ∈ ob B, w.heap.size ≤ x := by
 have h600 := hH.ok.n600
 have hbg := hH.ok.big
 have hsz := hH.ok.sz
 have hNe : H.N = H.dk.has.length - 42 := rfl
 have hdk := hH.dk.ok
 refine jV Tryz.func22 Tryz.ntmps22 Tryz.results22 ?_
 refine jS (jR (ja rfl (jz 0 (jO (jN (jv2 0 1 ?_))))))
 refine jS (jR (jm rfl (jZ rfl (jf rfl zaj rfl zbk (jl rfl zci (hH.blk.cell 1) (jM ?_))))))
 refine jc (jE2 Tryz.call42) (mX _ _ id _ H.pairs w rfl jo hH.pr.1 hH.ok.okp hH.ok.srt hid) ?_
 rintro e w1 ⟨rfl, K⟩
 refine ⟨_, rfl, ?_⟩
 have hH1 := hH.frm K
 refine jm rfl (jY rfl rfl (jY rfl rfl (ja rfl (ja rfl (jO (jN (jv4 0 1 6 7 ?_)))))))
 refine jS (jS (jR (jm rfl (je (Run.not rfl) (jO (jN (jv4 0 1 6 23 ?_)))))))
 refine VC.condB rfl (fun hc1 => ?_) (fun hc1 => ?_)
 ·
  have hn : id ∉ H.pairs.map (·.1) := by simpa using hc1
  have eg : gN H id = (6, []) := by unfold gN; rw [if_pos hn]
  rw [eg]
  refine jS (jR (ja rfl (jz 6 (jO (jN (jv2 4 5 ?_))))))
  refine jT ?_
  refine qQ (bX rfl rfl ?_)
  exact ⟨none, 0, rfl, Rd.nil _ _ _, K, by simp [ob]⟩
 have hn : id ∈ H.pairs.map (·.1) := by simpa using hc1
 obtain ⟨hlt, hmem, hke⟩ := oF hH.ok.srt hn
 have hokx := hH.ok.okp _ hmem
 have hpg := hH.ok.pg _ hmem
 obtain ⟨row, hrow, hrl⟩ := hH.lyH _ hmem
 obtain ⟨ad, hA, hel⟩ := gM hH1.pr.1 rfl hlt
 have eoff : H.dk.off = true → gN H id = (10, []) := fun ho => by unfold gN; rw [if_neg (not_not_intro hn), if_pos ho]
 have eon : H.dk.off = false → gN H id = if crcM ((fJ H (H.lies id)).take (cN (H.pairs.getD (cD H.pairs id) (0, 0)))) = (H.pairs.getD (cD H.pairs id) (0, 0)).2 / 4294967296 then (0, (fJ H (H.lies id)).take (cN (H.pairs.getD (cD H.pairs id) (0, 0)))) else (9, []) := fun ho => by
  unfold gN
  rw [if_neg (not_not_intro hn), if_neg (by simp [ho])]
 have helw : ∀ V, Frm [] w V → ∀ j v, (prC (H.pairs.getD (cD H.pairs id) (0, 0)))[j]? = some v → V.cell? ((ad.add (cD H.pairs id * 2)).add j) = some v := fun V hV => by
  obtain ⟨ad2, he, h2⟩ := gM (hH.frm hV).pr.1 rfl hlt
  rw [hA] at he
  cases he
  exact h2
 generalize hx : H.pairs.getD (cD H.pairs id) (0, 0) = x at hel helw hokx hke hpg hrow hrl eon
 obtain ⟨xk, xv⟩ := x
 obtain ⟨rA, rc, rp⟩ := row
 dsimp only at hokx hke hpg hrow hrl
 subst hke hrl
 obtain ⟨hpg1, hpg2, hpg3⟩ := hpg
 have hrr := (hH.ly _ _ hrow).1.1
 dsimp only at hrr
 have K0 := K
 refine jQ (jN (jv3 0 1 6 ?_))
 refine jS (jR (ja rfl (jO (jN (jS (jS (jR (jm rfl (jZ rfl (jf rfl zaj rfl zdu (jl rfl zfr (hH1.blk.cell 3) (jm rfl (je (Run.lookup (enc := fO) (x := xk) rfl rfl hH1.mp (Go.Maps.int_keyed zr) zeq xP (kP _ hid)) ?_)))))))))))))
 rw [show (lyV q.ly xk).getD _ = .slice rA (H.lies xk).length rc by rw [lyV, hrow]; rfl]
 refine jL rfl zn ?_
 refine jx .i64 0 ?_
 refine jO (jN (jv6 0 6 8 29 30 31 ?_))
 refine jB ?_
 refine VC.loop (σ := Nat × Option Addr × Nat) (fun s => [(0, jI0 h), (6, jI1 (cD H.pairs xk)), (8, .slice s.2.1 (126 * s.1) s.2.2), (29, .slice rA (H.lies xk).length rc), (30, jI1 ((H.lies xk).length)), (31, jI1 s.1)]) (fun s wr => s.1 ≤ (H.lies xk).length ∧ (H.dk.off = true → s.1 = 0) ∧ Own wr 5 1 s.2.1 (126 * s.1) s.2.2 (NB (fJ H ((H.lies xk).take s.1))) ∧ Frm [] w wr ∧ ∀ x ∈ ob s.2.1, w.heap.size ≤ x) (fun s => (H.lies xk).length - s.1) (0, none, 0) (js6 rfl rfl rfl rfl rfl rfl) ⟨zj _, fun _ => rfl, Own.nil _ _ _, K, by simp [ob]⟩ ?_
 rintro ⟨i, B, d⟩ wr ⟨hi, ho0, ho, K, hup⟩
 dsimp only at hi ho0 ho hup ⊢
 refine jS (jR (jb rfl rfl (Bin.lssN _ _) (jO (jN (jS ?_)))))
 refine jD rfl (fun hc2 => ?_) fun hc2 => ?_
 ·
  obtain ⟨ad3, hrA, hc3⟩ := rdZ (hrr.frm K jp) rfl hc2
  subst hrA
  have hsn := qVi H hc2
  have hpN := hpg1 _ (bG hc2)
  have hsec := hdk.secAt (jo : 42 + (H.lies xk).getD i 0 < H.dk.has.length)
  generalize (H.lies xk).getD i 0 = p at hc3 hsn hpN hsec
  refine jQ (jN (jv6 0 6 8 29 30 31 ?_))
  refine jS (jB (jS (jR (je (Run.index1 _ rfl rfl zn zm jo) (jl rfl zaa hc3 (ja rfl (jO (jN (jv7 0 6 8 10 29 30 31 ?_)))))))))
  refine jS (jR (jm rfl (jM ?_)))
  refine jc (jE2 Tryz.call71) (qVg p h g F H q wr (hH.frm K) hpN) ?_
  rintro e w2 ⟨B2, n2, rfl, hn2, hr2, hf2, hup2⟩
  refine ⟨_, rfl, ?_⟩
  have ho := ho.frm hf2 jp
  have K := K.trans hf2 jp
  have ks := K.size
  refine jm rfl (jY rfl rfl (jY rfl rfl (ja rfl (ja rfl (jO (jN (jv8 0 6 8 11 12 29 30 31 ?_)))))))
  refine jS (jS (jR (jm rfl (je (Run.not rfl) (jO (jN (jv8 0 6 8 11 29 30 31 42 ?_)))))))
  refine VC.condB rfl (fun hc3 => ?_) (fun hc3 => ?_)
  ·
   have hoff : H.dk.off = true := by simpa using hc3
   rw [eoff hoff]
   refine jS (jR (ja rfl (jz 10 (jO (jN (jv2 4 5 ?_))))))
   refine jT ?_
   refine qQ (qR (qQ (qQ (qR (qQ (bX rfl rfl ?_))))))
   exact ⟨none, 0, rfl, Rd.nil _ _ _, K, by simp [ob]⟩
  have hoff : H.dk.off = false := by simpa using hc3
  have hrd : H.dk.read (42 + p) = (0, H.dk.sec (42 + p)) := by unfold Dk.read; rw [if_neg jo, if_neg (by simp [hoff])]
  rw [hrd] at hn2 hr2
  dsimp only at hn2 hr2
  rw [hsec.1] at hn2
  subst hn2
  have hcut := hr2.cut (l := 2) (r := 128) (cap := 128) jo (zag _) (zag _)
  rw [zh (by rw [zq, NB, zae, hsec.1]; omega), zds, (nR _ _).2] at hcut
  refine jQ (jN (jv7 0 6 8 11 29 30 31 ?_))
  refine jR (jm rfl (jm rfl (je (Run.sliceS 2 _ rfl zg zam (evB.some_ rfl) evB.none_ jo jo) ?_)))
  refine Ops.m (qV.app rfl rfl zg (eY) rfl jd ho hcut (eZ _) jo jo) rfl ?_
  rintro _ w6 ⟨B6, d6, rfl, ho6, hf6, hob6⟩
  rw [← dM, ← hsn] at ho6
  rw [show 126 * i + (128 - 2) = 126 * (i + 1) by omega] at ho6 ⊢
  refine ja rfl (jO ?_)
  refine qH (jN ?_)
  refine jv6 0 6 8 29 30 31 ?_
  refine jR (jb rfl rfl (Bin.add_i64 _ 1 jo) (jm rfl (jO ?_)))
  refine jN ⟨(i + 1, B6, d6), (js6 rfl rfl rfl rfl rfl rfl), ?_, ?_⟩
  · exact ⟨hc2, fun hz => absurd hz (by simp [hoff]), ho6, K.own hf6 hup, (Fk.of_app hf6 hob6).up hup ks⟩
  exact jq
 refine jX ?_
 refine qZ (qZ (qN ?_))
 refine jN (jv3 0 6 8 ?_)
 refine jS (jS (jR (jm rfl (jZ rfl (jf rfl zaj rfl zeu (jl rfl zfh ((hH.frm K).blk.cell 0) ?_))))))
 refine jc0 (jE1 Tryz.call72) (qZ8 g F H.dk wr (hH.frm K).dk) ?_
 obtain rfl : i = (H.lies xk).length := jo
 rw [zbw] at ho
 have hHr := hH.frm K
 refine je (Run.not rfl) (jO (jN (jv4 0 6 8 53 ?_)))
 refine VC.condB rfl (fun hc4 => ?_) (fun hc4 => ?_)
 ·
  have hoff : H.dk.off = true := by simpa using hc4
  rw [eoff hoff]
  refine jS (jR (ja rfl (jz 10 (jO (jN (jv2 4 5 ?_))))))
  refine jT ?_
  refine qQ (bX rfl rfl ?_)
  exact ⟨none, 0, rfl, Rd.nil _ _ _, K, by simp [ob]⟩
 have hoff : H.dk.off = false := by simpa using hc4
 rw [eon hoff]
 have hrl := qQh H hdk _ hpg1
 have hlp : cN (xk, xv) = xv / 65536 % 65536 := rfl
 have hle := ho.le
 rw [hlp] at hpg3 ⊢
 refine jQ (jN (jv3 0 6 8 ?_))
 refine jS (jR (jm rfl (jm rfl (jZ rfl (jf rfl zaj rfl zbk (jl rfl zci (hHr.blk.cell 1) ?_))))))
 rw [hA]
 refine jm rfl (je (Run.indexS _ rfl rfl zl zu jo) (je (Run.loadA rfl zea zu (helw _ K) (by first | rfl | (simp; done))) ?_))
 refine jc (jE1 Tryz.call73) (mQ (xk, xv) wr hokx.2) ?_
 rintro e w3 ⟨rfl, K3⟩
 refine ⟨_, rfl, ?_⟩
 have K := K.trans K3 jp
 have ho := ho.frm K3 jp
 dsimp only at hle ⊢
 refine je (Run.sliceS 0 _ rfl zg zam evB.none_ (evB.some_ rfl) jo jo) ?_
 rw [dP, zcc, zcc]
 have hob := (ho.rd.cut (l := 0) (r := xv / 65536 % 65536) (cap := d) (zj _) hpg3 hle)
 rw [dP, zcc, zei, zbz, zds, (nR _ _).1] at hob
 have hol : ((fJ H (H.lies xk)).take (xv / 65536 % 65536)).length = xv / 65536 % 65536 := by rw [zk, hrl]; omega
 have hlt8 : ∀ b ∈ (fJ H (H.lies xk)).take (xv / 65536 % 65536), b < 256 := fun b hb => qZg H hdk _ hpg1 b (zo hb)
 generalize (fJ H (H.lies xk)).take (xv / 65536 % 65536) = out at hob hol hlt8 ⊢
 generalize xv / 65536 % 65536 = ln at *
 refine ja rfl (jO (jN (jv3 0 6 8 ?_)))
 refine jS (jS ?_)
 refine VC.held (fun V => Frm [] w V) jK ?_
 have hS : Frm [] w w3.drew := K.drawn (qP.drew _)
 have hob := hob.drawn (qP.drew w3)
 refine jh 0 hS ?_
 refine jh 3 hS ?_
 refine jH 4 rfl hS (fun w0 hw0 => Run.nilck rfl) ?_
 refine jH 5 rfl hS (fun w0 hw0 => Run.fieldAddr rfl zaj rfl zbk jd) ?_
 refine jH 6 rfl hS (fun w0 hw0 => Run.load rfl zci ((hH.frm hw0).blk.cell 1)) ?_
 rw [hA]
 refine jh 7 hS ?_
 refine jH 8 rfl hS (fun w0 hw0 => Run.indexS _ rfl rfl zl zu jo) ?_
 refine jH 9 rfl hS (fun w0 hw0 => Run.fieldAddr rfl zbj rfl zy jd) ?_
 refine jH 10 rfl hS (fun w0 hw0 => Run.load rfl zai (helw _ hw0 1 _ rfl)) ?_
 refine jH 11 rfl hS (fun w0 hw0 => Run.bin rfl rfl (Bin.shr_u64 _ 32 jo)) ?_
 rw [show xv / 2 ^ 32 = xv / 4294967296 from rfl]
 refine qJ.cl 1 rfl jK (jE1 Tryz.call74) (tF B d ln out _ hol jo hlt8 hob) trivial rfl rfl ?_
 rintro e w4 ⟨rfl, hf4⟩
 have hS := hS.trans hf4 jp
 refine ⟨_, rfl, hS, ?_⟩
 have hob := hob.frm hf4 jp
 have hc32 := kW out
 refine jH 2 rfl hS (fun w0 hw0 => Run.convN _ rfl zby zr (by simp only [bmax]; omega)) ?_
 refine jH 12 rfl hS (fun w0 hw0 => Run.bin rfl rfl (Bin.neqN _ _)) ?_
 refine qJ.done jK ?_
 refine jN (jv2 8 76 ?_)
 refine jD rfl (fun hc5 => ?_) fun hc5 => ?_
 ·
  rw [if_neg hc5]
  refine jS (jR (ja rfl (jz 9 (jO (jN (jv2 4 5 ?_))))))
  refine jT ?_
  refine qQ (bX rfl rfl ?_)
  exact ⟨none, 0, rfl, Rd.nil _ _ _, hS, by simp [ob]⟩
 rw [if_pos (Classical.not_not.1 hc5)]
 refine jQ (jN (jv1 8 ?_))
 refine jS (jR (jm rfl (ja rfl (jz 0 (jO (jN (jv2 4 5 ?_)))))))
 refine jT ?_
 refine bX rfl rfl ?_
 rw [← hol] at hob ⊢
 exact ⟨B, d, rfl, hob, hS, hup⟩
theorem MpF.ne_own {P : Program} {k : TypeId} {κ : Type} {enc : κ → Value} {w : World} {g : Nat} {M : κ → Option Value} (h : MpF P k enc w g M) {e sz n c : Nat} {A : Option Addr} {xs : List Value} (ho : Own w e sz A n c xs) : g ∉ ob A := by
 intro hg
 rcases ho.cases with ⟨rfl, _⟩ | ⟨b, cur, rfl, hb, _⟩
 · simp [ob] at hg
 simp only [ob, za] at hg
 exact h.ne_blk hb hg
theorem Blk.ne_own {w : World} {g : Nat} {t : TypeId} {cs : Array Value} (hb : Blk w g t cs) {e sz n c : Nat} {A : Option Addr} {xs : List Value} (ho : Own w e sz A n c xs) (hne : t ≠ e) : g ∉ ob A := by
 intro hg
 rcases ho.cases with ⟨rfl, _⟩ | ⟨b, cur, rfl, hb', _⟩
 · simp [ob] at hg
 simp only [ob, za] at hg
 exact hb.ne hb' hne hg
theorem qWy (l : List Nat) (k : Nat) : (ZN l).take k = ZN (l.take k) ∧ (ZN l).drop k = ZN (l.drop k) := ⟨by simp [ZN, zdn], by simp [ZN, List.map_drop]⟩
theorem RdX.take {w : World} {X : List Nat} {A : Option Addr} {n k : Nat} {l : List Nat} (h : RdX w X 1 A n (ZN l)) (hk : k ≤ n) : RdX w X 1 A k (ZN (l.take k)) := by
 have h1 := h.1.cut (l := 0) (r := k) (cap := n + 1) (zj _) hk jo
 rw [dP, zei, zbz, zcc, zds, (qWy _ _).1] at h1
 exact ⟨h1, fun h0 => h.2 jo⟩
theorem RdX.drop {w : World} {X : List Nat} {A : Option Addr} {n k c : Nat} {l : List Nat} (h : RdX w X 1 A n (ZN l)) (hl : l.length = n) (hk : k ≤ n) (hc : n ≤ c) : RdX w X 1 (dS A c k 1) (n - k) (ZN (l.drop k)) := by
 have h1 := h.1.cut (l := k) (r := n) (cap := c) hk (zag _) hc
 rw [(qWy _ _).2, zh (by rw [ZN, zae, zq]; omega), zds] at h1
 exact ⟨h1, fun h0 y hy => h.2 jo y (by rw [kJ] at hy; exact hy)⟩
theorem RdX.more {w w1 : World} {X : List Nat} {sz n : Nat} {A : Option Addr} {xs : List Value} (h : RdX w X sz A n xs) (k : Frm [] w w1) : RdX w1 (w.heap.size :: X) sz A n xs := ⟨h.1.frm k jp, fun h0 y hy => by
 have h1 := h.2 h0 y hy
 refine ⟨zas h1.1 k.size, fun hx => ?_⟩
 rcases zaq.1 hx with rfl | hx
 · exact zcj _ h1.1
 exact h1.2 hx⟩
theorem RdX.less {w w1 : World} {X : List Nat} {g sz n : Nat} {A : Option Addr} {xs : List Value} (h : RdX w (g :: X) sz A n xs) (k : Frm [g] w w1) : RdX w1 X sz A n xs := ⟨h.1.frm k (fun h0 y hy hx => by
 rw [za] at hx
 subst hx
 exact (h.2 h0 _ hy).2 jp), fun h0 y hy => ⟨zas (h.2 h0 y hy).1 k.size, fun hx => (h.2 h0 y hy).2 (by simp [hx])⟩⟩
theorem qKg (f : Nat → Option Lq) (x : Nat) (r : Lq) : (fun y => if y = x then some (lqV r) else lyV f y) = lyV (fun y => if y = x then some r else f y) := by
 funext y
 unfold lyV
 by_cases h : y = x <;> simp [h]
theorem qH1 (f : Nat → Option Lq) (x : Nat) : (fun y => if y = x then none else lyV f y) = lyV (fun y => if y = x then none else f y) := by
 funext y
 unfold lyV
 by_cases h : y = x <;> simp [h]
def tX (l : List Pu) : Prop := ∀ x ∈ l, x.1 ≤ 1000000 ∧ x.2.length = 128 ∧ ∀ b ∈ x.2, b < 256
theorem oI {a b : List Pu} (h : tX a) (k : tX b) : tX (a ++ b) := fun x hx => by
 rcases zcp.1 hx with h1 | h1
 · exact h x h1
 exact k x h1
theorem tZ {D pg : List Nat} (hB : ∀ b ∈ D, b < 256) (hp : ∀ p ∈ pg, p < 2048) : tX (dN D pg) := fun x hx => by
 obtain ⟨i, hi, rfl⟩ := List.mem_map.1 hx
 have h1 := hp _ (bG (List.mem_range.1 hi))
 exact ⟨by dsimp only; omega, uY _ _ _, qX7 hB _ _⟩
structure DrQ where
 S : Option Addr
 sc : Nat
 ps : List Pq
 A : Option Addr
 ca : Nat
 ly : Nat → Option Lq
 fA : Option Addr
 fc : Nat
 dv : Value
def DrQ.X (g7 m : Nat) (t : DrQ) : List Nat := g7 :: m :: (ob t.S ++ ob t.A)
def plV (S : Option Addr) (n sc : Nat) (A : Option Addr) (na ca m : Nat) (dv : Value) : Array Value := #[.slice S n sc, .slice A na ca, .map (some m), dv]
structure OkD (D : Dw) : Prop where
 srt : Srt D.pairs
 okp : OkP D.pairs
 frb : ∀ p ∈ D.free, p < 2048
 pu : tX D.puts
structure IsDr (w wr : World) (X : List Nat) (g7 m : Nat) (D : Dw) (t : DrQ) (ex : List Nat) : Prop where
 ok : OkD D
 K : Frm [] w wr
 blk : Blk wr g7 104 (plV t.S t.ps.length t.sc t.A D.pairs.length t.ca m t.dv)
 S : Own wr 132 2 t.S t.ps.length t.sc (t.ps.flatMap pqC)
 pu : puL t.ps = D.puts
 ps : PuS w.heap.size wr (t.X g7 m) t.ps
 A : Own wr 128 2 t.A D.pairs.length t.ca (PC2 D.pairs)
 mp : MpU wr m t.ly
 ly : ∀ id r, t.ly id = some r → RdX w X 1 r.1 r.2.2.length (ZN r.2.2) ∧ id < 18446744073709551616
 lyD : ∀ x ∈ D.pairs, x.1 ∉ ex → ∃ r, t.ly x.1 = some r ∧ r.2.2 = D.lies x.1
 fr : RdX w X 1 t.fA D.free.length (ZN D.free)
 fc : D.free.length ≤ t.fc
 up : ∀ x ∈ t.X g7 m, w.heap.size ≤ x
section
variable {w wr w1 w2 : World} {X ex : List Nat} {g7 m : Nat} {D : Dw} {t : DrQ}
theorem IsDr.frm (d : IsDr w wr X g7 m D t ex) (k : Frm [] wr w1) : IsDr w w1 X g7 m D t ex :=
 ⟨d.ok, d.K.trans k jp, d.blk.frm k jp, d.S.frm k jp, d.pu, d.ps.frm k, d.A.frm k jp, d.mp.frm k jp, d.ly, d.lyD, d.fr, d.fc, d.up⟩
theorem IsDr.apart (d : IsDr w wr X g7 m D t ex) : g7 ≠ m ∧ g7 ∉ ob t.S ∧ g7 ∉ ob t.A ∧ m ∉ ob t.S ∧ m ∉ ob t.A ∧ (∀ x ∈ ob t.S, x ∉ ob t.A) ∧ (∀ x ∈ ob t.A, x ∉ ob t.S) :=
 ⟨fun h => d.mp.ne_blk d.blk h.symm, Blk.ne_own d.blk d.S jd, Blk.ne_own d.blk d.A jd, d.mp.ne_own d.S, d.mp.ne_own d.A, d.S.ne_own d.A jd, d.A.ne_own d.S jd⟩
theorem IsDr.base {S : List Nat} {t' : DrQ} (d : IsDr w wr X g7 m D t ex) (k : Frm S wr w2) (hS : ∀ x ∈ S, x ∈ t.X g7 m) (hX : ∀ x ∈ t'.X g7 m, x ∈ t.X g7 m ∨ wr.heap.size ≤ x) : Frm [] w w2 ∧ (∀ x ∈ t'.X g7 m, w.heap.size ≤ x) ∧ PuS w.heap.size w2 (t'.X g7 m) t.ps :=
 ⟨d.K.own k (fun x hx => d.up x (hS x hx)), fun x hx => by
  rcases hX x hx with h | h
  · exact d.up x h
  exact zbd d.K.size h, d.ps.fk ⟨k.mono (fun x hx => .inl (hS x hx)), hX⟩⟩
theorem IsDr.erase (d : IsDr w wr X g7 m D t ex) (id : Nat) {n : Nat} (hn : n = (cX D.pairs id ++ bU D.pairs id).length) (ho : Own w1 128 2 t.A n t.ca (PC2 (cX D.pairs id ++ bU D.pairs id))) (k1 : Frm (ob t.A) wr w1)
  (hb : Blk w2 g7 104 (plV t.S t.ps.length t.sc t.A n t.ca m t.dv)) (k2 : Frm [g7] w1 w2) : IsDr w w2 X g7 m { D with pairs := cX D.pairs id ++ bU D.pairs id } t ex := by
 subst hn
 obtain ⟨h1, h2, h3, h4, h5, h6, h7⟩ := d.apart
 have k : Frm (g7 :: ob t.A) wr w2 := (k1.mono (fun x hx => .inl (by simp [hx]))).trans k2 (fun x hx => .inl (by simp at hx; simp [hx]))
 obtain ⟨b1, b2, b3⟩ := d.base (t' := t) k (fun x hx => by rcases zaq.1 hx with rfl | hx; simp [DrQ.X]; simp [DrQ.X, hx]) (fun x hx => .inl hx)
 have hmem : ∀ x ∈ cX D.pairs id ++ bU D.pairs id, x ∈ D.pairs := fun x hx => by
  rcases zcp.1 hx with h | h <;> exact (List.mem_filter.1 h).1
 exact ⟨⟨qKe d.ok.srt id, fun x hx => d.ok.okp x (hmem x hx), d.ok.frb, d.ok.pu⟩, b1, hb, d.S.frm k (fun x hx h => by
  rcases zaq.1 h with rfl | h
  · exact h2 hx
  · exact h6 x hx h), d.pu, b3, ho.frm k2 (fun x hx h => by rw [za] at h; subst h; exact h3 hx), d.mp.frm k (fun h => by
  rcases zaq.1 h with h | h
  · exact h1 h.symm
  exact h5 h), d.ly, fun x hx => d.lyD x (hmem x hx), d.fr, d.fc, b2⟩
theorem IsDr.unlie (d : IsDr w wr X g7 m D t ex) (id : Nat) (hid : id ∉ D.pairs.map (·.1)) (hm : MpF Tryz.prog 54 fO w2 m (fun y => if y = id then none else lyV t.ly y)) (k : Frm [m] wr w2) : IsDr w w2 X g7 m D { t with ly := fun y => if y = id then none else t.ly y } ex := by
 obtain ⟨h1, h2, h3, h4, h5, h6, h7⟩ := d.apart
 obtain ⟨b1, b2, b3⟩ := d.base (t' := { t with ly := fun y => if y = id then none else t.ly y }) k (fun x hx => by rw [za] at hx; subst hx; simp [DrQ.X]) (fun x hx => .inl hx)
 rw [qH1] at hm
 refine ⟨d.ok, b1, d.blk.frm k (by simpa using h1), d.S.frm k (fun x hx h => by rw [za] at h; subst h; exact h4 hx), d.pu, b3, d.A.frm k (fun x hx h => by rw [za] at h; subst h; exact h5 hx), hm, fun y r hy => ?_, fun x hx he => ?_, d.fr, d.fc, b2⟩
 ·
  dsimp only at hy
  by_cases h : y = id
  · rw [if_pos h] at hy; cases hy
  rw [if_neg h] at hy; exact d.ly y r hy
 dsimp only
 rw [if_neg (fun h => hid (List.mem_map.2 ⟨x, hx, h⟩))]
 exact d.lyD x hx he
theorem IsDr.puts (d : IsDr w wr X g7 m D t ex) {qs : List Pq} {S1 : Option Addr} {n1 sc1 : Nat} {us : List Pu} (hn : n1 = (t.ps ++ qs).length) (ho : Own w1 132 2 S1 n1 sc1 ((t.ps ++ qs).flatMap pqC)) (k1 : Frm (ob t.S) wr w1) (hob : ob S1 = ob t.S ∨ ob S1 = [wr.heap.size])
  (hb : Blk w2 g7 104 (plV S1 n1 sc1 t.A D.pairs.length t.ca m t.dv)) (k2 : Frm [g7] w1 w2) (hus : puL qs = us) (hok : tX us) (hq : PuS w.heap.size w2 (g7 :: m :: (ob S1 ++ ob t.A)) qs) (ex' : List Nat) :
  IsDr w w2 X g7 m { D with puts := D.puts ++ us } { t with S := S1, sc := sc1, ps := t.ps ++ qs } ex := by
 subst hn hus
 obtain ⟨h1, h2, h3, h4, h5, h6, h7⟩ := d.apart
 have k : Frm (g7 :: ob t.S) wr w2 := (k1.mono (fun x hx => .inl (by simp [hx]))).trans k2 (fun x hx => .inl (by simp at hx; simp [hx]))
 obtain ⟨b1, b2, b3⟩ := d.base (t' := { t with S := S1, sc := sc1, ps := t.ps ++ qs }) k (fun x hx => by rcases zaq.1 hx with rfl | hx; simp [DrQ.X]; simp [DrQ.X, hx]) (fun x hx => by
  simp only [DrQ.X, zaq, zcp] at hx ⊢
  rcases hx with h | h | h | h
  · exact .inl (.inl h)
  · exact .inl (.inr (.inl h))
  ·
   rcases hob with e | e
   · rw [e] at h; exact .inl (.inr (.inr (.inl h)))
   rw [e, za] at h; exact .inr (zhf h.symm)
  exact .inl (.inr (.inr (.inr h))))
 refine ⟨⟨d.ok.srt, d.ok.okp, d.ok.frb, oI d.ok.pu hok⟩, b1, hb, ho.frm k2 (fun x hx h => ?_), ?_, b3.app hq, d.A.frm k (fun x hx h => ?_), d.mp.frm k (fun h => ?_), d.ly, d.lyD, d.fr, d.fc, b2⟩
 ·
  rw [za] at h
  subst h
  rcases hob with e | e
  · rw [e] at hx; exact h2 hx
  rw [e, za] at hx; have := d.blk.lt; omega
 ·
  show puL (t.ps ++ qs) = D.puts ++ puL qs
  rw [puL, zv, ← d.pu]
  rfl
 ·
  rcases zaq.1 h with rfl | h
  · exact h3 hx
  exact h7 x hx h
 rcases zaq.1 h with h | h
 · exact h1 h.symm
 exact h4 h
theorem IsDr.ins (d : IsDr w wr X g7 m D t []) (id v : Nat) {A1 : Option Addr} {n1 ca1 : Nat} (hid : id < 18446744073709551616) (hv : v < 18446744073709551616) (hn : n1 = (cX D.pairs id ++ (id, v) :: bU D.pairs id).length) (ho : Own w1 128 2 A1 n1 ca1 (PC2 (cX D.pairs id ++ (id, v) :: bU D.pairs id))) (k1 : Frm (ob t.A) wr w1) (hob : ∀ x ∈ ob A1, x ∈ ob t.A ∨ wr.heap.size ≤ x)
  (hb : Blk w2 g7 104 (plV t.S t.ps.length t.sc A1 n1 ca1 m t.dv)) (k2 : Frm [g7] w1 w2) : IsDr w w2 X g7 m { D with pairs := cX D.pairs id ++ (id, v) :: bU D.pairs id } { t with A := A1, ca := ca1 } [id] := by
 subst hn
 obtain ⟨h1, h2, h3, h4, h5, h6, h7⟩ := d.apart
 have k : Frm (g7 :: ob t.A) wr w2 := (k1.mono (fun x hx => .inl (by simp [hx]))).trans k2 (fun x hx => .inl (by simp at hx; simp [hx]))
 obtain ⟨b1, b2, b3⟩ := d.base (t' := { t with A := A1, ca := ca1 }) k (fun x hx => by rcases zaq.1 hx with rfl | hx; simp [DrQ.X]; simp [DrQ.X, hx]) (fun x hx => by
  simp only [DrQ.X, zaq, zcp] at hx ⊢
  rcases hx with h | h | h | h
  · exact .inl (.inl h)
  · exact .inl (.inr (.inl h))
  · exact .inl (.inr (.inr (.inl h)))
  rcases hob x h with e | e
  · exact .inl (.inr (.inr (.inr e)))
  exact .inr e)
 have hmem : ∀ x ∈ cX D.pairs id ++ (id, v) :: bU D.pairs id, x = (id, v) ∨ x ∈ D.pairs := fun x hx => by
  rcases zcp.1 hx with h | h
  · exact .inr (List.mem_filter.1 h).1
  rcases zaq.1 h with h | h
  · exact .inl h
  exact .inr (List.mem_filter.1 h).1
 refine ⟨⟨qKf d.ok.srt id v, fun x hx => ?_, d.ok.frb, d.ok.pu⟩, b1, hb, d.S.frm k (fun x hx h => ?_), d.pu, b3, ho.frm k2 (fun x hx h => ?_), d.mp.frm k (fun h => ?_), d.ly, fun x hx he => ?_, d.fr, d.fc, b2⟩
 ·
  rcases hmem x hx with rfl | h
  · exact ⟨hid, hv⟩
  exact d.ok.okp x h
 ·
  rcases zaq.1 h with rfl | h
  · exact h2 hx
  exact h6 x hx h
 ·
  rw [za] at h
  subst h
  rcases hob _ hx with e | e
  · exact h3 e
  have := d.blk.lt; omega
 ·
  rcases zaq.1 h with h | h
  · exact h1 h.symm
  exact h5 h
 rcases hmem x hx with rfl | h
 · exact absurd (za.2 rfl) he
 exact d.lyD x h jp
theorem IsDr.lie {id : Nat} (d : IsDr w wr X g7 m D t [id]) {r : Lq} (hid : id < 18446744073709551616) (hr : RdX w X 1 r.1 r.2.2.length (ZN r.2.2)) (hm : MpF Tryz.prog 54 fO w2 m (fun y => if y = id then some (lqV r) else lyV t.ly y)) (k : Frm [m] wr w2) : IsDr w w2 X g7 m { D with lies := fun y => if y = id then r.2.2 else D.lies y } { t with ly := fun y => if y = id then some r else t.ly y } [] := by
 obtain ⟨h1, h2, h3, h4, h5, h6, h7⟩ := d.apart
 obtain ⟨b1, b2, b3⟩ := d.base (t' := { t with ly := fun y => if y = id then some r else t.ly y }) k (fun x hx => by rw [za] at hx; subst hx; simp [DrQ.X]) (fun x hx => .inl hx)
 rw [qKg] at hm
 refine ⟨⟨d.ok.srt, d.ok.okp, d.ok.frb, d.ok.pu⟩, b1, d.blk.frm k (by simpa using h1), d.S.frm k (fun x hx h => by rw [za] at h; subst h; exact h4 hx), d.pu, b3, d.A.frm k (fun x hx h => by rw [za] at h; subst h; exact h5 hx), hm, fun y r' hy => ?_, fun x hx _ => ?_, d.fr, d.fc, b2⟩
 ·
  dsimp only at hy
  by_cases h : y = id
  · rw [if_pos h] at hy; cases hy; subst h; exact ⟨hr, hid⟩
  rw [if_neg h] at hy; exact d.ly y r' hy
 dsimp only
 by_cases h : x.1 = id
 · rw [if_pos h, if_pos h]; exact ⟨r, rfl, rfl⟩
 rw [if_neg h, if_neg h]; exact d.lyD x hx (by simpa using h)
theorem IsDr.less (d : IsDr w wr X g7 m D t ex) {k : Nat} (hk : k ≤ D.free.length) : IsDr w wr X g7 m { D with free := D.free.drop k } { t with fA := dS t.fA t.fc k 1, fc := t.fc - k } ex :=
 ⟨⟨d.ok.srt, d.ok.okp, fun p hp => d.ok.frb p (zau hp), d.ok.pu⟩, d.K, d.blk, d.S, d.pu, d.ps, d.A, d.mp, d.ly, d.lyD, by
  have := d.fr.drop rfl hk d.fc
  rw [← zq] at this
  exact this, by have := d.fc; dsimp only; rw [zq]; omega, d.up⟩
theorem IsDr.lt (d : IsDr w wr X g7 m D t ex) : ∀ x ∈ t.X g7 m, x < wr.heap.size := fun x hx => by
 simp only [DrQ.X, zaq, zcp] at hx
 rcases hx with rfl | rfl | h | h
 · exact d.blk.lt
 · exact d.mp.lt
 · exact d.S.lt x h
 exact d.A.lt x h
theorem IsDr.past {S : List Nat} (d : IsDr w wr X g7 m D t ex) (k : Frm S wr w2) (hS : ∀ x ∈ t.X g7 m, x ∉ S) (hup : ∀ x ∈ S, w.heap.size ≤ x) (hps : t.ps = []) : IsDr w w2 X g7 m D t ex :=
 ⟨d.ok, d.K.own k hup, d.blk.frm k (hS _ (by simp [DrQ.X])), d.S.frm k (fun x hx => hS _ (by simp [DrQ.X, hx])), d.pu, (by rw [hps]; exact PuS.nil _ _ _), d.A.frm k (fun x hx => hS _ (by simp [DrQ.X, hx])), d.mp.frm k (hS _ (by simp [DrQ.X])), d.ly, d.lyD, d.fr, d.fc, d.up⟩
theorem qQj (l : List Ch) (i : Nat) : sumN (l.take i) ≤ sumN l := by
 have h : sumN l = sumN (l.take i) + sumN (l.drop i) := by
  unfold sumN
  rw [← List.sum_append, ← zv, zbq]
 omega
theorem IsDr.copy (d : IsDr w wr X g7 m D t ex) {y : Nat} {r : Lq} (hex : ∀ x ∈ D.pairs, x.1 ∈ ex) (hid : y < 18446744073709551616) (hr : RdX w X 1 r.1 r.2.2.length (ZN r.2.2)) (hm : MpF Tryz.prog 54 fO w2 m (fun z => if z = y then some (lqV r) else lyV t.ly z)) (k : Frm [m] wr w2) : IsDr w w2 X g7 m D { t with ly := fun z => if z = y then some r else t.ly z } ex := by
 obtain ⟨h1, h2, h3, h4, h5, h6, h7⟩ := d.apart
 obtain ⟨b1, b2, b3⟩ := d.base (t' := { t with ly := fun z => if z = y then some r else t.ly z }) k (fun x hx => by rw [za] at hx; subst hx; simp [DrQ.X]) (fun x hx => .inl hx)
 rw [qKg] at hm
 refine ⟨d.ok, b1, d.blk.frm k (by simpa using h1), d.S.frm k (fun x hx h => by rw [za] at h; subst h; exact h4 hx), d.pu, b3, d.A.frm k (fun x hx h => by rw [za] at h; subst h; exact h5 hx), hm, fun z r' hz => ?_, fun x hx he => absurd (hex x hx) he, d.fr, d.fc, b2⟩
 dsimp only at hz
 by_cases h : z = y
 · rw [if_pos h] at hz; cases hz; subst h; exact ⟨hr, hid⟩
 rw [if_neg h] at hz; exact d.ly z r' hz
theorem IsDr.told (d : IsDr w wr X g7 m D t ex) (h : ∀ x ∈ D.pairs, ∃ r, t.ly x.1 = some r ∧ r.2.2 = D.lies x.1) : IsDr w wr X g7 m D t [] := ⟨d.ok, d.K, d.blk, d.S, d.pu, d.ps, d.A, d.mp, d.ly, fun x hx _ => h x hx, d.fr, d.fc, d.up⟩
theorem IsDr.dirs (d : IsDr w wr X g7 m D t ex) {dv : Value} (hb : Blk w2 g7 104 (plV t.S t.ps.length t.sc t.A D.pairs.length t.ca m dv)) (k : Frm [g7] wr w2) : IsDr w w2 X g7 m D { t with dv := dv } ex := by
 obtain ⟨h1, h2, h3, h4, h5, h6, h7⟩ := d.apart
 obtain ⟨b1, b2, b3⟩ := d.base (t' := { t with dv := dv }) k (fun x hx => by rw [za] at hx; subst hx; simp [DrQ.X]) (fun x hx => .inl hx)
 exact ⟨d.ok, b1, hb, d.S.frm k (fun x hx h => by rw [za] at h; subst h; exact h2 hx), d.pu, b3, d.A.frm k (fun x hx h => by rw [za] at h; subst h; exact h3 hx), d.mp.frm k (by simpa using Ne.symm h1), d.ly, d.lyD, d.fr, d.fc, b2⟩
theorem IsDr.fkS (d : IsDr w wr X g7 m D t ex) {S1 : Option Addr} {sc1 : Nat} {ps1 : List Pq} (k1 : Frm (ob t.S) wr w1) (k2 : Frm [g7] w1 w2) (hob : ob S1 = ob t.S ∨ ob S1 = [wr.heap.size]) : Fk (t.X g7 m) wr w2 ((({ t with S := S1, sc := sc1, ps := ps1 } : DrQ)).X g7 m) := by
 refine ⟨(k1.mono (fun x hx => .inl (by simp [DrQ.X, hx]))).trans k2 (fun x hx => .inl (by simp at hx; simp [DrQ.X, hx])), fun x hx => ?_⟩
 simp only [DrQ.X, zaq, zcp] at hx ⊢
 rcases hx with h | h | h | h
 · exact .inl (.inl h)
 · exact .inl (.inr (.inl h))
 ·
  rcases hob with e | e
  · rw [e] at h; exact .inl (.inr (.inr (.inl h)))
  rw [e, za] at h; exact .inr (zhf h.symm)
 exact .inl (.inr (.inr (.inr h)))
end
theorem qH2 (f : Nat → Option Lq) (T : List Nat) {y : Nat} {r : Lq} (h : f y = some r) : (fun z => if z = y then some r else (if z ∈ T then f z else none)) = fun z => if z ∈ y :: T then f z else none := by
 funext z
 by_cases hz : z = y
 · subst hz; simp [h]
 simp [hz]
theorem lM {l : List Pr} (id : Nat) : cX (cX l id ++ bU l id) id = cX l id ∧ bU (cX l id ++ bU l id) id = bU l id := by
 unfold cX bU
 rw [zcy, zcy, zfc, zfc, zfc, zfc]
 refine ⟨?_, ?_⟩
 ·
  rw [show (l.filter fun a => (decide (a.1 < id) && decide (id < a.1))) = [] from List.filter_eq_nil_iff.2 fun x _ => by simp; omega, zav]
  exact zep fun x _ => jp
 rw [show (l.filter fun a => (decide (id < a.1) && decide (a.1 < id))) = [] from List.filter_eq_nil_iff.2 fun x _ => by simp; omega, zbu]
 exact zep fun x _ => jp
theorem qH3 {l : List Pr} (h : Srt l) {id : Nat} (hm : id ∈ l.map (·.1)) : l.take (cD l id) ++ l.drop (cD l id + 1) = cX l id ++ bU l id ∧ l.length - 1 = (cX l id ++ bU l id).length := by
 obtain ⟨h1, h2⟩ := qGm h id
 have h3 : (eqP l id).length = 1 := by
  have := qWq h id
  have := List.length_pos_iff.2 (zQ id |>.1 hm)
  omega
 have h4 := congrArg List.length (jJ h id)
 rw [zf, zf] at h4
 refine ⟨?_, by rw [zf]; omega⟩
 rw [h1, ← zey, h2, zgi h3]
theorem qM2 {l : List Pr} (h : Srt l) {id : Nat} (hm : id ∉ l.map (·.1)) : l = cX l id ++ bU l id := by
 have h1 := jJ h id
 have h2 : eqP l id = [] := Classical.not_not.1 fun h => hm (zQ id |>.2 h)
 rw [h2, zbu] at h1
 exact h1
theorem qH4 (l : List Pr) (id : Nat) (x : Pr) : (cX l id ++ bU l id).take (cD l id) ++ x :: (cX l id ++ bU l id).drop (cD l id) = cX l id ++ x :: bU l id := by
 unfold cD
 rw [zfj rfl, zgi rfl]
def dX (dir : List Nat) (ps : List (List Nat)) (k : Nat) : List Pu := (List.range k).map fun i => (42 + dir.getD i 0, ps.getD i [])
theorem uT (dir : List Nat) (ps : List (List Nat)) (k : Nat) : dX dir ps (k + 1) = dX dir ps k ++ [(42 + dir.getD k 0, ps.getD k [])] := by unfold dX; rw [zda, zv]; rfl
structure Pln where
 puts : List Pu
 pairs : List Pr
 lies : Nat → List Nat
 dir : List Nat
def qD (D : Dw) : Pln := ⟨D.puts ++ dX (D.free.take (bQ D.pairs).length) (bQ D.pairs) (bQ D.pairs).length ++ [(41, bR (D.free.take (bQ D.pairs).length))], D.pairs, D.lies, D.free.take (bQ D.pairs).length⟩
structure PlQ where
 S : Option Addr
 sc : Nat
 ps : List Pq
 A : Option Addr
 ca : Nat
 m : Nat
 ly : Nat → Option Lq
 dA : Option Addr
 dc : Nat
structure IsPl (w w' : World) (X : List Nat) (P : Pln) (t : PlQ) : Prop where
 K : Frm [] w w'
 rp : RdP w' t.S t.ps.length t.ps
 pu : puL t.ps = P.puts
 off : ∀ x ∈ t.ps, ∀ y ∈ ob x.2.1, w.heap.size ≤ y
 pr : Rd w' 2 t.A P.pairs.length (PC2 P.pairs)
 pc : P.pairs.length ≤ t.ca
 A : ∀ y ∈ ob t.A, w.heap.size ≤ y
 mp : MpU w' t.m t.ly
 ml : w.heap.size ≤ t.m
 ly : ∀ id r, t.ly id = some r → RdX w' X 1 r.1 r.2.2.length (ZN r.2.2) ∧ id < 18446744073709551616
 lyD : ∀ x ∈ P.pairs, ∃ r, t.ly x.1 = some r ∧ r.2.2 = P.lies x.1
 dr : RdX w' X 1 t.dA P.dir.length (ZN P.dir)
theorem qH5 {l : List Pr} (h : Srt l) (hl : l.length ≤ 600) : MayT l := ⟨fun i hi => by
 rw [zb, zb, ze jo, ze hi]
 exact List.pairwise_iff_getElem.1 h i (i + 1) jo hi jo, hl⟩
theorem qV.nextM2 {P : Program} {k : TypeId} {κ : Type} {enc : κ → Value} {w : World} {g r n : Nat} {M : κ → Option Value} {T : List κ} {Γ : Env} {dst : Option Tmp} {T0 : TypeId} {pos : String} {after : Array Edge} {gd : Option (Nat × Bool)} {a : Operand} (ha : ev? Γ a = some (jI0 r)) (h : MpI P k enc w g r M T n) (inv : ∀ key kl, keyOf P k key = some kl → ∃ x, key = enc x) (henc : ∀ a b, enc a = enc b → a = b) :
  qV P ⟨dst, .next a false, T0, pos, after, gd⟩ Γ w (fun v w' => ∃ (b : Bool) (rest : List Value), v = .tuple (.bool b :: rest).toArray ∧ (b = false → w' = w ∧ ∀ x u, M x = some u → x ∈ T) ∧ (b = true → ∃ (x : κ) (u : Value) (m : Nat), M x = some u ∧ x ∉ T ∧ MpI P k enc w' g r M (x :: T) m ∧ m < n ∧ (∃ w1, qP w w1 ∧ Frm [r] w1 w') ∧ w'.heap.size = w.heap.size ∧ (Instr.entry (jI0 r)).run P w' = .ok (.tuple #[enc x, u]) w')) := fun ρ hρ => by
 obtain ⟨v, w', h1, h2⟩ := qV.nextM (dst := dst) (T0 := T0) (pos := pos) (after := after) (gd := gd) ha h inv henc ρ hρ
 refine ⟨v, w', h1, ?_⟩
 rcases h2 with ⟨rfl, h3, h4⟩ | ⟨x, u, m, rfl, h3⟩
 · exact ⟨false, [], rfl, fun _ => ⟨h3, h4⟩, fun h => by cases h⟩
 exact ⟨true, [enc x, u], rfl, fun h => (by cases h), fun _ => ⟨x, u, m, h3⟩⟩
theorem qVj (SC : Option Addr) (n c : Nat) (l : List Cq) (L : Option Addr) (nf cf : Nat) (fr : List Nat) (h g : Nat) (F : List Nat) (H : Hm) (q : HtQ) (w : World) (hH : IsHt w h g F H q) (Y : List Nat) (hYl : ∀ id x, q.ly id = some x → RdX w Y 1 x.1 x.2.2.length (ZN x.2.2)) (hn : n ≤ 1000) (hr : RdC w SC n l) (hm : cV (chL l)) (hfl : fr.length = nf) (hfr : RdX w Y 1 L nf (ZN fr)) (hfc : nf ≤ cf) (hfb : ∀ p ∈ fr, p < 2048) (hnf : nf ≤ 1000000) (hp6 : (qO H (chL l) fr).pairs.length ≤ 600) (hsum : sumN (chL l) + (bQ (qO H (chL l) fr).pairs).length ≤ nf) (ht59 : (bQ (qO H (chL l) fr).pairs).length ≤ 59) :
  Calls Tryz.prog 45 #[jI0 h, .slice SC n c, .slice L nf cf] w fun e w' => ∃ (t : PlQ) (np nq dn : Nat), e = .returned (.agg #[.slice t.S np t.sc, .slice t.A nq t.ca, .map (some t.m), .slice t.dA dn t.dc]) ∧ np = t.ps.length ∧ nq = (qD (qO H (chL l) fr)).pairs.length ∧ dn = (qD (qO H (chL l) fr)).dir.length ∧ IsPl w w' Y (qD (qO H (chL l) fr)) t := by
 have h600 := hH.ok.n600
 have hln := hr.len
 subst hfl
 refine jV Tryz.func45 Tryz.ntmps45 Tryz.results45 ?_
 refine jS (jR ?_)
 refine Ops.m (qV.alloc vQ) rfl ?_
 rintro _ w1 ⟨rfl, hF1⟩
 have hb6 := hF1.blk
 have KW := hF1.frm
 have ksW := hF1.size
 have hfr1 := hfr.more KW
 have hly1 := fun id x (hx : q.ly id = some x) => (hYl id x hx).more KW
 generalize hg6 : w.heap.size = g6 at *
 have hH1 := hH.frm KW
 have hr1 := hr.frm KW
 refine jO (jN (jS (jR (jm rfl (jZ rfl (jf rfl zaj rfl zbk (jl rfl zci (hH1.blk.cell 1) ?_)))))))
 refine jc (jE1 Tryz.call102) (qJk q.pA q.pc H.pairs w1 hH1.pr.1 jo) ?_
 rintro e w2 ⟨PA, PC, rfl, hoA, hupA, hf2⟩
 refine ⟨_, rfl, ?_⟩
 refine Ops.m (qV.makeMap (k := 54) (enc := fO)) rfl ?_
 rintro _ w3 ⟨rfl, hmp, hf3, hs3⟩
 have hoA := hoA.frm hf3 jp
 have q2 := hf2.size
 generalize hgm : w2.heap.size = m at *
 refine je (Run.build (evs.cons rfl (evs.cons rfl evs.nil)) vQ (zU).choose_spec.1 (zU).choose_spec.2 (cells := plV none 0 0 PA H.pairs.length PC m (.slice none 0 0)) rfl) ?_
 refine Ops.m (qV.alloc vQ) rfl ?_
 rintro _ w4 ⟨rfl, hF4⟩
 have q4 := hF4.size
 refine Ops.st (qT.storeA rfl rfl zho hF4.blk rfl (by intro u hu; simp only [plV, zaq, zaz, or_false] at hu; rcases hu with rfl | rfl | rfl | rfl <;> rfl)) ?_
 rintro w5 ⟨hb7, hf5, hs5⟩
 generalize hg7 : w3.heap.size = g7 at *
 have hb7 : Blk w5 g7 104 (plV none 0 0 PA H.pairs.length PC m (.slice none 0 0)) := hb7
 have hAl := hoA.lt
 have k35 : Frm [] w3 w5 := hF4.frm.own hf5 (by simp; omega)
 have hml := hmp.lt
 have hd5 : IsDr w1 w5 (g6 :: Y) g7 m ⟨[], H.pairs, fr, H.lies⟩ ⟨none, 0, [], PA, PC, fun _ => none, L, cf, .slice none 0 0⟩ (H.pairs.map (·.1)) :=
  ⟨⟨hH.ok.srt, hH.ok.okp, hfb, fun x hx => by cases hx⟩, (hf2.trans hf3 jp).trans k35 jp, hb7, Own.nil _ _ _, rfl, PuS.nil _ _ _, hoA.frm k35 jp, hmp.frm k35 jp, fun id r hid => (by cases hid), fun x hx hne => absurd (List.mem_map.2 ⟨x, hx, rfl⟩) hne, hfr1, hfc, fun x hx => by
   simp only [DrQ.X, ob, zaq, zbu] at hx
   rcases hx with rfl | rfl | hx
   · omega
   · omega
   exact hupA x hx⟩
 refine jO (jN (jv5 0 1 2 6 7 ?_))
 refine jS (jS (jR (jm rfl (jZ rfl (jf rfl zaj rfl zdu (jl rfl zfr ((hH1.frm hd5.K).blk.cell 3) ?_))))))
 refine Ops.m (qV.rangeM rfl (hH1.frm hd5.K).mp zeq) rfl ?_
 rintro _ w6 ⟨cnt, rfl, hI, hf6, hs6⟩
 have hd6 := hd5.frm hf6
 have hXl := hd5.lt
 have q5 := hd5.K.size
 generalize hgr : w5.heap.size = gr at *
 refine jO (jN (jv5 1 2 6 7 31 ?_))
 refine jB ?_
 refine VC.loop (σ := List Nat × Nat) (fun s => [(1, .slice SC n c), (2, .slice L fr.length cf), (6, jI0 g6), (7, jI0 g7), (31, jI0 gr)]) (fun s wr => MpI Tryz.prog 54 fO wr q.l gr (lyV q.ly) s.1 s.2 ∧ IsDr w1 wr (g6 :: Y) g7 m ⟨[], H.pairs, fr, H.lies⟩ ⟨none, 0, [], PA, PC, fun z => if z ∈ s.1 then q.ly z else none, L, cf, .slice none 0 0⟩ (H.pairs.map (·.1))) (fun s => s.2) ([], cnt) (js5 rfl rfl rfl rfl rfl) ⟨hI, by simpa using hd6⟩ ?_
 rintro ⟨T, cn⟩ wr ⟨hI, hd⟩
 dsimp only at hI hd ⊢
 refine jS (jR ?_)
 refine Ops.m (qV.nextM2 rfl hI qHz mE) rfl ?_
 rintro _ wn ⟨bn, rest, rfl, hbF, hbT⟩
 refine jY rfl rfl (jO (jN (jv6 1 2 6 7 31 33 ?_)))
 refine jS ?_
 refine VC.condB rfl (fun hc1 => ?_) (fun hc1 => ?_)
 ·
  obtain ⟨xk, u, mn, hMx, hxT, hI, hmn, ⟨wd, hdd, hfd⟩, hsn, hent⟩ := hbT hc1
  obtain ⟨row, hrow, rfl⟩ : ∃ row, q.ly xk = some row ∧ lqV row = u := by
   unfold lyV at hMx
   cases hc : q.ly xk with
   | none => rw [hc] at hMx; cases hMx
   | some r => rw [hc] at hMx; exact ⟨r, rfl, Option.some.inj hMx⟩
  have hlyr := hH1.ly _ _ hrow
  have hd := (hd.frm hdd.frm).past hfd (fun x hx h => by rw [za] at h; subst h; exact zcj _ (hXl _ hx)) (by simp; omega) rfl
  refine jQ (jN (jv5 1 2 6 7 31 ?_))
  refine jB (jS (jR (je (Run.entryM rfl hent) (jY rfl rfl (jY rfl rfl (ja rfl (ja rfl (jO (jN (jv7 1 2 6 7 8 9 31 ?_))))))))))
  refine jR (jf rfl zbl rfl zdu (jl rfl zfr (hd.blk.cell 2) (jm rfl (jM ?_))))
  refine Ops.st (qT.mapUpd (x := xk) rfl rfl rfl hd.mp (Go.Maps.int_keyed zr) mE zeq (kP _ hlyr.2)) ?_
  rintro w8 ⟨hmp8, hf8, hs8⟩
  have hd := hd.copy (r := row) (fun x hx => List.mem_map.2 ⟨x, hx, rfl⟩) hlyr.2 (hly1 _ _ hrow) hmp8 hf8
  dsimp only at hd
  rw [qH2 q.ly T hrow] at hd
  have hqm := hH1.mp.lt
  have hI := hI.frm hf8 (by simp; omega) (by simp; have := hXl m (by simp [DrQ.X]); omega)
  refine jO ?_
  refine qH (jN ⟨(xk :: T, mn), (js5 rfl rfl rfl rfl rfl), ?_, ?_⟩)
  · exact ⟨hI, hd⟩
  exact jq
 obtain ⟨rfl, hall⟩ := hbF hc1
 refine jX ?_
 refine qZ (qZ (qN ?_))
 refine jN (jv4 1 2 6 7 ?_)
 refine jS (jS (jR (jm rfl (jL rfl zap ?_))))
 have hd := hd.told (fun x hx => by
  obtain ⟨r, hr1, hr2⟩ := hH1.lyH x hx
  exact ⟨r, (by dsimp only; rw [if_pos (hall x.1 (lqV r) (by unfold lyV; rw [hr1]; rfl))]; exact hr1), hr2⟩)
 have hraw0 : qO H (chL (l.take 0)) fr = ⟨[], H.pairs, fr, H.lies⟩ := rfl
 have hb60 := hb6
 refine jx .i64 0 ?_
 refine jO (jN (jv6 2 6 7 41 42 43 ?_))
 refine jB ?_
 refine VC.loop (σ := Nat × DrQ) (fun s => [(2, .slice s.2.fA (qO H (chL (l.take s.1)) fr).free.length s.2.fc), (6, jI0 g6), (7, jI0 g7), (41, .slice SC n c), (42, jI1 n), (43, jI1 s.1)]) (fun s wr => s.1 ≤ n ∧ IsDr w1 wr (g6 :: Y) g7 m (qO H (chL (l.take s.1)) fr) s.2 [] ∧ s.2.dv = .slice none 0 0 ∧ (qO H (chL (l.take s.1)) fr).free.length + sumN (chL (l.take s.1)) = fr.length ∧ (qO H (chL (l.take s.1)) fr).pairs.length ≤ 600 + s.1 ∧ s.2.ps.length ≤ 100 * s.1) (fun s => n - s.1) (0, ⟨none, 0, [], PA, PC, fun z => if z ∈ T then q.ly z else none, L, cf, .slice none 0 0⟩) (js6 rfl rfl rfl rfl rfl rfl) ⟨zj _, hd, rfl, rfl, h600, zj _⟩ ?_
 rintro ⟨i, t⟩ wr ⟨hi, hd, hdv, hfs, hpl, hps⟩
 dsimp only at hi hd hdv hfs hpl hps ⊢
 obtain ⟨D, hD⟩ : ∃ D, D = qO H (chL (l.take i)) fr := ⟨_, rfl⟩
 rw [← hD] at hd hfs hpl ⊢
 refine jS (jR (jb rfl rfl (Bin.lssN _ _) (jO (jN (jS ?_)))))
 refine jD rfl (fun hc2 => ?_) fun hc2 => ?_
 ·
  obtain ⟨ad, hS, hel⟩ := (hr1.frm hd.K).cell hc2
  subst hS
  have hmem := nN (jo : i < l.length)
  have hxn := hr.num _ hmem
  have hxo := hr.oct _ hmem
  have hxe := hr1.el _ hmem
  have hsnc := gH (jo : i < l.length)
  have hrs := uR H (chL (l.take i)) (chO (l.getD i cq0)) fr
  rw [← hsnc, ← hD] at hrs
  have hsn := pF (chL (l.take i)) (chO (l.getD i cq0))
  rw [← hsnc] at hsn
  have hstk := qQj (chL l) (i + 1)
  rw [← oA] at hstk
  have hmx := hm.2 _ (List.mem_map.2 ⟨_, hmem, rfl⟩)
  have hrl := zK H hH.ok.srt (chL (l.take i)) (chO (l.getD i cq0)) fr (qVh (jo : i < l.length) hm)
  rw [← hsnc, ← hD] at hrl
  replace hrl := hrl.2.2.2
  generalize l.getD i cq0 = x at hel hxn hxo hxe hrs hsn hmx hrl
  obtain ⟨xa, ⟨xA, xc, xb⟩, xg⟩ := x
  dsimp only [chO] at hxn hxo hxe hrs hsn hmx hrl
  have h11 := hd.lt
  refine jQ (jN (jv6 2 6 7 41 42 43 ?_))
  refine jS (jB (jS (jR (je (Run.indexS _ rfl rfl zap zbi jo) (je (Run.loadA rfl zhi zbi hel (by first | rfl | (simp; done))) ?_)))))
  refine Ops.m (qV.alloc gC) rfl ?_
  rintro _ w2 ⟨rfl, hF2⟩
  refine Ops.st (qT.storeA rfl rfl zbi hF2.blk rfl (oG (xa, (xA, xc, xb), xg))) ?_
  rintro w3 ⟨hb11, hf3, hs3⟩
  have hb11 : Blk w3 wr.heap.size 93 #[jI2 xa, .slice xA xb.length xc, .bool xg] := hb11
  have hd := hd.frm (hF2.frm.own hf3 jp)
  generalize hg11 : wr.heap.size = g11 at *
  refine jO (jN (jv7 2 6 7 11 41 42 43 ?_))
  refine jS (jR (jf rfl zbl rfl zbk (jl rfl zci (hd.blk.cell 1) (jf rfl zak rfl zy (jl rfl zai (hb11.cell 0) ?_)))))
  refine jc (jE2 Tryz.call42) (mX _ _ xa _ D.pairs _ rfl jo hd.A.rd hd.ok.okp hd.ok.srt hxn.1) ?_
  rintro e w4 ⟨rfl, hf4⟩
  refine ⟨_, rfl, ?_⟩
  have hd := hd.frm hf4
  have hb11 := hb11.frm hf4 jp
  refine jm rfl (jY rfl rfl (jY rfl rfl (ja rfl (ja rfl (jO (jN (jv9 2 6 7 11 12 13 41 42 43 ?_)))))))
  refine jS (jS (jR (jm rfl (jO (jN (jv9 2 6 7 11 12 41 42 43 55 ?_))))))
  refine VC.meet (σ := Nat → Option Lq) (fun s => [(2, .slice t.fA D.free.length t.fc), (6, jI0 g6), (7, jI0 g7), (11, jI0 g11), (12, jI1 (cD D.pairs xa)), (41, .slice (some ad) n c), (42, jI1 n), (43, jI1 i)]) (fun s wz => IsDr w1 wz (g6 :: Y) g7 m { D with pairs := cX D.pairs xa ++ bU D.pairs xa } { t with ly := s } [] ∧ Blk wz g11 93 #[jI2 xa, .slice xA xb.length xc, .bool xg]) ?_ ?_
  ·
   refine VC.condB rfl (fun hc3 => ?_) (fun hc3 => ?_)
   ·
    have hin : xa ∈ D.pairs.map (·.1) := of_decide_eq_true hc3
    obtain ⟨hlt, -, -⟩ := oF hd.ok.srt hin
    obtain ⟨hdp1, hdp2⟩ := qH3 hd.ok.srt hin
    obtain ⟨a1, a2, a3, a4, a5, a6, a7⟩ := hd.apart
    have nA11 : g11 ∉ ob t.A := fun hx => zcj _ (h11 _ (by simp [DrQ.X, hx]))
    have n711 : g11 ≠ g7 := fun hx => zcj _ (hx ▸ h11 g7 (by simp [DrQ.X]))
    have nm11 : g11 ≠ m := fun hx => zcj _ (hx ▸ h11 m (by simp [DrQ.X]))
    refine jS (jR (jf rfl zbl rfl zbk (jl rfl zci (hd.blk.cell 1) (jm rfl (jm rfl (jb rfl rfl (Bin.add_i64 _ 1 jo) ?_))))))
    refine jc (jE3 Tryz.call103) (qZa t.A t.ca (cD D.pairs xa) D.pairs _ hd.A jo hlt) ?_
    rintro e w5 ⟨rfl, hoA, hf5⟩
    refine ⟨_, rfl, ?_⟩
    rw [hdp1] at hoA
    have hb11 := hb11.frm hf5 nA11
    have hb7 := hd.blk.frm hf5 a3
    refine jf rfl zbl rfl zbk ?_
    refine Ops.st (qT.store rfl rfl zbk hb7 rfl rfl) ?_
    rintro w6 ⟨hb7, hf6, hs6⟩
    have hd := hd.erase xa hdp2 hoA hf5 hb7 hf6
    have hb11 := hb11.frm hf6 (by simpa using n711)
    refine jO (jN (jv8 2 6 7 11 12 41 42 43 ?_))
    refine jR (jf rfl zbl rfl zdu (jl rfl zfr (hd.blk.cell 2) (jf rfl zak rfl zy (jl rfl zai (hb11.cell 0) ?_))))
    refine Ops.m0 (qV.deleteM (x := xa) rfl rfl hd.mp (Go.Maps.int_keyed zr) mE zeq (kP _ hxn.1)) ?_
    rintro _ w7 ⟨hmp7, hf7, hs7⟩
    have hd := hd.unlie xa (fun hx => by
     rw [zv, zcp] at hx
     rcases hx with hx | hx <;> obtain ⟨y, hy, he⟩ := List.mem_map.1 hx <;> have := (List.mem_filter.1 hy).2 <;> simp at this <;> omega) hmp7 hf7
    have hb11 := hb11.frm hf7 (by simpa using nm11)
    refine jO ?_
    refine jN ⟨fun y => if y = xa then none else t.ly y, (js8 rfl rfl rfl rfl rfl rfl rfl rfl), ?_⟩
    exact ⟨hd, hb11⟩
   have hin : xa ∉ D.pairs.map (·.1) := of_decide_eq_false hc3
   have hd : IsDr w1 w4 (g6 :: Y) g7 m { D with pairs := cX D.pairs xa ++ bU D.pairs xa } { t with ly := t.ly } [] := by rw [← qM2 hd.ok.srt hin]; exact hd
   refine jQ ?_
   refine jN ⟨t.ly, (js8 rfl rfl rfl rfl rfl rfl rfl rfl), ?_⟩
   exact ⟨hd, hb11⟩
  rintro ly1 wz ⟨hd, hb11⟩ Γ hΓ
  refine jN (VC.sub _ hΓ (jS (jS (jR (jf rfl zak rfl zat (jl rfl zcr (hb11.cell 2) (jO (jN (jv9 2 6 7 11 12 41 42 43 68 ?_)))))))))
  refine VC.condB rfl (fun hc4 => ?_) (fun hc4 => ?_)
  ·
   have hst : qO H (chL (l.take (i + 1))) fr = { D with pairs := cX D.pairs xa ++ bU D.pairs xa } := by rw [hrs, bV, if_pos hc4]
   have hz := hmx.2 hc4
   have hnz : qI xb.length = 0 := by rw [hz]; rfl
   refine jX ?_
   refine qZ (qN ?_)
   refine jN (jv6 2 6 7 41 42 43 ?_)
   refine jR (jb rfl rfl (Bin.add_i64 _ 1 jo) (jm rfl (jO ?_)))
   refine jN ⟨(i + 1, { t with ly := ly1 }), (js6 (by dsimp only; rw [hst]; rfl) rfl rfl rfl rfl rfl), ?_, ?_⟩
   · refine ⟨hc2, by dsimp only; rw [hst]; exact hd, hdv, by dsimp only; rw [hst]; dsimp only; omega, by dsimp only; rw [hst] at hrl ⊢; dsimp only at hrl ⊢; omega, by dsimp only; omega⟩
   exact jq
  have hnn : qI xb.length ≤ D.free.length := jo
  obtain ⟨nn, hnne⟩ : ∃ nn, nn = qI xb.length := ⟨_, rfl⟩
  obtain ⟨own, howne⟩ : ∃ own, own = D.free.take nn := ⟨_, rfl⟩
  have hownl : own.length = nn := by rw [howne, zk, hnne]; omega
  have hst : qO H (chL (l.take (i + 1))) fr = { puts := D.puts ++ dN xb own, pairs := cX D.pairs xa ++ cE xa xb own :: bU D.pairs xa, free := D.free.drop nn, lies := fun y => if y = xa then own else D.lies y } := by
   rw [hrs, bV, if_neg (by simp [hc4]), howne, hnne]
  rw [← hnne] at hnn hsn
  have hown : RdX w1 (g6 :: Y) 1 t.fA nn (ZN own) := by rw [howne]; exact hd.fr.take hnn
  have hfc1 := hd.fc
  dsimp only at hfc1
  have hofb : ∀ p ∈ own, p < 2048 := fun p hp => hd.ok.frb p (by rw [howne] at hp; exact zo hp)
  have hnn8 : nn ≤ 100 := by rw [hnne]; unfold qI; omega
  refine jQ (jN (jv8 2 6 7 11 12 41 42 43 ?_))
  refine jS (jR (jf rfl zak rfl zah (jl rfl zba (hb11.cell 1) (jL rfl zg ?_))))
  refine jc0 (jE1 Tryz.call97) (rH xb.length _ jo) ?_
  rw [← hnne]
  refine ja rfl (jO (jN (jv9 2 6 7 11 12 14 41 42 43 ?_)))
  refine jS (jR (jm rfl (jm rfl (je (Run.sliceS 0 _ rfl zn zm evB.none_ (evB.some_ rfl) jo jo) ?_))))
  rw [dP, zcc, zcc]
  refine ja rfl (jO (jN (jv10 2 6 7 11 12 14 15 41 42 43 ?_)))
  refine jS (jR (jm rfl (jm rfl (je (Run.sliceS _ _ rfl zn zm (evB.some_ rfl) evB.none_ jo jo) ?_))))
  have hd := hd.less (k := nn) hnn
  obtain ⟨t2, ht2⟩ : ∃ t2 : DrQ, t2 = { t with ly := ly1, fA := dS t.fA t.fc nn 1, fc := t.fc - nn } := ⟨_, rfl⟩
  have e2S : t2.S = t.S := by rw [ht2]
  have e2p : t2.ps = t.ps := by rw [ht2]
  have hps2 : t2.ps.length ≤ 100 * i := by rw [e2p]; exact hps
  have e2A : t2.A = t.A := by rw [ht2]
  rw [← ht2] at hd
  have h112 : ∀ x ∈ t2.X g7 m, x < g11 := fun x hx => h11 x (by unfold DrQ.X at hx ⊢; rw [e2S, e2A] at hx; exact hx)
  obtain ⟨a1, a2, a3, a4, a5, a6, a7⟩ := hd.apart
  have nS11 : g11 ∉ ob t2.S := fun hx => zcj _ (h112 _ (by simp [DrQ.X, hx]))
  have nA11 : g11 ∉ ob t2.A := fun hx => zcj _ (h112 _ (by simp [DrQ.X, hx]))
  have n711 : g11 ≠ g7 := fun hx => zcj _ (hx ▸ h112 g7 (by simp [DrQ.X]))
  have nm11 : g11 ≠ m := fun hx => zcj _ (hx ▸ h112 m (by simp [DrQ.X]))
  refine ja rfl (jO (jN (jv9 2 6 7 11 12 15 41 42 43 ?_)))
  refine jS ?_
  refine VC.heldL 8 (fun V => Frm (ob t2.S) wz V) jK ?_
  have hS : Frm (ob t2.S) wz wz.drew := (Frm.refl _ _).drew
  have hxl : xb.length ≤ xc := hxe.2
  refine jH 0 rfl hS (fun w0 hw0 => Run.fieldAddr rfl zbl rfl zeb jd) ?_
  refine jH 1 rfl hS (fun w0 hw0 => Run.load rfl Tryz.isAgg102 ((hd.blk.frm hw0 a2).cell 0)) ?_
  refine jH 2 rfl hS (fun w0 hw0 => Run.fieldAddr rfl zak rfl zah jd) ?_
  refine jH 3 rfl hS (fun w0 hw0 => Run.load rfl zba ((hb11.frm hw0 nS11).cell 1)) ?_
  refine qJ.r1 4 rfl jK hS (Run.mv rfl) trivial rfl rfl ?_
  refine qJ.cl 5 rfl jK (jE2 Tryz.call104) (qJj xA t.fA xb.length xc nn t.fc xb own _ rfl jo hxl hxo ((hxe.1.frm hd.K jp).drawn (qP.drew _)) hownl jo ((hown.1.frm hd.K jp).drawn (qP.drew _)) hofb) trivial rfl rfl ?_
  rintro e w9 ⟨CB, cd, qs, rfl, hoC, hqs, hpuC, hf9, hupC⟩
  have hS := hS.trans hf9 jp
  refine ⟨_, rfl, hS, ?_⟩
  have hd9 := (hd.frm (qP.drew _).frm).frm hf9
  have hb11 := hb11.frm hS nS11
  have hql : qs.length = nn := by
   have := congrArg List.length hqs
   rwa [cQ, dN, oQ, hownl] at this
  refine qJ.m 6 rfl jK (qV.app rfl rfl zx (gW) rfl jd hd9.S hoC.rd (qKc _) jo jo) trivial rfl rfl ?_
  rintro _ w10 ⟨S10, sc10, rfl, hoS, hf10, hob10⟩
  have hS := hS.trans hf10 (fun x hx => .inl hx)
  rw [← zan] at hoS
  refine ⟨hS, ?_⟩
  have hb7 := hd9.blk.frm hf10 a2
  have hb11 := hb11.frm hf10 nS11
  refine qJ.r1 7 rfl jK hS (Run.fieldAddr rfl zbl rfl zeb jd) trivial rfl rfl ?_
  refine qJ.stL rfl jK (qT.store rfl rfl zeb hb7 rfl rfl) trivial rfl ?_
  rintro w11 ⟨hb7, hf11, hs11⟩
  have hb11 := hb11.frm hf11 (by simpa using n711)
  have hq11 : PuS w1.heap.size w11 (g7 :: m :: (ob S10 ++ ob t2.A)) qs := ((hpuC.off (X' := t2.X g7 m) (fun y hy => .inr (.inl (hd.lt y hy)))).fk (hd9.fkS (sc1 := sc10) (ps1 := t2.ps ++ qs) hf10 hf11 hob10)).low hd.K.size
  have hd := hd9.puts (qs := qs) (us := dN xb own) (by rw [zf, hql]) hoS hf10 hob10 hb7 hf11 hqs (tZ hxo hofb) hq11 []
  obtain ⟨t3, ht3⟩ : ∃ t3 : DrQ, t3 = { t2 with S := S10, sc := sc10, ps := t2.ps ++ qs } := ⟨_, rfl⟩
  have e3A : t3.A = t2.A := by rw [ht3]
  rw [← ht3] at hd
  rw [← e3A] at nA11
  obtain ⟨c1, c2, c3, c4, c5, c6, c7⟩ := hd.apart
  refine qJ.done jK ?_
  refine jN (jv9 2 6 7 11 12 15 41 42 43 ?_)
  refine jS ?_
  refine VC.heldL 12 (fun V => Frm (ob t3.A) w11 V) jK ?_
  have hS : Frm (ob t3.A) w11 w11.drew := (Frm.refl _ _).drew
  refine jH 0 rfl hS (fun w0 hw0 => Run.fieldAddr rfl zbl rfl zbk jd) ?_
  refine jH 1 rfl hS (fun w0 hw0 => Run.load rfl zci ((hd.blk.frm hw0 c3).cell 1)) ?_
  refine jh 2 hS ?_
  refine jH 3 rfl hS (fun w0 hw0 => Run.fieldAddr rfl zak rfl zy jd) ?_
  refine jH 4 rfl hS (fun w0 hw0 => Run.load rfl zai ((hb11.frm hw0 nA11).cell 0)) ?_
  refine jH 5 rfl hS (fun w0 hw0 => Run.fieldAddr rfl zak rfl zah jd) ?_
  refine jH 6 rfl hS (fun w0 hw0 => Run.load rfl zba ((hb11.frm hw0 nA11).cell 1)) ?_
  refine qJ.r1 7 rfl jK hS (Run.mv rfl) trivial rfl rfl ?_
  refine qJ.cl 8 rfl jK (jE3 Tryz.call106) (qVf xa xb.length xc nn t.fc xA t.fA xb own _ hxn.1 rfl hmx.1 hxo ((hxe.1.frm hd.K jp).drawn (qP.drew _)) hownl jo ((hown.1.frm hd.K jp).drawn (qP.drew _)) hofb) trivial rfl rfl ?_
  rintro e w12 ⟨rfl, hf12⟩
  have hS := hS.trans hf12 jp
  refine ⟨_, rfl, hS, ?_⟩
  have hd12 := (hd.frm (qP.drew _).frm).frm hf12
  refine qJ.m 9 rfl jK (qV.buildS1 rfl zl zu dL jd jd rfl rfl) trivial rfl rfl ?_
  rintro _ w13 ⟨rfl, hF13⟩
  have hS := hS.trans hF13.frm jp
  refine ⟨hS, ?_⟩
  have hlt12 := hd12.lt
  have hd13 := hd12.frm hF13.frm
  have hgvA : w12.heap.size ∉ ob t3.A := fun hx => zcj _ (hlt12 _ (by simp [DrQ.X, hx]))
  refine qJ.cl 10 rfl jK (jE3 Tryz.call105) (qZb t3.A t3.ca (cD D.pairs xa) w12.heap.size (cX D.pairs xa ++ bU D.pairs xa) (cE xa xb own) _ hd13.A (by have h1 := qWr (l := D.pairs) xa; have h2 : (bU D.pairs xa).length ≤ D.pairs.length := zcu _ _; rw [zf]; unfold cD at h1; omega) (by rw [zf]; exact zdz _ _) hF13.blk hgvA) trivial rfl rfl ?_
  rintro e w14 ⟨A14, c14, rfl, hoA, hf14, hupA14⟩
  have hS := hS.trans hf14 (fun x hx => .inl hx)
  refine ⟨_, rfl, hS, ?_⟩
  rw [qH4] at hoA
  have hb7 := hd13.blk.frm hf14 c3
  have hb11 := hb11.frm hS nA11
  refine qJ.r1 11 rfl jK hS (Run.fieldAddr rfl zbl rfl zbk jd) trivial rfl rfl ?_
  refine qJ.stL rfl jK (qT.store rfl rfl zbk hb7 rfl rfl) trivial rfl ?_
  rintro w15 ⟨hb7, hf15, hs15⟩
  have hb11 := hb11.frm hf15 (by simpa using n711)
  have hc32 := kW xb
  have hat : atP own ≤ 2048 := by
   unfold atP
   split
   · omega
   have := hofb _ (bG (jo : 0 < own.length)); omega
  have hd := hd13.ins xa (cE xa xb own).2 hxn.1 (by unfold cE; dsimp only; omega) (by simp only [(lM _).1, (lM _).2, zf, zad]; omega) (by rw [(lM xa).1, (lM xa).2]; exact hoA) hf14 hupA14 hb7 hf15
  refine qJ.done jK ?_
  refine jN (jv8 2 6 7 11 15 41 42 43 ?_)
  refine jR (jf rfl zbl rfl zdu (jl rfl zfr (hd.blk.cell 2) (jf rfl zak rfl zy (jl rfl zai (hb11.cell 0) (jM ?_)))))
  refine Ops.st (qT.mapUpd (x := xa) rfl rfl rfl hd.mp (Go.Maps.int_keyed zr) mE zeq (kP _ hxn.1)) ?_
  rintro w16 ⟨hmp16, hf16, hs16⟩
  rw [show Value.slice t.fA nn t.fc = lqV (t.fA, t.fc, own) by rw [lqV, hownl]] at hmp16
  have hd := hd.lie (r := (t.fA, t.fc, own)) hxn.1 (by dsimp only; rw [hownl]; exact hown) hmp16 hf16
  obtain ⟨t5, ht5⟩ : ∃ t5 : DrQ, t5 = { t3 with A := A14, ca := c14, ly := fun y => if y = xa then some (t.fA, t.fc, own) else t3.ly y } := ⟨_, rfl⟩
  have e5f : t5.fA = dS t.fA t.fc nn 1 := by rw [ht5, ht3, ht2]
  have e5c : t5.fc = t.fc - nn := by rw [ht5, ht3, ht2]
  have e5d : t5.dv = t.dv := by rw [ht5, ht3, ht2]
  have e5p : t5.ps = t.ps ++ qs := by rw [ht5, ht3, ht2]
  have hd5 : IsDr w1 w16 (g6 :: Y) g7 m { puts := D.puts ++ dN xb own, pairs := cX D.pairs xa ++ cE xa xb own :: bU D.pairs xa, free := D.free.drop nn, lies := fun y => if y = xa then own else D.lies y } t5 [] := by
   dsimp only at hd
   rw [(lM xa).1, (lM xa).2] at hd
   rw [ht5]
   exact hd
  refine jO ?_
  refine qH (jN ?_)
  refine jv6 2 6 7 41 42 43 ?_
  refine jR (jb rfl rfl (Bin.add_i64 _ 1 jo) (jm rfl (jO ?_)))
  refine jN ⟨(i + 1, t5), (js6 (by dsimp only; rw [hst]; dsimp only; rw [zq, e5f, e5c]; rfl) rfl rfl rfl rfl rfl), ?_, ?_⟩
  · refine ⟨hc2, by dsimp only; rw [hst]; exact hd5, e5d.trans hdv, by dsimp only; rw [hst]; dsimp only; rw [zq]; omega, by dsimp only; rw [hst] at hrl ⊢; dsimp only at hrl ⊢; omega, by dsimp only; rw [e5p, zf, hql]; omega⟩
  exact jq
 obtain rfl : i = n := jo
 have hDl : D = qO H (chL l) fr := by rw [hD, zh jo]
 rw [← hDl] at hp6 hsum ht59 ⊢
 rw [zh (jo : l.length ≤ i)] at hfs
 have hlt := hd.lt
 obtain ⟨b0, hb0⟩ : ∃ b0, b0 = wr.heap.size := ⟨_, rfl⟩
 have hb0w : w1.heap.size ≤ b0 := by rw [hb0]; exact hd.K.size
 have hmt := qH5 hd.ok.srt hp6
 refine jX ?_
 refine qZ (qZ (qN ?_))
 refine jN (jv3 2 6 7 ?_)
 refine jS (jR (jf rfl zbl rfl zbk (jl rfl zci (hd.blk.cell 1) ?_)))
 refine jc (jE1 Tryz.call107) (vE t.A _ t.ca D.pairs _ rfl jo hd.A.le hd.A.rd hd.ok.okp) ?_
 rintro e w20 ⟨hf20, ho20⟩
 rw [if_pos hmt] at ho20
 obtain ⟨TB, td, bs, rfl, hoT, hbs, hpgT, hupT⟩ := ho20
 refine ⟨_, rfl, ?_⟩
 rw [← hb0] at hpgT hupT hlt
 have hTX : RdX w20 (t.X g7 m) 1 TB (bQ D.pairs).length (bs.map SL) := ⟨hoT.rd, fun _ y hy => ⟨hoT.lt y hy, fun hx => by have := hlt y hx; have := hupT y hy; omega⟩⟩
 have hPX : PgS b0 w20 (t.X g7 m) bs := fun x hx => ⟨(hpgT x hx).1, fun y hy => ⟨⟨((hpgT x hx).2 y hy).1.1, fun k => by have := hlt y k; have := ((hpgT x hx).2 y hy).2; omega⟩, ((hpgT x hx).2 y hy).2⟩⟩
 have hd := hd.frm hf20
 have htok := mB D.pairs
 have hbl : bs.length = (bQ D.pairs).length := by rw [← hbs, zae]
 obtain ⟨nb, hnb⟩ : ∃ nb, nb = (bQ D.pairs).length := ⟨_, rfl⟩
 rw [← hnb] at hTX hbl hsum ht59 ⊢
 have hfc1 := hd.fc
 obtain ⟨dir, hdir⟩ : ∃ dir, dir = D.free.take nb := ⟨_, rfl⟩
 have hdl : dir.length = nb := by rw [hdir, zk]; omega
 have hdR : RdX w1 (g6 :: Y) 1 t.fA nb (ZN dir) := by rw [hdir]; exact hd.fr.take jo
 have hdp : ∀ p ∈ dir, p < 2048 := fun p hp => hd.ok.frb p (by rw [hdir] at hp; exact zo hp)
 refine jm rfl (jY rfl rfl (jY rfl rfl (ja rfl (ja rfl (jO (jN (jv4 2 6 7 16 ?_)))))))
 refine jS (jR (jm rfl (jm rfl (jL rfl zbc (je (Run.sliceS 0 _ rfl zn zm evB.none_ (evB.some_ rfl) jo jo) ?_)))))
 rw [dP, zcc, zcc]
 refine jf rfl zbl rfl zax ?_
 refine Ops.st (qT.store rfl rfl zax hd.blk rfl rfl) ?_
 rintro w21 ⟨hb7, hf21, hs21⟩
 have hd := hd.dirs (dv := .slice t.fA nb t.fc) hb7 hf21
 have hTX := hTX.fk (Fk.self hf21 (by simp [DrQ.X]))
 have hPX := hPX.fk (Fk.self hf21 (by simp [DrQ.X]))
 have hdp0 : D.puts = D.puts ++ dX dir (bQ D.pairs) 0 := by simp [dX]
 refine jO (jN (jv3 6 7 16 ?_))
 refine jS (jS (jR (jm rfl (jL rfl zbc ?_))))
 refine jx .i64 0 ?_
 refine jO (jN (jv5 6 7 116 117 118 ?_))
 refine jB ?_
 refine VC.loop (σ := Nat × Option Addr × Nat × List Pq) (fun s => [(6, jI0 g6), (7, jI0 g7), (116, .slice TB nb td), (117, jI1 nb), (118, jI1 s.1)]) (fun s wr => s.1 ≤ nb ∧ IsDr w1 wr (g6 :: Y) g7 m { D with puts := D.puts ++ dX dir (bQ D.pairs) s.1 } { t with S := s.2.1, sc := s.2.2.1, ps := s.2.2.2, dv := .slice t.fA nb t.fc } [] ∧ RdX wr (({ t with S := s.2.1, sc := s.2.2.1, ps := s.2.2.2, dv := .slice t.fA nb t.fc } : DrQ).X g7 m) 1 TB nb (bs.map SL) ∧ PgS b0 wr (({ t with S := s.2.1, sc := s.2.2.1, ps := s.2.2.2, dv := .slice t.fA nb t.fc } : DrQ).X g7 m) bs ∧ s.2.2.2.length ≤ 100000 + s.1) (fun s => nb - s.1) (0, t.S, t.sc, t.ps) (js5 rfl rfl rfl rfl rfl) ⟨zj _, by rw [← hdp0]; exact hd, hTX, hPX, by dsimp only; omega⟩ ?_
 rintro ⟨k, SS, ss, ps⟩ wr ⟨hk, hd, hTX, hPX, hpsl⟩
 dsimp only at hk hd hTX hPX hpsl ⊢
 obtain ⟨tt, htt⟩ : ∃ tt : DrQ, tt = { t with S := SS, sc := ss, ps := ps, dv := .slice t.fA nb t.fc } := ⟨_, rfl⟩
 rw [← htt] at hd hTX hPX
 have ettS : tt.S = SS := by rw [htt]
 have ettp : tt.ps = ps := by rw [htt]
 have ettd : tt.dv = .slice t.fA nb t.fc := by rw [htt]
 have hpsl2 : tt.ps.length ≤ 100000 + k := by rw [ettp]; exact hpsl
 obtain ⟨a1, a2, a3, a4, a5, a6, a7⟩ := hd.apart
 have hzl : ∀ V, Frm (ob tt.S) wr V → ∀ j, j < nb → ∃ ad, t.fA = some ad ∧ V.cell? (ad.add j) = some (jI1 (dir.getD j 0)) := fun V hV j hj => rdZ (hdR.1.frm (hd.K.own hV (fun x hx => hd.up x (by simp [DrQ.X, hx]))) jp) hdl hj
 refine jS (jR (jb rfl rfl (Bin.lssN _ _) (jO (jN (jS ?_)))))
 refine jD rfl (fun hc5 => ?_) fun hc5 => ?_
 ·
  obtain ⟨adT, hTe, helT⟩ := qK7 hTX.1 hbl hc5
  subst hTe
  obtain ⟨adD, hDe, -⟩ := hzl wr (Frm.refl _ _) k hc5
  have hzc : ∀ V, Frm (ob tt.S) wr V → V.cell? (adD.add k) = some (jI1 (dir.getD k 0)) := fun V hV => by
   obtain ⟨ad2, he2, hc2⟩ := hzl V hV k hc5
   rw [hDe] at he2
   cases he2
   exact hc2
  have hdps := uT dir (bQ D.pairs) k
  have hbm := nH (jo : k < bs.length)
  have hbe : (bQ D.pairs).getD k [] = (bs.getD k (none, 0, [])).2.2 := by
   rw [← hbs, zb, zbr, ze jo, zb, ze jo]
   rfl
  rw [hbe] at hdps
  have hPk := hPX _ hbm
  have hdk := hdp _ (bG (jo : k < dir.length))
  have htk := htok _ (show (bs.getD k (none, 0, [])).2.2 ∈ bQ D.pairs by rw [← hbs]; exact List.mem_map.2 ⟨_, hbm, rfl⟩)
  generalize bs.getD k (none, 0, []) = pg at helT hdps hPk htk hbm
  obtain ⟨gA, gc, gb⟩ := pg
  generalize dir.getD k 0 = p at hdps hdk hzc
  dsimp only at hdps hPk htk
  refine jQ (jN (jv5 6 7 116 117 118 ?_))
  refine jS (jB (jS (jR (jm rfl (je (Run.index1 _ rfl rfl zbc zah jo) (jl rfl zba helT (ja rfl (ja rfl (jO (jN (jv7 6 7 18 19 116 117 118 ?_)))))))))))
  refine VC.heldL 13 (fun V => Frm (ob tt.S) wr V) jK ?_
  have hS : Frm (ob tt.S) wr wr.drew := (Frm.refl _ _).drew
  refine jH 0 rfl hS (fun w0 hw0 => Run.fieldAddr rfl zbl rfl zeb jd) ?_
  refine jH 1 rfl hS (fun w0 hw0 => Run.load rfl Tryz.isAgg102 ((hd.blk.frm hw0 a2).cell 0)) ?_
  refine jH 2 rfl hS (fun w0 hw0 => Run.fieldAddr rfl zbl rfl zax jd) ?_
  refine jH 3 rfl hS (fun w0 hw0 => Run.load rfl zbx ((hd.blk.frm hw0 a2).cell 3)) ?_
  rw [ettd, hDe]
  refine jh 4 hS ?_
  refine jH 5 rfl hS (fun w0 hw0 => Run.index1 _ rfl rfl zn zm jo) ?_
  refine jH 6 rfl hS (fun w0 hw0 => Run.load rfl zaa (hzc w0 hw0)) ?_
  refine jH 7 rfl hS (fun w0 hw0 => Run.bin rfl rfl (Bin.add_i64 42 _ jo)) ?_
  refine qJ.r1 8 rfl jK hS (Run.mv rfl) trivial rfl rfl ?_
  refine qJ.r1 9 rfl jK hS (Run.build (evs.cons rfl (evs.cons rfl evs.nil)) cP (cR).choose_spec.1 (cR).choose_spec.2 (cells := (pqC (42 + p, (gA, gc, gb))).toArray) rfl) trivial rfl rfl ?_
  refine qJ.m 10 rfl jK (qV.buildS1 rfl zx zbe cP jd jd rfl rfl) trivial rfl rfl ?_
  rintro _ w22 ⟨rfl, hF22⟩
  have hS := hS.trans hF22.frm jp
  refine ⟨hS, ?_⟩
  have hr22 : Rd w22 2 (some ⟨wr.drew.heap.size, 0, none⟩) 1 (pqC (42 + p, (gA, gc, gb))) := Rd.of_blk (n := 1) (size := 2) hF22.blk rfl
  have kf22 : Frm [] wr w22 := (qP.drew wr).frm.trans hF22.frm jp
  have hd := hd.frm kf22
  have hTX := hTX.frm kf22
  have hPX := hPX.frm kf22
  have hPk := hPX _ hbm
  refine qJ.m 11 rfl jK (qV.app rfl rfl zx (gW) rfl jd hd.S hr22 (eG _) jo jo) trivial rfl rfl ?_
  rintro _ w23 ⟨S23, sc23, rfl, hoS, hf23, hob23⟩
  have hS := hS.trans hf23 (fun x hx => .inl hx)
  refine ⟨hS, ?_⟩
  have e23 : tt.ps.flatMap pqC ++ pqC (42 + p, (gA, gc, gb)) = (tt.ps ++ [(42 + p, (gA, gc, gb))]).flatMap pqC := jp
  rw [e23] at hoS
  have hb7 := hd.blk.frm hf23 a2
  refine qJ.r1 12 rfl jK hS (Run.fieldAddr rfl zbl rfl zeb jd) trivial rfl rfl ?_
  refine qJ.stL rfl jK (qT.store rfl rfl zeb hb7 rfl rfl) trivial rfl ?_
  rintro w24 ⟨hb7, hf24, hs24⟩
  have kfk := hd.fkS (sc1 := sc23) (ps1 := tt.ps ++ [(42 + p, (gA, gc, gb))]) hf23 hf24 hob23
  have hTX := hTX.fk kfk
  have hPX := hPX.fk kfk
  have hd := hd.puts (qs := [(42 + p, (gA, gc, gb))]) (us := [(42 + p, gb)]) (by rw [zf]; rfl) hoS hf23 hob23 hb7 hf24 rfl (fun x hx => by rw [za] at hx; subst hx; exact ⟨by dsimp only; omega, htk.1, htk.2⟩) (fun x hx => by rw [za] at hx; subst hx; exact ⟨(hPX _ hbm).1, fun y hy => ⟨((hPX _ hbm).2 y hy).1, zbd hb0w ((hPX _ hbm).2 y hy).2⟩⟩) []
  have hd9 : IsDr w1 w24 (g6 :: Y) g7 m { D with puts := D.puts ++ dX dir (bQ D.pairs) (k + 1) } { t with S := S23, sc := sc23, ps := tt.ps ++ [(42 + p, (gA, gc, gb))], dv := .slice t.fA nb t.fc } [] := by
   rw [hdps, ← zab]
   rw [htt] at hd ⊢
   exact hd
  rw [htt] at hTX hPX
  refine qJ.done jK ?_
  refine qH (jN ?_)
  refine jv5 6 7 116 117 118 ?_
  refine jR (jb rfl rfl (Bin.add_i64 _ 1 jo) (jm rfl (jO ?_)))
  refine jN ⟨(k + 1, S23, sc23, tt.ps ++ [(42 + p, (gA, gc, gb))]), (js5 rfl rfl rfl rfl rfl), ?_, ?_⟩
  ·
   rw [← hDe]
   refine ⟨hc5, hd9, by rw [htt]; exact hTX, by rw [htt]; exact hPX, by dsimp only; rw [zf, ettp, zck]; omega⟩
  exact jq
 have hkn : k = nb := jo
 rw [hkn] at hd
 have hsl : (bR dir).length = 128 := fM (by rw [eE]; omega)
 have hslt : ∀ b ∈ bR dir, b < 256 := fL (lH dir)
 refine jX ?_
 refine qZ (qZ (qN ?_))
 refine jN (jv2 6 7 ?_)
 refine jS ?_
 refine VC.heldL 9 (fun V => Frm (ob tt.S) wr V) jK ?_
 have hS : Frm (ob tt.S) wr wr.drew := (Frm.refl _ _).drew
 refine jH 0 rfl hS (fun w0 hw0 => Run.fieldAddr rfl zbl rfl zeb jd) ?_
 refine jH 1 rfl hS (fun w0 hw0 => Run.load rfl Tryz.isAgg102 ((hd.blk.frm hw0 a2).cell 0)) ?_
 refine qJ.r1 2 rfl jK hS (Run.fieldAddr rfl zbl rfl zax jd) trivial rfl rfl ?_
 refine qJ.r1 3 rfl jK hS (Run.load rfl zbx ((hd.blk.frm hS a2).cell 3)) trivial rfl rfl ?_
 rw [ettd]
 refine qJ.cl 4 rfl jK (jE1 Tryz.call108) (vA t.fA nb t.fc dir _ hdl jo ((hdR.1.frm hd.K jp).drawn (qP.drew _)) (fun p hp => by have := hdp p hp; omega)) trivial rfl rfl ?_
 rintro e w25 ⟨SB, sd, rfl, hoB, hf25, hupB⟩
 have hS := hS.trans hf25 jp
 refine ⟨_, rfl, hS, ?_⟩
 have kf25 : Frm [] wr w25 := (qP.drew wr).frm.trans hf25 jp
 refine qJ.r1 5 rfl jK hS (Run.build (evs.cons rfl (evs.cons rfl evs.nil)) cP (cR).choose_spec.1 (cR).choose_spec.2 (cells := (pqC (41, (SB, sd, bR dir))).toArray) (by rw [pqC, SL, hsl]; rfl)) trivial rfl rfl ?_
 refine qJ.m 6 rfl jK (qV.buildS1 rfl zx zbe cP jd jd rfl rfl) trivial rfl rfl ?_
 rintro _ w26 ⟨rfl, hF26⟩
 have hS := hS.trans hF26.frm jp
 refine ⟨hS, ?_⟩
 have hr26 : Rd w26 2 (some ⟨w25.heap.size, 0, none⟩) 1 (pqC (41, (SB, sd, bR dir))) := Rd.of_blk (n := 1) (size := 2) hF26.blk rfl
 have kf26 : Frm [] wr w26 := kf25.trans hF26.frm jp
 have hltX := hd.lt
 have hdK0 := hd.K
 have hd := hd.frm kf26
 have hBl := hoB.lt
 have hoB := hoB.frm hF26.frm jp
 have s25 := hF26.frm.size
 refine qJ.m 7 rfl jK (qV.app rfl rfl zx (gW) rfl jd hd.S hr26 (eG _) jo jo) trivial rfl rfl ?_
 rintro _ w27 ⟨S27, sc27, rfl, hoS, hf27, hob27⟩
 have hS := hS.trans hf27 (fun x hx => .inl hx)
 refine ⟨hS, ?_⟩
 have e27 : tt.ps.flatMap pqC ++ pqC (41, (SB, sd, bR dir)) = (tt.ps ++ [(41, (SB, sd, bR dir))]).flatMap pqC := jp
 rw [e27] at hoS
 have hb7 := hd.blk.frm hf27 a2
 refine qJ.r1 8 rfl jK hS (Run.fieldAddr rfl zbl rfl zeb jd) trivial rfl rfl ?_
 refine qJ.stL rfl jK (qT.store rfl rfl zeb hb7 rfl rfl) trivial rfl ?_
 rintro w28 ⟨hb7, hf28, hs28⟩
 have kfk := hd.fkS (sc1 := sc27) (ps1 := tt.ps ++ [(41, (SB, sd, bR dir))]) hf27 hf28 hob27
 have hq28 : PuS w1.heap.size w28 (g7 :: m :: (ob S27 ++ ob tt.A)) [(41, (SB, sd, bR dir))] := by
  have h0 : PuS w1.heap.size w26 (tt.X g7 m) [(41, (SB, sd, bR dir))] := fun x hx => by
   rw [za] at hx
   subst hx
   refine ⟨by dsimp only; rw [hsl]; exact hoB.rd, fun y hy => ?_⟩
   have h1 := hupB y hy
   have h2 := hBl y hy
   rw [show wr.drew.heap.size = wr.heap.size from rfl] at h1
   have h3 := hdK0.size
   exact ⟨⟨jo, fun hx => by have := hltX y hx; omega⟩, jo⟩
  exact h0.fk kfk
 have hd := hd.puts (qs := [(41, (SB, sd, bR dir))]) (us := [(41, bR dir)]) (by rw [zf]; rfl) hoS hf27 hob27 hb7 hf28 rfl (fun x hx => by rw [za] at hx; subst hx; exact ⟨by dsimp only; omega, hsl, hslt⟩) hq28 []
 refine qJ.done jK ?_
 refine jN (jv2 6 7 ?_)
 refine jS (jR (je (Run.loadA rfl Tryz.isAgg104 zho hd.blk.cells (by first | rfl | (simp; done))) ?_))
 refine Ops.st (qT.storeA rfl rfl zho (hb60.frm hd.K jp) rfl (by intro u hu; simp only [plV, zaq, zaz, or_false] at hu; rcases hu with rfl | rfl | rfl | rfl; rfl; rfl; rfl; rw [ettd]; rfl)) ?_
 rintro w30 ⟨hb6, hf30, hs30⟩
 refine jO (jN (jv1 6 ?_))
 refine jT ?_
 refine eO ?_
 refine cW rfl Tryz.isAgg104 zho (hb6.cells) (by first | rfl | (simp; done) | (simp [*]; done)) ?_
 refine cY ?_
 have hpe : qD D = ⟨(D.puts ++ dX dir (bQ D.pairs) nb) ++ [(41, bR dir)], D.pairs, D.lies, dir⟩ := by
  unfold qD
  rw [← hnb, ← hdir]
 have hup := hd.up
 have ng : ∀ y ∈ DrQ.X g7 m { tt with S := S27, sc := sc27, ps := tt.ps ++ [(41, (SB, sd, bR dir))] }, y ∉ [g6] := fun y hy h => by
  rw [za] at h
  have := hup y hy
  omega
 have hfw : Frm [g6] w1 w30 := (hd.K.mono jp).trans hf30 (fun x hx => .inl hx)
 refine ⟨⟨S27, sc27, tt.ps ++ [(41, (SB, sd, bR dir))], tt.A, tt.ca, m, tt.ly, t.fA, t.fc⟩, (tt.ps ++ [(41, (SB, sd, bR dir))]).length, D.pairs.length, nb, by rw [← ettd]; rfl, rfl, by rw [hpe], by rw [hpe]; exact hdl.symm, ?_⟩
 rw [hpe]
 exact ⟨(KW.trans hd.K jp).own hf30 (by simp; omega), ⟨rfl, (hd.S.frm hf30 (fun y hy => ng y (by simp [DrQ.X, hy]))).rd, fun x hx => (hd.ps x hx).1.frm hf30 (fun _ y hy h => by rw [za] at h; have := ((hd.ps x hx).2 y hy).2; omega), fun x hx => by
   have := (hd.ok.pu (x.1, x.2.2.2) (by rw [← hd.pu]; exact List.mem_map.2 ⟨x, hx, rfl⟩)).1
   dsimp only at this
   omega, fun x hx => (hd.ok.pu (x.1, x.2.2.2) (by rw [← hd.pu]; exact List.mem_map.2 ⟨x, hx, rfl⟩)).2.2⟩, hd.pu, fun x hx y hy => by have := ((hd.ps x hx).2 y hy).2; omega,
  (hd.A.frm hf30 (fun y hy => ng y (by simp [DrQ.X, hy]))).rd, hd.A.le, fun y hy => by have := hup y (by simp [DrQ.X, hy]); omega, hd.mp.frm hf30 (ng m (by simp [DrQ.X])), by have := hup m (by simp [DrQ.X]); show w.heap.size ≤ m; omega, fun id r hid => ⟨(hd.ly id r hid).1.less hfw, (hd.ly id r hid).2⟩, fun x hx => hd.lyD x hx jp, by
   show RdX w30 Y 1 t.fA dir.length (ZN dir)
   rw [hdl]
   exact hdR.less hfw⟩
theorem vI (l : List Pr) (p : Nat → Bool) : (l.filter fun x => p x.1).map (·.1) = (l.map (·.1)).filter p := by
 rw [List.filter_map]
 rfl
theorem qQk (x : Dw) (c : Ch) : (bV x c).pairs.map (·.1) = ((x.pairs.map (·.1)).filter fun y => decide (y < c.1)) ++ (if c.2.2 then [] else [c.1]) ++ ((x.pairs.map (·.1)).filter fun y => decide (c.1 < y)) := by
 rw [← vI, ← vI]
 unfold bV
 split
 · next h => simp [cX, bU]
 next h => simp [cX, bU, cE]
theorem qGq (H : Hm) (l : List Ch) (fr fr' : List Nat) : (qO H l fr).pairs.map (·.1) = (qO H l fr').pairs.map (·.1) := by
 unfold qO
 generalize hx : (⟨[], H.pairs, fr, H.lies⟩ : Dw) = x
 generalize hx' : (⟨[], H.pairs, fr', H.lies⟩ : Dw) = x'
 have h1 : x.pairs.map (·.1) = x'.pairs.map (·.1) := by rw [← hx, ← hx']
 clear hx hx'
 induction l generalizing x x' with
 | nil => exact h1
 | cons c r ih => exact ih _ _ (by rw [qQk, qQk, h1])
theorem tJ (H : Hm) (l : List Ch) (fr fr' : List Nat) : (qO H l fr).pairs.length = (qO H l fr').pairs.length := by
 have := congrArg List.length (qGq H l fr fr')
 simpa using this
def GoneOk (H : Hm) (l : List Ch) : Prop := ∀ x ∈ l, x.2.2 = true → x.1 ∈ H.pairs.map (·.1)
instance (H : Hm) (l : List Ch) : Decidable (GoneOk H l) := by unfold GoneOk; infer_instance
def dQ (H : Hm) (l : List Ch) : Nat := (qO H l []).pairs.length
def bZ (H : Hm) (l : List Ch) : Nat := sumN l + eJ (dQ H l)
def bM (H : Hm) (l : List Ch) : Pln := qD (qO H l ((bT H.N H.used).take (bZ H l)))
def Hm.plan (H : Hm) (dk : Dk) (P : Pln) : Hm := ⟨dk, P.pairs, P.dir, P.lies, H.used⟩
def Hm.count (H : Hm) : Hm := { H with used := (bN H.N (fun _ => false) (bH H)).getD (fun _ => false) }
def qB (H : Hm) (l : List Ch) : Nat × Hm :=
 if ¬ cV l then (1, H)
 else if ¬ GoneOk H l then (6, H)
 else if 600 < dQ H l ∨ 40 < bZ H l + 1 then (5, H)
 else if H.N - dW H.N H.used < bZ H l then (5, H)
 else if (bK H.dk (bM H l).puts).1 ≠ 0 then ((bK H.dk (bM H l).puts).1, { H with dk := (bK H.dk (bM H l).puts).2 })
 else (0, (H.plan (bK H.dk (bM H l).puts).2 (bM H l)).count)
def mJ (H : Hm) (l : List Ch) : Prop := cV l → GoneOk H l → dQ H l ≤ 600 → bZ H l ≤ 39 → bZ H l ≤ H.N - dW H.N H.used → (bK H.dk (bM H l).puts).1 = 0 →
 (H.plan (bK H.dk (bM H l).puts).2 (bM H l)).ok ∧ (bK H.dk (bM H l).puts).2.has.length = H.dk.has.length ∧ ∃ U, bN H.N (fun _ => false) (bH (H.plan (bK H.dk (bM H l).puts).2 (bM H l))) = some U
theorem IsHt.lt {w : World} {h g : Nat} {F : List Nat} {H : Hm} {q : HtQ} (a : IsHt w h g F H q) : ∀ x ∈ h :: F, x < w.heap.size := fun x hx => by
 rcases zaq.1 hx with rfl | hx
 · exact a.blk.lt
 exact a.dk.lt x hx
theorem RdX.of_new {w w' : World} {X : List Nat} {A : Option Addr} {sz n : Nat} {xs : List Value} (h : Rd w' sz A n xs) (hA : ∀ x ∈ ob A, w.heap.size ≤ x) (hX : ∀ x ∈ X, x < w.heap.size) : RdX w' X sz A n xs := ⟨h, fun h0 y hy => ⟨h.lt h0 y hy, fun hx => by
 have h1 := hX y hx
 have h2 := hA y hy
 omega⟩⟩
theorem qWz (H : Hm) (hs : Srt H.pairs) (l : List Ch) (fr : List Nat) : (qO H l fr).pairs.length ≤ H.pairs.length + l.length := by
 have key : ∀ (l : List Ch) (x : Dw), Srt x.pairs → (l.foldl bV x).pairs.length ≤ x.pairs.length + l.length := by
  intro l
  induction l with
  | nil => intro x _; simp
  | cons c r ih =>
   intro x hx
   have h1 := ih _ (tQ hx c)
   have h2 := qZc hx c
   rw [zee, zad]
   have h3 : (bV x c).pairs.length ≤ x.pairs.length + 1 := by split at h2 <;> split at h2 <;> omega
   omega
 exact key l _ hs
theorem eK (d : Dk) (l : List Pu) : (bK d l).2.has.length = d.has.length := by
 unfold bK
 split
 · rfl
 exact mT _ _
theorem qGr (H : Hm) (l : List Ch) (fr : List Nat) : (qO H l fr).puts.length ≤ sumN l := by
 have key : ∀ (l : List Ch) (x : Dw), (l.foldl bV x).puts.length ≤ x.puts.length + sumN l := by
  intro l
  induction l with
  | nil => intro x; simp [sumN]
  | cons c r ih =>
   intro x
   have h1 := ih (bV x c)
   have h2 : (bV x c).puts.length ≤ x.puts.length + qI c.2.1.length := by
    unfold bV
    split
    · exact zdz _ _
    dsimp only
    rw [zf, dN, oQ, zk]
    omega
   have h3 : sumN (c :: r) = qI c.2.1.length + sumN r := by simp [sumN]
   rw [zee]
   omega
 have := key l ⟨[], H.pairs, fr, H.lies⟩
 unfold qO
 simpa using this
theorem qW0 (D : Dw) : (qD D).puts.length = D.puts.length + (bQ D.pairs).length + 1 := by
 unfold qD dX
 simp
 omega
theorem Own.blk1 {w : World} {e sz g : Nat} {xs : List Value} (h : Own w e sz (some ⟨g, 0, none⟩) 1 1 xs) : Blk w g e xs.toArray := by
 rcases h.cases with ⟨h0, _⟩ | ⟨g', cur, hA, hb, _, _, h3, h4⟩
 · cases h0
 cases hA
 rw [← h4, zh (by rw [zcn]; omega)]
 exact hb
theorem IsPl.frm {w w' w2 : World} {X : List Nat} {P : Pln} {t : PlQ} (p : IsPl w w' X P t) (k : Frm [] w' w2) : IsPl w w2 X P t :=
 ⟨p.K.trans k jp, p.rp.frm k, p.pu, p.off, p.pr.frm k jp, p.pc, p.A, p.mp.frm k jp, p.ml, fun id r hr => ⟨(p.ly id r hr).1.frm k, (p.ly id r hr).2⟩, p.lyD, p.dr.frm k⟩
theorem IsHt.dks {w w' : World} {h g : Nat} {F F' : List Nat} {H : Hm} {q : HtQ} {d' : Dk} (a : IsHt w h g F H q) (hD : IsDk w' g F' d') (k : Fk F w w' F') (hok : ({ H with dk := d' } : Hm).ok) (hl : d'.has.length = H.dk.has.length) : IsHt w' h g F' { H with dk := d' } q := by
 have kk : Fk (h :: F) w w' (h :: F') := Fk.left (X := [h]) k
 have hN : ({ H with dk := d' } : Hm).N = H.N := by unfold Hm.N; dsimp only; rw [hl]
 exact ⟨hok, hD, k.out a.blk.lt a.hF, by rw [hN]; exact a.blk.frm k.1 a.hF, a.pr.fk kk, a.pcap, a.dr.fk kk, a.mp.frm kk.1 a.ml, kk.out a.mp.lt a.ml, fun id x hx => ⟨(a.ly id x hx).1.fk kk, (a.ly id x hx).2⟩, a.lyH, by rw [hN]; exact a.us.fk kk⟩
theorem IsHt.planned {w0 w w' : World} {h g : Nat} {F F' : List Nat} {H : Hm} {q : HtQ} {d' : Dk} {P : Pln} {t : PlQ} (a : IsHt w h g F H q) (p : IsPl w0 w (h :: F) P t) (h0 : ∀ x ∈ h :: F, x < w0.heap.size) (hD : IsDk w' g F' d') (k : Fk (h :: F) w w' (h :: F')) (hhF : h ∉ F')
  (hb : Blk w' h 91 #[jI0 g, .slice t.A P.pairs.length t.ca, .slice t.dA P.dir.length t.dc, .map (some t.m), jI1 H.N, .slice q.sB ((H.N + 7) / 8) q.sc]) (hok : (H.plan d' P).ok) (hl : d'.has.length = H.dk.has.length) : IsHt w' h g F' (H.plan d' P) ⟨t.A, t.ca, t.dA, t.dc, t.m, q.sB, q.sc, t.ly⟩ := by
 have hN : (H.plan d' P).N = H.N := by unfold Hm.N Hm.plan; dsimp only; rw [hl]
 have hm : t.m ∉ h :: F := fun hx => by have := h0 _ hx; have := p.ml; omega
 exact ⟨hok, hD, hhF, by rw [hN]; exact hb, (RdX.of_new p.pr p.A h0).fk k, p.pc, p.dr.fk k, p.mp.frm k.1 hm, k.out p.mp.lt hm, fun id x hx => ⟨(p.ly id x hx).1.fk k, (p.ly id x hx).2⟩, p.lyD, by rw [hN]; exact a.us.fk k⟩
theorem IsHt.counted {w w' : World} {h g : Nat} {F : List Nat} {H : Hm} {q : HtQ} {U : Nat → Bool} {B : Option Addr} {c : Nat} (a : IsHt w h g F H q) (hb : Blk w' h 91 #[jI0 g, .slice q.pA H.pairs.length q.pc, .slice q.dA H.dir.length q.dc, .map (some q.l), jI1 H.N, .slice B ((H.N + 7) / 8) c]) (k : Frm [h] w w')
  (hr : RdX w (h :: F) 1 B ((H.N + 7) / 8) (NB (cL H.N U))) : IsHt w' h g F { H with used := U } { q with sB := B, sc := c } := by
 have kk : Fk (h :: F) w w' (h :: F) := Fk.self k jp
 exact ⟨⟨a.ok.srt, a.ok.okp, a.ok.n600, a.ok.sz, a.ok.big, a.ok.wts, a.ok.d59, a.ok.dirp, a.ok.pg⟩, a.dk.frm k (fun x hx h => by rw [za] at h; subst h; exact a.hF hx), a.hF, hb, a.pr.fk kk, a.pcap, a.dr.fk kk, a.mp.frm kk.1 a.ml, a.ml, fun id x hx => ⟨(a.ly id x hx).1.fk kk, (a.ly id x hx).2⟩, a.lyH, hr.fk kk⟩
theorem RdX.mono {w : World} {X Y : List Nat} {A : Option Addr} {sz n : Nat} {xs : List Value} (h : RdX w X sz A n xs) (hY : ∀ y ∈ Y, y ∈ X) : RdX w Y sz A n xs := ⟨h.1, fun h0 y hy => ⟨(h.2 h0 y hy).1, fun hx => (h.2 h0 y hy).2 (hY y hx)⟩⟩
theorem IsPl.mono {w w' : World} {X Y : List Nat} {P : Pln} {t : PlQ} (p : IsPl w w' X P t) (hY : ∀ y ∈ Y, y ∈ X) : IsPl w w' Y P t :=
 ⟨p.K, p.rp, p.pu, p.off, p.pr, p.pc, p.A, p.mp, p.ml, fun id r hr => ⟨(p.ly id r hr).1.mono hY, (p.ly id r hr).2⟩, p.lyD, p.dr.mono hY⟩
structure OffQ (E : List Nat) (H : Hm) (q : HtQ) : Prop where
 pr : 0 < H.pairs.length → ∀ y ∈ ob q.pA, y ∉ E
 dr : 0 < H.dir.length → ∀ y ∈ ob q.dA, y ∉ E
 ml : q.l ∉ E
 ly : ∀ id x, q.ly id = some x → 0 < x.2.2.length → ∀ y ∈ ob x.1, y ∉ E
 us : 0 < (H.N + 7) / 8 → ∀ y ∈ ob q.sB, y ∉ E
theorem OffQ.nil (H : Hm) (q : HtQ) : OffQ [] H q := ⟨fun _ _ _ => jp, fun _ _ _ => jp, jp, fun _ _ _ _ _ _ => jp, fun _ _ _ => jp⟩
theorem IsHt.aside {w w' : World} {h g : Nat} {F E : List Nat} {H : Hm} {q : HtQ} (a : IsHt w h g F H q) (o : OffQ E H q) (k : Frm E w w') (hE : ∀ x ∈ h :: F, x ∉ E) : IsHt w' h g F H q :=
 have tr : ∀ {A : Option Addr} {sz n : Nat} {xs : List Value}, RdX w (h :: F) sz A n xs → (0 < n → ∀ y ∈ ob A, y ∉ E) → RdX w' (h :: F) sz A n xs := fun hr ho => ⟨hr.1.frm k ho, fun h0 y hy => ⟨zas (hr.2 h0 y hy).1 k.size, (hr.2 h0 y hy).2⟩⟩
 ⟨a.ok, a.dk.frm k (fun x hx => hE x (by simp [hx])), a.hF, a.blk.frm k (hE h jp), tr a.pr o.pr, a.pcap, tr a.dr o.dr, a.mp.frm k o.ml, a.ml, fun id x hx => ⟨tr (a.ly id x hx).1 (o.ly id x hx), (a.ly id x hx).2⟩, a.lyH, tr a.us o.us⟩
theorem qJn {H : Hm} (_ : H.ok) : ∀ p ∈ bT H.N H.used, p < H.N := fun p hp => List.mem_range.1 (List.mem_filter.1 hp).1
theorem oL (E : List Nat) (S : Option Addr) (n c : Nat) (l : List Cq) (h g : Nat) (F : List Nat) (H : Hm) (q : HtQ) (w : World) (hH : IsHt w h g F H q) (hE : ∀ y ∈ E, y < w.heap.size) (hqE : OffQ E H q) (hn : n ≤ 1000) (hr : RdC w S n l) (hmk : mJ H (chL l)) (hok' : (qB H (chL l)).2.ok) :
  Calls Tryz.prog 10 #[jI0 h, .slice S n c] w fun e w' => ∃ F' q', e = .returned (jI1 ((qB H (chL l)).1)) ∧ IsHt w' h g F' (qB H (chL l)).2 q' ∧ Fk (h :: F) w w' (h :: F') ∧ OffQ E (qB H (chL l)).2 q' := by
 have h600 := hH.ok.n600
 have hbg := hH.ok.big
 have hsz := hH.ok.sz
 have hNe : H.N = H.dk.has.length - 42 := rfl
 have hln := hr.len
 have K0 := Frm.refl [] w
 have hX := hH.lt
 refine jV Tryz.func10 Tryz.ntmps10 Tryz.results10 ?_
 refine jS (jR (jz 0 (jO (jN (jv2 0 1 ?_)))))
 refine jS (jS (jR (jM ?_)))
 refine jc (jE1 Tryz.call41) (qWu S n c l w jo hr) ?_
 rintro e w1 ⟨rfl, K⟩
 refine ⟨_, rfl, ?_⟩
 refine je (Run.not rfl) (jO (jN (jv3 0 1 18 ?_)))
 refine VC.condB rfl (fun hc1 => ?_) (fun hc1 => ?_)
 ·
  have hm : ¬ cV (chL l) := by simpa using hc1
  have eB : qB H (chL l) = (1, H) := by unfold qB; rw [if_pos hm]
  rw [eB]
  refine jS (jR (jz 1 (jO (jN (jv1 4 ?_)))))
  refine jT ?_
  refine qQ (qS rfl ?_)
  exact ⟨F, q, rfl, hH.frm K, Fk.self K jp, hqE⟩
 have hm : cV (chL l) := by simpa using hc1
 refine jQ (jN (jv2 0 1 ?_))
 refine jS (jS (jR (jm rfl (jL rfl zap ?_))))
 refine jx .i64 0 ?_
 refine jO (jN (jB ?_))
 refine VC.loop (σ := Nat) (fun s => [(0, jI0 h), (1, .slice S n c), (19, .slice S n c), (20, jI1 n), (21, jI1 s)]) (fun s wr => s ≤ n ∧ GoneOk H (chL (l.take s)) ∧ Frm [] w wr) (fun s => n - s) 0 (js5 rfl rfl rfl rfl rfl) ⟨zj _, fun x hx => (by cases hx), K⟩ ?_
 rintro i wr ⟨hi, hgo, K⟩
 refine jS (jR (jb rfl rfl (Bin.lssN _ _) (jO (jN (jS ?_)))))
 refine jD rfl (fun hc2 => ?_) fun hc2 => ?_
 ·
  obtain ⟨ad, hS, hel⟩ := (hr.frm K).cell hc2
  subst hS
  have hmem := nN (jo : i < l.length)
  have hxn := hr.num _ hmem
  have hsnc := gH (jo : i < l.length)
  have hcm : chO (l.getD i cq0) ∈ chL l := List.mem_map.2 ⟨_, hmem, rfl⟩
  generalize l.getD i cq0 = x at hel hxn hsnc hcm
  obtain ⟨xa, ⟨xA, xc, xb⟩, xg⟩ := x
  dsimp only [chO] at hxn hsnc hcm
  refine jQ (jN (jv5 0 1 19 20 21 ?_))
  refine jS (jB (jS (jR (je (Run.indexS _ rfl rfl zap zbi jo) (je (Run.loadA rfl zhi zbi hel (by first | rfl | (simp; done))) ?_)))))
  refine Ops.m (qV.alloc gC) rfl ?_
  rintro _ w2 ⟨rfl, hF2⟩
  refine Ops.st (qT.storeA rfl rfl zbi hF2.blk rfl (oG (xa, (xA, xc, xb), xg))) ?_
  rintro w3 ⟨hb3, hf3, hs3⟩
  have hb3 : Blk w3 wr.heap.size 93 #[jI2 xa, .slice xA xb.length xc, .bool xg] := hb3
  have K := K.trans (hF2.frm.own hf3 jp) jp
  have hH3 := hH.frm K
  refine jO (jN (jv6 0 1 6 19 20 21 ?_))
  refine jS ?_
  refine VC.held (fun V => Frm [] w3 V) jK ?_
  have hS : Frm [] w3 w3.drew := (Frm.refl _ _).drew
  refine jh 0 hS ?_
  refine jH 1 rfl hS (fun w0 hw0 => Run.nilck rfl) ?_
  refine jH 2 rfl hS (fun w0 hw0 => Run.fieldAddr rfl zaj rfl zbk jd) ?_
  refine jH 3 rfl hS (fun w0 hw0 => Run.load rfl zci ((hH3.frm hw0).blk.cell 1)) ?_
  refine jH 4 rfl hS (fun w0 hw0 => Run.fieldAddr rfl zak rfl zy jd) ?_
  refine jH 5 rfl hS (fun w0 hw0 => Run.load rfl zai ((hb3.frm hw0 jp).cell 0)) ?_
  refine qJ.cl 6 rfl jK (jE2 Tryz.call42) (mX _ _ xa _ H.pairs _ rfl jo (hH3.frm hS).pr.1 hH.ok.okp hH.ok.srt hxn.1) trivial rfl rfl ?_
  rintro e w4 ⟨rfl, hf4⟩
  have hS := hS.trans hf4 jp
  refine ⟨_, rfl, hS, ?_⟩
  have hb4 := hb3.frm hS jp
  have K := K.trans hS jp
  generalize hg6 : wr.heap.size = g6 at *
  refine jh 7 hS ?_
  refine jH 8 rfl hS (fun w0 hw0 => Run.extract rfl rfl) ?_
  refine jH 9 rfl hS (fun w0 hw0 => Run.extract rfl rfl) ?_
  refine jH 10 rfl hS (fun w0 hw0 => Run.asg rfl) ?_
  refine jH 11 rfl hS (fun w0 hw0 => Run.asg rfl) ?_
  refine qJ.done jK ?_
  refine jN (jv7 0 1 6 8 19 20 21 ?_)
  refine jS ?_
  refine VC.split1 [(0, _), (1, _), (19, _), (20, _), (21, _)] (js5 rfl rfl rfl rfl rfl) 40 (.bool (decide (xg = true ∧ xa ∉ H.pairs.map (·.1)))) ?_ ?_
  ·
   refine jR (jf rfl zak rfl zat (jl rfl zcr (hb4.cell 2) ?_))
   by_cases hs36 : xg = true
   ·
    refine jM ?_
    refine jG ?_
    refine jk (Run.not rfl) ?_
    by_cases hs39 : xa ∉ H.pairs.map (·.1)
    ·
     refine jW rfl rfl au (jO ?_)
     refine jN ⟨(js6 (jC (by grind)) rfl rfl rfl rfl rfl), rfl⟩
    refine jW rfl rfl au (jO ?_)
    refine jN ⟨(js6 (jC (by grind)) rfl rfl rfl rfl rfl), rfl⟩
   refine jM ?_
   refine jU ?_
   refine jU ?_
   refine jF rfl rfl au (jO ?_)
   refine jN ⟨(js6 (jC (by grind)) rfl rfl rfl rfl rfl), rfl⟩
  intro Γ hΓ
  refine jN (VC.sub _ hΓ ?_)
  refine jD rfl (fun hc3 => ?_) fun hc3 => ?_
  ·
   have hng : ¬ GoneOk H (chL l) := fun hg => hc3.2 (hg _ hcm hc3.1)
   have eB : qB H (chL l) = (6, H) := by unfold qB; rw [if_neg (not_not_intro hm), if_pos hng]
   rw [eB]
   refine jS (jR (jz 6 (jO (jN (jv1 4 ?_)))))
   refine jT ?_
   refine qR (qQ (qQ (qR (qQ (qS rfl ?_)))))
   exact ⟨F, q, rfl, hH.frm K, Fk.self K jp, hqE⟩
  refine jQ ?_
  refine qH (jN ?_)
  refine jv5 0 1 19 20 21 ?_
  refine jR (jb rfl rfl (Bin.add_i64 _ 1 jo) (jm rfl (jO ?_)))
  refine jN ⟨i + 1, (js5 rfl rfl rfl rfl rfl), ?_, ?_⟩
  ·
   exact ⟨hc2, by
    rw [hsnc]
    intro x hx hg
    rcases zcp.1 hx with hx | hx
    · exact hgo x hx hg
    rw [za] at hx
    subst hx
    exact Classical.byContradiction fun hn => hc3 ⟨hg, hn⟩, K⟩
  exact jq
 rw [zh (jo : l.length ≤ i)] at hgo
 have hgo2 : GoneOk H (chL l) := hgo
 have hbp0 : dQ H (chL l) ≤ 100000 := by
  have := qWz H hH.ok.srt (chL l) []
  rw [mF] at this
  unfold dQ
  omega
 refine jX ?_
 refine qZ (qZ (qN ?_))
 refine jN (jv2 0 1 ?_)
 refine jS (jR (jm rfl (jM ?_)))
 refine jc (jE2 Tryz.call43) (qJl S n c l [] h g F H q wr (hH.frm K) hn (hr.frm K) hm hgo2) ?_
 rintro e w5 ⟨rfl, K5⟩
 refine ⟨_, rfl, ?_⟩
 have K := K.trans K5 jp
 rw [show (qO H (chL l) []).pairs.length = dQ H (chL l) from rfl, show sumN (chL l) + eJ (dQ H (chL l)) = bZ H (chL l) from rfl]
 have hbn : bZ H (chL l) ≤ 100000000 := by
  have h1 := sJ l (fun x hx => (hr.num x hx).2)
  have h2 := pI (dQ H (chL l))
  unfold bZ
  omega
 have hbp : dQ H (chL l) ≤ 100000 := hbp0
 refine jm rfl (jY rfl rfl (jY rfl rfl (ja rfl (ja rfl (jO (jN (jv4 0 1 9 10 ?_)))))))
 refine jS (jS ?_)
 refine VC.split1 [(0, _), (1, _), (9, _)] (js3 rfl rfl rfl) 54 (.bool (decide (600 < dQ H (chL l) ∨ 40 < bZ H (chL l) + 1))) ?_ ?_
 ·
  refine jR ?_
  refine jm rfl (jb rfl rfl (Bin.gtrN _ 600) ?_)
  by_cases hs49 : 600 < dQ H (chL l)
  ·
   refine jM ?_
   refine jU ?_
   refine jU ?_
   refine jU ?_
   refine jW rfl rfl au (jO ?_)
   refine jN ⟨(js4 (jC (by grind)) rfl rfl rfl), rfl⟩
  refine jM ?_
  refine jG ?_
  refine jk (Run.bin rfl rfl (Bin.add_i64 _ 1 jo)) ?_
  refine jk (Run.bin rfl rfl (Bin.gtrN _ 40)) ?_
  by_cases hs53 : 40 < bZ H (chL l) + 1
  ·
   refine jF rfl rfl au (jO ?_)
   refine jN ⟨(js4 (jC (by grind)) rfl rfl rfl), rfl⟩
  refine jF rfl rfl au (jO ?_)
  refine jN ⟨(js4 (jC (by grind)) rfl rfl rfl), rfl⟩
 intro Γ hΓ
 refine jN (VC.sub _ hΓ ?_)
 refine jD rfl (fun hc4 => ?_) fun hc4 => ?_
 ·
  have eB : qB H (chL l) = (5, H) := by unfold qB; rw [if_neg (not_not_intro hm), if_neg (not_not_intro hgo2), if_pos hc4]
  rw [eB]
  refine jS (jR (jz 5 (jO (jN (jv1 4 ?_)))))
  refine jT ?_
  refine qQ (qS rfl ?_)
  exact ⟨F, q, rfl, hH.frm K, Fk.self K jp, hqE⟩
 have hnb : bZ H (chL l) ≤ 39 := jo
 have hpb : dQ H (chL l) ≤ 600 := jo
 refine jQ (jN (jv3 0 1 9 ?_))
 refine jS (jR (jm rfl (jZ rfl (jf rfl zaj rfl zw (je (Run.loadA rfl zbb zw ((hH.frm K).blk.sub 4 (spV H.N q.sB q.sc).toList rfl) (by first | rfl | (simp; done))) (jM ?_))))))
 refine jc (jE2 Tryz.call44) (qVc H.N q.sc (bZ H (chL l)) q.sB H.used w5 jo jo jo (hH.frm K).us.1) ?_
 rintro e w6 ⟨K6, ho6⟩
 have ks5 := K.size
 obtain ⟨vs, LA, ln, cl, er, rfl, hvs, hv1, hor⟩ : ∃ vs LA ln cl, ∃ er : Nat, e = .returned (.tuple #[.agg vs, .slice LA ln cl, jI1 er]) ∧ vs.size = 2 ∧ (∀ u ∈ vs.toList, u.oneCell' = true) ∧ ((H.N - dW H.N H.used < bZ H (chL l) ∧ er = 5) ∨ (¬ H.N - dW H.N H.used < bZ H (chL l) ∧ er = 0 ∧ ln = bZ H (chL l) ∧ Rd w6 1 LA (bZ H (chL l)) (ZN ((bT H.N H.used).take (bZ H (chL l)))) ∧ bZ H (chL l) ≤ cl ∧ ∀ x ∈ ob LA, w5.heap.size ≤ x)) := by
  split at ho6
  · next hlt => obtain ⟨vs, he, h2, h3⟩ := ho6; exact ⟨vs, none, 0, 0, 5, he, h2, h3, .inl ⟨hlt, rfl⟩⟩
  next hlt => obtain ⟨vs, L, cl, he, ⟨h2, h3⟩, h4, h5, h6⟩ := ho6; exact ⟨vs, L, _, cl, 0, he, h2, h3, .inr ⟨hlt, rfl, rfl, h4, h5, h6⟩⟩
 refine ⟨_, rfl, ?_⟩
 have K := K.trans K6 jp
 refine jm rfl (jY rfl rfl (jY rfl rfl (jY rfl rfl ?_)))
 refine Ops.m (qV.alloc fX) rfl ?_
 rintro _ w7 ⟨rfl, hF7⟩
 refine Ops.st (qT.storeA rfl rfl (by rw [hvs]; exact zw) hF7.blk (by rw [hvs]; rfl) hv1) ?_
 rintro w8 ⟨hb8, hf8, hs8⟩
 have k68 : Frm [] w6 w8 := hF7.frm.own hf8 jp
 have K := K.trans k68 jp
 refine ja rfl (ja rfl (jO (jN (jv4 0 1 12 13 ?_))))
 refine jS (jS (jR (jm rfl (jb rfl rfl (Bin.neqN _ 0) (jO (jN (jv5 0 1 12 13 66 ?_)))))))
 refine jD rfl (fun hc5 => ?_) fun hc5 => ?_
 ·
  obtain ⟨hfu, rfl⟩ : H.N - dW H.N H.used < bZ H (chL l) ∧ er = 5 := by
   rcases hor with h | h
   · exact h
   exact absurd h.2.1 jo
  have eB : qB H (chL l) = (5, H) := by unfold qB; rw [if_neg (not_not_intro hm), if_neg (not_not_intro hgo2), if_neg hc4, if_pos hfu]
  rw [eB]
  refine jS (jR (jm rfl (ja rfl (jO (jN (jv1 4 ?_))))))
  refine jT ?_
  refine qQ (qS rfl ?_)
  exact ⟨F, q, rfl, hH.frm K, Fk.self K jp, hqE⟩
 obtain ⟨hnf, -, hlne, hrL, hcl, hupL⟩ := hor.resolve_left (fun h => jo)
 subst hlne
 obtain ⟨fr, hfr⟩ : ∃ fr, fr = (bT H.N H.used).take (bZ H (chL l)) := ⟨_, rfl⟩
 rw [← hfr] at hrL
 have hfl : fr.length = bZ H (chL l) := by rw [hfr, zk, gL]; omega
 have hrn : (qO H (chL l) fr).pairs.length = dQ H (chL l) := tJ _ _ _ _
 have htl : (bQ (qO H (chL l) fr).pairs).length = cK (dQ H (chL l)) := by rw [fH, hrn]
 have hpt : eJ (dQ H (chL l)) = cK (dQ H (chL l)) := if_pos hpb
 have hbe : bZ H (chL l) = sumN (chL l) + cK (dQ H (chL l)) := by unfold bZ; rw [hpt]
 have hplan : qD (qO H (chL l) fr) = bM H (chL l) := by rw [hfr]; rfl
 have hH8 := hH.frm K
 have hX8 : ∀ x ∈ h :: F, x < w8.heap.size := fun x hx => by have := hX x hx; have := K.size; omega
 have hEX : ∀ x ∈ h :: F ++ E, x < w.heap.size := fun x hx => by
  rcases zcp.1 hx with hx | hx
  · exact hX x hx
  exact hE x hx
 have hE8 : ∀ y ∈ E, y < w8.heap.size := fun y hy => by have := hE y hy; have := K.size; omega
 have hLX : RdX w8 (h :: F ++ E) 1 LA (bZ H (chL l)) (ZN fr) := (RdX.of_new (w := w5) hrL hupL (fun x hx => by have := hEX x hx; omega)).frm k68
 have hYl : ∀ id x, q.ly id = some x → RdX w8 (h :: F ++ E) 1 x.1 x.2.2.length (ZN x.2.2) := fun id x hx => ⟨(hH8.ly id x hx).1.1, fun h0 y hy => ⟨((hH8.ly id x hx).1.2 h0 y hy).1, fun hy2 => by
  rcases zcp.1 hy2 with hy2 | hy2
  · exact ((hH8.ly id x hx).1.2 h0 y hy).2 hy2
  exact hqE.ly id x hx h0 y hy hy2⟩⟩
 have eB1 : ∀ e d, bK H.dk (bM H (chL l)).puts = (e, d) → qB H (chL l) = if e ≠ 0 then (e, { H with dk := d }) else (0, (H.plan d (bM H (chL l))).count) := fun e d he => by
  unfold qB
  rw [if_neg (not_not_intro hm), if_neg (not_not_intro hgo2), if_neg hc4, if_neg hnf, he]
 refine jQ (jN (jv3 0 1 12 ?_))
 refine jS (jR (jm rfl (jm rfl (jM ?_))))
 refine jc (jE3 Tryz.call45) (qVj S n c l LA (bZ H (chL l)) cl fr h g F H q w8 hH8 (h :: F ++ E) hYl hn (hr.frm K) hm hfl hLX hcl (fun p hp => by have := qJn hH.ok p (by rw [hfr] at hp; exact zo hp); omega) jo jo jo jo) ?_
 rintro e w9 ⟨t, np, nq, dn, rfl, hnp, hnq, hdn, hP⟩
 rw [hplan] at hnq hdn hP
 have hKP := hP.K
 have hputs : (bM H (chL l)).puts.length ≤ 1000000 := by
  have h1 := qGr H (chL l) fr
  rw [← hplan, qW0]
  omega
 refine ⟨_, rfl, ?_⟩
 refine Ops.m (qV.alloc vQ) rfl ?_
 rintro _ w10 ⟨rfl, hF10⟩
 refine Ops.st (qT.storeA rfl rfl zho hF10.blk rfl (by intro u hu; simp only [zaq, zaz, or_false] at hu; rcases hu with rfl | rfl | rfl | rfl <;> rfl)) ?_
 rintro w11 ⟨hb14, hf11, hs11⟩
 have hb14 : Blk w11 w9.heap.size 104 #[.slice t.S np t.sc, .slice t.A nq t.ca, .map (some t.m), .slice t.dA dn t.dc] := hb14
 have hP := hP.frm (hF10.frm.own hf11 jp)
 have hPE := hP.mono (Y := E) (fun y hy => zfu _ hy)
 have hP := hP.mono (Y := h :: F) (fun y hy => zeo _ hy)
 have K := K.trans hP.K jp
 have hg14 : ∀ x ∈ h :: F, x < w9.heap.size := fun x hx => by have := hX8 x hx; have := hKP.size; omega
 generalize hg14e : w9.heap.size = g14 at *
 have n14F : g14 ∉ F := fun hx => zcj _ (hg14 _ (by simp [hx]))
 have n14h : g14 ∉ [h] := fun hx => by rw [za] at hx; exact zcj _ (hg14 g14 (by simp [hx]))
 have hH11 := hH.frm K
 have hoff : qGk t.ps F := fun x hx _ y hy hF => by have := hP.off x hx y hy; have := hX8 y (by simp [hF]); omega
 subst hnp hnq hdn
 have hpn : t.ps.length ≤ 1000000 := by
  have h1 := congrArg List.length hP.pu
  rw [cQ] at h1
  rw [h1]
  exact hputs
 refine jO (jN (jv2 0 14 ?_))
 refine jS (jS ?_)
 refine VC.held (fun V => Frm F w11 V) jK ?_
 have hS : Frm F w11 w11.drew := (Frm.refl _ _).drew
 refine jh 0 hS ?_
 refine jH 1 rfl hS (fun w0 hw0 => Run.nilck rfl) ?_
 refine jH 2 rfl hS (fun w0 hw0 => Run.fieldAddr rfl zaj rfl zeu jd) ?_
 refine jH 3 rfl hS (fun w0 hw0 => Run.load rfl zfh ((hH11.blk.frm hw0 hH.hF).cell 0)) ?_
 refine jH 4 rfl hS (fun w0 hw0 => Run.fieldAddr rfl zbl rfl zeb jd) ?_
 refine jH 5 rfl hS (fun w0 hw0 => Run.load rfl Tryz.isAgg102 ((hb14.frm hw0 n14F).cell 0)) ?_
 refine qJ.cl 6 rfl jK (jE2 Tryz.call46) (qX4 g _ _ F t.S t.ps H.dk _ (hH11.dk.drawn (qP.drew _)) (by have := hH.ok.wts; omega) hpn (hP.rp.frm (qP.drew _).frm) hoff) trivial rfl rfl ?_
 rintro e w12 ⟨F', rfl, hD', hFk⟩
 rw [hP.pu] at hD' ⊢
 have hS := hS.trans hFk.1 (fun x hx => .inl hx)
 refine ⟨_, rfl, hS, ?_⟩
 have hFk : Fk F w11 w12 F' := Fk.pre (qP.drew w11).frm hFk
 obtain ⟨ce, cd, hce⟩ : ∃ ce cd, bK H.dk (bM H (chL l)).puts = (ce, cd) := ⟨_, _, rfl⟩
 have hclen : cd.has.length = H.dk.has.length := by have := eK H.dk (bM H (chL l)).puts; rw [hce] at this; exact this
 rw [hce] at hD' ⊢
 have eB := eB1 ce cd hce
 refine jH 7 rfl hS (fun w0 hw0 => Run.asg rfl) ?_
 refine qJ.done jK ?_
 refine jN (jv3 0 14 15 ?_)
 refine jS (jR (jm rfl (jb rfl rfl (Bin.neqN _ 0) (jO (jN (jv4 0 14 15 80 ?_))))))
 refine jD rfl (fun hc6 => ?_) fun hc6 => ?_
 ·
  rw [eB, if_pos hc6] at hok' ⊢
  refine jS (jR (jm rfl (ja rfl (jO (jN (jv1 4 ?_))))))
  refine jT ?_
  refine qQ (qS rfl ?_)
  exact ⟨F', q, rfl, hH11.dks hD' hFk hok' hclen, Fk.pre K (Fk.left (X := [h]) hFk), hqE.pr, hqE.dr, hqE.ml, hqE.ly, by rw [show ({ H with dk := cd } : Hm).N = H.N by unfold Hm.N; dsimp only; rw [hclen]]; exact hqE.us⟩
 have hc6 : ce = 0 := jo
 subst hc6
 rw [eB, if_neg jp] at hok' ⊢
 obtain ⟨hok1, -, U, hU⟩ := hmk hm hgo2 hpb hnb jo (by rw [hce])
 rw [hce] at hok1 hU
 dsimp only at hok1 hU
 have n12h : h ∉ F' := hFk.out hH11.blk.lt hH.hF
 have hb14 := hb14.frm hFk.1 n14F
 have hbh := hH11.blk.frm hFk.1 hH.hF
 refine jQ (jN (jv2 0 14 ?_))
 refine jS ?_
 refine VC.held (fun V => Frm [h] w12 V) jK ?_
 have hS : Frm [h] w12 w12.drew := (Frm.refl _ _).drew
 have hbh := hbh.drawn (qP.drew _)
 refine jh 0 hS ?_
 refine jh 1 hS ?_
 refine jh 2 hS ?_
 refine jH 3 rfl hS (fun w0 hw0 => Run.fieldAddr rfl zbl rfl zbk jd) ?_
 refine jH 4 rfl hS (fun w0 hw0 => Run.load rfl zci ((hb14.frm hw0 n14h).cell 1)) ?_
 refine jH 5 rfl hS (fun w0 hw0 => Run.fieldAddr rfl zbl rfl zdu jd) ?_
 refine jH 6 rfl hS (fun w0 hw0 => Run.load rfl zfr ((hb14.frm hw0 n14h).cell 2)) ?_
 refine jH 7 rfl hS (fun w0 hw0 => Run.fieldAddr rfl zbl rfl zax jd) ?_
 refine jH 8 rfl hS (fun w0 hw0 => Run.load rfl zbx ((hb14.frm hw0 n14h).cell 3)) ?_
 refine jH 9 rfl hS (fun w0 hw0 => Run.nilck rfl) ?_
 refine jH 10 rfl hS (fun w0 hw0 => Run.fieldAddr rfl zaj rfl zbk jd) ?_
 refine qJ.st 11 rfl jK (qT.store rfl rfl zbk hbh rfl rfl) trivial rfl ?_
 rintro w13 ⟨hbh, hf13, hs13⟩
 have hS := hS.trans hf13 (fun x hx => .inl hx)
 refine ⟨hS, ?_⟩
 refine jH 12 rfl hS (fun w0 hw0 => Run.nilck rfl) ?_
 refine jH 13 rfl hS (fun w0 hw0 => Run.fieldAddr rfl zaj rfl zdu jd) ?_
 refine qJ.st 14 rfl jK (qT.store rfl rfl zdu hbh rfl rfl) trivial rfl ?_
 rintro w14 ⟨hbh, hf14, hs14⟩
 have hS := hS.trans hf14 (fun x hx => .inl hx)
 refine ⟨hS, ?_⟩
 refine jH 15 rfl hS (fun w0 hw0 => Run.nilck rfl) ?_
 refine jH 16 rfl hS (fun w0 hw0 => Run.fieldAddr rfl zaj rfl zax jd) ?_
 refine qJ.st 17 rfl jK (qT.store rfl rfl zax hbh rfl rfl) trivial rfl ?_
 rintro w15 ⟨hbh, hf15, hs15⟩
 have hS := hS.trans hf15 (fun x hx => .inl hx)
 refine ⟨hS, ?_⟩
 have hbh : Blk w15 h 91 #[jI0 g, .slice t.A (bM H (chL l)).pairs.length t.ca, .slice t.dA (bM H (chL l)).dir.length t.dc, .map (some t.m), jI1 H.N, .slice q.sB ((H.N + 7) / 8) q.sc] := hbh
 have kf : Fk (h :: F) w11 w15 (h :: F') := (Fk.left (X := [h]) hFk).frm hS (fun x hx => .inl (by rw [za] at hx; simp [hx]))
 have hH15 := hH11.planned hP hX8 (hD'.frm hS (fun x hx h => by rw [za] at h; subst h; exact n12h hx)) kf n12h hbh hok1 hclen
 have hN : (H.plan cd (bM H (chL l))).N = H.N := by unfold Hm.N Hm.plan; dsimp only; rw [hclen]
 have hcnt : (H.plan cd (bM H (chL l))).count = { H.plan cd (bM H (chL l)) with used := U } := by
  unfold Hm.count
  rw [hN, hU]
  rfl
 refine qJ.done jK ?_
 refine jN (jv1 0 ?_)
 refine jS (jR (jm rfl (jM ?_)))
 refine jc (jE1 Tryz.call47) (qJm U h g F' (H.plan cd (bM H (chL l))) _ w15 hH15 (by rw [hN]; exact hU)) ?_
 rintro e w16 ⟨UB, uc, rfl, hrU, hf16, hupU⟩
 refine ⟨_, rfl, ?_⟩
 have ho16 : Own w16 91 6 (some ⟨h, 0, none⟩) 1 1 _ := Own.of_blk (hbh.frm hf16 jp) rfl jd
 have hrX : RdX w16 (h :: F') 1 UB (((H.plan cd (bM H (chL l))).N + 7) / 8) (NB (cL (H.plan cd (bM H (chL l))).N U)) := RdX.of_new (w := w15) hrU hupU hH15.lt
 refine jm rfl (jY rfl rfl (jY rfl rfl (jZ rfl (jf rfl zaj rfl zw ?_))))
 refine Ops.st (qT.storeSub (o := 4) rfl rfl zw ho16 (zag 6) (dO _ _ _)) ?_
 rintro w17 ⟨ho17, hf17, hs17⟩
 have hb17 := ho17.blk1
 have kf17 : Fk (h :: F) w w17 (h :: F') := Fk.pre K ((kf.frm hf16 jp).frm hf17 (fun x hx => .inl (by rw [za] at hx; simp [hx])))
 refine jO (jN ?_)
 refine VC.sub [] .nil ?_
 refine jS (jR (jz 0 (jO (jN (jT ?_)))))
 refine qS rfl ?_
 rw [hcnt]
 exact ⟨F', _, rfl, (hH15.frm hf16).counted (U := U) (B := UB) (c := uc) (by rw [hN] at hb17 ⊢; exact hb17) hf17 hrX, kf17, fun h0 y hy hx => by have := hE8 y hx; have := hPE.A y hy; omega, fun h0 y hy => (hPE.dr.2 h0 y hy).2, fun hx => zcj _ (zas (hE8 _ hx) hPE.ml), fun id x hx h0 y hy => ((hPE.ly id x hx).1.2 h0 y hy).2, fun h0 y hy hx => by have := hE8 y hx; have := hP.K.size; have := kf.1.size; have := hupU y hy; omega⟩
theorem rM (S : Option Addr) (n c : Nat) (l : List Cq) (h g : Nat) (F : List Nat) (H : Hm) (q : HtQ) (w : World) (hH : IsHt w h g F H q) (hn : n ≤ 1000) (hr : RdC w S n l) (hmk : mJ H (chL l)) (hok' : (qB H (chL l)).2.ok) :
  Calls Tryz.prog 10 #[jI0 h, .slice S n c] w fun e w' => ∃ F' q', e = .returned (jI1 ((qB H (chL l)).1)) ∧ IsHt w' h g F' (qB H (chL l)).2 q' ∧ Fk (h :: F) w w' (h :: F') :=
 Calls.mono (oL [] S n c l h g F H q w hH jp (OffQ.nil H q) hn hr hmk hok') fun e w' ⟨F', q', h1, h2, h3, _⟩ => ⟨F', q', h1, h2, h3⟩
def bP (d : Dk) : Hm := ⟨d, [], [], fun _ => [], fun _ => false⟩
theorem vW {d : Dk} (h1 : 44 ≤ d.has.length) (h2 : d.has.length ≤ 2048) (h3 : d.wts.length ≤ 100000) : (bP d).ok :=
 ⟨List.Pairwise.nil, (fun x hx => by cases hx), zj _, h1, h2, h3, zj _, (fun x hx => by cases hx), (fun x hx => by cases hx)⟩
theorem RdC.nil (w : World) : RdC w none 0 [] := ⟨rfl, Rd.nil _ _ _, (fun x hx => by cases hx), (fun x hx => by cases hx), (fun x hx => by cases hx)⟩
theorem mA (d : Dk) : (bY d).2.has.length = d.has.length := by
 unfold bY
 split
 · rfl
 exact mT _ _
theorem qZh (g : Nat) (F : List Nat) (d : Dk) (w : World) (hD : IsDk w g F d) (hsz : 44 ≤ d.has.length) (hwl : d.wts.length ≤ 100000) (hf : (bY d).1 = 0) (hwl2 : (bY d).2.wts.length ≤ 100000) (hmk : mJ (bP (bY d).2) []) (hok' : (qB (bP (bY d).2) []).2.ok) (hb0 : (qB (bP (bY d).2) []).1 = 0) :
  Calls Tryz.prog 7 #[jI0 g] w fun e w' => ∃ h F' q, e = .returned (.tuple #[jI0 h, .int .i64 0]) ∧ IsHt w' h g F' (qB (bP (bY d).2) []).2 q ∧ Fk F w w' (h :: F') := by
 have hbg := hD.ok.big
 have hl := mA d
 have hN : (bP (bY d).2).N = d.has.length - 42 := by unfold Hm.N bP; dsimp only; rw [hl]
 refine jV Tryz.func7 Tryz.ntmps7 Tryz.results7 ?_
 refine jS (jR (ja rfl (jz 0 (jO (jN (jv1 0 ?_))))))
 refine jS (jS (jR (jM ?_)))
 refine jc0 (jE1 Tryz.call35) (nJ g F d w hD) ?_
 refine jO (jN (jv2 0 10 ?_))
 refine VC.condF rfl jdf ?_
 refine jQ (jN (jv1 0 ?_))
 refine jS (jS (jR (jM ?_)))
 refine jc (jE1 Tryz.call36) (oD g F d w hD jo) ?_
 rintro e w1 ⟨F1, rfl, hD1, hk1⟩
 refine ⟨_, rfl, ?_⟩
 rw [hf]
 refine ja rfl (jO (jN (jv2 0 4 ?_)))
 refine jS (jR (jm rfl (jb rfl rfl (Bin.neqN _ 0) (jO (jN (jv3 0 4 14 ?_))))))
 refine VC.condF rfl jp ?_
 refine jQ (jN (jv1 0 ?_))
 refine jS (jR (jM ?_))
 refine jc0 (jE1 zfe) (dU g F1 _ w1 hD1) ?_
 rw [hl]
 refine jb rfl rfl (Bin.sub_i64 _ 42 jo jo) ?_
 refine jc (jE1 Tryz.call37) (pU (d.has.length - 42) w1 jo) ?_
 rintro e w2 ⟨SB, sc, rfl, hrS, hf2, hupS⟩
 refine ⟨_, rfl, ?_⟩
 refine jm rfl (jY rfl rfl (jY rfl rfl ?_))
 refine Ops.m (qV.alloc fX) rfl ?_
 rintro _ w3 ⟨rfl, hF3⟩
 refine Ops.st (qT.storeA rfl rfl zw hF3.blk rfl (dO _ _ _)) ?_
 rintro w4 ⟨hb5, hf4, hs4⟩
 have k24 : Frm [] w2 w4 := hF3.frm.own hf4 jp
 have hb5 : Blk w4 w2.heap.size 85 (spV (d.has.length - 42) SB sc) := hb5
 refine ja rfl (jO (jN (jv2 0 5 ?_)))
 refine jS (jR (jM ?_))
 refine Ops.m (qV.makeMap (k := 54) (enc := fO)) rfl ?_
 rintro _ w5 ⟨rfl, hmp, hf5, hs5⟩
 have k14 : Frm [] w1 w4 := hf2.trans k24 jp
 have q14 := k14.size
 generalize hgm : w4.heap.size = m at *
 refine je (Run.loadA rfl zbb zw ((hb5.frm hf5 jp).cells) (by first | rfl | (simp; done))) (je (Run.build (evs.cons rfl (evs.cons rfl (evs.cons rfl evs.nil))) qXe (mH).choose_spec.1 (mH).choose_spec.2 (cells := #[jI0 g, .slice none 0 0, .slice none 0 0, .map (some m), jI1 (d.has.length - 42), .slice SB ((d.has.length - 42 + 7) / 8) sc]) rfl) ?_)
 refine Ops.m (qV.box rfl) rfl ?_
 rintro _ w6 ⟨rfl, hF6⟩
 have hb7 : Blk w6 w5.heap.size 91 #[jI0 g, .slice none 0 0, .slice none 0 0, .map (some m), jI1 (d.has.length - 42), .slice SB ((d.has.length - 42 + 7) / 8) sc] := hF6.blk
 have k16 : Frm [] w1 w6 := (k14.trans hf5 jp).trans hF6.frm jp
 have hF1l := hD1.lt
 have hSl := hrS.lt (jo : 0 < (d.has.length - 42 + 7) / 8)
 have ks2 := hf2.size
 have ks24 := k24.size
 generalize hgh : w5.heap.size = h at *
 have hH : IsHt w6 h g F1 (bP (bY d).2) ⟨none, 0, none, 0, m, SB, sc, fun _ => none⟩ := by
  refine ⟨vW jo jo hwl2, hD1.frm k16 jp, fun hx => by have := hF1l _ hx; omega, by rw [hN]; exact hb7, ⟨Rd.nil _ _ _, fun h0 => absurd h0 (zcj 0)⟩, zag _, ⟨Rd.nil _ _ _, fun h0 => absurd h0 (zcj 0)⟩, hmp.frm hF6.frm jp, fun hx => ?_, (fun id x hx => by cases hx), (fun x hx => by cases hx), ?_⟩
  ·
   rcases zaq.1 hx with hx | hx
   ·
    have := hmp.lt
    dsimp only at hx
    omega
   have := hF1l _ hx
   dsimp only at this
   omega
  rw [hN]
  refine ⟨((hrS.frm k24 jp).frm hf5 jp).frm hF6.frm jp, fun h0 y hy => ?_⟩
  have h1 := hSl y hy
  have h2 := hupS y hy
  have h3 := hF6.size
  have h4 := hmp.lt
  refine ⟨jo, fun hx => ?_⟩
  rcases zaq.1 hx with hx | hx
  · omega
  have := hF1l _ hx; omega
 refine ja rfl (jO (jN (jv1 7 ?_)))
 refine jS (jS (jR (jM ?_)))
 refine jc (jE2 Tryz.call10) (rM none 0 0 [] h g F1 (bP (bY d).2) _ w6 hH jo (RdC.nil w6) hmk hok') ?_
 rintro e w7 ⟨F', q', rfl, hH', hk7⟩
 refine ⟨_, rfl, ?_⟩
 rw [show chL [] = [] from rfl] at hH' ⊢
 rw [hb0]
 refine ja rfl (jO (jN (jv2 7 8 ?_)))
 refine jS (jR (jm rfl (jb rfl rfl (Bin.neqN _ 0) (jO (jN (jv3 7 8 31 ?_))))))
 refine VC.condF rfl jp ?_
 refine jQ (jN (jv1 7 ?_))
 refine jS (jR (jm rfl (ja rfl (jz 0 (jO (jN (jv2 2 3 ?_)))))))
 refine jT ?_
 refine bX rfl rfl ?_
 refine ⟨h, F', q', rfl, hH', ?_⟩
 have k1 : Fk F w w6 F1 := hk1.frm k16 jp
 refine ⟨k1.1.trans hk7.1 (fun x hx => ?_), fun x hx => ?_⟩
 ·
  rcases zaq.1 hx with rfl | hx
  · right; have := hk1.1.size; have := hmp.lt; omega
  exact k1.2 x hx
 rcases hk7.2 x hx with h1 | h1
 ·
  rcases zaq.1 h1 with rfl | h1
  · right; have := hk1.1.size; omega
  exact k1.2 x h1
 right; have := k1.1.size; omega
theorem pL (N : Nat) : ∀ (l : List Nat) (U : Nat → Bool), (∀ p ∈ l, p < N) → l.Nodup → (∀ p ∈ l, U p = false) → ∃ V, bN N U l = some V ∧ ∀ p, V p = (U p || decide (p ∈ l))
 | [], U, _, _, _ => ⟨U, rfl, fun p => jp⟩
 | x :: r, U, h1, h2, h3 => by
  obtain ⟨h4, h5⟩ := zft.1 h2
  have hx : x < N ∧ U x = false := ⟨h1 x jp, h3 x jp⟩
  obtain ⟨V, hV, hp⟩ := pL N r (eT U x) (fun p hp => h1 p (by simp [hp])) h5 (fun p hp => by
   unfold eT
   rw [if_neg (fun e : p = x => h4 (e ▸ hp))]
   exact h3 p (by simp [hp]))
  refine ⟨V, by rw [bN, if_pos hx]; exact hV, fun p => ?_⟩
  rw [hp p]
  unfold eT
  by_cases e : p = x
  · simp [e]
  simp [e]
theorem qZi (N : Nat) : ∀ (l : List Nat) (U : Nat → Bool), (∀ p ∈ l, p < N) → l.Nodup → (∀ p ∈ l, U p = false) → ∀ V, (∀ p, p < N → V p = (U p || decide (p ∈ l))) → dW N V = dW N U + l.length
 | [], U, _, _, _, V, hV => by
  unfold dW
  rw [zdy, Nat.add_zero]
  exact zhq fun p hp => by rw [hV p (List.mem_range.1 hp)]; simp
 | x :: r, U, h1, h2, h3, V, hV => by
  obtain ⟨h4, h5⟩ := zft.1 h2
  have h6 := qZi N r (eT U x) (fun p hp => h1 p (by simp [hp])) h5 (fun p hp => by
   unfold eT
   rw [if_neg (fun e : p = x => h4 (e ▸ hp))]
   exact h3 p (by simp [hp])) V (fun p hp => by
    rw [hV p hp]
    unfold eT
    by_cases e : p = x
    · simp [e]
    simp [e])
  rw [h6, qGh N U (h1 x jp) (h3 x jp), zad]
  omega
abbrev Nw := Nat × List Nat × List Nat
def cJ : List Ch → List Nat → List Nw
 | [], _ => []
 | c :: r, fr => if c.2.2 then cJ r fr else (c.1, c.2.1, fr.take (qI c.2.1.length)) :: cJ r (fr.drop (qI c.2.1.length))
def gS (l : List Ch) : Prop := ∀ x ∈ l, x.2.2 = true → x.2.1.length = 0
theorem jP (c : Ch) (l : List Ch) : sumN (c :: l) = qI c.2.1.length + sumN l := by simp [sumN]
theorem nK : ∀ (l : List Ch) (fr : List Nat), gS l → sumN l ≤ fr.length → (cJ l fr).flatMap (·.2.2) = fr.take (sumN l)
 | [], fr, _, _ => by simp [cJ, sumN]
 | c :: r, fr, h, hs => by
  have hr : gS r := fun x hx => h x (by simp [hx])
  rw [jP] at hs ⊢
  rw [cJ]
  split
  ·
   next hg =>
   have hz : qI c.2.1.length = 0 := by rw [h c jp hg]; rfl
   rw [hz, zch, nK r fr hr jo]
  rw [zaw, nK r _ hr (by rw [zq]; omega), List.take_add]
theorem pO : ∀ (l : List Ch) (fr : List Nat), (cJ l fr).map (fun e => (e.1, e.2.1)) = (l.filter fun c => ! c.2.2).map fun c => (c.1, c.2.1)
 | [], fr => rfl
 | c :: r, fr => by
  rw [cJ]
  split
  · next hg => rw [pO r fr, zfl (by simp [hg])]
  next hg => rw [zbo, pO r _, zfk (by simpa using hg), zbo]
theorem rQ : ∀ (l : List Ch) (fr : List Nat), gS l → sumN l ≤ fr.length → ∀ e ∈ cJ l fr, e.2.2.length = qI e.2.1.length
 | [], fr, _, _ => fun e he => by cases he
 | c :: r, fr, h, hs => fun e he => by
  have hr : gS r := fun x hx => h x (by simp [hx])
  rw [jP] at hs
  rw [cJ] at he
  split at he
  · exact rQ r fr hr jo e he
  rcases zaq.1 he with rfl | he
  · dsimp only; rw [zk]; omega
  exact rQ r _ hr (by rw [zq]; omega) e he
theorem nS {l : List Ch} {fr : List Nat} {e : Nw} (h : e ∈ cJ l fr) : ∃ c ∈ l, c.2.2 = false ∧ c.1 = e.1 ∧ c.2.1 = e.2.1 := by
 have h1 : (e.1, e.2.1) ∈ (cJ l fr).map (fun e => (e.1, e.2.1)) := List.mem_map.2 ⟨e, h, rfl⟩
 rw [pO] at h1
 obtain ⟨c, hc, he⟩ := List.mem_map.1 h1
 obtain ⟨h2, h3⟩ := List.mem_filter.1 hc
 injection he with e1 e2
 exact ⟨c, h2, by simpa using h3, e1, e2⟩
theorem nT : ∀ (l : List Ch) (x : Dw), (l.map (·.1)).Nodup → gS l → sumN l ≤ x.free.length →
  (l.foldl bV x).puts = x.puts ++ (cJ l x.free).flatMap (fun e => dN e.2.1 e.2.2) ∧ (l.foldl bV x).free = x.free.drop (sumN l) ∧
  (∀ y, y ∈ (l.foldl bV x).pairs ↔ (y ∈ x.pairs ∧ y.1 ∉ l.map (·.1)) ∨ ∃ e ∈ cJ l x.free, y = cE e.1 e.2.1 e.2.2) ∧
  (∀ id, id ∉ l.map (·.1) → (l.foldl bV x).lies id = x.lies id) ∧ (∀ e ∈ cJ l x.free, (l.foldl bV x).lies e.1 = e.2.2)
 | [], x, _, _, _ => by simp [cJ, sumN]
 | c :: r, x, hn, hg, hs => by
  rw [zbo, zft] at hn
  obtain ⟨hn1, hn2⟩ := hn
  have hr : gS r := fun x hx => hg x (by simp [hx])
  rw [jP] at hs
  rw [zee, jP]
  cases hc : c.2.2 with
  | true =>
   have hz : qI c.2.1.length = 0 := by rw [hg c jp hc]; rfl
   have hst : bV x c = { x with pairs := cX x.pairs c.1 ++ bU x.pairs c.1 } := by unfold bV; rw [if_pos hc]
   have hnw : cJ (c :: r) x.free = cJ r x.free := by rw [cJ, if_pos hc]
   obtain ⟨i1, i2, i3, i4, i5⟩ := nT r (bV x c) hn2 hr (by rw [hst]; dsimp only; omega)
   rw [hst] at i1 i2 i3 i4 i5 ⊢
   dsimp only at i1 i2 i3 i4 i5
   rw [hnw, hz, zch]
   refine ⟨i1, i2, fun y => ?_, fun id hid => ?_, i5⟩
   ·
    rw [i3 y]
    simp only [zcp, cX, bU, List.mem_filter, decide_eq_true_eq, zbo, zaq, not_or]
    constructor
    ·
     rintro (⟨h1 | h1, h2⟩ | h)
     · exact .inl ⟨h1.1, jo, h2⟩
     · exact .inl ⟨h1.1, jo, h2⟩
     exact .inr h
    rintro (⟨h1, h2, h3⟩ | h)
    ·
     rcases zfs h2 with h | h
     · exact .inl ⟨.inl ⟨h1, h⟩, h3⟩
     exact .inl ⟨.inr ⟨h1, h⟩, h3⟩
    exact .inr h
   rw [zbo, zaq, not_or] at hid
   exact i4 id hid.2
  | false =>
   have hst : bV x c = { puts := x.puts ++ dN c.2.1 (x.free.take (qI c.2.1.length)), pairs := cX x.pairs c.1 ++ cE c.1 c.2.1 (x.free.take (qI c.2.1.length)) :: bU x.pairs c.1, free := x.free.drop (qI c.2.1.length), lies := fun y => if y = c.1 then x.free.take (qI c.2.1.length) else x.lies y } := by unfold bV; rw [if_neg (by simp [hc])]
   have hnw : cJ (c :: r) x.free = (c.1, c.2.1, x.free.take (qI c.2.1.length)) :: cJ r (x.free.drop (qI c.2.1.length)) := by rw [cJ, if_neg (by simp [hc])]
   obtain ⟨i1, i2, i3, i4, i5⟩ := nT r (bV x c) hn2 hr (by rw [hst]; dsimp only; rw [zq]; omega)
   rw [hst] at i1 i2 i3 i4 i5 ⊢
   dsimp only at i1 i2 i3 i4 i5
   rw [hnw]
   refine ⟨?_, ?_, fun y => ?_, fun id hid => ?_, fun e he => ?_⟩
   · rw [i1, zaw, zab]
   · rw [i2, zey]
   ·
    rw [i3 y]
    simp only [zcp, cX, bU, List.mem_filter, decide_eq_true_eq, zbo, zaq, not_or, exists_eq_or_imp]
    constructor
    ·
     rintro (⟨h1 | h1 | h1, h2⟩ | h)
     · exact .inl ⟨h1.1, jo, h2⟩
     · exact .inr (.inl h1)
     · exact .inl ⟨h1.1, jo, h2⟩
     exact .inr (.inr h)
    rintro (⟨h1, h2, h3⟩ | h | h)
    ·
     rcases zfs h2 with h | h
     · exact .inl ⟨.inl ⟨h1, h⟩, h3⟩
     exact .inl ⟨.inr (.inr ⟨h1, h⟩), h3⟩
    ·
     refine .inl ⟨.inr (.inl h), ?_⟩
     rw [h]
     exact hn1
    exact .inr h
   ·
    rw [zbo, zaq, not_or] at hid
    rw [i4 id hid.2, if_neg hid.1]
   rcases zaq.1 he with rfl | he
   · rw [i4 _ hn1, if_pos rfl]
   exact i5 e he
structure Pow (d : Dk) : Prop where
 off : d.off = false
 bud : d.bud = -1
theorem Pow.fails {d : Dk} (h : Pow d) : ¬ d.fails := fun hf => by
 rcases hf with hf | hf
 · rw [h.off] at hf; cases hf
 rw [h.bud] at hf; omega
theorem Pow.less {d : Dk} (h : Pow d) : d.less = d := by
 unfold Dk.less
 rw [if_neg (by rw [h.bud]; omega)]
def qZj (n : Nat) : Stp → Prop
 | .wr i b => i < n ∧ b.length = 128
 | .fl => True
def eM (f : Nat → List Nat) : List Stp → Nat → List Nat
 | [] => f
 | .wr i b :: r => eM (fun j => if j = i then b else f j) r
 | .fl :: r => eM f r
theorem nV : ∀ (a b : List Stp) (f : Nat → List Nat), eM f (a ++ b) = eM (eM f a) b
 | [], b, f => rfl
 | .wr i x :: a, b, f => by rw [zcx, eM, eM, nV a b]
 | .fl :: a, b, f => by rw [zcx, eM, eM, nV a b]
theorem qQl : ∀ (r : List (Nat × List Nat)) (k : Nat) (h : List (List Nat)) (j : Nat), j < h.length → (bB (fun _ => true) k h r).getD j [] = (eX j r).getD (h.getD j [])
 | [], _, h, j, _ => rfl
 | (a, b) :: r, k, h, j, hj => by
  rw [bB, if_pos rfl, qQl r (k + 1) (h.set a b) j (by rw [List.length_set]; exact hj), eX]
  cases eX j r with
  | some s => rfl
  | none =>
   show (h.set a b).getD j [] = _
   rw [zb, List.getElem?_set]
   by_cases e : a = j
   ·
    subst e
    rw [if_pos rfl, if_pos hj, if_pos rfl]
    rfl
   rw [if_neg e, if_neg e, zb]
   rfl
theorem sK : ∀ (l : List Stp) {d : Dk}, Pow d → (∀ s ∈ l, qZj d.has.length s) → (qL d l).1 = 0 ∧ Pow (qL d l).2 ∧ ∀ j, j < d.has.length → (qL d l).2.sec j = eM d.sec l j
 | [], d, h, _ => ⟨rfl, h, fun j _ => rfl⟩
 | .wr i b :: r, d, h, hf => by
  have h1 : i < d.has.length ∧ b.length = 128 := hf (.wr i b) jp
  have hw : d.write i b = (0, { d with wts := d.wts ++ [(i, b)] }) := by
   unfold Dk.write
   rw [if_neg (not_not_intro h1.1), if_neg (by simp [h1.2]), if_neg h.fails, h.less]
  have hs : (fun j => ({ d with wts := d.wts ++ [(i, b)] } : Dk).sec j) = fun j => if j = i then b else d.sec j := by
   funext j
   unfold Dk.sec
   dsimp only
   rw [kY]
   by_cases e : i = j
   · rw [if_pos e, if_pos e.symm]; rfl
   rw [if_neg e, if_neg (Ne.symm e)]
  obtain ⟨i1, i2, i3⟩ := sK r (d := { d with wts := d.wts ++ [(i, b)] }) ⟨h.off, h.bud⟩ (fun s hs => hf s (by simp [hs]))
  have hr : qL d (.wr i b :: r) = qL { d with wts := d.wts ++ [(i, b)] } r := by
   rw [qL]
   show (if (d.write i b).1 ≠ 0 then _ else qL (d.write i b).2 r) = _
   rw [hw, if_neg jp]
  rw [hr]
  refine ⟨i1, i2, fun j hj => ?_⟩
  rw [i3 j hj, eM]
  exact congrArg (fun f => eM f r j) hs
 | .fl :: r, d, h, hf => by
  have hw : d.flush = (0, { d with has := bB (fun _ => true) 0 d.has d.wts, wts := [] }) := by
   unfold Dk.flush
   rw [if_neg h.fails, h.less]
  have hl : (bB (fun _ => true) 0 d.has d.wts).length = d.has.length := eQ _ _ _ _
  obtain ⟨i1, i2, i3⟩ := sK r (d := { d with has := bB (fun _ => true) 0 d.has d.wts, wts := [] }) ⟨h.off, h.bud⟩ (fun s hs => by dsimp only; rw [hl]; exact hf s (by simp [hs]))
  have hr : qL d (.fl :: r) = qL { d with has := bB (fun _ => true) 0 d.has d.wts, wts := [] } r := by
   rw [qL]
   show (if d.flush.1 ≠ 0 then _ else qL d.flush.2 r) = _
   rw [hw, if_neg jp]
  rw [hr]
  have key : ∀ (r : List Stp) (f f' : Nat → List Nat) (n : Nat), (∀ j, j < n → f j = f' j) → ∀ j, j < n → eM f r j = eM f' r j := by
   intro r
   induction r with
   | nil => intro f f' n hff j hj; exact hff j hj
   | cons s r ih =>
    intro f f' n hff j hj
    cases s with
    | wr i b => exact ih _ _ n (fun k hk => by split; rfl; exact hff k hk) j hj
    | fl => exact ih _ _ n hff j hj
  refine ⟨i1, i2, fun j hj => ?_⟩
  rw [i3 j (by dsimp only; rw [hl]; exact hj), eM]
  refine key r _ _ d.has.length (fun k hk => ?_) j hj
  show ((eX k []).getD ((bB (fun _ => true) 0 d.has d.wts).getD k [])) = _
  rw [qQl _ _ _ _ hk]
  rfl
theorem lQ : ∀ (l : List Stp) (f : Nat → List Nat) (j : Nat), (∀ i b, Stp.wr i b ∈ l → i ≠ j) → eM f l j = f j
 | [], _, _, _ => rfl
 | .wr i b :: r, f, j, h => by
  rw [eM, lQ r _ j (fun a c hc => h a c (by simp [hc])), if_neg (Ne.symm (h i b jp))]
 | .fl :: r, f, j, h => by rw [eM, lQ r _ j (fun a c hc => h a c (by simp [hc]))]
theorem tK : ∀ (l : List Pu) (f : Nat → List Nat) (x : Pu), (l.map (·.1)).Nodup → x ∈ l → eM f (l.map fun x => Stp.wr x.1 x.2) x.1 = x.2
 | y :: l, f, x, hn, hx => by
  rw [zbo, zft] at hn
  rw [zbo, eM]
  rcases zaq.1 hx with rfl | hx
  ·
   rw [lQ _ _ _ (fun i b hb e => by
    obtain ⟨z, hz, he⟩ := List.mem_map.1 hb
    injection he with e1 e2
    exact hn.1 (List.mem_map.2 ⟨z, hz, e1.trans e⟩)), if_pos rfl]
  exact tK l _ x hn.2 hx
theorem zV : ∀ (l : List Pu) (k i : Nat) (b : List Nat), Stp.wr i b ∈ fD k l → (1 + k ≤ i ∧ i < 1 + k + l.length) ∧ ∃ x ∈ l, x.2 = b
 | y :: l, k, i, b, h => by
  rw [fD] at h
  rcases zaq.1 h with h | h
  ·
   injection h with e1 e2
   subst e1 e2
   exact ⟨⟨zag _, by rw [zad]; omega⟩, y, jp, rfl⟩
  obtain ⟨h1, x, hx, hb⟩ := zV l (k + 1) i b h
  exact ⟨⟨jo, by rw [zad]; omega⟩, x, by simp [hx], hb⟩
theorem yK {l : List Pu} {n : Nat} (h : cH l n) (hn : 41 < n) : ∀ s ∈ bO l, qZj n s := fun s hs => by
 obtain ⟨⟨h1, h2⟩, h3, h4⟩ := h
 have hhd : qZj n (.wr 0 (dC l)) := ⟨jo, tE h2⟩
 have hno : qZj n (.wr 0 (noM 128)) := ⟨jo, by simp [noM]⟩
 simp only [bO, bF, zcp, zaq, zaz, or_false] at hs
 rcases hs with (hs | rfl | rfl | rfl) | hs | rfl | rfl | rfl
 ·
  cases s with
  | fl => trivial
  | wr i b =>
   obtain ⟨h5, x, hx, rfl⟩ := zV l 0 i b hs
   exact ⟨jo, (h3 x hx).2⟩
 · trivial
 · exact hhd
 · trivial
 ·
  obtain ⟨x, hx, rfl⟩ := List.mem_map.1 hs
  exact ⟨(h3 x hx).1.2, (h3 x hx).2⟩
 · trivial
 · exact hno
 trivial
theorem qW1 {d : Dk} {l : List Pu} (h : Pow d) (hn : 41 < d.has.length) (hm : cH l d.has.length) :
  (bK d l).1 = 0 ∧ Pow (bK d l).2 ∧ (bK d l).2.wts = [] ∧ (∀ x ∈ l, (bK d l).2.sec x.1 = x.2) ∧ ∀ j, 41 ≤ j → j < d.has.length → j ∉ l.map (·.1) → (bK d l).2.sec j = d.sec j := by
 have he : bK d l = qL d (bO l) := by unfold bK; rw [if_neg (fun hx => by rcases hx with hx | hx; omega; exact hx hm)]
 obtain ⟨r1, r2, r3⟩ := sK (bO l) h (yK hm hn)
 have hsec : ∀ j, 41 ≤ j → eM d.sec (bO l) j = eM d.sec (l.map fun x => Stp.wr x.1 x.2) j := fun j hj => by
  have e1 : ∀ (f : Nat → List Nat), eM f (fD 0 l ++ [.fl, .wr 0 (dC l), .fl]) j = f j := fun f => lQ _ _ _ (fun i b hb => by
   rcases zcp.1 hb with hb | hb
   ·
    obtain ⟨h5, _⟩ := zV l 0 i b hb
    have := hm.1.2
    omega
   simp only [zaq, zaz, or_false, reduceCtorEq, false_or, or_false] at hb
   injection hb with e2 e3
   omega)
  have e2 : ∀ (f : Nat → List Nat), eM f [.fl, .wr 0 (noM 128), .fl] j = f j := fun f => lQ _ _ _ (fun i b hb => by
   simp only [zaq, zaz, or_false, reduceCtorEq, false_or, or_false] at hb
   injection hb with e2 e3
   omega)
  rw [bO, bF, nV, nV, e2]
  by_cases hj2 : j ∈ l.map (·.1)
  ·
   obtain ⟨x, hx, rfl⟩ := List.mem_map.1 hj2
   rw [tK l _ x hm.2.2 hx, tK l _ x hm.2.2 hx]
  have off : ∀ (f : Nat → List Nat), eM f (l.map fun x => Stp.wr x.1 x.2) j = f j := fun f => lQ _ _ _ (fun i b hb e => by
   obtain ⟨z, hz, he⟩ := List.mem_map.1 hb
   injection he with e1 e2
   exact hj2 (List.mem_map.2 ⟨z, hz, e1.trans e⟩))
  rw [off, off, e1]
 have hw : (qL d (bO l)).2.wts = [] := by
  have e : bO l = (fD 0 l ++ [.fl, .wr 0 (dC l), .fl] ++ (l.map (fun x => Stp.wr x.1 x.2) ++ [.fl, .wr 0 (noM 128)])) ++ [.fl] := by simp [bO, bF]
  obtain ⟨q1, q2, _⟩ := sK (fD 0 l ++ [.fl, .wr 0 (dC l), .fl] ++ (l.map (fun x => Stp.wr x.1 x.2) ++ [.fl, .wr 0 (noM 128)])) h (fun s hs => yK hm hn s (by rw [e]; exact zeo _ hs))
  rw [e, nY _ _ _ q1]
  show ((qL d _).2.flush).2.wts = []
  unfold Dk.flush
  rw [if_neg q2.fails]
 rw [he]
 refine ⟨r1, r2, hw, fun x hx => ?_, fun j hj hjn hjl => ?_⟩
 ·
  have := (hm.2.1 x hx).1
  rw [r3 _ this.2, hsec _ this.1, tK l _ x hm.2.2 hx]
 rw [r3 j hjn, hsec j hj]
 exact lQ _ _ _ (fun i b hb e => by
  obtain ⟨z, hz, he⟩ := List.mem_map.1 hb
  injection he with e1 e2
  exact hjl (List.mem_map.2 ⟨z, hz, e1.trans e⟩))
structure InvH (H : Hm) (B : Nat → List Nat) : Prop where
 ok : H.ok
 pow : Pow H.dk
 wts : H.dk.wts = []
 dnod : H.dir.Nodup
 lnod : ∀ x ∈ H.pairs, (H.lies x.1).Nodup
 dl : ∀ x ∈ H.pairs, ∀ p ∈ H.lies x.1, p ∉ H.dir
 ll : ∀ x ∈ H.pairs, ∀ y ∈ H.pairs, x.1 ≠ y.1 → ∀ p ∈ H.lies x.1, p ∉ H.lies y.1
 used : ∀ p, p < H.N → H.used p = decide (p ∈ bH H)
 blob : ∀ x ∈ H.pairs, x = cE x.1 (B x.1) (H.lies x.1) ∧ (H.lies x.1).length = qI (B x.1).length ∧ (B x.1).length ≤ 4032 ∧ (∀ b ∈ B x.1, b < 256) ∧ ∀ i, i < (H.lies x.1).length → H.dk.sec (42 + (H.lies x.1).getD i 0) = dG (B x.1) (H.lies x.1) i
theorem lN (H : Hm) (p : Nat) : p ∈ bH H ↔ p ∈ H.dir ∨ ∃ x ∈ H.pairs, p ∈ H.lies x.1 := by
 unfold bH cF
 rw [zcp, List.mem_flatMap]
theorem rN {H : Hm} (hs : Srt H.pairs) (h1 : H.dir.Nodup) (h2 : ∀ x ∈ H.pairs, (H.lies x.1).Nodup) (h3 : ∀ x ∈ H.pairs, ∀ p ∈ H.lies x.1, p ∉ H.dir) (h4 : ∀ x ∈ H.pairs, ∀ y ∈ H.pairs, x.1 ≠ y.1 → ∀ p ∈ H.lies x.1, p ∉ H.lies y.1) : (bH H).Nodup := by
 unfold bH cF
 rw [zga]
 refine ⟨h1, ?_, fun a ha b hb e => ?_⟩
 ·
  rw [zev, List.pairwise_flatMap]
  refine ⟨fun x hx => zev.1 (h2 x hx), ?_⟩
  refine (List.Pairwise.and_mem.1 hs).imp (fun ⟨ha, hb, hlt⟩ p hp q hq e => ?_)
  subst e
  exact h4 _ ha _ hb jo p hp hq
 subst e
 obtain ⟨x, hx, hp⟩ := List.mem_flatMap.1 hb
 exact h3 x hx a hp ha
theorem qW2 (D pg : List Nat) : (dN D pg).map (·.1) = pg.map (42 + ·) := by
 unfold dN lO
 rw [zeh]
 apply zew
 · simp
 intro i h1 h2
 simp at h1 h2
 simp [zb, h1]
theorem qKh (dir : List Nat) (ps : List (List Nat)) : (dX dir ps dir.length).map (·.1) = dir.map (42 + ·) := by
 unfold dX
 rw [zeh]
 apply zew
 · simp
 intro i h1 h2
 simp at h1 h2
 simp [zb, h1]
theorem qW3 (D pg : List Nat) {i : Nat} (h : i < pg.length) : (42 + pg.getD i 0, dG D pg i) ∈ dN D pg := List.mem_map.2 ⟨i, List.mem_range.2 h, rfl⟩
theorem uU (l : List Nw) : (l.flatMap fun e => dN e.2.1 e.2.2).map (·.1) = (l.flatMap (·.2.2)).map (42 + ·) := by
 rw [List.map_flatMap, List.map_flatMap]
 congr 1
 funext e
 exact qW2 _ _
def dZ (B : Nat → List Nat) (l : List Ch) : Nat → List Nat := fun id => match l.find? (fun c => decide (c.1 = id) && ! c.2.2) with
 | some c => c.2.1
 | none => B id
theorem qHj : ∀ {l : List Ch}, (l.map (·.1)).Nodup → ∀ {c d : Ch}, c ∈ l → d ∈ l → c.1 = d.1 → c = d
 | a :: r, hn, c, d, hc, hd, h => by
  rw [zbo, zft] at hn
  rcases zaq.1 hc with e1 | hc1
  ·
   rcases zaq.1 hd with e2 | hd1
   · rw [e1, e2]
   rw [e1] at h
   exact absurd (List.mem_map.2 ⟨d, hd1, h.symm⟩) hn.1
  rcases zaq.1 hd with e2 | hd1
  ·
   rw [e2] at h
   exact absurd (List.mem_map.2 ⟨c, hc1, h⟩) hn.1
  exact qHj hn.2 hc1 hd1 h
theorem xQ {B : Nat → List Nat} {l : List Ch} (hn : (l.map (·.1)).Nodup) {c : Ch} (hc : c ∈ l) (hg : c.2.2 = false) : dZ B l c.1 = c.2.1 := by
 unfold dZ
 cases hf : l.find? (fun d => decide (d.1 = c.1) && ! d.2.2) with
 | none =>
  have := List.find?_eq_none.1 hf c hc
  simp [hg] at this
 | some d =>
  have h1 := zhc hf
  have h2 := zfd hf
  simp at h1
  show d.2.1 = c.2.1
  rw [qHj hn h2 hc h1.1]
theorem xX {B : Nat → List Nat} {l : List Ch} {id : Nat} (h : id ∉ l.map (·.1)) : dZ B l id = B id := by
 unfold dZ
 cases hf : l.find? (fun d => decide (d.1 = id) && ! d.2.2) with
 | none => rfl
 | some d =>
  have h1 := zhc hf
  have h2 := zfd hf
  simp at h1
  exact absurd (List.mem_map.2 ⟨d, h2, h1.1⟩) h
theorem uB : ∀ {l : List Nw}, (l.flatMap (·.2.2)).Nodup → (∀ e ∈ l, e.2.2.Nodup) ∧ ∀ e ∈ l, ∀ e' ∈ l, e.1 ≠ e'.1 → ∀ p ∈ e.2.2, p ∉ e'.2.2
 | [], _ => ⟨fun e he => (by cases he), fun e he => (by cases he)⟩
 | a :: r, h => by
  rw [zaw, zga] at h
  obtain ⟨h1, h2, h3⟩ := h
  obtain ⟨i1, i2⟩ := uB h2
  refine ⟨fun e he => ?_, fun e he e' he' hne p hp hp' => ?_⟩
  ·
   rcases zaq.1 he with e1 | he1
   · rw [e1]; exact h1
   exact i1 e he1
  rcases zaq.1 he with e1 | he1
  ·
   rcases zaq.1 he' with e2 | he2
   · exact hne (by rw [e1, e2])
   rw [e1] at hp
   exact h3 p hp p (List.mem_flatMap.2 ⟨e', he2, hp'⟩) rfl
  rcases zaq.1 he' with e2 | he2
  ·
   rw [e2] at hp'
   exact h3 p hp' p (List.mem_flatMap.2 ⟨e, he1, hp⟩) rfl
  exact i2 e he1 e' he2 hne p hp hp'
theorem jE (id : Nat) (D pg : List Nat) (h : D.length ≤ 4032) (hp : ∀ p ∈ pg, p < 2048) : cN (cE id D pg) = D.length ∧ (cE id D pg).2 / 4294967296 = crcM D ∧ (cE id D pg).2 < 18446744073709551616 := by
 have hc := kW D
 have ha : atP pg ≤ 2048 := by
  unfold atP
  split
  · omega
  have := hp _ (bG (jo : 0 < pg.length)); omega
 unfold cN cE
 dsimp only
 refine ⟨jo, jo, jo⟩
theorem oO {H : Hm} {B : Nat → List Nat} {l : List Ch} (h : InvH H B) (hm : cV l) (hb : ∀ c ∈ l, c.1 < 18446744073709551616 ∧ ∀ b ∈ c.2.1, b < 256) (hp : dQ H l ≤ 600) (hn : bZ H l ≤ 39) (hf : bZ H l ≤ H.N - dW H.N H.used) :
  (bK H.dk (bM H l).puts).1 = 0 ∧ (H.plan (bK H.dk (bM H l).puts).2 (bM H l)).ok ∧ (∃ U, bN H.N (fun _ => false) (bH (H.plan (bK H.dk (bM H l).puts).2 (bM H l))) = some U) ∧ InvH (H.plan (bK H.dk (bM H l).puts).2 (bM H l)).count (dZ B l) ∧
   (∀ x, x ∈ (bM H l).pairs ↔ (x ∈ H.pairs ∧ x.1 ∉ l.map (·.1)) ∨ ∃ e ∈ cJ l ((bT H.N H.used).take (bZ H l)), x = cE e.1 e.2.1 e.2.2) ∧ (bM H l).dir.length = cK (bM H l).pairs.length := by
 obtain ⟨fr, hfr⟩ : ∃ fr, fr = (bT H.N H.used).take (bZ H l) := ⟨_, rfl⟩
 obtain ⟨D, hD⟩ : ∃ D, D = qO H l fr := ⟨_, rfl⟩
 have hP : bM H l = qD D := by rw [hD, hfr]; rfl
 rw [← hfr, hP]
 have hsz := h.ok.sz
 have hbg := h.ok.big
 have hNe : H.N = H.dk.has.length - 42 := rfl
 have gz : gS l := fun x hx hg => (hm.2 x hx).2 hg
 have hcl := oW H.N H.used
 have hfl : fr.length = bZ H l := by rw [hfr, zk, gL]; omega
 have hrn : D.pairs.length = dQ H l := by rw [hD]; exact tJ _ _ _ _
 have htl : (bQ D.pairs).length = cK (dQ H l) := by rw [fH, hrn]
 have hbe : bZ H l = sumN l + (bQ D.pairs).length := by unfold bZ eJ; rw [if_pos hp, htl]
 obtain ⟨f1, f2, f3, f4, f5⟩ := nT l ⟨[], H.pairs, fr, H.lies⟩ hm.1 gz (by dsimp only; omega)
 rw [show l.foldl bV ⟨[], H.pairs, fr, H.lies⟩ = D from hD.symm] at f1 f2 f3 f4 f5
 dsimp only at f1 f2 f3 f4 f5
 rw [zbu] at f1
 have hnp := nK l fr gz jo
 have hnl := rQ l fr gz jo
 have hdir : (qD D).dir = fr.drop (sumN l) := by
  unfold qD
  dsimp only
  rw [f2, zh (by rw [zq]; omega)]
 have hdl : (qD D).dir.length = (bQ D.pairs).length := by rw [hdir, zq]; omega
 have frn : fr.Nodup := by rw [hfr]; exact ((List.nodup_range).sublist zer).sublist (zhr _ _)
 have frf : ∀ p ∈ fr, p < H.N ∧ p ∉ bH H := fun p hp => by
  rw [hfr] at hp
  obtain ⟨h1, h2⟩ := List.mem_filter.1 (zo hp)
  have h1 := List.mem_range.1 h1
  refine ⟨h1, fun hw => ?_⟩
  rw [h.used p h1, decide_eq_true hw] at h2
  cases h2
 have hnod : (fr.take (sumN l) ++ fr.drop (sumN l)).Nodup := by rw [zbq]; exact frn
 obtain ⟨tn1, tn2, tn3⟩ := zga.1 hnod
 rw [← hnp] at tn1 tn3
 obtain ⟨en1, en2⟩ := uB tn1
 have enf : ∀ e ∈ cJ l fr, ∀ p ∈ e.2.2, p ∈ fr ∧ p ∉ fr.drop (sumN l) := fun e he p hp => by
  have hpt : p ∈ (cJ l fr).flatMap (·.2.2) := List.mem_flatMap.2 ⟨e, he, hp⟩
  refine ⟨?_, fun hd => tn3 p hpt p hd rfl⟩
  rw [hnp] at hpt
  exact zo hpt
 have hpairs : (qD D).pairs = D.pairs := rfl
 have hlies : (qD D).lies = D.lies := rfl
 have cls : ∀ x ∈ D.pairs, (x ∈ H.pairs ∧ D.lies x.1 = H.lies x.1 ∧ dZ B l x.1 = B x.1) ∨ ∃ e ∈ cJ l fr, x = cE e.1 e.2.1 e.2.2 ∧ x.1 = e.1 ∧ D.lies x.1 = e.2.2 ∧ dZ B l x.1 = e.2.1 ∧ e.2.1.length ≤ 4032 ∧ (∀ b ∈ e.2.1, b < 256) ∧ e.1 < 18446744073709551616 := fun x hx => by
  rcases (f3 x).1 hx with ⟨h1, h2⟩ | ⟨e, he, rfl⟩
  · exact .inl ⟨h1, f4 _ h2, xX h2⟩
  obtain ⟨c, hc, hg, e1, e2⟩ := nS he
  refine .inr ⟨e, he, rfl, rfl, f5 e he, ?_, ?_, ?_, ?_⟩
  ·
   show dZ B l e.1 = e.2.1
   rw [← e1, xQ hm.1 hc hg, e2]
  · rw [← e2]; exact (hm.2 c hc).1
  · rw [← e2]; exact (hb c hc).2
  rw [← e1]; exact (hb c hc).1
 have wold : ∀ x ∈ H.pairs, ∀ p ∈ H.lies x.1, p ∈ bH H := fun x hx p hp => (lN H p).2 (.inr ⟨x, hx, hp⟩)
 have elt : ∀ e ∈ cJ l fr, ∀ p ∈ e.2.2, p < 2048 := fun e he p hp => by have := (frf p (enf e he p hp).1).1; omega
 have hpos : (qD D).puts.map (·.1) = fr.map (42 + ·) ++ [41] := by
  have e1 : (qD D).puts = D.puts ++ dX (qD D).dir (bQ D.pairs) (qD D).dir.length ++ [(41, bR (qD D).dir)] := by rw [hdl]; rfl
  rw [e1, zv, zv, f1, uU, hnp, qKh, hdir, ← zv, zbq]
  rfl
 have hplen : (qD D).puts.length = bZ H l + 1 := by
  have := congrArg List.length hpos
  rw [zae, zf, zae, zck, hfl] at this
  exact this
 have hokp : tX (qD D).puts := by
  have e1 : (qD D).puts = D.puts ++ dX (qD D).dir (bQ D.pairs) (qD D).dir.length ++ [(41, bR (qD D).dir)] := by rw [hdl]; rfl
  rw [e1]
  refine oI (oI ?_ ?_) ?_
  ·
   rw [f1]
   intro x hx
   obtain ⟨e, he, hx⟩ := List.mem_flatMap.1 hx
   obtain ⟨c, hc, hg, e1, e2⟩ := nS he
   exact tZ (by rw [← e2]; exact (hb c hc).2) (elt e he) x hx
  ·
   intro x hx
   obtain ⟨i, hi, rfl⟩ := List.mem_map.1 hx
   have hi := List.mem_range.1 hi
   have h1 := (frf ((qD D).dir.getD i 0) (by have := bG hi; rw [hdir] at this ⊢; exact zau this)).1
   have h2 := mB D.pairs ((bQ D.pairs).getD i []) (by rw [zb, ze jo]; exact zbp _)
   exact ⟨by dsimp only; omega, h2.1, h2.2⟩
  intro x hx
  rw [za] at hx
  subst hx
  exact ⟨by dsimp only; omega, fM (by rw [eE]; omega), fL (lH _)⟩
 have hmay : cH (qD D).puts H.dk.has.length := by
  refine ⟨jo, fun x hx => ?_, ?_⟩
  ·
   have hx1 : x.1 ∈ fr.map (42 + ·) ++ [41] := by rw [← hpos]; exact List.mem_map.2 ⟨x, hx, rfl⟩
   refine ⟨?_, (hokp x hx).2.1⟩
   rcases zcp.1 hx1 with h1 | h1
   ·
    obtain ⟨p, hp, he⟩ := List.mem_map.1 h1
    have := (frf p hp).1
    omega
   rw [za] at h1; omega
  rw [hpos, zga]
  refine ⟨?_, jp, fun a ha b hb e => ?_⟩
  ·
   rw [zev, zhs]
   exact (zev.1 frn).imp fun hne e => hne jo
  obtain ⟨p, _, he⟩ := List.mem_map.1 ha
  rw [za] at hb
  omega
 obtain ⟨c1, c2, c3, c4, c5⟩ := qW1 h.pow jo hmay
 have hclen := eK H.dk (qD D).puts
 obtain ⟨dk', hdk⟩ : ∃ dk', dk' = (bK H.dk (qD D).puts).2 := ⟨_, rfl⟩
 rw [← hdk] at c2 c3 c4 c5 hclen ⊢
 have hN : (H.plan dk' (qD D)).N = H.N := by unfold Hm.N Hm.plan; dsimp only; rw [hclen]
 have hok : (H.plan dk' (qD D)).ok := by
  refine ⟨by rw [show (H.plan dk' (qD D)).pairs = D.pairs from rfl, hD]; exact zJ h.ok.srt l fr, fun x hx => ?_, by show D.pairs.length ≤ 600; omega, by show 44 ≤ dk'.has.length; omega, by show dk'.has.length ≤ 2048; omega, by show dk'.wts.length ≤ 100000; rw [c3]; exact zj _, by show (qD D).dir.length ≤ 600; omega, fun p hp => ?_, fun x hx => ?_⟩
  ·
   rcases cls x hx with ⟨h1, _⟩ | ⟨e, he, rfl, _, _, _, e4, _, e6⟩
   · exact h.ok.okp x h1
   exact ⟨e6, (jE e.1 e.2.1 e.2.2 e4 (elt e he)).2.2⟩
  ·
   rw [hN]
   exact (frf p (by have hp' : p ∈ (qD D).dir := hp; rw [hdir] at hp'; exact zau hp')).1
  rw [hN]
  show (∀ p ∈ D.lies x.1, p < H.N) ∧ (D.lies x.1).length ≤ 600 ∧ cN x ≤ 126 * (D.lies x.1).length
  rcases cls x hx with ⟨h1, h2, _⟩ | ⟨e, he, rfl, _, e2, _, e4, _, e6⟩
  · rw [h2]; exact h.ok.pg x h1
  rw [e2]
  have h3 := hnl e he
  have h4 := (jE e.1 e.2.1 e.2.2 e4 (elt e he)).1
  refine ⟨fun p hp => (frf p (enf e he p hp).1).1, ?_, ?_⟩
  · rw [h3]; unfold qI; omega
  rw [h4, h3]; unfold qI; omega
 have g1 : (qD D).dir.Nodup := by rw [hdir]; exact tn2
 have g2 : ∀ x ∈ D.pairs, (D.lies x.1).Nodup := fun x hx => by
  rcases cls x hx with ⟨h1, h2, _⟩ | ⟨e, he, rfl, _, e2, _⟩
  · rw [h2]; exact h.lnod x h1
  rw [e2]; exact en1 e he
 have g3 : ∀ x ∈ D.pairs, ∀ p ∈ D.lies x.1, p ∉ (qD D).dir := fun x hx p hp => by
  rw [hdir]
  rcases cls x hx with ⟨h1, h2, _⟩ | ⟨e, he, rfl, _, e2, _⟩
  ·
   rw [h2] at hp
   exact fun hd => (frf p (zau hd)).2 (wold x h1 p hp)
  rw [e2] at hp
  exact (enf e he p hp).2
 have g4 : ∀ x ∈ D.pairs, ∀ y ∈ D.pairs, x.1 ≠ y.1 → ∀ p ∈ D.lies x.1, p ∉ D.lies y.1 := fun x hx y hy hne p hp hp' => by
  rcases cls x hx with ⟨h1, h2, _⟩ | ⟨e, he, _, e1, e2, _⟩
  ·
   rw [h2] at hp
   rcases cls y hy with ⟨k1, k2, _⟩ | ⟨e', he', _, e1', e2', _⟩
   · rw [k2] at hp'; exact h.ll x h1 y k1 hne p hp hp'
   rw [e2'] at hp'; exact (frf p (enf e' he' p hp').1).2 (wold x h1 p hp)
  rw [e2] at hp
  rcases cls y hy with ⟨k1, k2, _⟩ | ⟨e', he', _, e1', e2', _⟩
  · rw [k2] at hp'; exact (frf p (enf e he p hp).1).2 (wold y k1 p hp')
  rw [e2'] at hp'
  exact en2 e he e' he' (by rw [← e1, ← e1']; exact hne) p hp hp'
 have hwn : (bH (H.plan dk' (qD D))).Nodup := rN hok.srt g1 g2 g3 g4
 have hwl : ∀ p ∈ bH (H.plan dk' (qD D)), p < H.N := fun p hp => by
  rw [← hN]
  rcases (lN _ p).1 hp with h1 | ⟨x, hx, h1⟩
  · exact hok.dirp p h1
  exact (hok.pg x hx).1 p h1
 obtain ⟨U, hU, hUp⟩ := pL H.N (bH (H.plan dk' (qD D))) (fun _ => false) hwl hwn (fun _ _ => rfl)
 refine ⟨c1, hok, ⟨U, hU⟩, ?_, f3, by rw [hdl, htl, hpairs, hrn]⟩
 refine ⟨⟨hok.srt, hok.okp, hok.n600, hok.sz, hok.big, hok.wts, hok.d59, hok.dirp, hok.pg⟩, c2, c3, g1, g2, g3, g4, fun p hp => ?_, fun x hx => ?_⟩
 ·
  show ((bN (H.plan dk' (qD D)).N (fun _ => false) (bH (H.plan dk' (qD D)))).getD (fun _ => false)) p = decide (p ∈ bH (H.plan dk' (qD D)))
  rw [hN, hU]
  show U p = _
  rw [hUp p, Bool.false_or]
 show x = cE x.1 (dZ B l x.1) (D.lies x.1) ∧ (D.lies x.1).length = qI (dZ B l x.1).length ∧ (dZ B l x.1).length ≤ 4032 ∧ (∀ b ∈ dZ B l x.1, b < 256) ∧ ∀ i, i < (D.lies x.1).length → dk'.sec (42 + (D.lies x.1).getD i 0) = dG (dZ B l x.1) (D.lies x.1) i
 rcases cls x hx with ⟨h1, h2, h3⟩ | ⟨e, he, ex, e1, e2, e3, e4, e5, e6⟩
 ·
  rw [h2, h3]
  obtain ⟨b1, b2, b3, b4, b5⟩ := h.blob x h1
  refine ⟨b1, b2, b3, b4, fun i hi => ?_⟩
  have hpw := wold x h1 _ (bG hi)
  have hpl := (h.ok.pg x h1).1 _ (bG hi)
  rw [← b5 i hi]
  refine c5 _ jo jo (fun hq => ?_)
  rw [hpos] at hq
  rcases zcp.1 hq with hq | hq
  ·
   obtain ⟨p, hp', he⟩ := List.mem_map.1 hq
   have : p = (H.lies x.1).getD i 0 := by omega
   rw [this] at hp'
   exact (frf _ hp').2 hpw
  rw [za] at hq; omega
 rw [e2, e3]
 refine ⟨by rw [e1]; exact ex, hnl e he, e4, e5, fun i hi => ?_⟩
 refine c4 (42 + e.2.2.getD i 0, dG e.2.1 e.2.2 i) ?_
 have e1 : (qD D).puts = D.puts ++ dX (qD D).dir (bQ D.pairs) (qD D).dir.length ++ [(41, bR (qD D).dir)] := by rw [hdl]; rfl
 rw [e1, f1]
 exact zeo _ (zeo _ (List.mem_flatMap.2 ⟨e, he, qW3 _ _ hi⟩))
theorem qW4 (D pg : List Nat) (i : Nat) : (dG D pg i).drop 2 = fR D i ++ noM (126 - (fR D i).length) := by
 have h1 := nM D i
 have h2 : Nat.min (D.length - 126 * i) 126 ≤ 126 := zel _ _
 unfold dG eS
 rw [if_neg (by rw [zf, numL_len]; omega), zab, zgi (numL_len _ _), zf, numL_len]
 rw [show 128 - (2 + (fR D i).length) = 126 - (fR D i).length by omega]
theorem yV (D : List Nat) : ∀ k, 126 * k ≤ D.length + 125 → ((List.range k).flatMap fun i => fR D i ++ noM (126 - (fR D i).length)) = D.take (126 * k) ++ noM (126 * k - D.length)
 | 0, _ => by simp [noM]
 | k + 1, h => by
  have hl := nM D k
  have hb : (fR D k).length = Nat.min (D.length - 126 * k) 126 := hl
  rw [zda, zan, yV D k jo, show 126 * k - D.length = 0 by omega, zaw, zek, zav]
  rw [show noM 0 = [] from rfl, zav, ← zab]
  congr 1
  ·
   rw [show 126 * (k + 1) = 126 * k + 126 by omega, List.take_add]
   rfl
  congr 1
  rw [hb]
  rcases Nat.le_total (D.length - 126 * k) 126 with h1 | h1
  · rw [show Nat.min (D.length - 126 * k) 126 = D.length - 126 * k from zbh h1]; omega
  rw [show Nat.min (D.length - 126 * k) 126 = 126 from zej h1]; omega
theorem qW5 {H : Hm} {D pg : List Nat} (hs : ∀ i, i < pg.length → H.dk.sec (42 + pg.getD i 0) = dG D pg i) (hl : pg.length = qI D.length) : (fJ H pg).take D.length = D := by
 have e : fJ H pg = (List.range pg.length).flatMap fun i => fR D i ++ noM (126 - (fR D i).length) := by
  unfold fJ
  have e1 : pg = (List.range pg.length).map fun i => pg.getD i 0 := by
   apply zew
   · simp
   intro i h1 h2
   simp [zb, h1]
  conv => lhs; rw [e1]
  rw [List.flatMap_map]
  have key : ∀ l : List Nat, (∀ i ∈ l, i < pg.length) → (l.flatMap fun i => (H.dk.sec (42 + pg.getD i 0)).drop 2) = l.flatMap fun i => fR D i ++ noM (126 - (fR D i).length) := by
   intro l
   induction l with
   | nil => intro _; rfl
   | cons a r ih =>
    intro hm
    rw [zaw, zaw, ih (fun i hi => hm i (by simp [hi])), hs a (hm a jp), qW4]
  exact key _ (fun i hi => List.mem_range.1 hi)
 rw [e, yV D _ (by rw [hl]; unfold qI; omega), zh (i := 126 * pg.length) (by rw [hl]; unfold qI; omega), zfj rfl]
theorem qH6 {H : Hm} {B : Nat → List Nat} (h : InvH H B) {id : Nat} (hk : id ∈ H.pairs.map (·.1)) : gN H id = (0, B id) := by
 obtain ⟨h1, h2, h3⟩ := oF h.ok.srt hk
 obtain ⟨b1, b2, b3, b4, b5⟩ := h.blob _ h2
 have hpg := (h.ok.pg _ h2).1
 have hbg := h.ok.big
 unfold gN
 rw [if_neg (not_not_intro hk), if_neg (by rw [h.pow.off]; simp)]
 dsimp only
 generalize H.pairs.getD (cD H.pairs id) (0, 0) = x at *
 rw [h3] at b1 b2 b3 b4 b5 hpg
 obtain ⟨p1, p2, p3⟩ := jE id (B id) (H.lies id) b3 (fun p hp => by have := hpg p hp; unfold Hm.N at this; omega)
 rw [← b1] at p1 p2
 rw [p1, qW5 b5 b2, p2, if_pos rfl]
theorem zW {H : Hm} {B : Nat → List Nat} {l : List Ch} (h : InvH H B) (hb : ∀ c ∈ l, c.1 < 18446744073709551616 ∧ ∀ b ∈ c.2.1, b < 256) :
  mJ H l ∧ (qB H l).2.ok ∧ ((qB H l).1 = 0 ∧ cV l ∧ GoneOk H l ∧ InvH (qB H l).2 (dZ B l) ∧ (qB H l).2.dk.has.length = H.dk.has.length ∧ (qB H l).2.dir.length = cK (qB H l).2.pairs.length ∧
    (∀ id, id ∈ (qB H l).2.pairs.map (·.1) ↔ (id ∈ H.pairs.map (·.1) ∧ id ∉ l.map (·.1)) ∨ ∃ c ∈ l, c.2.2 = false ∧ c.1 = id) ∨ (qB H l).1 ≠ 0 ∧ (qB H l).2 = H) := by
 have hmk : mJ H l := fun hm _ hp hn hf _ => by
  obtain ⟨s1, s2, s3, s4, s5, s6⟩ := oO h hm hb hp hn hf
  exact ⟨s2, eK _ _, s3⟩
 refine ⟨hmk, ?_⟩
 by_cases hm : cV l
 ·
  by_cases hg : GoneOk H l
  ·
   by_cases hn : 600 < dQ H l ∨ 40 < bZ H l + 1
   ·
    have e : qB H l = (5, H) := by unfold qB; rw [if_neg (not_not_intro hm), if_neg (not_not_intro hg), if_pos hn]
    rw [e]
    exact ⟨h.ok, .inr ⟨jp, rfl⟩⟩
   by_cases hf : H.N - dW H.N H.used < bZ H l
   ·
    have e : qB H l = (5, H) := by unfold qB; rw [if_neg (not_not_intro hm), if_neg (not_not_intro hg), if_neg hn, if_pos hf]
    rw [e]
    exact ⟨h.ok, .inr ⟨jp, rfl⟩⟩
   obtain ⟨s1, s2, s3, s4, s5, s6⟩ := oO h hm hb jo jo jo
   have e : qB H l = (0, (H.plan (bK H.dk (bM H l).puts).2 (bM H l)).count) := by unfold qB; rw [if_neg (not_not_intro hm), if_neg (not_not_intro hg), if_neg hn, if_neg hf, if_neg (not_not_intro s1)]
   rw [e]
   refine ⟨s4.ok, .inl ⟨rfl, hm, hg, s4, eK _ _, s6, fun id => ?_⟩⟩
   show id ∈ (bM H l).pairs.map (·.1) ↔ _
   simp only [List.mem_map]
   constructor
   ·
    rintro ⟨x, hx, rfl⟩
    rcases (s5 x).1 hx with ⟨h1, h2⟩ | ⟨e, he, rfl⟩
    · exact .inl ⟨⟨x, h1, rfl⟩, by simpa using h2⟩
    obtain ⟨c, hc, hcg, e1, _⟩ := nS he
    exact .inr ⟨c, hc, hcg, e1⟩
   rintro (⟨⟨x, hx, rfl⟩, h2⟩ | ⟨c, hc, hcg, rfl⟩)
   · exact ⟨x, (s5 x).2 (.inl ⟨hx, by simpa using h2⟩), rfl⟩
   have h1 : (c.1, c.2.1) ∈ (cJ l ((bT H.N H.used).take (bZ H l))).map (fun e => (e.1, e.2.1)) := by
    rw [pO]
    exact List.mem_map.2 ⟨c, List.mem_filter.2 ⟨hc, by simp [hcg]⟩, rfl⟩
   obtain ⟨e, he, hee⟩ := List.mem_map.1 h1
   injection hee with e1 e2
   exact ⟨_, (s5 _).2 (.inr ⟨e, he, rfl⟩), e1⟩
  have e : qB H l = (6, H) := by unfold qB; rw [if_neg (not_not_intro hm), if_pos hg]
  rw [e]
  exact ⟨h.ok, .inr ⟨jp, rfl⟩⟩
 have e : qB H l = (1, H) := by unfold qB; rw [if_pos hm]
 rw [e]
 exact ⟨h.ok, .inr ⟨jp, rfl⟩⟩
theorem qZk {d : Dk} (h : Pow d) (hn : 41 < d.has.length) : (bY d).1 = 0 ∧ Pow (bY d).2 ∧ (bY d).2.wts = [] := by
 have he : bY d = qL d dV := by unfold bY; rw [if_neg jo]
 have hno : qZj d.has.length (.wr 0 (noM 128)) := ⟨jo, by simp [noM]⟩
 obtain ⟨r1, r2, _⟩ := sK dV h (fun s hs => by
  simp only [dV, zaq, zaz, or_false] at hs
  rcases hs with rfl | rfl
  · exact hno
  trivial)
 obtain ⟨q1, q2, _⟩ := sK [.wr 0 (noM 128)] h (fun s hs => by rw [za] at hs; subst hs; exact hno)
 have hw : (qL d dV).2.wts = [] := by
  rw [show dV = [.wr 0 (noM 128)] ++ [.fl] from rfl, nY _ _ _ q1]
  show ((qL d _).2.flush).2.wts = []
  unfold Dk.flush
  rw [if_neg q2.fails]
 rw [he]
 exact ⟨r1, r2, hw⟩
theorem qZl {d : Dk} (h : Pow d) (hw : d.wts = []) (h1 : 44 ≤ d.has.length) (h2 : d.has.length ≤ 2048) (B : Nat → List Nat) : InvH (bP d) B :=
 ⟨vW h1 h2 (by rw [hw]; exact zj _), h, hw, zhn, (fun x hx => by cases hx), (fun x hx => by cases hx), (fun x hx => by cases hx), (fun p hp => by simp [bP, bH, cF]), (fun x hx => by cases hx)⟩
theorem vY {H : Hm} {B : Nat → List Nat} (h : InvH H B) : dW H.N H.used = (bH H).length ∧ (bH H).Nodup ∧ ∀ p ∈ bH H, p < H.N := by
 have hn := rN h.ok.srt h.dnod h.lnod h.dl h.ll
 have hl : ∀ p ∈ bH H, p < H.N := fun p hp => by
  rcases (lN _ p).1 hp with h1 | ⟨x, hx, h1⟩
  · exact h.ok.dirp p h1
  exact (h.ok.pg x hx).1 p h1
 have := qZi H.N (bH H) (fun _ => false) hl hn (fun _ _ => rfl) H.used (fun p hp => by rw [h.used p hp, Bool.false_or])
 refine ⟨?_, hn, hl⟩
 rw [this]
 have hz : dW H.N (fun _ => false) = 0 := by unfold dW; simp
 omega
theorem tV {d : Dk} (h : Pow d) (h1 : 44 ≤ d.has.length) (h2 : d.has.length ≤ 2048) :
  (bY d).1 = 0 ∧ (bY d).2.wts.length ≤ 100000 ∧ mJ (bP (bY d).2) [] ∧ (qB (bP (bY d).2) []).2.ok ∧ (qB (bP (bY d).2) []).1 = 0 ∧
   InvH (qB (bP (bY d).2) []).2 (fun _ => []) ∧ (qB (bP (bY d).2) []).2.dk.has.length = d.has.length ∧ (qB (bP (bY d).2) []).2.dir.length = cK (qB (bP (bY d).2) []).2.pairs.length ∧ ∀ id, id ∉ (qB (bP (bY d).2) []).2.pairs.map (·.1) := by
 obtain ⟨f1, f2, f3⟩ := qZk h jo
 have hl := mA d
 have hi := qZl f2 f3 jo jo (fun _ => [])
 obtain ⟨a1, a2, a3⟩ := zW hi (l := []) (fun c hc => by cases hc)
 have hbp : dQ (bP (bY d).2) [] = 0 := rfl
 have hpm : cK 0 = 1 := by
  unfold cK
  rw [show bI 0 7 = 1 from rfl, lF, dif_pos jo]
 have hbn : bZ (bP (bY d).2) [] = 1 := by
  unfold bZ
  rw [hbp, eJ, if_pos jo, hpm]
  rfl
 have hc := (vY hi).1
 have hN : (bP (bY d).2).N = d.has.length - 42 := by unfold Hm.N bP; dsimp only; rw [hl]
 have hc0 : dW (bP (bY d).2).N (bP (bY d).2).used = 0 := hc
 have hm : cV ([] : List Ch) := by simp [cV]
 have hg : GoneOk (bP (bY d).2) [] := fun x hx => by cases hx
 have e0 : (qB (bP (bY d).2) []).1 = 0 := by
  obtain ⟨s1, _⟩ := oO hi hm (fun c hc => by cases hc) jo jo jo
  unfold qB
  rw [if_neg (not_not_intro hm), if_neg (not_not_intro hg), if_neg jo, if_neg jo, if_neg (not_not_intro s1)]
 rcases a3 with ⟨_, _, _, b1, b2, b3, b4⟩ | ⟨b1, _⟩
 ·
  have eB : dZ (fun _ => []) [] = fun _ => ([] : List Nat) := rfl
  rw [eB] at b1
  refine ⟨f1, by rw [f3]; exact zj _, a1, a2, e0, b1, b2.trans hl, b3, fun id hid => ?_⟩
  rcases (b4 id).1 hid with ⟨h5, _⟩ | ⟨c, hc, _⟩
  · cases h5
  cases hc
 exact absurd e0 b1
def nB (l : List Ch) : List Ch := (l.take 12).map fun c => (c.1, c.2.1.take 4040, c.2.2)
theorem qGs (l : List Ch) : (nB l).length ≤ 12 := by unfold nB; rw [zae, zk]; omega
def xZ (k : Nat) : List Nat := List.replicate 128 k
theorem rP (n : Nat) (w : World) (hn : n ≤ 1000000) : Calls Tryz.prog 58 #[jI1 n] w fun e w' => e = .returned (jI1 (qI n)) ∧ w = w' := by
 refine jV Tryz.func58 Tryz.ntmps58 Tryz.results58 ?_
 refine jS (jR (jz 0 (jO (jN (jv1 0 ?_)))))
 refine jS (jR (jz 0 (jO (jN (jS (jB ?_))))))
 refine VC.loop (σ := Nat) (fun s => [(0, jI1 n), (3, jI1 s)]) (fun s wr => s ≤ qI n ∧ w = wr) (fun s => qI n - s) 0 (js2 rfl rfl) ⟨zj _, rfl⟩ ?_
 rintro s _ ⟨hs, rfl⟩
 have hnd : qI n = (n + 125) / 126 := rfl
 refine jS (jS (jR (jm rfl (jb rfl rfl (Bin.mul_i64 126 _ jo) (jm rfl (jb rfl rfl (Bin.lssN _ _) (jO (jN (jv3 0 3 7 ?_)))))))))
 refine jD rfl (fun hc1 => ?_) fun hc1 => ?_
 ·
  refine jQ (jN (jv2 0 3 ?_))
  refine jB (jR (jm rfl (jb rfl rfl (Bin.add_i64 _ 1 jo) (ja rfl (jO ?_)))))
  refine qH (jN ⟨s + 1, (js2 rfl rfl), ?_, ?_⟩)
  · exact ⟨jo, rfl⟩
  exact jq
 refine jX ?_
 refine qZ (qZ (qN ?_))
 refine jN (jv1 3 ?_)
 refine jS (jR (jm rfl (ja rfl (jO (jN (jv1 2 ?_))))))
 refine jT ?_
 refine qS rfl ?_
 rw [show s = qI n by omega]
 exact ⟨rfl, rfl⟩
theorem qQm (k : Nat) (w : World) (hk : k < 256) : Calls Tryz.prog 52 #[.int .u8 ((k : Nat) : Int)] w fun e w' => ∃ g, e = .returned (.slice (some ⟨g, 0, none⟩) 128 128) ∧ Own w' 5 1 (some ⟨g, 0, none⟩) 128 128 (NB (xZ k)) ∧ Frm [] w w' ∧ w.heap.size ≤ g := by
 refine jV Tryz.func52 Tryz.ntmps52 Tryz.results52 ?_
 refine jS (jR (ja rfl (jO (jN (jv1 0 ?_)))))
 refine jS (jR ?_)
 refine Ops.m (qV.makeS (n := 128) rfl rfl zg (eY) rfl jo jo) rfl ?_
 rintro _ w1 ⟨rfl, ho1, hf1, hs1⟩
 rw [lG] at ho1
 have e0 : List.replicate 128 (Value.int .u8 ((0 : Nat) : Int)) = NB (List.replicate 0 k ++ List.replicate (128 - 0) 0) := by rw [NB, List.replicate_zero, zbu, zdr]
 rw [e0] at ho1
 generalize hg : w.heap.size = gb at *
 refine ja rfl (jO (jN (jv2 0 3 ?_)))
 refine jS (jS (jR (jz 0 (jO (jN (jB ?_))))))
 refine VC.loop (σ := Nat) (fun s => [(0, .int .u8 ((k : Nat) : Int)), (3, .slice (some ⟨gb, 0, none⟩) 128 128), (4, jI1 s)]) (fun s wr => s ≤ 128 ∧ Own wr 5 1 (some ⟨gb, 0, none⟩) 128 128 (NB (List.replicate s k ++ List.replicate (128 - s) 0)) ∧ Frm [] w wr) (fun s => 128 - s) 0 (js3 rfl rfl rfl) ⟨zj _, ho1, hf1⟩ ?_
 rintro i wr ⟨hi, ho, K⟩
 refine jS (jS (jR (jm rfl (jb rfl rfl (Bin.lssN _ 128) (jO (jN (jv4 0 3 4 7 ?_)))))))
 refine jD rfl (fun hc1 => ?_) fun hc1 => ?_
 ·
  refine jQ (jN (jv3 0 3 4 ?_))
  refine jS (jB (jR (jm rfl (jm rfl (jm rfl (je (Run.index1 _ rfl rfl zg zam jo) ?_))))))
  refine Ops.st (qT.storeOwn i rfl rfl zam ho rfl jo rfl) ?_
  rintro w2 ⟨ho2, hf2, hs2⟩
  have e2 : (NB (List.replicate i k ++ List.replicate (128 - i) 0)).set i (.int .u8 ((k : Nat) : Int)) = NB (List.replicate (i + 1) k ++ List.replicate (128 - (i + 1)) 0) := by
   have e3 : (List.replicate i k ++ List.replicate (128 - i) 0).set i k = List.replicate (i + 1) k ++ List.replicate (128 - (i + 1)) 0 := by
    rw [List.set_append_right _ _ (by rw [zeg]; omega), zeg, zes, show 128 - i = (128 - (i + 1)) + 1 by omega, List.replicate_succ, List.set_cons_zero, List.replicate_succ' (n := i), zab]
    rfl
   rw [← e3, NB, NB, zfg]
  rw [e2] at ho2
  refine jO ?_
  refine qH (jN ?_)
  refine jv3 0 3 4 ?_
  refine jR (jm rfl (jb rfl rfl (Bin.add_i64 _ 1 jo) (ja rfl (jO ?_))))
  refine jN ⟨i + 1, (js3 rfl rfl rfl), ?_, ?_⟩
  · exact ⟨jo, ho2, K.own hf2 (by simp [ob]; omega)⟩
  exact jq
 refine jX ?_
 refine qZ (qZ (qN ?_))
 refine jN (jv1 3 ?_)
 refine jS (jR (jm rfl (ja rfl (jO (jN (jv1 2 ?_))))))
 refine jT ?_
 refine qS rfl ?_
 obtain rfl : i = 128 := jo
 have ho : Own wr 5 1 (some ⟨gb, 0, none⟩) 128 128 (NB (List.replicate 128 k ++ [])) := ho
 rw [zav] at ho
 exact ⟨gb, rfl, ho, K, jo⟩
theorem qW6 {l : List Cq} {i : Nat} (h : i < l.length) (hi : i < 12) : nB (chL (l.take (i + 1))) = nB (chL (l.take i)) ++ [((l.getD i cq0).1, (l.getD i cq0).2.1.2.2.take 4040, (l.getD i cq0).2.2)] := by
 have e1 : (chL (l.take (i + 1))).take 12 = chL (l.take (i + 1)) := zh (by rw [mF, zk]; omega)
 have e2 : (chL (l.take i)).take 12 = chL (l.take i) := zh (by rw [mF, zk]; omega)
 unfold nB
 rw [e1, e2, gH h, zv]
 rfl
structure RdQ (w : World) (S : Option Addr) (n : Nat) (l : List Cq) : Prop where
 len : l.length = n
 rd : Rd w 3 S n (l.flatMap cqC)
 el : ∀ x ∈ l, Rd w 1 x.2.1.1 x.2.1.2.2.length (NB x.2.1.2.2) ∧ x.2.1.2.2.length ≤ x.2.1.2.1
 num : ∀ x ∈ l, x.1 < 18446744073709551616 ∧ x.2.1.2.2.length ≤ 9223372036854775807
 oct : ∀ x ∈ l, ∀ b ∈ x.2.1.2.2, b < 256
theorem RdQ.frm {w w' : World} {S : Option Addr} {n : Nat} {l : List Cq} (h : RdQ w S n l) (k : Frm [] w w') : RdQ w' S n l := ⟨h.len, h.rd.frm k jp, fun x hx => ⟨(h.el x hx).1.frm k jp, (h.el x hx).2⟩, h.num, h.oct⟩
theorem RdQ.cell {w : World} {S : Option Addr} {n : Nat} {l : List Cq} (h : RdQ w S n l) {k : Nat} (hk : k < n) : ∃ ad, S = some ad ∧ ∀ j v, (cqC (l.getD k cq0))[j]? = some v → w.cell? ((ad.add (k * 3)).add j) = some v := rdF cqC 3 sZ h.rd h.len hk cq0
theorem RdQ.cut {w : World} {S : Option Addr} {n k : Nat} {l : List Cq} (h : RdQ w S n l) (hk : k ≤ n) : RdQ w S k (l.take k) := by
 have h1 := h.rd.cut (l := 0) (r := k) (cap := n + 1) (zj _) hk jo
 rw [dP, zei, zbz, zcc] at h1
 refine ⟨by rw [zk, h.len]; omega, ?_, fun x hx => h.el x (zo hx), fun x hx => h.num x (zo hx), fun x hx => h.oct x (zo hx)⟩
 have h2 := (sR cqC 3 sZ l k).1
 rw [← h2]
 exact h1
def OwQ (b : Nat) (w : World) (X : List Nat) (l : List Cq) : Prop := (∀ x ∈ l, Own w 5 1 x.2.1.1 x.2.1.2.2.length x.2.1.2.1 (NB x.2.1.2.2) ∧ ∀ y ∈ ob x.2.1.1, (y < w.heap.size ∧ y ∉ X) ∧ b ≤ y) ∧ l.Pairwise fun a c => ∀ y ∈ ob a.2.1.1, y ∉ ob c.2.1.1
theorem OwQ.frm {b : Nat} {w w' : World} {X : List Nat} {l : List Cq} (h : OwQ b w X l) (k : Frm [] w w') : OwQ b w' X l := ⟨fun x hx => ⟨(h.1 x hx).1.frm k jp, fun y hy => ⟨⟨zas ((h.1 x hx).2 y hy).1.1 k.size, ((h.1 x hx).2 y hy).1.2⟩, ((h.1 x hx).2 y hy).2⟩⟩, h.2⟩
theorem OwQ.fk {b : Nat} {w w' : World} {X X' : List Nat} {l : List Cq} (h : OwQ b w X l) (k : Fk X w w' X') : OwQ b w' X' l := ⟨fun x hx => ⟨(h.1 x hx).1.frm k.1 (fun y hy => ((h.1 x hx).2 y hy).1.2), fun y hy => ⟨⟨zas ((h.1 x hx).2 y hy).1.1 k.1.size, k.out ((h.1 x hx).2 y hy).1.1 ((h.1 x hx).2 y hy).1.2⟩, ((h.1 x hx).2 y hy).2⟩⟩, h.2⟩
theorem OwQ.snoc {b : Nat} {w : World} {X : List Nat} {l : List Cq} {x : Cq} (h : OwQ b w X l) (hr : Own w 5 1 x.2.1.1 x.2.1.2.2.length x.2.1.2.1 (NB x.2.1.2.2)) (hx : ∀ y ∈ ob x.2.1.1, ((y < w.heap.size ∧ y ∉ X) ∧ b ≤ y) ∧ ∀ z ∈ l, y ∉ ob z.2.1.1) : OwQ b w X (l ++ [x]) := by
 refine ⟨fun y hy => ?_, List.pairwise_append.2 ⟨h.2, jp, fun a ha c hc y hy hy2 => ?_⟩⟩
 ·
  rcases zcp.1 hy with hy | hy
  · exact h.1 y hy
  rw [za] at hy; subst hy; exact ⟨hr, fun z hz => (hx z hz).1⟩
 rw [za] at hc
 subst hc
 exact (hx y hy2).2 a ha hy
theorem qW7 (S0 : Option Addr) (n0 c0 : Nat) (l0 : List Cq) (w : World) (hn : n0 ≤ 9223372036854775807) (hnc : n0 ≤ c0) (hr0 : RdQ w S0 n0 l0) :
  Calls Tryz.prog 8 #[.slice S0 n0 c0] w fun e w' => ∃ B d l, e = .returned (.slice B l.length d) ∧ Own w' 93 3 B l.length d (l.flatMap cqC) ∧ OwQ w.heap.size w' (ob B) l ∧ chL l = nB (chL l0) ∧ Frm [] w w' ∧ ∀ x ∈ ob B, w.heap.size ≤ x := by
 have K0 := Frm.refl [] w
 obtain ⟨n, hnn⟩ : ∃ n, n = (if 12 < n0 then 12 else n0) := ⟨_, rfl⟩
 have hn12 : n ≤ 12 ∧ n ≤ n0 := by rw [hnn]; split <;> omega
 have hr := hr0.cut hn12.2
 obtain ⟨l, hl⟩ : ∃ l, l = l0.take n := ⟨_, rfl⟩
 rw [← hl] at hr
 have hfe : nB (chL l) = nB (chL l0) := by
  have e1 : (chL l).take 12 = (chL l0).take 12 := by
   rw [hl, oA, zex]
   by_cases h : 12 < n0
   ·
    rw [hnn, if_pos h]
    rfl
   rw [hnn, if_neg h, zej jo, zh (i := n0) (by rw [mF, hr0.len]; exact zag _), zh (by rw [mF, hr0.len]; omega)]
  unfold nB
  rw [e1]
 have hln := hr.len
 refine jV Tryz.func8 Tryz.ntmps8 Tryz.results8 ?_
 refine jS (jR (ja rfl (jO (jN (jv1 0 ?_)))))
 refine jS (jS (jR (jm rfl (jL rfl zap (jb rfl rfl (Bin.gtrN _ 12) (jO (jN (jv2 0 8 ?_))))))))
 refine VC.meet (σ := Nat) (fun s => [(0, .slice S0 n s)]) (fun s wz => w = wz) ?_ ?_
 ·
  refine jD rfl (fun hc1 => ?_) fun hc1 => ?_
  ·
   refine jR (jm rfl (je (Run.sliceS 0 12 rfl zap zbi evB.none_ (evB.some_ rfl) jo jo) ?_))
   rw [dP]
   refine ja rfl (jO ?_)
   refine jN ⟨_, (js1 (by rw [show n = 12 - 0 by rw [hnn, if_pos hc1]]; rfl)), ?_⟩
   rfl
  refine jQ ?_
  refine jN ⟨_, (js1 (by rw [show n = n0 by rw [hnn, if_neg hc1]]; rfl)), ?_⟩
  rfl
 rintro cc _ rfl Γ hΓ
 refine jN (VC.sub _ hΓ (jS (jR (ja rfl (jO (jN (jS (jS (jR (jz 0 (jO (jN (jB ?_)))))))))))))
 refine VC.loop (σ := Nat × Option Addr × Nat × List Cq) (fun s => [(0, .slice S0 n cc), (3, .slice s.2.1 s.2.2.2.length s.2.2.1), (4, jI1 s.1)]) (fun s wr => s.1 ≤ n ∧ Own wr 93 3 s.2.1 s.2.2.2.length s.2.2.1 (s.2.2.2.flatMap cqC) ∧ OwQ w.heap.size wr (ob s.2.1) s.2.2.2 ∧ chL s.2.2.2 = nB (chL (l.take s.1)) ∧ Frm [] w wr ∧ (∀ x ∈ ob s.2.1, w.heap.size ≤ x) ∧ s.2.2.2.length = s.1) (fun s => n - s.1) (0, none, 0, []) (js3 rfl rfl rfl) ⟨zj _, Own.nil _ _ _, ⟨fun x hx => (by cases hx), List.Pairwise.nil⟩, rfl, K0, by simp [ob], rfl⟩ ?_
 rintro ⟨i, B, d, ls⟩ wr ⟨hi, ho, hq, hch, K, hup, hll⟩
 dsimp only at hi ho hq hch hup hll ⊢
 have ks := K.size
 refine jS (jS (jR (jm rfl (jm rfl (jL rfl zap (jb rfl rfl (Bin.lssN _ _) (jO (jN (jv4 0 3 4 14 ?_)))))))))
 refine jD rfl (fun hc2 => ?_) fun hc2 => ?_
 ·
  obtain ⟨ad, hS, hel⟩ := (hr.frm K).cell hc2
  subst hS
  have hmem := nN (jo : i < l.length)
  have hxn := hr.num _ hmem
  have hxo := hr.oct _ hmem
  have hxe := hr.el _ hmem
  have hsn := qW6 (jo : i < l.length) jo
  generalize l.getD i cq0 = x at hel hxn hxo hxe hsn
  obtain ⟨xa, ⟨xA, xc, xb⟩, xg⟩ := x
  dsimp only at hxn hxo hxe hsn
  refine jQ (jN (jv3 0 3 4 ?_))
  refine jS (jB (jS (jR (jm rfl (jm rfl (je (Run.indexS _ rfl rfl zap zbi jo) (je (Run.loadA rfl zhi zbi hel (by first | rfl | (simp; done))) ?_)))))))
  refine Ops.m (qV.alloc gC) rfl ?_
  rintro _ w2 ⟨rfl, hF2⟩
  refine Ops.st (qT.storeA rfl rfl zbi hF2.blk rfl (oG (xa, (xA, xc, xb), xg))) ?_
  rintro w3 ⟨hb5, hf3, hs3⟩
  have hb5 : Blk w3 wr.heap.size 93 #[jI2 xa, .slice xA xb.length xc, .bool xg] := hb5
  have K3 : Frm [] wr w3 := hF2.frm.own hf3 jp
  have hwl := ho.lt
  have ho := ho.frm K3 jp
  have hwl0 := hq
  have hqr := hq
  have hq := hq.frm K3
  have K := K.trans K3 jp
  have hq0 : ∀ x ∈ ls, ∀ y ∈ ob x.2.1.1, y < wr.heap.size := fun x hx y hy => ((hqr.1 x hx).2 y hy).1.1
  have hql : ∀ x ∈ ls, ∀ y ∈ ob x.2.1.1, y < w3.heap.size := fun x hx y hy => ((hq.1 x hx).2 y hy).1.1
  generalize hg5 : wr.heap.size = g5 at *
  refine jO (jN (jv4 0 3 4 5 ?_))
  refine jS (jS (jR (jf rfl zak rfl zah (jl rfl zba (hb5.cell 1) (jL rfl zg (jb rfl rfl (Bin.gtrN _ 4040) (jO (jN (jv5 0 3 4 5 24 ?_)))))))))
  refine VC.meet (σ := Nat) (fun s => [(0, .slice (some ad) n cc), (3, .slice B ls.length d), (4, jI1 i), (5, jI0 g5)]) (fun s wz => Frm [g5] w3 wz ∧ Blk wz g5 93 #[jI2 xa, .slice xA (xb.take 4040).length s, .bool xg] ∧ wz.heap.size = w3.heap.size) ?_ ?_
  ·
   refine jD rfl (fun hc3 => ?_) fun hc3 => ?_
   ·
    have hcapx := hxe.2
    have htk : (xb.take 4040).length = 4040 := by rw [zk]; omega
    refine jR (jf rfl zak rfl zah (jl rfl zba (hb5.cell 1) (je (Run.sliceS 0 4040 rfl zg zam evB.none_ (evB.some_ rfl) jo jo) ?_)))
    rw [dP]
    refine jf rfl zak rfl zah ?_
    refine Ops.st (qT.store rfl rfl zah hb5 rfl rfl) ?_
    rintro w4 ⟨hb5, hf4, hs4⟩
    refine jO ?_
    refine jN ⟨xc - 0, (js4 rfl rfl rfl rfl), ?_⟩
    exact ⟨hf4, by rw [htk]; exact hb5, hs4⟩
   have htk : xb.take 4040 = xb := zh jo
   refine jQ ?_
   refine jN ⟨xc, (js4 rfl rfl rfl rfl), ?_⟩
   exact ⟨Frm.refl _ _, by rw [htk]; exact hb5, rfl⟩
  rintro xc wz ⟨hfz, hb5, hsz⟩ Γ hΓ
  refine jN (VC.sub _ hΓ (jS (jR ?_)))
  refine Ops.m (qV.buildS0 zg zam) rfl ?_
  rintro _ w5 ⟨rfl, hF5⟩
  obtain ⟨yb, hyb⟩ : ∃ yb, yb = xb.take 4040 := ⟨_, rfl⟩
  rw [← hyb] at hb5 hsn
  have hyl : yb.length ≤ 4040 := by rw [hyb, zk]; omega
  have hyo : ∀ b ∈ yb, b < 256 := fun b hb => hxo b (by rw [hyb] at hb; exact zo hb)
  have hwl5 : g5 < wz.heap.size := hb5.lt
  have ho5 : Own w5 5 1 (some ⟨wz.heap.size, 0, none⟩) 0 0 (NB []) := Own.of_blk hF5.blk rfl (by simp [maxLen])
  have kz : Frm [g5] w3 w5 := hfz.trans hF5.frm jp
  have n5B : ∀ y ∈ ob B, y ≠ g5 := fun y hy e => by have := hwl y hy; omega
  have K5 := K.own kz (by simp; omega)
  have hyr : Rd w5 1 xA yb.length (NB yb) := by
   have h1 := hxe.1.cut (l := 0) (r := yb.length) (cap := xb.length + 1) (zj _) (by rw [hyb, zk]; omega) jo
   rw [dP, zcc, zei, zbz, zds, (nR _ _).1, show xb.take yb.length = yb by rw [hyb]; exact oE _ _] at h1
   exact h1.frm K5 jp
  refine jf rfl zak rfl zah (jl rfl zba ((hb5.frm hF5.frm jp).cell 1) ?_)
  refine Ops.m (qV.app rfl rfl zg (eY) rfl jd ho5 hyr (eZ _) jo jo) rfl ?_
  rintro _ w6 ⟨YA, yc, rfl, ho6, hf6, hob6⟩
  rw [← dM, zbu, zch] at ho6
  rw [zch]
  have hq5 := hF5.size
  have n6 : g5 ∉ ob (some (⟨wz.heap.size, 0, none⟩ : Addr)) := fun h => by simp [ob] at h; omega
  have hb6 := (hb5.frm hF5.frm jp).frm hf6 n6
  have hupY : ∀ y ∈ ob YA, wz.heap.size ≤ y := fun y hy => by
   rcases hob6 with h | h
   · rw [h] at hy; simp [ob] at hy; omega
   rw [h, za] at hy; omega
  refine jf rfl zak rfl zah ?_
  refine Ops.st (qT.store rfl rfl zah hb6 rfl rfl) ?_
  rintro w7 ⟨hb7, hf7, hs7⟩
  have hf7 : Frm [g5] w6 w7 := hf7
  have hb7 : Blk w7 g5 93 #[jI2 xa, .slice YA yb.length yc, .bool xg] := hb7
  have hYlt := ho6.lt
  have ho7 : Own w7 5 1 YA yb.length yc (NB yb) := ho6.frm hf7 (fun y hy h => by rw [za] at h; have := hupY y hy; omega)
  have k37 : Frm (g5 :: [wz.heap.size]) w3 w7 := ((kz.mono jp).trans hf6 (fun y hy => .inl (by simp [ob] at hy; simp [hy]))).trans hf7 (fun y hy => .inl (by simp at hy; simp [hy]))
  have hBw : ∀ y ∈ ob B, y < w3.heap.size := fun y hy => by have := hwl y hy; have := K3.size; omega
  have ho := ho.frm k37 (fun y hy h => by simp at h; rcases h with h | h; exact n5B y hy h; have := hBw y hy; omega)
  have K := K.own k37 (by simp; omega)
  have q7 : w3.heap.size ≤ w7.heap.size := k37.size
  have hq : OwQ w.heap.size w7 (ob B) ls := ⟨fun x hx => ⟨(hq.1 x hx).1.frm k37 (fun y hy h => by
    simp at h
    rcases h with h | h
    · have := hq0 x hx y hy; omega
    have := ((hq.1 x hx).2 y hy).1.1; omega), fun y hy => ⟨⟨zas ((hq.1 x hx).2 y hy).1.1 q7, ((hq.1 x hx).2 y hy).1.2⟩, ((hq.1 x hx).2 y hy).2⟩⟩, hq.2⟩
  refine jO (jN (jv4 0 3 4 5 ?_))
  refine jR (jm rfl (je (Run.loadA rfl zhi zbi (hb7.cells) (by first | rfl | (simp; done))) ?_))
  refine Ops.m (qV.buildS1 rfl zap zbi gC jd jd rfl rfl) rfl ?_
  rintro _ w8 ⟨rfl, hF8⟩
  have hr8 : Rd w8 3 (some ⟨w7.heap.size, 0, none⟩) 1 (cqC (xa, (YA, yc, yb), xg)) := Rd.of_blk (n := 1) (size := 3) hF8.blk rfl
  have hlt7 := ho.lt
  have ho := ho.frm hF8.frm jp
  have hq := hq.frm hF8.frm
  have ho8 := ho7.frm hF8.frm jp
  have K := K.trans hF8.frm jp
  have ks8 := K.size
  refine Ops.m (qV.app rfl rfl zap (qMs) rfl jd ho hr8 (oG _) jo jo) rfl ?_
  rintro _ w9 ⟨B9, d9, rfl, ho9, hf9, hob9⟩
  have k9 : Fk (ob B) w8 w9 (ob B9) := Fk.of_app hf9 hob9
  have e9 : ls.flatMap cqC ++ cqC (xa, (YA, yc, yb), xg) = (ls ++ [(xa, (YA, yc, yb), xg)]).flatMap cqC := jp
  rw [e9] at ho9
  have hYB : ∀ y ∈ ob YA, y ∉ ob B := fun y hy h => by have := hwl y h; have := hupY y hy; have := K3.size; omega
  have hYl8 := ho8.lt
  have hq9 := (hq.fk k9).snoc (x := (xa, (YA, yc, yb), xg)) (ho8.frm hf9 hYB) (fun y hy => ⟨⟨⟨zas (hYl8 y hy) hf9.size, k9.out (hYl8 y hy) (hYB y hy)⟩, by have := hupY y hy; omega⟩, fun z hz hyz => by have := hql z hz y hyz; have := hupY y hy; omega⟩)
  refine ja rfl (jO ?_)
  refine qH (jN ?_)
  refine jv3 0 3 4 ?_
  refine jR (jm rfl (jb rfl rfl (Bin.add_i64 _ 1 jo) (ja rfl (jO ?_))))
  refine jN ⟨(i + 1, B9, d9, ls ++ [(xa, (YA, yc, yb), xg)]), (js3 rfl (by rw [zf]; rfl) rfl), ?_, ?_⟩
  · exact ⟨hc2, by dsimp only; rw [zf]; exact ho9, hq9, by dsimp only; rw [hsn, ← hch, chL, zv]; rfl, K.own hf9 hup, k9.up hup ks8, by dsimp only; rw [zf, hll]; rfl⟩
  exact jq
 refine jX ?_
 refine qZ (qZ (qN ?_))
 refine jN (jv1 3 ?_)
 refine jS (jR (jm rfl (ja rfl (jO (jN (jv1 2 ?_))))))
 refine jT ?_
 refine qS rfl ?_
 obtain rfl : i = n := jo
 rw [zh (jo : l.length ≤ i), hfe] at hch
 exact ⟨B, d, ls, rfl, ho, hq, hch, K, hup⟩
theorem qH7 {H : Hm} (hk : H.dk.ok) (ho : H.ok) (id : Nat) : ∀ b ∈ (gN H id).2, b < 256 := by
 unfold gN
 split
 · intro b hb; cases hb
 next hid =>
 split
 · intro b hb; cases hb
 dsimp only
 split
 ·
  intro b hb
  have h1 := oF ho.srt (Classical.not_not.1 hid)
  have h2 := (ho.pg _ h1.2.1).1
  rw [h1.2.2] at h2
  exact qZg H hk _ h2 b (zo hb)
 intro b hb; cases hb
theorem qQn {H : Hm} {B : Nat → List Nat} {l : List Ch} (h : InvH H B) (h0 : (qB H l).1 = 0) (hb : ∀ c ∈ l, c.1 < 18446744073709551616 ∧ ∀ b ∈ c.2.1, b < 256) :
  (qB H l).2.dir = ((bT H.N H.used).take (bZ H l)).drop (sumN l) ∧ (∀ x, x ∈ (qB H l).2.pairs ↔ (x ∈ H.pairs ∧ x.1 ∉ l.map (·.1)) ∨ ∃ e ∈ cJ l ((bT H.N H.used).take (bZ H l)), x = cE e.1 e.2.1 e.2.2) ∧
   (∀ id, id ∉ l.map (·.1) → (qB H l).2.lies id = H.lies id) ∧ ∀ e ∈ cJ l ((bT H.N H.used).take (bZ H l)), (qB H l).2.lies e.1 = e.2.2 := by
 by_cases hm : cV l
 ·
  by_cases hg : GoneOk H l
  ·
   by_cases hn : 600 < dQ H l ∨ 40 < bZ H l + 1
   ·
    have e : qB H l = (5, H) := by unfold qB; rw [if_neg (not_not_intro hm), if_neg (not_not_intro hg), if_pos hn]
    rw [e] at h0; cases h0
   by_cases hf : H.N - dW H.N H.used < bZ H l
   ·
    have e : qB H l = (5, H) := by unfold qB; rw [if_neg (not_not_intro hm), if_neg (not_not_intro hg), if_neg hn, if_pos hf]
    rw [e] at h0; cases h0
   obtain ⟨s1, s2, s3, s4, s5, s6⟩ := oO h hm hb jo jo jo
   have e : qB H l = (0, (H.plan (bK H.dk (bM H l).puts).2 (bM H l)).count) := by unfold qB; rw [if_neg (not_not_intro hm), if_neg (not_not_intro hg), if_neg hn, if_neg hf, if_neg (not_not_intro s1)]
   rw [e]
   have gz : gS l := fun x hx hg => (hm.2 x hx).2 hg
   have hcl := oW H.N H.used
   have hfl : ((bT H.N H.used).take (bZ H l)).length = bZ H l := by rw [zk, gL]; omega
   have hsn : sumN l ≤ bZ H l := by unfold bZ; omega
   obtain ⟨f1, f2, f3, f4, f5⟩ := nT l ⟨[], H.pairs, (bT H.N H.used).take (bZ H l), H.lies⟩ hm.1 gz (by dsimp only; omega)
   refine ⟨?_, s5, f4, f5⟩
   show (bM H l).dir = _
   have htl : (bQ (bM H l).pairs).length = cK (dQ H l) := by
    rw [fH]
    exact congrArg cK (tJ _ _ _ _)
   have e2 : (bM H l).dir = (qO H l ((bT H.N H.used).take (bZ H l))).free.take (bQ (bM H l).pairs).length := rfl
   rw [e2, show (qO H l ((bT H.N H.used).take (bZ H l))).free = ((bT H.N H.used).take (bZ H l)).drop (sumN l) from f2, zh]
   rw [zq, hfl, htl]
   unfold bZ eJ
   rw [if_pos jo]
   omega
  have e : qB H l = (6, H) := by unfold qB; rw [if_neg (not_not_intro hm), if_pos hg]
  rw [e] at h0; cases h0
 have e : qB H l = (1, H) := by unfold qB; rw [if_pos hm]
 rw [e] at h0; cases h0
theorem qH8 {H : Hm} {B : Nat → List Nat} (h : InvH H B) : bT H.N H.used = (List.range H.N).filter fun p => decide (p ∉ bH H) := by
 unfold bT
 exact zep fun p hp => by rw [h.used p (List.mem_range.1 hp)]; simp
theorem qKi {H : Hm} {B : Nat → List Nat} (h : InvH H B) : (List.range H.N).filter H.used = (List.range H.N).filter fun p => decide (p ∈ bH H) :=
 zep fun p hp => by rw [h.used p (List.mem_range.1 hp)]
theorem qGt {H : Hm} {l : List Ch} (hm : cV l) (hg : ¬ GoneOk H l) : (qB H l).1 = 6 := by
 unfold qB
 rw [if_neg (not_not_intro hm), if_pos hg]
def bS : Hm := (qB (bP (bY (Dk.new 51)).2) []).2
def exL (D : List Nat) : List Ch := [(5, D, false)]
theorem qW8 : (∃ B, InvH bS B) ∧ bS.N = 9 ∧ bH bS = [0] ∧ bS.pairs = [] := by
 have hl : (Dk.new 51).has.length = 51 := by simp [Dk.new]
 have hp : Pow (Dk.new 51) := ⟨rfl, rfl⟩
 obtain ⟨f1, f2, f3, f4, f5, f6, f7, f8, f9⟩ := tV hp jo jo
 obtain ⟨u1, u2, u3⟩ := qZk hp jo
 have hlf := mA (Dk.new 51)
 have hi := qZl u2 u3 jo jo (fun _ => [])
 obtain ⟨g1, -⟩ := qQn hi f5 (fun c hc => by cases hc)
 have hN0 : (bP (bY (Dk.new 51)).2).N = 9 := by unfold Hm.N bP; dsimp only; omega
 have hbn : bZ (bP (bY (Dk.new 51)).2) [] = 1 := by
  have hpm : cK 0 = 1 := by unfold cK; rw [show bI 0 7 = 1 from rfl, lF, dif_pos jo]
  unfold bZ
  rw [show dQ (bP (bY (Dk.new 51)).2) [] = 0 from rfl, eJ, if_pos jo, hpm]
  rfl
 have hps : bS.pairs = [] := by
  cases hc : bS.pairs with
  | nil => rfl
  | cons a r => exact absurd (List.mem_map.2 ⟨a, by rw [show (qB (bP (bY (Dk.new 51)).2) []).2.pairs = a :: r from hc]; simp, rfl⟩) (f9 a.1)
 have hN : bS.N = 9 := by unfold Hm.N bS; omega
 have hd : bS.dir = [0] := by
  unfold bS
  rw [g1, hN0, hbn]
  rfl
 refine ⟨⟨_, f6⟩, hN, ?_, hps⟩
 unfold bH
 rw [hd, hps]
 rfl
theorem qM3 {D : List Nat} (hD : D.length = 200) (hb : ∀ b ∈ D, b < 256) : ∃ B, InvH (qB bS (exL D)).2 B ∧ (qB bS (exL D)).1 = 0 ∧ (qB bS (exL D)).2.N = 9 ∧ bH (qB bS (exL D)).2 = [3, 1, 2] ∧ gN (qB bS (exL D)).2 5 = (0, D) ∧ (qB (qB bS (exL D)).2 [(5, [], true), (6, [], true)]).1 = 6 := by
 obtain ⟨⟨B, hi⟩, hN, hw, hps⟩ := qW8
 have hm : cV (exL D) := ⟨by simp [exL], fun x hx => by rw [exL, za] at hx; subst hx; exact ⟨by dsimp only; omega, fun h => by cases h⟩⟩
 have hg : GoneOk bS (exL D) := fun x hx h => by rw [exL, za] at hx; subst hx; cases h
 have hbb : ∀ c ∈ exL D, c.1 < 18446744073709551616 ∧ ∀ b ∈ c.2.1, b < 256 := fun c hc => by rw [exL, za] at hc; subst hc; exact ⟨by dsimp only; omega, hb⟩
 have hnd : qI D.length = 2 := by rw [hD]; rfl
 have hbp : dQ bS (exL D) = 1 := by
  unfold dQ qO exL
  rw [hps]
  rfl
 have hsn : sumN (exL D) = 2 := by simp [sumN, exL, hnd]
 have hbn : bZ bS (exL D) = 3 := by
  have hpm : cK 1 = 1 := by unfold cK; rw [show bI 1 7 = 1 from rfl, lF, dif_pos jo]
  unfold bZ
  rw [hbp, hsn, eJ, if_pos jo, hpm]
 have hc : dW bS.N bS.used = 1 := by rw [(vY hi).1, hw]; rfl
 obtain ⟨s1, s2, s3, s4, s5, s6⟩ := oO hi hm hbb jo jo jo
 have e : qB bS (exL D) = (0, (bS.plan (bK bS.dk (bM bS (exL D)).puts).2 (bM bS (exL D))).count) := by unfold qB; rw [if_neg (not_not_intro hm), if_neg (not_not_intro hg), if_neg jo, if_neg jo, if_neg (not_not_intro s1)]
 have h0 : (qB bS (exL D)).1 = 0 := by rw [e]
 obtain ⟨g1, g2, g3, g4⟩ := qQn hi h0 hbb
 have hfr : (bT bS.N bS.used).take (bZ bS (exL D)) = [1, 2, 3] := by
  rw [qH8 hi, hw, hN, hbn]
  rfl
 rw [hfr, hsn] at g1
 rw [hfr] at g2 g4
 have hnw : cJ (exL D) [1, 2, 3] = [(5, D, [1, 2])] := by
  rw [exL, cJ, if_neg jp]
  dsimp only
  rw [hnd]
  rfl
 rw [hnw] at g2 g4
 have hl5 := g4 (5, D, [1, 2]) jp
 have hmem : cE 5 D [1, 2] ∈ (qB bS (exL D)).2.pairs := (g2 _).2 (.inr ⟨(5, D, [1, 2]), jp, rfl⟩)
 have hI2 : InvH (qB bS (exL D)).2 (dZ B (exL D)) := by rw [e]; exact s4
 have hp2 : (qB bS (exL D)).2.pairs = [cE 5 D [1, 2]] := by
  have hln : (qB bS (exL D)).2.pairs.length = 1 := by
   rw [e]
   show (bM bS (exL D)).pairs.length = 1
   exact (tJ bS (exL D) _ []).trans hbp
  match hq : (qB bS (exL D)).2.pairs with
  | [] => rw [hq] at hln; cases hln
  | [a] => rw [hq] at hmem; rw [za] at hmem; rw [hmem]
  | a :: b :: r => rw [hq] at hln; simp at hln
 have hk5 : 5 ∈ (qB bS (exL D)).2.pairs.map (·.1) := List.mem_map.2 ⟨_, hmem, rfl⟩
 refine ⟨_, hI2, h0, ?_, ?_, ?_, ?_⟩
 ·
  rw [e]
  show (bK bS.dk (bM bS (exL D)).puts).2.has.length - 42 = 9
  rw [eK]
  exact hN
 ·
  unfold bH cF
  rw [g1, hp2]
  show [3] ++ ((qB bS (exL D)).2.lies 5 ++ []) = _
  rw [hl5]
  rfl
 ·
  rw [qH6 hI2 hk5]
  have := xQ (B := B) (l := exL D) hm.1 (c := (5, D, false)) (by simp [exL]) rfl
  rw [show dZ B (exL D) 5 = D from this]
 have hm2 : cV [(5, [], true), (6, [], true)] := ⟨jp, fun x hx => by simp at hx; rcases hx with rfl | rfl <;> exact ⟨jp, fun _ => rfl⟩⟩
 have hg2 : ¬ GoneOk (qB bS (exL D)).2 [(5, [], true), (6, [], true)] := fun hg => by
  have := hg (6, [], true) jp rfl
  rw [hp2] at this
  simp [cE] at this
 exact qGt hm2 hg2
theorem nW (w : World) : Calls Tryz.prog 14 #[] w fun e w' => e = .returned (.bool true) ∧ Frm [] w w' := by
 have hl : (Dk.new 51).has.length = 51 := by simp [Dk.new]
 have hp : Pow (Dk.new 51) := ⟨rfl, rfl⟩
 obtain ⟨f1, f2, f3, f4, f5, f6, f7, f8, f9⟩ := tV hp jo jo
 obtain ⟨⟨B1, hi1⟩, hN1, hw1, hps1⟩ := qW8
 refine jV Tryz.func14 Tryz.ntmps14 Tryz.results14 ?_
 refine jS (jR (ja rfl (jO (jN ?_))))
 refine VC.sub [] .nil ?_
 refine jS (jR ?_)
 refine jc (jE1 Tryz.call6) (tD 51 w jo jo) ?_
 rintro e w1 ⟨g, F, rfl, hD, K, hupF⟩
 refine ⟨_, rfl, ?_⟩
 have K0 := K
 refine jm rfl (jY rfl rfl (jY rfl rfl (ja rfl (ja rfl (jO (jN (jv2 1 2 ?_)))))))
 refine jS (jS (jR (jm rfl (jb rfl rfl (Bin.neqN _ 0) (jM ?_)))))
 refine Ops.rg rfl (rfl) (Run.mv rfl) rfl ?_
 refine Ops.rg rfl (rfl) (Run.eqlNilP rfl rfl zht) rfl ?_
 refine jF rfl rfl (rfl) (jO (jN (jv2 1 23 ?_)))
 refine VC.condF rfl (rfl) ?_
 refine jQ (jN (jv1 1 ?_))
 refine jS (jR (jM ?_))
 refine jc (jE1 Tryz.call7) (qZh g F (Dk.new 51) w1 hD jo (zj _) f1 f2 f3 f4 f5) ?_
 rintro e w2 ⟨h, F2, q, rfl, hH, hk2⟩
 refine ⟨_, rfl, ?_⟩
 have hH : IsHt w2 h g F2 bS q := hH
 have hup2 : ∀ x ∈ h :: F2, w.heap.size ≤ x := fun x hx => by
  rcases hk2.2 x hx with h1 | h1
  · exact hupF x h1
  exact zbd K.size h1
 have K := K.own hk2.1 hupF
 have hc1 : bS.N - dW bS.N bS.used = 8 := by rw [(vY hi1).1, hw1, hN1]; rfl
 have hu1 : (List.range bS.N).filter bS.used = [0] := by rw [qKi hi1, hw1, hN1]; rfl
 refine jm rfl (jY rfl rfl (jY rfl rfl (ja rfl (ja rfl (jO (jN (jv2 3 4 ?_)))))))
 refine jS (jS (jR (jm rfl (jb rfl rfl (Bin.neqN _ 0) (jM ?_)))))
 refine Ops.rg rfl (rfl) (Run.mv rfl) rfl ?_
 refine Ops.rg rfl (rfl) (Run.eqlNilP rfl rfl zhu) rfl ?_
 refine jF rfl rfl (rfl) (jO (jN (jv2 3 34 ?_)))
 refine VC.condF rfl (rfl) ?_
 refine jQ (jN (jv1 3 ?_))
 refine jS (jR (jM ?_))
 refine jc0 (jE1 zgl) (kC h g F2 _ q w2 hH) ?_
 rw [hN1]
 refine jM ?_
 refine jc (jE1 Tryz.call51) (sL h g F2 _ q w2 hH) ?_
 rintro e w3 ⟨rfl, hf3⟩
 refine ⟨_, rfl, ?_⟩
 rw [hc1]
 refine jM ?_
 refine jc (jE1 Tryz.call9) (sO h g F2 _ q w3 (hH.frm hf3)) ?_
 rintro e w4 ⟨UB, ud, rfl, hoU, hf4, hupU⟩
 refine ⟨_, rfl, ?_⟩
 rw [hu1, show ([0] : List Nat).length = 1 from rfl] at hoU
 rw [hu1, show ([0] : List Nat).length = 1 from rfl]
 have hf24 : Frm [] w2 w4 := hf3.trans hf4 jp
 refine ja rfl (ja rfl (ja rfl (jO (jN (jv4 3 5 6 7 ?_)))))
 refine jS (jR ?_)
 refine jc (jE1 Tryz.call52) (qQm 7 w4 jo) ?_
 rintro e w5 ⟨ga, rfl, hoa, hf5, hga⟩
 refine ⟨_, rfl, ?_⟩
 refine jc (jE1 Tryz.call52) (qQm 8 w5 jo) ?_
 rintro e w6 ⟨gb, rfl, hob8, hf6, hgb⟩
 refine ⟨_, rfl, ?_⟩
 refine Ops.m (qV.app rfl rfl zg (eY) rfl jd (hoa.frm hf6 jp) hob8.rd (eZ _) jo jo) rfl ?_
 rintro _ w7 ⟨DA, dc, rfl, hoD, hf7, hobD⟩
 rw [← dM] at hoD
 obtain ⟨Dx, hDx⟩ : ∃ Dx, Dx = (xZ 7 ++ xZ 8).take 200 := ⟨_, rfl⟩
 have hDl : Dx.length = 200 := by rw [hDx, xZ, xZ]; simp
 have hDb : ∀ b ∈ Dx, b < 256 := fun b hb => by
  rw [hDx, xZ, xZ] at hb
  rcases zcp.1 (zo hb) with hb | hb <;> have := List.eq_of_mem_replicate hb <;> omega
 have hDc := hoD.le
 have hDr : Rd w7 1 DA 200 (NB Dx) := by
  have h1 := hoD.rd.cut (l := 0) (r := 200) (cap := dc) jo jo hDc
  rw [dP, zei, zbz, zcc, zds, (nR _ _).1, ← hDx] at h1
  exact h1
 have hf57 : Frm [] w4 w7 := (hf5.trans hf6 jp).own hf7 (by simp [ob]; have := hf5.size; omega)
 have hf27 : Frm [] w2 w7 := hf24.trans hf57 jp
 obtain ⟨B2, hi2, hz2, hN2, hw2, hg2, hz3⟩ := qM3 hDl hDb
 obtain ⟨m1, m2, -⟩ := zW hi1 (l := exL Dx) (fun c hc => by rw [exL, za] at hc; subst hc; exact ⟨by dsimp only; omega, hDb⟩)
 obtain ⟨m3, m4, m5⟩ := zW hi2 (l := [(5, [], true), (6, [], true)]) (fun c hc => by simp at hc; rcases hc with rfl | rfl <;> exact ⟨by dsimp only; omega, fun b hb => by cases hb⟩)
 refine je (Run.sliceS 0 200 rfl zg zam evB.none_ (evB.some_ rfl) jo jo) ?_
 rw [dP]
 refine ja rfl (jO (jN (jv5 3 5 6 7 8 ?_)))
 refine jS (jR (jm rfl (jm rfl (je (Run.build (evs.cons rfl (evs.cons rfl evs.nil)) gC (mM).choose_spec.1 (mM).choose_spec.2 (cells := (cqC (5, (DA, dc - 0, Dx), false)).toArray) (by rw [cqC, SL, hDl]; rfl)) ?_))))
 refine Ops.m (qV.buildS1 rfl zap zbi gC jd jd rfl rfl) rfl ?_
 rintro _ w8 ⟨rfl, hF8⟩
 have hr8 : RdC w8 (some ⟨w7.heap.size, 0, none⟩) 1 [(5, (DA, dc - 0, Dx), false)] := ⟨rfl, Rd.of_blk (n := 1) (size := 3) hF8.blk rfl, fun x hx => by rw [za] at hx; subst hx; exact ⟨by dsimp only; rw [hDl]; exact hDr.frm hF8.frm jp, by dsimp only; omega⟩, fun x hx => by rw [za] at hx; subst hx; exact ⟨by dsimp only; omega, by dsimp only; omega⟩, fun x hx => by rw [za] at hx; subst hx; exact hDb⟩
 have hf28 : Frm [] w2 w8 := hf27.trans hF8.frm jp
 refine jc (jE2 Tryz.call10) (rM (some ⟨w7.heap.size, 0, none⟩) 1 1 [(5, (DA, dc - 0, Dx), false)] h g F2 bS q w8 (hH.frm hf28) jo hr8 m1 m2) ?_
 rintro e w9 ⟨F3, q3, rfl, hH3, hk9⟩
 refine ⟨_, rfl, ?_⟩
 have hH3 : IsHt w9 h g F3 (qB bS (exL Dx)).2 q3 := hH3
 rw [show (qB bS (chL [(5, (DA, dc - 0, Dx), false)])).1 = 0 from hz2]
 have K := (K.trans hf28 jp).own hk9.1 hup2
 have hup3 : ∀ x ∈ h :: F3, w.heap.size ≤ x := fun x hx => by
  rcases hk9.2 x hx with h1 | h1
  · exact hup2 x h1
  have h2 := hk2.1.size; have h3 := hf28.size; have h4 := K0.size; omega
 refine ja rfl (jO (jN (jv6 3 5 6 7 8 9 ?_)))
 refine jS (jR (jM ?_))
 refine jc (jE2 Tryz.call22) (qQi 5 h g F3 _ q3 w9 hH3 jo) ?_
 rintro e w10 ⟨GB, gd, rfl, hrG, hf10, hupG⟩
 refine ⟨_, rfl, ?_⟩
 rw [hg2] at hrG ⊢
 refine jm rfl (jY rfl rfl (jY rfl rfl (ja rfl (ja rfl (jO (jN (jv8 3 5 6 7 8 9 10 11 ?_)))))))
 refine jS (jR (jM ?_))
 refine jc (jE1 Tryz.call9) (sO h g F3 _ q3 w10 (hH3.frm hf10)) ?_
 rintro e w11 ⟨VB, vd, rfl, hoV, hf11, hupV⟩
 refine ⟨_, rfl, ?_⟩
 have hu2 : (List.range (qB bS (exL Dx)).2.N).filter (qB bS (exL Dx)).2.used = [1, 2, 3] := by rw [qKi hi2, hw2, hN2]; rfl
 rw [hu2, show ([1, 2, 3] : List Nat).length = 3 from rfl] at hoV
 rw [hu2, show ([1, 2, 3] : List Nat).length = 3 from rfl]
 have hf911 : Frm [] w9 w11 := hf10.trans hf11 jp
 refine ja rfl (jO (jN (jv9 3 5 6 7 8 9 10 11 12 ?_)))
 refine jS (jR (jm rfl (je (Run.build (evs.cons rfl (evs.cons rfl evs.nil)) gC (mM).choose_spec.1 (mM).choose_spec.2 (cells := (cqC (5, (none, 0, []), true)).toArray) rfl) (je (Run.build (evs.cons rfl (evs.cons rfl evs.nil)) gC (mM).choose_spec.1 (mM).choose_spec.2 (cells := (cqC (6, (none, 0, []), true)).toArray) rfl) ?_))))
 refine Ops.m (qV.buildN (cells := #[jI2 5, .slice none 0 0, .bool true, jI2 6, .slice none 0 0, .bool true]) (evs.cons rfl (evs.cons rfl evs.nil)) zap zbi gC rfl rfl jK) rfl ?_
 rintro _ w12 ⟨rfl, hF12⟩
 have hr12 : RdC w12 (some ⟨w11.heap.size, 0, none⟩) 2 [(5, (none, 0, []), true), (6, (none, 0, []), true)] := ⟨rfl, Rd.of_blk (n := 2) (size := 3) hF12.blk rfl, fun x hx => by simp at hx; rcases hx with rfl | rfl <;> exact ⟨Rd.nil _ _ _, zag _⟩, fun x hx => by simp at hx; rcases hx with rfl | rfl <;> exact ⟨by dsimp only; omega, jp⟩, fun x hx => by simp at hx; rcases hx with rfl | rfl <;> exact fun b hb => (by cases hb)⟩
 have hf912 : Frm [] w9 w12 := hf911.trans hF12.frm jp
 refine jc (jE2 Tryz.call10) (rM (some ⟨w11.heap.size, 0, none⟩) 2 2 [(5, (none, 0, []), true), (6, (none, 0, []), true)] h g F3 _ q3 w12 (hH3.frm hf912) jo hr12 m3 m4) ?_
 rintro e w13 ⟨F4, q4, rfl, hH4, hk13⟩
 refine ⟨_, rfl, ?_⟩
 have e4 : (qB (qB bS (exL Dx)).2 [(5, [], true), (6, [], true)]).2 = (qB bS (exL Dx)).2 := by
  rcases m5 with ⟨h1, _⟩ | ⟨_, h1⟩
  · rw [hz3] at h1; cases h1
  exact h1
 have hH4 : IsHt w13 h g F4 (qB bS (exL Dx)).2 q4 := by rw [← e4]; exact hH4
 rw [show (qB (qB bS (exL Dx)).2 (chL [(5, (none, 0, []), true), (6, (none, 0, []), true)])).1 = 6 from hz3]
 have K := (K.trans hf912 jp).own hk13.1 hup3
 have hF2l := hH.lt
 have hF3l := hH3.lt
 have s24 := hf24.size
 have s28 := hf28.size
 have offU : ∀ y, w2.heap.size ≤ y → y < w8.heap.size → y ∉ h :: F2 ∧ y ∉ h :: F3 := fun y h1 h2 => by
  have h3 : y ∉ h :: F2 := fun hx => by have := hF2l y hx; omega
  exact ⟨h3, hk9.out h2 h3⟩
 have hUl := hoU.lt
 have hDl7 := hoD.lt
 have hf48 : Frm [] w4 w8 := hf57.trans hF8.frm jp
 have s48 := hf48.size
 have s78 := hF8.frm.size
 have s3 := hf3.size
 have s46 := (hf5.trans hf6 jp).size
 have s5 := hf5.size
 have hoU13 : Own w13 3 1 UB [0].length ud (ZN [0]) := (((hoU.frm hf48 jp).frm hk9.1 (fun y hy => (offU y (by have := hupU y hy; omega) (by have := hUl y hy; omega)).1)).frm hf912 jp).frm hk13.1 (fun y hy => (offU y (by have := hupU y hy; omega) (by have := hUl y hy; omega)).2)
 have hDA : ∀ y ∈ ob DA, w4.heap.size ≤ y := fun y hy => by
  rcases hobD with h1 | h1
  · rw [h1] at hy; simp [ob] at hy; omega
  rw [h1, za] at hy; omega
 have hDr13 : Rd w13 1 DA 200 (NB Dx) := (((hDr.frm hF8.frm jp).frm hk9.1 (fun _ y hy => (offU y (by have := hDA y hy; omega) (by have := hDl7 y hy; omega)).1)).frm hf912 jp).frm hk13.1 (fun _ y hy => (offU y (by have := hDA y hy; omega) (by have := hDl7 y hy; omega)).2)
 have hoV13 : Own w13 3 1 VB [1, 2, 3].length vd (ZN [1, 2, 3]) := (hoV.frm hF12.frm jp).frm hk13.1 (fun y hy hx => by have := hF3l y hx; have := hupV y hy; have := hf10.size; omega)
 have hrG13 : Rd w13 1 GB Dx.length (NB Dx) := ((hrG.frm hf11 jp).frm hF12.frm jp).frm hk13.1 (fun _ y hy hx => by have := hF3l y hx; have := hupG y hy; omega)
 obtain ⟨adU, hUA, hUc⟩ := rdZ hoU13.rd rfl (show 0 < [0].length by decide)
 obtain ⟨adV, hVA, hVc⟩ := rdZ hoV13.rd rfl (show 0 < [1, 2, 3].length by decide)
 obtain ⟨adV2, hVA2, hVc2⟩ := rdZ hoV13.rd rfl (show 2 < [1, 2, 3].length by decide)
 subst hUA hVA
 cases hVA2
 rw [hDl] at hrG13
 have hc2 : (qB bS (exL Dx)).2.N - dW (qB bS (exL Dx)).2.N (qB bS (exL Dx)).2.used = 6 := by rw [(vY hi2).1, hw2, hN2]; rfl
 refine ja rfl (jO (jN (jv10 3 5 6 7 8 9 10 11 12 13 ?_)))
 refine jS (jR (jm rfl (jb rfl rfl (Bin.eqlN _ 9) (jM ?_))))
 refine jG ?_
 refine jk (Run.bin rfl rfl (Bin.eqlN _ 8)) ?_
 refine jW rfl rfl (rfl) (jM ?_)
 refine jG ?_
 refine jk (Run.lenS rfl zn) ?_
 refine jk (Run.bin rfl rfl (Bin.eqlN _ 1)) ?_
 refine jW rfl rfl (rfl) (jM ?_)
 refine jG ?_
 refine jk (Run.index1 0 rfl rfl zn zm jo) ?_
 refine jk (Run.load rfl zaa hUc) ?_
 refine jk (Run.bin rfl rfl (Bin.eqlN _ 0)) ?_
 refine jW rfl rfl (rfl) (jM ?_)
 refine jG ?_
 refine jk (Run.bin rfl rfl (Bin.eqlN _ 0)) ?_
 refine jW rfl rfl (rfl) (jM ?_)
 refine jG ?_
 refine Ops.clg rfl au (jE1 Tryz.call51) (sL h g F4 _ q4 w13 hH4) rfl ?_
 rintro e w14 ⟨rfl, hf14⟩
 refine ⟨_, rfl, ?_⟩
 rw [hc2]
 refine jk (Run.bin rfl rfl (Bin.eqlN _ 6)) ?_
 refine jW rfl rfl (rfl) (jM ?_)
 refine jG ?_
 refine jk (Run.lenS rfl zn) ?_
 refine jk (Run.bin rfl rfl (Bin.eqlN _ 3)) ?_
 refine jW rfl rfl (rfl) (jM ?_)
 refine jG ?_
 refine jk (Run.index1 0 rfl rfl zn zm jo) ?_
 refine jk (Run.load rfl zaa (by have := (hoV13.frm hf14 jp).rd; obtain ⟨a, e1, e2⟩ := rdZ this rfl (show 0 < [1, 2, 3].length by decide); cases e1; exact e2)) ?_
 refine jk (Run.bin rfl rfl (Bin.eqlN _ 1)) ?_
 refine jW rfl rfl (rfl) (jM ?_)
 refine jG ?_
 refine jk (Run.index1 2 rfl rfl zn zm jo) ?_
 refine jk (Run.load rfl zaa (by have := (hoV13.frm hf14 jp).rd; obtain ⟨a, e1, e2⟩ := rdZ this rfl (show 2 < [1, 2, 3].length by decide); cases e1; exact e2)) ?_
 refine jk (Run.bin rfl rfl (Bin.eqlN _ 3)) ?_
 refine jW rfl rfl (rfl) (jM ?_)
 refine jG ?_
 refine jk (Run.strOf rfl zg zac zt (rdU (hDl ▸ hrG13.frm hf14 jp) hDb)) ?_
 refine jG ?_
 refine jk (Run.strOf rfl zg zac zt (rdU (hDr13.frm hf14 jp) hDb)) ?_
 refine jk (Run.eqlStr rfl rfl) ?_
 refine jW rfl rfl (rfl) (jM ?_)
 refine jG ?_
 refine jk (Run.bin rfl rfl (Bin.eqlN _ 0)) ?_
 refine jW rfl rfl (decide_eq_true rfl) (jM ?_)
 refine jG ?_
 refine jk (Run.bin rfl rfl (Bin.eqlN _ 6)) ?_
 refine jW rfl rfl (rfl) (jm rfl (jW rfl rfl (rfl) (jm rfl (jW rfl rfl (rfl) (ja rfl (jO (jN (jv1 0 ?_))))))))
 refine jT ?_
 refine qS rfl ?_
 exact ⟨rfl, K.trans hf14 jp⟩
theorem OwQ.rdc {b : Nat} {w : World} {X : List Nat} {S : Option Addr} {n : Nat} {l : List Cq} (h : OwQ b w X l) (hl : l.length = n) (hr : Rd w 3 S n (l.flatMap cqC)) (hn : ∀ x ∈ l, x.1 < 18446744073709551616 ∧ x.2.1.2.2.length ≤ 1000000) (ho : ∀ x ∈ l, ∀ b ∈ x.2.1.2.2, b < 256) : RdC w S n l :=
 ⟨hl, hr, fun x hx => ⟨(h.1 x hx).1.rd, (h.1 x hx).1.le⟩, hn, ho⟩
theorem qM4 {w : World} {S : Option Addr} {n : Nat} {l0 l : List Cq} (h : RdQ w S n l0) (hl : chL l = nB (chL l0)) : (∀ x ∈ l, x.1 < 18446744073709551616 ∧ x.2.1.2.2.length ≤ 1000000) ∧ (∀ x ∈ l, ∀ b ∈ x.2.1.2.2, b < 256) ∧ l.length ≤ 12 := by
 have key : ∀ x ∈ l, ∃ y ∈ l0, x.1 = y.1 ∧ x.2.1.2.2 = y.2.1.2.2.take 4040 := fun x hx => by
  have h1 : chO x ∈ nB (chL l0) := by rw [← hl]; exact List.mem_map.2 ⟨x, hx, rfl⟩
  obtain ⟨c, hc, he⟩ := List.mem_map.1 h1
  obtain ⟨y, hy, rfl⟩ := List.mem_map.1 (zo hc)
  have e1 := congrArg (·.1) he
  have e2 := congrArg (·.2.1) he
  exact ⟨y, hy, e1.symm, e2.symm⟩
 refine ⟨fun x hx => ?_, fun x hx b hb => ?_, ?_⟩
 ·
  obtain ⟨y, hy, e1, e2⟩ := key x hx
  rw [e1, e2, zk]
  exact ⟨(h.num y hy).1, jo⟩
 ·
  obtain ⟨y, hy, e1, e2⟩ := key x hx
  rw [e2] at hb
  exact h.oct y hy b (zo hb)
 rw [← mF, hl]
 exact qGs _
end
section
open Go.RowKit Go.ChangeShapes Go.WideShapes Go.Deep
section
variable {H : Type} {enc : TypeId × Value → H} {w : World} {base : Nat} {spare : Nat → Bool} {held : Bool} {n : Nat} {cs : List Value} {x : DataW H × List MemPlace}
theorem qQo (h : DataW.trod enc Tryz.prog w base spare held n 4 cs = some x) : ∃ b : Bool, cs = [.bool b] ∧ True := by
 obtain ⟨b, h1, _⟩ := DataW.trod_bool Tryz.underlying4 h
 exact ⟨b, h1, trivial⟩
theorem qVk (h : DataW.trod enc Tryz.prog w base spare held n 63 cs = some x) : ∃ (A : Option Addr) (c : Nat) (bs : List Nat), cs = [.slice A bs.length c] ∧ bs.length ≤ c ∧ c ≤ 9223372036854775807 ∧ (∀ b ∈ bs, b < 256) ∧ Rd w 1 A bs.length (NB bs) := by
 obtain ⟨A, len, c, rfl⟩ := sP zg h
 obtain ⟨bs, rfl, h1, h2, h3, h4⟩ := qY2 zg zac jK h
 exact ⟨A, c, bs, rfl, h1, h2, h3, h4⟩
end
theorem qJo {H : Type} {enc : TypeId × Value → H} {w : World} {base : Nat} {spare : Nat → Bool} {held : Bool} {n : Nat} {cs : List Value} {x : DataW H × List MemPlace} (h : DataW.trod enc Tryz.prog w base spare held n 93 cs = some x) :
  ∃ (id : Int) (A : Option Addr) (c : Nat) (bs : List Nat) (gg : Bool), cs = ([.int .u64 id] ++ ([.slice A bs.length c] ++ ([.bool gg] ++ [] : List Value) : List Value) : List Value) ∧ ((Lit.int .u64 id).wf = true) ∧ (bs.length ≤ c ∧ c ≤ 9223372036854775807 ∧ (∀ b ∈ bs, b < 256) ∧ Rd w 1 A bs.length (NB bs)) ∧ (True) := by
 obtain ⟨hlen, n', hf⟩ := xB zak h
 have hl : cs.length = 3 := hlen.trans jK
 obtain ⟨a0, a1, a2, rfl⟩ : ∃ a0 a1 a2, cs = [a0, a1, a2] := by
  match cs, hl with
  | [a0, a1, a2], _ => exact ⟨a0, a1, a2, rfl⟩
 clear h hlen hl
 obtain ⟨y0, h0⟩ := hf 0 _ rfl
 have h0 : DataW.trod enc Tryz.prog w base spare held n' 54 ([a0, a1, a2].take (Tryz.prog.cellsOf 54)) = some y0 := h0
 rw [show Tryz.prog.cellsOf 54 = 1 by kernel_rfl] at h0
 have h0 : DataW.trod enc Tryz.prog w base spare held n' 54 [a0] = some y0 := h0
 obtain ⟨id, e0, q0⟩ := oS zr h0
 obtain ⟨y1, h1⟩ := hf 1 _ rfl
 have h1 : DataW.trod enc Tryz.prog w base spare held n' 63 ([a1, a2].take (Tryz.prog.cellsOf 63)) = some y1 := h1
 rw [show Tryz.prog.cellsOf 63 = 1 by kernel_rfl] at h1
 have h1 : DataW.trod enc Tryz.prog w base spare held n' 63 [a1] = some y1 := h1
 obtain ⟨A, c, bs, e1, q1⟩ := qVk h1
 obtain ⟨y2, h2⟩ := hf 2 _ rfl
 have h2 : DataW.trod enc Tryz.prog w base spare held n' 4 ([a2].take (Tryz.prog.cellsOf 4)) = some y2 := h2
 rw [show Tryz.prog.cellsOf 4 = 1 by kernel_rfl] at h2
 have h2 : DataW.trod enc Tryz.prog w base spare held n' 4 [a2] = some y2 := h2
 obtain ⟨gg, e2, q2⟩ := qQo h2
 refine ⟨id, A, c, bs, gg, ?_, q0, q1, q2⟩
 show ([a0] ++ ([a1] ++ ([a2] ++ [] : List Value) : List Value) : List Value) = _
 rw [e0, e1, e2]
 try rfl
section
variable {H : Type} {enc : TypeId × Value → H} {w : World} {base : Nat} {spare : Nat → Bool} {held : Bool}
def qZm (w : World) (y : Cq) : Prop := (y.1 < 18446744073709551616 ∧ y.2.1.2.2.length ≤ 9223372036854775807) ∧ (∀ b ∈ y.2.1.2.2, b < 256) ∧ Rd w 1 y.2.1.1 y.2.1.2.2.length (NB y.2.1.2.2) ∧ y.2.1.2.2.length ≤ y.2.1.2.1
theorem qJp {n : Nat} {cs : List Value} {x : DataW H × List MemPlace} (h : DataW.trod enc Tryz.prog w base spare held n 93 cs = some x) : ∃ y : Cq, cs = cqC y ∧ qZm w y := by
 obtain ⟨id, A, c, bs, gg, rfl, h0, ⟨h1, h2, h3, h4⟩, -⟩ := qJo h
 have hid : 0 ≤ id ∧ id < 18446744073709551616 := by
  simp [Lit.wf, IntKind.min, IntKind.max, IntKind.signed, IntKind.bits] at h0
  omega
 refine ⟨(id.toNat, (A, c, bs), gg), ?_, ⟨by dsimp only; omega, by dsimp only; omega⟩, h3, h4, h1⟩
 show [Value.int .u64 id, .slice A bs.length c, .bool gg] = [.int .u64 ((id.toNat : Nat) : Int), SL (A, c, bs), .bool gg]
 rw [zgf hid.1]
 rfl
theorem qVl {fuel len cap : Nat} {a : Option Addr} {x : DataW H × List MemPlace} (h : DataW.trod enc Tryz.prog w base spare held fuel 31 [.slice a len cap] = some x) :
  ∃ l : List Cq, l.length = len ∧ len ≤ cap ∧ cap ≤ 9223372036854775807 ∧ Rd w 3 a l.length (l.flatMap cqC) ∧ ∀ y ∈ l, qZm w y := by
 have hC : Tryz.prog.cellsOf 93 = 3 := by kernel_rfl
 rcases open_slice zap h with ⟨hcs, _⟩ | ⟨ad, l, c, m, n, D, Pl, hcs, _, hl, hm, hmm, _, hi⟩
 ·
  simp only [List.cons.injEq, Value.slice.injEq, and_true] at hcs
  obtain ⟨rfl, rfl, rfl⟩ := hcs
  exact ⟨[], rfl, zag _, jo, Rd.nil _ _ _, jp⟩
 simp only [List.cons.injEq, Value.slice.injEq, and_true] at hcs
 obtain ⟨rfl, rfl, rfl⟩ := hcs
 have hml : len ≤ m := by rw [hmm]; split <;> omega
 rw [hC] at hi
 have key : ∀ i, i < len → ∃ y : Cq, (∀ j, j < 3 → w.cell? ((ad.add (i * 3)).add j) = (cqC y)[j]?) ∧ qZm w y := by
  intro i hil
  obtain ⟨cs', hc, ht'⟩ := hi i jo
  obtain ⟨_, hcl, hat⟩ := World.cells?_some hc
  obtain ⟨y, rfl, h1⟩ := qJp ht'
  exact ⟨y, fun j hj => hat j hj, h1⟩
 obtain ⟨ls, hll, hq⟩ := mO len key
 have hlen : (ls.flatMap cqC).length = ls.length * 3 := oP cqC 3 sZ ls
 have hcell : ∀ j u, (ls.flatMap cqC)[j]? = some u → w.cell? (ad.add j) = some u := by
  intro j u hu
  rw [wM cqC 3 jo sZ] at hu
  obtain ⟨y, hy, hu'⟩ := Option.bind_eq_some_iff.1 hu
  have := (hq _ y hy).1 (j % 3) (Nat.mod_lt _ jo)
  rw [Go.Proofs.YtoniopdkbeogjaaGreat.add_add, zff, Nat.div_add_mod] at this
  rw [this, hu']
 refine ⟨ls, hll, hl, by simpa [maxLen] using hm, ⟨by rw [hlen], fun hn => ⟨ad, rfl, ?_, hcell⟩⟩, fun y hy => ?_⟩
 ·
  have h0 : 0 < (ls.flatMap cqC).length := by rw [hlen]; omega
  have := World.block_lt_of_cell? w _ (hcell 0 _ (ze h0))
  rwa [gU] at this
 obtain ⟨i, hi', hli⟩ := zcw hy
 exact (hq i y (by rw [ze hi', hli])).2
theorem qZn {n : Nat} {cs : List Value} {x : DataW H × List MemPlace} (h : DataW.trod enc Tryz.prog w base spare held n 31 cs = some x) : ∃ (A : Option Addr) (c : Nat) (l : List Cq), cs = [.slice A l.length c] ∧ l.length ≤ c ∧ c ≤ 9223372036854775807 ∧ Rd w 3 A l.length (l.flatMap cqC) ∧ ∀ y ∈ l, qZm w y := by
 obtain ⟨A, len, c, rfl⟩ := sP zap h
 obtain ⟨l, rfl, h1, h4, h2, h3⟩ := qVl h
 exact ⟨A, c, l, rfl, h1, h4, h2, h3⟩
end
abbrev Bt := Option Addr × Nat × List Cq
def btV (x : Bt) : Value := .slice x.1 x.2.2.length x.2.1
section
variable {H : Type} {enc : TypeId × Value → H} {w : World} {base : Nat} {spare : Nat → Bool} {held : Bool}
end
end
end Go.Proofs.YtoniopdkbeogjaaGreat
